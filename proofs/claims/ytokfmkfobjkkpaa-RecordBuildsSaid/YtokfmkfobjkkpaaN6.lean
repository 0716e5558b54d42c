import Derived.Test.YtokfmkfobjkkpaaD5
import Derived.Test.YtokfmkfobjkkpaaD6
namespace Go.Proofs.Ytokfmkfobjkkpaa
open Go Hv
set_option linter.unusedVariables false
set_option linter.unusedSimpArgs false
set_option maxRecDepth 10000
set_option maxHeartbeats 4000000
/-! RecordBuilds -/
section
variable {H : Heap} {K : Value → Heap → Prop}
theorem off_app {S T : List Nat} {a : Option Addr} (h : Off S a) (k : Off T a) : Off (S ++ T) a := fun p hp hb => by
  rcases List.mem_append.1 hb with hb | hb
  · exact h p hp hb
  · exact k p hp hb
theorem recordBuilds_t {r : Rec} {ap ak : Option Addr} {cp ck : Nat} (hr : RecIn H r ap ak)
    (hk : ∀ H', Upd [] H H' → K (.bool true) H') : HCalls Try.prog 3 [rv r ap cp ak ck] H K := by
  refine hcalls (fn := Try.f3) [] mixed Try.func3 rfl rfl (by decide +kernel) ?_
  (repeat first | refine HReg.step ?_ | refine HCode.step ?_)
  refine HNew.mk fun b1 hb1 => ?_
  have u1 : Upd [] H (H.upd b1 (.cells (rcells r ap cp ak ck).toArray 27)) := Upd.new hb1 _
  have o1 : OwnRow (H.upd b1 (.cells (rcells r ap cp ak ck).toArray 27)) 27 1 (some ⟨b1, 0, none⟩) 4 4 (rcells r ap cp ak ck) := OwnRow.lit (upd_same _ _ _) rfl
  have hH' : H.upd b1 (.cells [Value.int .i64 r.kind, .int .u64 (r.id : Int), .slice ap r.ps.length cp, .slice ak r.ks.length ck].toArray 27) = H.upd b1 (.cells (rcells r ap cp ak ck).toArray 27) := rfl
  rw [hH']
  generalize hH1 : H.upd b1 (.cells (rcells r ap cp ak ck).toArray 27) = H1 at u1 o1
  (repeat first | refine HReg.step ?_ | refine HCode.step ?_)
  refine HCall.mk ⟨Try.f10, Try.func10, by rfl, by rfl⟩ ?_
  refine alive_t fun H2 u2 => ?_
  have u02 := u1.trans u2
  have o12 := o1.upd u2 (Off.nil _)
  have hr2 := hr.upd0 u02
  (repeat first | refine HReg.step ?_ | refine HCode.step ?_)
  refine HLoadN_row o12.rows rfl ?_
  (repeat first | refine HReg.step ?_ | refine HCode.step ?_)
  refine HCall.mk ⟨Try.f11, Try.func11, by rfl, by rfl⟩ ?_
  refine lent_t hr2 fun bp dp bk dk H3 l3 u3 => ?_
  (repeat first | refine HReg.step ?_ | refine HCode.step ?_)
  refine HNew.mk fun b3 hb3 => ?_
  (repeat first | refine HReg.step ?_ | refine HCode.step ?_)
  refine store_rec (x := r) (ap := bp) (cp := dp) (ak := bk) (ck := dk) (OwnRow.lit (upd_same _ _ _) rfl) rfl fun H4 o4 u4 => ?_
  have u4 : Upd [] H3 H4 := Upd.drop (Upd.new hb3 _) u4 (fun q hq => by rw [List.mem_singleton.1 hq]; exact hb3)
  have l4 : LentOk H2 H4 r bp dp bk dk := ⟨l3.p.step u4, l3.k.step u4⟩
  have o14 := o12.upd (u3.trans u4) (Off.nil _)
  have lr4 := l4.recIn hr.np hr.nk
  (repeat first | refine HReg.step ?_ | refine HCode.step ?_)
  refine HLoadN_row o4.rows rfl ?_
  (repeat first | refine HReg.step ?_ | refine HCode.step ?_)
  refine HCall.mk ⟨Try.f12, Try.func12, by rfl, by rfl⟩ ?_
  refine may_t lr4 fun t H5 ht u5 => ?_
  have o5 := o4.upd u5 (Off.nil _)
  (repeat first | refine HReg.step ?_ | refine HCode.step ?_)
  refine HLoadN_row o5.rows rfl ?_
  (repeat first | refine HReg.step ?_ | refine HCode.step ?_)
  refine HCall.mk ⟨Try.f13, Try.func13, by rfl, by rfl⟩ ?_
  refine build_t (lr4.upd0 u5) fun a6 c6 H6 m6 => ?_
  have u46 := u5.trans m6.upd
  have l6 : LentOk H2 H6 r bp dp bk dk := ⟨l4.p.step u46, l4.k.step u46⟩
  have o6 := o5.upd m6.upd (Off.nil _)
  have o16 := o14.upd u46 (Off.nil _)
  have u06 := u02.trans (u3.trans (u4.trans u46))
  (repeat first | refine HReg.step ?_ | refine HCode.step ?_)
  refine HLoadN_row o6.rows rfl ?_
  (repeat first | refine HReg.step ?_ | refine HCode.step ?_)
  refine HLoadN_row o16.rows rfl ?_
  (repeat first | refine HReg.step ?_ | refine HCode.step ?_)
  refine HCall.mk ⟨Try.f14, Try.func14, by rfl, by rfl⟩ ?_
  refine kept_t l6 (hr.upd0 u06) fun H7 u7 => ?_
  have nw : ∀ b ∈ blk bp ++ blk bk, H b = none := fun b hb => by
    rcases List.mem_append.1 hb with hb | hb
    · obtain ⟨p, hp, rfl⟩ := blk_of hb; exact Upd.none (S := []) u02 (by simp) (l6.p.new p hp)
    · obtain ⟨p, hp, rfl⟩ := blk_of hb; exact Upd.none (S := []) u02 (by simp) (l6.k.new p hp)
  have u07 : Upd [] H H7 := Upd.drop u06 u7 nw
  have o17 := o16.upd u7 (off_app (l6.p.own.offT o16 (by decide)) (l6.k.own.offT o16 (by decide)))
  have b7 := m6.own.upd u7 (off_app (l6.p.own.offT m6.own (by decide)) (l6.k.own.offT m6.own (by decide)))
  (repeat first | refine HReg.step ?_ | refine HCode.step ?_)
  refine HLoadN_row o17.rows rfl ?_
  (repeat first | refine HReg.step ?_ | refine HCode.step ?_)
  refine HCall.mk ⟨Try.f15, Try.func15, by rfl, by rfl⟩ ?_
  refine rbuild_t (hr.upd0 u07) fun a8 c8 H8 m8 => ?_
  have o18 := o17.upd m8.upd (Off.nil _)
  have b8 := b7.upd m8.upd (Off.nil _)
  have u08 := u07.trans m8.upd
  (repeat first | refine HReg.step ?_ | refine HCode.step ?_)
  refine HLoadN_row o18.rows rfl ?_
  (repeat first | refine HReg.step ?_ | refine HCode.step ?_)
  refine HCall.mk ⟨Try.f16, Try.func16, by rfl, by rfl⟩ ?_
  refine rmay_t (hr.upd0 u08) fun t' H9 ht' u9 => ?_
  have htt : t' = t := by
    cases t <;> cases t' <;> first | rfl | exact absurd (ht.2 (ht'.1 rfl)) (by decide) | exact absurd (ht'.2 (ht.1 rfl)) (by decide)
  subst htt
  have b9 := b8.upd u9 (Off.nil _)
  have m9 := m8.step u9
  (repeat first | refine HReg.step ?_ | refine HCode.step ?_)
  rw [beq_self_eq_true t']
  (repeat first | refine HReg.step ?_ | refine HCode.step ?_)
  refine HCall.mk ⟨Try.f17, Try.func17, by rfl, by rfl⟩ ?_
  refine same_eq b9.rows rfl m9.own.rows rfl rfl ?_
  (repeat first | refine HReg.step ?_ | refine HCode.step ?_)
  rw [eqB_self]
  exact hk H9 (u08.trans u9)
end
end Go.Proofs.Ytokfmkfobjkkpaa
