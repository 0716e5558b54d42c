import Derived.Test.YtokfmkfobjkkpaaD4
namespace Go.Proofs.Ytokfmkfobjkkpaa
open Go Hv
set_option linter.unusedVariables false
set_option linter.unusedSimpArgs false
set_option maxRecDepth 10000
set_option maxHeartbeats 2000000
/-! The document's Build -/
section
variable {H : Heap} {K : Value → Heap → Prop}
theorem rbuild_t {r : Rec} {ap ak : Option Addr} {cp ck : Nat} (hr : RecIn H r ap ak)
    (hk : ∀ a c H', Made H H' 5 1 a (buildR r).1.length c (u8s (buildR r).1) → K (.tuple #[.slice a (buildR r).1.length c, .int .i64 (buildR r).2]) H') : HCalls Try.prog 15 [rv r ap cp ak ck] H K := by
  refine hcalls (fn := Try.f15) [] mixed Try.func15 rfl rfl (by decide +kernel) ?_
  (repeat first | refine HReg.step ?_ | refine HCode.step ?_)
  refine HNew.mk fun b1 hb1 => ?_
  have u1 : Upd [] H (H.upd b1 (.cells (rcells r ap cp ak ck).toArray 27)) := Upd.new hb1 _
  have o1 : OwnRow (H.upd b1 (.cells (rcells r ap cp ak ck).toArray 27)) 27 1 (some ⟨b1, 0, none⟩) 4 4 (rcells r ap cp ak ck) := OwnRow.lit (upd_same _ _ _) rfl
  have hH' : H.upd b1 (.cells [Value.int .i64 r.kind, .int .u64 (r.id : Int), .slice ap r.ps.length cp, .slice ak r.ks.length ck].toArray 27) = H.upd b1 (.cells (rcells r ap cp ak ck).toArray 27) := rfl
  rw [hH']
  generalize hH1 : H.upd b1 (.cells (rcells r ap cp ak ck).toArray 27) = H1 at u1 o1
  have hr1 := hr.upd0 u1
  have nil : ∀ {H9 : Heap}, Upd [] H H9 → Made H H9 5 1 none ([] : List UInt8).length 0 (u8s []) := fun u => ⟨OwnRow.nil _ _ _, u, fun p hp => by cases hp⟩
  (repeat first | refine HReg.step ?_ | refine HCode.step ?_)
  refine HLoadN_row o1.rows rfl ?_
  (repeat first | refine HReg.step ?_ | refine HCode.step ?_)
  refine HCall.mk ⟨Try.f16, Try.func16, by rfl, by rfl⟩ ?_
  refine rmay_t hr1 fun t H2 ht u2 => ?_
  cases t with
  | false =>
    have hno : ¬ May r := fun h => by have := ht.2 h; cases this
    have hb := build_no hno
    rw [hb] at hk
    (repeat first | refine HReg.step ?_ | refine HCode.step ?_)
    exact hk none 0 H2 (nil (u1.trans u2))
  | true =>
    have hm := ht.1 rfl
    have o2 := o1.upd u2 (Off.nil _)
    have hr2 := hr1.upd0 u2
    (repeat first | refine HReg.step ?_ | refine HCode.step ?_)
    refine HLoadN_row o2.rows rfl ?_
    (repeat first | refine HReg.step ?_ | refine HCode.step ?_)
    refine HCall.mk ⟨Try.f36, Try.func36, by rfl, by rfl⟩ ?_
    refine rlong_t hr2 hm fun H3 u3 => ?_
    (repeat first | refine HReg.step ?_ | refine HCode.step ?_)
    refine hif (fun h1 => ?_) (fun h1 => ?_)
    · have h1 := ltB_true.1 h1
      have hb : buildR r = ([], 3) := by
        unfold buildR
        rw [if_neg (fun h => h hm), if_pos (by omega)]
      rw [hb] at hk
      (repeat first | refine HReg.step ?_ | refine HCode.step ?_)
      exact hk none 0 H3 (nil (u1.trans (u2.trans u3)))
    have h1 := ltB_false.1 h1
    have hb := build_ok hm (by omega)
    have e1 : (buildR r).1 = frameR (pay r) := by rw [hb]
    have e2 : (buildR r).2 = 0 := by rw [hb]
    rw [e1, e2] at hk
    have o3 := o2.upd u3 (Off.nil _)
    have hr3 := hr2.upd0 u3
    (repeat first | refine HReg.step ?_ | refine HCode.step ?_)
    refine HLoadN_row o3.rows rfl ?_
    (repeat first | refine HReg.step ?_ | refine HCode.step ?_)
    refine HCall.mk ⟨Try.f37, Try.func37, by rfl, by rfl⟩ ?_
    refine rpayload_t hr3 hm fun a4 c4 H4 m4 => ?_
    have wl : wr .u64 ((pay r).length : Int) = ((pay r).length : Int) := by rw [wr_u64]; omega
    have wc : wr .u64 (((Crc.crc 0#32 (pay r)).toNat : Nat) : Int) = ((crcN (pay r) : Nat) : Int) := by
      have := crcN_lt (pay r)
      rw [wr_u64]
      show ((crcN (pay r) : Nat) : Int) % _ = _
      omega
    (repeat first | refine HReg.step ?_ | refine HCode.step ?_)
    rw [wl]
    refine HCall.mk ⟨Try.f38, Try.func38, by rfl, by rfl⟩ ?_
    refine rnum_t (H0 := H4) (v := (pay r).length) (n := 4) (b := []) rfl (made_nil H4 5 1) (by decide) (by simp) fun a5 c5 H5 m5 => ?_
    have r5 := m4.own.rows.upd (S := []) m5.upd (.inr (Off.nil _))
    (repeat first | refine HReg.step ?_ | refine HCode.step ?_)
    refine HCall.mk ⟨Try.f39, Try.func39, by rfl, by rfl⟩ ?_
    refine rcrc_t r5 rfl (by omega) ?_
    unfold Sum.u32
    (repeat first | refine HReg.step ?_ | refine HCode.step ?_)
    rw [wc]
    refine HCall.mk ⟨Try.f38, Try.func38, by rfl, by rfl⟩ ?_
    refine rnum_t (H0 := H4) (v := crcN (pay r)) (n := 4) (b := [] ++ num (pay r).length 4) (by rw [List.length_append, num_length]) m5 (by decide) (by rw [List.length_append, num_length]; simp only [List.length_nil]; omega) fun a6 c6 H6 m6 => ?_
    have r6 := m4.own.rows.upd (S := []) m6.upd (.inr (Off.nil _))
    (repeat first | refine HReg.step ?_ | refine HCode.step ?_)
    refine append_made m6 r6 rfl (by rw [List.length_append, num_length]; simp only [List.length_nil]; omega) fun a7 c7 H7 m7 => ?_
    (repeat first | refine HReg.step ?_ | refine HCode.step ?_)
    have e : ([] ++ num (pay r).length 4 ++ num (crcN (pay r)) 4) ++ pay r = frameR (pay r) := by
      unfold frameR; rw [List.nil_append]
    have hl : ([] ++ num (pay r).length 4 : List UInt8).length + 4 + (pay r).length = (frameR (pay r)).length := by
      rw [frame_len, List.length_append, num_length]; simp
    rw [e, hl] at m7
    have := hk a7 c7 H7 (m7.back (u1.trans (u2.trans (u3.trans m4.upd))))
    rw [← hl] at this
    exact this
end
end Go.Proofs.Ytokfmkfobjkkpaa
