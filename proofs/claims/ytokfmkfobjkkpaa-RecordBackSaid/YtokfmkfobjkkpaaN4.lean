import Derived.Test.YtokfmkfobjkkpaaQ3
import Derived.Test.YtokfmkfobjkkpaaL7
import Derived.Test.YtokfmkfobjkkpaaW1
namespace Go.Proofs.Ytokfmkfobjkkpaa
open Go Hv
set_option linter.unusedVariables false
set_option linter.unusedSimpArgs false
set_option maxRecDepth 10000
set_option maxHeartbeats 4000000
/-! RecordBack -/
theorem zero_in' (H : Heap) : RecIn H zeroRec none none := ⟨fun i v h => by simp [zeroRec, pairsV] at h, fun i v h => by simp [zeroRec, txts] at h, Nat.zero_le _, Nat.zero_le _⟩
section
variable {H : Heap} {K : Value → Heap → Prop}
theorem recordBack_t {x : Plain} {ak : Option Addr} {ck : Nat} {a1 a2 : Option Addr} {c1 c2 : Nat} {w1 w2 : List UInt8} (hr : RowAt H ak (txts x.ks)) (hn : x.ks.length ≤ 9000000000000000000) (hid : x.id < 18446744073709551616)
    (h1 : RowAt H a1 (u8s w1)) (b1 : w1.length ≤ 140737488351232) (h2 : RowAt H a2 (u8s w2)) (b2 : w2.length ≤ 140737488351232) (hc2 : w2.length ≤ c2)
    (hk : ∀ H', Upd [] H H' → K (.bool true) H') : HCalls Try.prog 4 [.agg (x.cells ak ck).toArray, .slice a1 w1.length c1, .slice a2 w2.length c2] H K := by
  refine hcalls (fn := Try.f4) [] mixed Try.func4 rfl rfl (by decide +kernel) ?_
  (repeat first | refine HReg.step ?_ | refine HCode.step ?_)
  refine HNew.mk fun b1 hb1 => ?_
  have u1 : Upd [] H (H.upd b1 (.cells (x.cells ak ck).toArray 40)) := Upd.new hb1 _
  have o1 : OwnRow (H.upd b1 (.cells (x.cells ak ck).toArray 40)) 40 1 (some ⟨b1, 0, none⟩) 5 5 (x.cells ak ck) := OwnRow.lit (upd_same _ _ _) rfl
  have hH' : H.upd b1 (.cells [Value.bool x.commit, .int .u64 (x.id : Int), .slice ak x.ks.length ck, .int .u64 (x.some : Int), .string (bs x.v)].toArray 40) = H.upd b1 (.cells (x.cells ak ck).toArray 40) := rfl
  rw [hH']
  generalize hH1 : H.upd b1 (.cells (x.cells ak ck).toArray 40) = H1 at u1 o1
  (repeat first | refine HReg.step ?_ | refine HCode.step ?_)
  refine HCall.mk ⟨Try.f10, Try.func10, by rfl, by rfl⟩ ?_
  refine alive_t fun H2 u2 => ?_
  have u02 := u1.trans u2
  have o2 := o1.upd u2 (Off.nil _)
  have hr2 := hr.upd (S := []) u02 (.inr (Off.nil _))
  (repeat first | refine HReg.step ?_ | refine HCode.step ?_)
  refine HLoadN_row o2.rows rfl ?_
  (repeat first | refine HReg.step ?_ | refine HCode.step ?_)
  refine HCall.mk ⟨Try.f18, Try.func18, by rfl, by rfl⟩ ?_
  refine made_t hr2 hn hid fun r ap cp a c H3 mr n3 u3 => ?_
  have hpay := mr.pay_le
  have hbd := mr.built
  have e1 : (buildR r).1 = frameR (pay r) := by rw [hbd]
  have e2 : (buildR r).2 = 0 := by rw [hbd]
  have e3 : (buildR r).1.length = 8 + (pay r).length := by rw [e1, frame_len]
  have hpar := mr.parsed w1
  have f1 : (parseR (frameR (pay r) ++ w1)).1 = r := by rw [hpar]
  have f2 : (parseR (frameR (pay r) ++ w1)).2.1 = 8 + (pay r).length := by rw [hpar]
  have f3 : (parseR (frameR (pay r) ++ w1)).2.2 = 0 := by rw [hpar]
  (repeat first | refine HReg.step ?_ | refine HCode.step ?_)
  refine HNew.mk fun b7 hb7 => ?_
  (repeat first | refine HReg.step ?_ | refine HCode.step ?_)
  refine store_rec (x := r) (ap := ap) (cp := cp) (ak := a) (ck := c) (OwnRow.lit (upd_same _ _ _) rfl) rfl fun H4 o7 u4 => ?_
  have u4 : Upd [] H3 H4 := Upd.drop (Upd.new hb7 _) u4 (fun q hq => by rw [List.mem_singleton.1 hq]; exact hb7)
  have u04 := u02.trans (u3.trans u4)
  have ri4 := n3.recIn.upd0 u4
  (repeat first | refine HReg.step ?_ | refine HCode.step ?_)
  refine HLoadN_row o7.rows rfl ?_
  (repeat first | refine HReg.step ?_ | refine HCode.step ?_)
  refine HCall.mk ⟨Try.f11, Try.func11, by rfl, by rfl⟩ ?_
  refine lent_t ri4 fun bp dp bk dk H5 l5 u5 => ?_
  (repeat first | refine HReg.step ?_ | refine HCode.step ?_)
  refine HCall.mk ⟨Try.f13, Try.func13, by rfl, by rfl⟩ ?_
  refine build_t (l5.recIn ri4.np ri4.nk) fun ab cb H6 m6 => ?_
  rw [e3, e1] at m6
  rw [e3, e2]
  have u06 := u04.trans (u5.trans m6.upd)
  (repeat first | refine HReg.step ?_ | refine HCode.step ?_)
  refine HCall.mk ⟨Try.f20, Try.func20, by rfl, by rfl⟩ ?_
  refine own_t m6.own.rows (frame_len _) (by omega) fun a8 c8 H8 m8 => ?_
  (repeat first | refine HReg.step ?_ | refine HCode.step ?_)
  refine append_wide m8 (h1.upd (S := []) (u06.trans m8.upd) (.inr (Off.nil _))) rfl (by omega) fun a9 c9 H9 m9 => ?_
  (repeat first | refine HReg.step ?_ | refine HCode.step ?_)
  refine HCall.mk ⟨Try.f19, Try.func19, by rfl, by rfl⟩ ?_
  refine parse_t m9.own.rows (by rw [List.length_append, frame_len]) m9.own.le (by omega) fun ap1 cp1 ak1 ck1 H10 n10 u10 => ?_
  rw [f1] at n10
  rw [f1, f2, f3]
  (repeat first | refine HReg.step ?_ | refine HCode.step ?_)
  refine HNew.mk fun b10 hb10 => ?_
  (repeat first | refine HReg.step ?_ | refine HCode.step ?_)
  refine store_rec (x := r) (ap := ap1) (cp := cp1) (ak := ak1) (ck := ck1) (OwnRow.lit (upd_same _ _ _) rfl) rfl fun H11 o11 u11 => ?_
  have u11 : Upd [] H10 H11 := Upd.drop (Upd.new hb10 _) u11 (fun q hq => by rw [List.mem_singleton.1 hq]; exact hb10)
  have u4b := u5.trans (m6.upd.trans (m9.upd.trans (u10.trans u11)))
  have o7 := o7.upd u4b (Off.nil _)
  have ri11 := ri4.upd0 u4b
  have u011 := u04.trans u4b
  (repeat first | refine HReg.step ?_ | refine HCode.step ?_)
  rw [eqB_self 0]
  (repeat first | refine HReg.step ?_ | refine HCode.step ?_)
  rw [eqB_self 0]
  (repeat first | refine HReg.step ?_ | refine HCode.step ?_)
  rw [eqB_self]
  (repeat first | refine HReg.step ?_ | refine HCode.step ?_)
  refine HLoadN_row o7.rows rfl ?_
  (repeat first | refine HReg.step ?_ | refine HCode.step ?_)
  refine HLoadN_row o11.rows rfl ?_
  (repeat first | refine HReg.step ?_ | refine HCode.step ?_)
  refine HCall.mk ⟨Try.f21, Try.func21, by rfl, by rfl⟩ ?_
  refine sameR_t ri11 (n10.recIn.upd0 u11) fun H12 u12 => ?_
  have o7 := o7.upd u12 (Off.nil _)
  (repeat first | refine HReg.step ?_ | refine HCode.step ?_)
  refine HLoadN_row o7.rows rfl ?_
  (repeat first | refine HReg.step ?_ | refine HCode.step ?_)
  refine HCall.mk ⟨Try.f12, Try.func12, by rfl, by rfl⟩ ?_
  refine may_t (ri11.upd0 u12) fun t H13 ht u13 => ?_
  have htt : t = true := ht.2 mr.may
  subst htt
  have u013 := u011.trans (u12.trans u13)
  (repeat first | refine HReg.step ?_ | refine HCode.step ?_)
  refine HCall.mk ⟨Try.f20, Try.func20, by rfl, by rfl⟩ ?_
  refine own_t (h2.upd (S := []) u013 (.inr (Off.nil _))) rfl (by omega) fun a14 c14 H14 m14 => ?_
  (repeat first | refine HReg.step ?_ | refine HCode.step ?_)
  refine HCall.mk ⟨Try.f19, Try.func19, by rfl, by rfl⟩ ?_
  refine parse_t m14.own.rows rfl m14.own.le (by omega) fun ap2 cp2 ak2 ck2 H15 n15 u15 => ?_
  (repeat first | refine HReg.step ?_ | refine HCode.step ?_)
  refine HNew.mk fun b13 hb13 => ?_
  (repeat first | refine HReg.step ?_ | refine HCode.step ?_)
  refine store_rec (x := (parseR w2).1) (ap := ap2) (cp := cp2) (ak := ak2) (ck := ck2) (OwnRow.lit (upd_same _ _ _) rfl) rfl fun H16 o16 u16 => ?_
  have u16 : Upd [] H15 H16 := Upd.drop (Upd.new hb13 _) u16 (fun q hq => by rw [List.mem_singleton.1 hq]; exact hb13)
  have n16 := n15.recIn.upd0 u16
  have u016 := u013.trans (m14.upd.trans (u15.trans u16))
  (repeat first | refine HReg.step ?_ | refine HCode.step ?_)
  refine hif (fun hf => ?_) (fun hf => ?_)
  · have hf := not_eqB_true.1 hf
    obtain ⟨z1, z2, z3⟩ := parse_fail hf
    rw [z1] at o16 n16
    rw [z2]
    (repeat first | refine HReg.step ?_ | refine HCode.step ?_)
    rw [show eqB ((0 : Nat) : Int) 0 = true from eqB_self 0]
    (repeat first | refine HReg.step ?_ | refine HCode.step ?_)
    refine HLoadN_row o16.rows rfl ?_
    (repeat first | refine HReg.step ?_ | refine HCode.step ?_)
    refine HCall.mk ⟨Try.f21, Try.func21, by rfl, by rfl⟩ ?_
    refine sameR_t (r := zeroRec) (bp := none) (bk := none) (dp := 0) (dk := 0) n16 (zero_in' _) fun H17 u17 => ?_
    (repeat first | refine HReg.step ?_ | refine HCode.step ?_)
    refine hif (fun h8 => ?_) (fun h8 => ?_)
    · (repeat first | refine HReg.step ?_ | refine HCode.step ?_)
      exact hk H17 (u016.trans u17)
    · have h8 := not_ltB_false.1 h8
      rw [z3 (by omega)]
      (repeat first | refine HReg.step ?_ | refine HCode.step ?_)
      rw [eqB_self 91]
      (repeat first | refine HReg.step ?_ | refine HCode.step ?_)
      exact hk H17 (u016.trans u17)
  · have hf := not_eqB_false.1 hf
    obtain ⟨z1, z2⟩ := parse_back hf
    have q1 : (buildR (parseR w2).1).1 = w2.take (parseR w2).2.1 := by rw [z1]
    have q2 : (buildR (parseR w2).1).2 = 0 := by rw [z1]
    have q3 : (buildR (parseR w2).1).1.length = (parseR w2).2.1 := by rw [q1, List.length_take]; omega
    (repeat first | refine HReg.step ?_ | refine HCode.step ?_)
    refine HLoadN_row o16.rows rfl ?_
    (repeat first | refine HReg.step ?_ | refine HCode.step ?_)
    refine HCall.mk ⟨Try.f13, Try.func13, by rfl, by rfl⟩ ?_
    refine build_t n16 fun a17 c17 H17 m17 => ?_
    rw [q3, q1] at m17
    rw [q3, q2]
    (repeat first | refine HReg.step ?_ | refine HCode.step ?_)
    rw [eqB_self 0]
    (repeat first | refine HReg.step ?_ | refine HCode.step ?_)
    refine hif (fun h8 => ?_) (fun h8 => ?_)
    · (repeat first | refine HReg.step ?_ | refine HCode.step ?_)
      refine HReq.mk ⟨by omega, by omega⟩ ?_
      (repeat first | refine HReg.step ?_ | refine HCode.step ?_)
      refine HCall.mk ⟨Try.f17, Try.func17, by rfl, by rfl⟩ ?_
      have ht := (h2.upd (S := []) (u016.trans m17.upd) (.inr (Off.nil _))).take (parseR w2).2.1
      rw [← u8s_take] at ht
      refine same_eq m17.own.rows (by rw [List.length_take]; omega) ht (by rw [List.length_take]; omega) rfl ?_
      (repeat first | refine HReg.step ?_ | refine HCode.step ?_)
      exact hk H17 (u016.trans m17.upd)
    · have h8 := not_ltB_false.1 h8
      omega
end
end Go.Proofs.Ytokfmkfobjkkpaa
