import Derived.Test.YtjnahdcolacldaaA7
namespace Go.Proofs.Ytjnahdcolacldaa
open Go Hv
set_option linter.unusedVariables false
set_option linter.unusedSimpArgs false
set_option maxRecDepth 10000
set_option maxHeartbeats 1000000
/-! known -/
def kn0 : W := ⟨20, [], 0⟩
def kn1 : W := kn0.lay (num 7 1)
def kn2 : W := kn1.lay (num 258 4)
def kn3 : W := kn2.lay (textB [97, 98])
def knL : List UInt8 := [7, 0, 0, 1, 2, 0, 0, 0, 2, 97, 98]
theorem kn_told : kn3.told = knL ∧ kn3.err = 0 ∧ kn3.out.length = 11 := by decide +kernel
theorem kn_len : kn1.out.length = 1 ∧ kn2.out.length = 5 := by decide +kernel
def kr0 : R := ⟨knL, 0⟩
theorem kr_1 : (kr0.number 1).1 = 7 := by decide +kernel
theorem kr_2 : (((kr0.number 1).2).number 4).1 = 258 := by decide +kernel
theorem kr_3 : ((((kr0.number 1).2).number 4).2.text 2).1 = [97, 98] := by decide +kernel
theorem kr_4 : ((((kr0.number 1).2).number 4).2.text 2).2.fin = 0 := by decide +kernel
theorem kr_5 : (((((kr0.number 1).2).number 4).2.text 2).2.number 1).1 = 0 := by decide +kernel
theorem kr_6 : (((((kr0.number 1).2).number 4).2.text 2).2.number 1).2.err = 4 := by decide +kernel
theorem known_t {H : Heap} {K : Value → Heap → Prop} (hk : ∀ H', Upd [] H H' → K (.bool true) H') : HCalls Try.prog 10 [] H K := by
  refine hcalls (fn := Try.f10) [] mixed Try.func10 rfl rfl rfl ?_
  (repeat first | refine HReg.step ?_ | refine HCode.step ?_)
  refine HCall.mk ⟨Try.f8, Try.func8, by rfl, by rfl⟩ ?_
  refine newW_t (n := 20) (by decide) fun g S1 H1 d1 => ?_
  have d1 : WAt H H1 g S1 kn0 := d1
  (repeat first | refine HReg.step ?_ | refine HCode.step ?_)
  refine HCall.mk ⟨Try.f39, Try.func39, by rfl, by rfl⟩ ?_
  refine u8_t (v := 7) d1 (by decide) (by decide) fun S2 H2 d2 _ => ?_
  (repeat first | refine HReg.step ?_ | refine HCode.step ?_)
  refine HCall.mk ⟨Try.f40, Try.func40, by rfl, by rfl⟩ ?_
  refine u32_t (w := kn1) (v := 258) d2 (by decide) (by rw [kn_len.1]; decide) fun S3 H3 d3 _ => ?_
  (repeat first | refine HReg.step ?_ | refine HCode.step ?_)
  refine HCall.mk ⟨Try.f33, Try.func33, by rfl, by rfl⟩ ?_
  refine text_t (w := kn2) (s := [97, 98]) d3 (by rw [kn_len.2]; decide) fun S4 H4 d4 _ => ?_
  (repeat first | refine HReg.step ?_ | refine HCode.step ?_)
  refine HCall.mk ⟨Try.f14, Try.func14, by rfl, by rfl⟩ ?_
  refine out_t (w := kn3) d4 (by rw [kn_told.2.2]; decide) fun a5 c5 H5 m5 => ?_
  rw [kn_told.1] at m5
  rw [kn_told.1, kn_told.2.1]
  have u5 : Upd [] H H5 := d4.base.trans m5.upd
  (repeat first | refine HReg.step ?_ | refine HCode.step ?_)
  refine HCall.mk ⟨Try.f9, Try.func9, by rfl, by rfl⟩ ?_
  refine newR_t (l := knL) m5.own.rows rfl (by decide) fun g6 S6 H6 d6 => ?_
  have d6 : RAt H5 H6 g6 S6 kr0 := d6
  (repeat first | refine HReg.step ?_ | refine HCode.step ?_)
  refine hif (fun h => absurd rfl (not_eqB_true.1 h)) (fun _ => ?_)
  (repeat first | refine HReg.step ?_ | refine HCode.step ?_)
  refine HReq.mk (by decide) ?_
  (repeat first | refine HReg.step ?_ | refine HCode.step ?_)
  refine HNew.mk fun b7 hb7 => ?_
  have u7 : Upd [] H6 (H6.upd b7 (.cells (u8s knL).toArray 5)) := Upd.new hb7 _
  have r7 : RowAt (H6.upd b7 (.cells (u8s knL).toArray 5)) (some ⟨b7, 0, none⟩) (u8s knL) := row_lit (upd_same _ _ _) rfl
  have d7 := d6.upd0 u7
  (repeat first | refine HReg.step ?_ | refine HCode.step ?_)
  refine HCall.mk ⟨Try.f16, Try.func16, by rfl, by rfl⟩ ?_
  refine same_eq (m5.own.rows.upd (S := []) d7.base (.inr (Off.nil _))) rfl r7 rfl rfl ?_
  (repeat first | refine HReg.step ?_ | refine HCode.step ?_)
  refine HCall.mk ⟨Try.f11, Try.func11, by rfl, by rfl⟩ ?_
  refine ru8_t d7 fun H8 d8 _ => ?_
  rw [kr_1]
  (repeat first | refine HReg.step ?_ | refine HCode.step ?_)
  refine hif (fun _ => ?_) (fun h => absurd rfl (eqB_false.1 h))
  (repeat first | refine HReg.step ?_ | refine HCode.step ?_)
  refine HCall.mk ⟨Try.f41, Try.func41, by rfl, by rfl⟩ ?_
  refine ru32_t d8 fun H9 d9 _ => ?_
  rw [kr_2]
  (repeat first | refine HReg.step ?_ | refine HCode.step ?_)
  refine hif (fun _ => ?_) (fun h => absurd rfl (eqB_false.1 h))
  (repeat first | refine HReg.step ?_ | refine HCode.step ?_)
  refine HCall.mk ⟨Try.f35, Try.func35, by rfl, by rfl⟩ ?_
  refine rtext_t (most := 2) d9 (by decide) fun H10 d10 _ => ?_
  rw [kr_3]
  have e : seqB (bs [97, 98]) ⟨#[97, 98]⟩ = true := by rw [show (⟨#[97, 98]⟩ : ByteArray) = bs [97, 98] from rfl, seqB_bs]; simp
  (repeat first | refine HReg.step ?_ | refine HCode.step ?_)
  rw [e]
  (repeat first | refine HReg.step ?_ | refine HCode.step ?_)
  refine HCall.mk ⟨Try.f28, Try.func28, by rfl, by rfl⟩ ?_
  refine end_t d10 ?_
  rw [kr_4]
  (repeat first | refine HReg.step ?_ | refine HCode.step ?_)
  refine hif (fun _ => ?_) (fun h => absurd rfl (eqB_false.1 h))
  (repeat first | refine HReg.step ?_ | refine HCode.step ?_)
  refine HCall.mk ⟨Try.f11, Try.func11, by rfl, by rfl⟩ ?_
  refine ru8_t d10 fun H11 d11 _ => ?_
  rw [kr_5]
  (repeat first | refine HReg.step ?_ | refine HCode.step ?_)
  refine hif (fun _ => ?_) (fun h => absurd rfl (eqB_false.1 h))
  (repeat first | refine HReg.step ?_ | refine HCode.step ?_)
  refine HCall.mk ⟨Try.f26, Try.func26, by rfl, by rfl⟩ ?_
  refine err_t d11 ?_
  rw [kr_6]
  have e4 : eqB 4 4 = true := eqB_true.2 rfl
  (repeat first | refine HReg.step ?_ | refine HCode.step ?_)
  refine (show K (.bool (eqB 4 4)) H11 from ?_)
  rw [e4]
  exact hk H11 (u5.trans d11.base)
end Go.Proofs.Ytjnahdcolacldaa
