import Derived.Test.YtjnahdcolacldaaA15
namespace Go.Proofs.Ytjnahdcolacldaa
open Go Hv
set_option linter.unusedVariables false
set_option linter.unusedSimpArgs false
set_option maxRecDepth 10000
set_option maxHeartbeats 1000000
/-! PackReads -/
theorem UAt.back {H0 H1 H : Heap} {g : Nat} {S : List Nat} {r : R} (d : UAt H1 H g S r) (u : Upd [] H0 H1) : UAt H0 H g S r := ⟨d.lim, d.er, u.trans d.base, fun b hb => Upd.none (S := []) u (by simp) (d.new b hb), d.ex⟩
structure PrInv (H : Heap) (g g2 : Nat) (S T : List Nat) (n : Nat) (m : Nat) (vs : List Value) (H' : Heap) : Prop where
  ex : ∃ (i : Nat) (r : R), vs = [.int .i64 (i : Int)] ∧ m + i = n ∧ RAt H H' g S r ∧ UAt H H' g2 T r
theorem packReads_t {a b : Option Addr} {n cb k c : Nat} {l : List UInt8} {ops : List Opk} {H : Heap} {K : Value → Heap → Prop} (rl : RowAt H b (u8s l)) (hl : l.length = n) (hlim : n ≤ 140737488355328) (ro : RowAt H a (orow ops)) (lo : ops.length = k) (bo : ∀ o ∈ ops, OpOk H o) (bl : k ≤ 4611686018427387904)
    (hk : ∀ H', Upd [] H H' → K (.bool true) H') : HCalls Try.prog 5 [.slice b n cb, .slice a k c] H K := by
  refine hcalls (fn := Try.f5) [] mixed Try.func5 rfl rfl (by decide +kernel) ?_
  (repeat first | refine HReg.step ?_ | refine HCode.step ?_)
  refine HCall.mk ⟨Try.f9, Try.func9, by rfl, by rfl⟩ ?_
  refine newR_t rl hl hlim fun g S H1 d1 => ?_
  (repeat first | refine HReg.step ?_ | refine HCode.step ?_)
  refine HCall.mk ⟨Try.f22, Try.func22, by rfl, by rfl⟩ ?_
  refine dnewR_t (rl.upd (S := []) d1.base (.inr (Off.nil _))) hl hlim fun g2 T H2 e2 => ?_
  have ap : Apart S T := (Apart.new e2.new d1.live).symm
  have d2 := d1.upd0 e2.base
  have e2 := e2.back d1.base
  (repeat first | refine HReg.step ?_ | refine HCode.step ?_)
  refine HCall.mk ⟨Try.f10, Try.func10, by rfl, by rfl⟩ ?_
  refine known_t fun H3 u3 => ?_
  have d3 := d2.upd0 u3
  have e3 := e2.upd0 u3
  (repeat first | refine HReg.step ?_ | refine HCode.step ?_)
  refine hloopC [4, 7, 18, 19, 20, 21, 22, 23, 24, 25, 26, 27, 28, 29, 30, 31, 32, 33, 34, 35, 36, 37, 38, 39, 40, 41, 42, 43, 44, 45, 46, 47, 48, 49, 50, 51, 52] [7] (PrInv H g g2 S T k) rfl (by repeat' first | exact Resp.retD | exact Resp1.valuesK | refine Resp.blockD ?_ | refine Resp.thenD ?_ ?_ | refine Resp.hcode ?_) ?_ ?_
  · exact ⟨k, PrInv.mk ⟨0, ⟨l, 0⟩, rfl, rfl, d3, e3⟩⟩
  rintro m _ fe H4 ⟨i, r, rfl, hmi, d4, e4⟩
  (repeat first | refine HReg.step ?_ | refine HCode.step ?_)
  refine hif (fun h1 => ?_) (fun h1 => ?_)
  · have h1 := ltB_true.1 h1
    obtain ⟨o, ho⟩ : ∃ o, ops[i]? = some o := ⟨ops[i]'(by omega), by simp⟩
    have hom := bo o (List.mem_of_getElem? ho)
    have ro4 := ro.upd (S := []) d4.base (.inr (Off.nil _))
    obtain ⟨ba, bo', rfl, _⟩ := ro4 _ _ (orow_get ho 0 _ rfl)
    have w2 : wr .i64 ((i : Int) + 1) = ((i + 1 : Nat) : Int) := by rw [wr_i64 (by omega) (by omega)]; omega
    (repeat first | refine HReg.step ?_ | refine HCode.step ?_)
    refine HReq.mk ⟨by omega, by omega⟩ ?_
    (repeat first | refine HReg.step ?_ | refine HCode.step ?_)
    refine HLoadN_op ro4 ho ?_
    (repeat first | refine HReg.step ?_ | refine HCode.step ?_)
    refine HCall.mk ⟨Try.f23, Try.func23, by rfl, by rfl⟩ ?_
    refine read_t d4 e4 ap d4.new e4.new (hom.upd0 d4.base) fun H5 d5 e5 => ?_
    (repeat first | refine HReg.step ?_ | refine HCode.step ?_)
    refine HCall.mk ⟨Try.f24, Try.func24, by rfl, by rfl⟩ ?_
    refine left_t d5 ?_
    (repeat first | refine HReg.step ?_ | refine HCode.step ?_)
    refine HCall.mk ⟨Try.f25, Try.func25, by rfl, by rfl⟩ ?_
    refine dleft_t e5 ?_
    (repeat first | refine HReg.step ?_ | refine HCode.step ?_)
    rw [eqB_self]
    (repeat first | refine HReg.step ?_ | refine HCode.step ?_)
    refine HCall.mk ⟨Try.f26, Try.func26, by rfl, by rfl⟩ ?_
    refine err_t d5 ?_
    (repeat first | refine HReg.step ?_ | refine HCode.step ?_)
    refine HCall.mk ⟨Try.f27, Try.func27, by rfl, by rfl⟩ ?_
    refine derr_t e5 ?_
    (repeat first | refine HReg.step ?_ | refine HCode.step ?_)
    rw [eqB_self]
    (repeat first | refine HReg.step ?_ | refine HCode.step ?_)
    refine HCall.mk ⟨Try.f28, Try.func28, by rfl, by rfl⟩ ?_
    refine end_t d5 ?_
    (repeat first | refine HReg.step ?_ | refine HCode.step ?_)
    refine HCall.mk ⟨Try.f29, Try.func29, by rfl, by rfl⟩ ?_
    refine dend_t e5 ?_
    (repeat first | refine HReg.step ?_ | refine HCode.step ?_)
    rw [eqB_self]
    (repeat first | refine HReg.step ?_ | refine HCode.step ?_)
    rw [w2]
    exact ⟨m - 1, by omega, PrInv.mk ⟨i + 1, _, rfl, by omega, d5, e5⟩⟩
  · (repeat first | refine HReg.step ?_ | refine HCode.step ?_)
    refine HCall.mk ⟨Try.f24, Try.func24, by rfl, by rfl⟩ ?_
    refine left_t d4 ?_
    (repeat first | refine HReg.step ?_ | refine HCode.step ?_)
    refine HCall.mk ⟨Try.f25, Try.func25, by rfl, by rfl⟩ ?_
    refine dleft_t e4 ?_
    (repeat first | refine HReg.step ?_ | refine HCode.step ?_)
    rw [eqB_self]
    (repeat first | refine HReg.step ?_ | refine HCode.step ?_)
    refine HCall.mk ⟨Try.f26, Try.func26, by rfl, by rfl⟩ ?_
    refine err_t d4 ?_
    (repeat first | refine HReg.step ?_ | refine HCode.step ?_)
    refine HCall.mk ⟨Try.f27, Try.func27, by rfl, by rfl⟩ ?_
    refine derr_t e4 ?_
    (repeat first | refine HReg.step ?_ | refine HCode.step ?_)
    rw [eqB_self]
    (repeat first | refine HReg.step ?_ | refine HCode.step ?_)
    refine HCall.mk ⟨Try.f28, Try.func28, by rfl, by rfl⟩ ?_
    refine end_t d4 ?_
    (repeat first | refine HReg.step ?_ | refine HCode.step ?_)
    refine HCall.mk ⟨Try.f29, Try.func29, by rfl, by rfl⟩ ?_
    refine dend_t e4 ?_
    (repeat first | refine HReg.step ?_ | refine HCode.step ?_)
    rw [eqB_self]
    exact hk H4 d4.base
end Go.Proofs.Ytjnahdcolacldaa
