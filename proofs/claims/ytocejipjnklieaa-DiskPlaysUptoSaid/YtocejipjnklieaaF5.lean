import Derived.Test.YtocejipjnklieaaF4
namespace Go.Proofs.Ytocejipjnklieaa
open Go Hv
set_option linter.unusedVariables false
set_option linter.unusedSimpArgs false
set_option maxRecDepth 10000
set_option maxHeartbeats 4000000
/-! The document's disk: counted, at. CUT2 -/
section
variable {H1 H : Heap} {g N : Nat} {s : St} {B : List Nat} {K : Value → Heap → Prop}
theorem rcounted_t (R : RAt H1 H g s B) (hkl : -9223372036854775808 ≤ s.d.keep) (hkh : s.d.keep ≤ 9223372036854775807) (hlo : -9223372036854775808 ≤ s.d.calls) (ok : s.Ok N) (hN : N ≤ 4611686018427387904)
    (hk : ∀ H', RAt H1 H' g s.call B → Stq H H' B B → K (.bool s.call.d.off) H') : HCalls Try.prog 57 [.pointer (some ⟨g, 0, none⟩)] H K := by
  have R0 := R
  obtain ⟨fs, aF, cF, cl, st, r, rfl⟩ := R
  refine hcalls (fn := Try.f57) [] mixed Try.func57 rfl rfl (by decide +kernel) ?_
  (repeat first | refine HReg.step ?_ | refine HCode.step ?_)
  refine HLoad.one (v := .int .i64 cl) (by exact r.obj.rows.get (i := 3) rfl) ?_
  (repeat first | refine HReg.step ?_ | refine HCode.step ?_)
  refine hif (fun h1 => ?_) (fun h1 => ?_)
  · have h1 := eqB_true.1 h1
    obtain ⟨a1, a2, a3, a4⟩ : s.d.armed = true ∧ 0 ≤ s.d.calls ∧ cl = s.d.calls ∧ st = s.d.keep := by
      rcases r.arm with h | ⟨_, h⟩
      · exact h
      · omega
    have e : s.call = s.crash st := by unfold St.call; rw [if_pos a1, if_pos (by omega), a4]
    rw [e] at hk
    (repeat first | refine HReg.step ?_ | refine HCode.step ?_)
    refine HLoad.one (v := .int .i64 st) (by exact r.obj.rows.get (i := 4) rfl) ?_
    (repeat first | refine HReg.step ?_ | refine HCode.step ?_)
    refine HCall.mk ⟨Try.f50, Try.func50, by rfl, by rfl⟩ ?_
    refine rcrash_t R0 (by omega) (by omega) (fun k x hx => by have := (ok.le k x hx).1; omega) (by have := ok.few; omega) fun H3 R3 S3 => ?_
    have R3' := R3
    obtain ⟨fs3, aF3, cF3, cl3, st3, r3, e3⟩ := R3
    have hcl : cl3 ≤ 0 := by
      rcases r3.arm with ⟨b1, b2, b3, b4⟩ | ⟨_, h⟩
      · have : (s.crash st).d.calls = s.d.calls := by unfold St.crash; split <;> rfl
        omega
      · omega
    (repeat first | refine HReg.step ?_ | refine HCode.step ?_)
    refine HLoad.one (v := .int .i64 cl3) (by exact r3.obj.rows.get (i := 3) rfl) ?_
    (repeat first | refine HReg.step ?_ | refine HCode.step ?_)
    rw [ltB_false.2 hcl]
    (repeat first | refine HReg.step ?_ | refine HCode.step ?_)
    refine HLoad.one (v := .bool (s.crash st).d.off) (by exact r3.obj.rows.get (i := 1) rfl) ?_
    (repeat first | refine HReg.step ?_ | refine HCode.step ?_)
    exact hk H3 R3' S3
  · have h1 := eqB_false.1 h1
    (repeat first | refine HReg.step ?_ | refine HCode.step ?_)
    refine HLoad.one (v := .int .i64 cl) (by exact r.obj.rows.get (i := 3) rfl) ?_
    (repeat first | refine HReg.step ?_ | refine HCode.step ?_)
    refine hif (fun h2 => ?_) (fun h2 => ?_)
    · have h2 := ltB_true.1 h2
      rcases r.arm with ⟨a1, a2, a3, a4⟩ | ⟨a1, a2⟩
      · have e : s.call = { s with d := { s.d with calls := s.d.calls - 1 } } := by unfold St.call; rw [if_pos a1, if_neg (by omega)]
        have wc : wr .i64 (cl - 1) = s.d.calls - 1 := by have := r.hi; rw [wr_i64 (by omega) (by omega)]; omega
        (repeat first | refine HReg.step ?_ | refine HCode.step ?_)
        refine HLoad.one (v := .int .i64 cl) (by exact r.obj.rows.get (i := 3) rfl) ?_
        (repeat first | refine HReg.step ?_ | refine HCode.step ?_)
        rw [wc]
        refine store_row r.obj (v := .int .i64 (s.d.calls - 1)) rfl (i := 3) (by decide) (by rfl) fun H4 o4 u4 => ?_
        have r4 := r.setd (s' := s.call) (cl' := s.d.calls - 1) (st' := st) u4 (by rw [e]; exact o4) (by rw [e]) (by rw [e]) (by rw [e]; exact .inl ⟨a1, by show 0 ≤ s.d.calls - 1; omega, rfl, a4⟩) (by rw [e]; show s.d.calls - 1 ≤ _; have := r.hi; omega) (by rw [e]; exact r.rhi)
        (repeat first | refine HReg.step ?_ | refine HCode.step ?_)
        refine HLoad.one (v := .bool s.call.d.off) (by exact r4.obj.rows.get (i := 1) rfl) ?_
        (repeat first | refine HReg.step ?_ | refine HCode.step ?_)
        exact hk H4 ⟨fs, aF, cF, _, _, r4, rfl⟩ (Stq.g u4)
      · omega
    · have h2 := ltB_false.1 h2
      have e : s.call = s := by
        rcases r.arm with ⟨a1, a2, a3, a4⟩ | ⟨a1, a2⟩
        · omega
        · exact St.call_idle a1
      rw [e] at hk
      (repeat first | refine HReg.step ?_ | refine HCode.step ?_)
      refine HLoad.one (v := .bool s.d.off) (by exact r.obj.rows.get (i := 1) rfl) ?_
      (repeat first | refine HReg.step ?_ | refine HCode.step ?_)
      exact hk H ⟨fs, aF, cF, cl, st, r, rfl⟩ (Stq.refl _ _)
end
end Go.Proofs.Ytocejipjnklieaa
