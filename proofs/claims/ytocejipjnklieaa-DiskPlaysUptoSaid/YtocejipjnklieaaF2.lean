import Derived.Test.YtocejipjnklieaaF1
namespace Go.Proofs.Ytocejipjnklieaa
open Go Hv
set_option linter.unusedVariables false
set_option linter.unusedSimpArgs false
set_option maxRecDepth 10000
set_option maxHeartbeats 2000000
/-! The document's disk: New, Up, Down, Full, Arm, named. -/
section
variable {H1 H : Heap} {g : Nat} {s : St} {B : List Nat} {K : Value → Heap → Prop}
theorem rnew_t (hk : ∀ g B H', RAt H H' g St0 B → Upd [] H H' → K (.pointer (some ⟨g, 0, none⟩)) H') : HCalls Try.prog 24 [] H K := by
  refine hcalls (fn := Try.f24) [] mixed Try.func24 rfl rfl rfl ?_
  (repeat first | refine HReg.step ?_ | refine HCode.step ?_)
  refine HNew.as (o' := .cells (rdcells none 0 0 false 0 (-1) 0).toArray 81) rfl fun b hb => ?_
  have u : Upd [] H (H.upd b (.cells (rdcells none 0 0 false 0 (-1) 0).toArray 81)) := Upd.new hb _
  have o : OwnRow (H.upd b (.cells (rdcells none 0 0 false 0 (-1) 0).toArray 81)) 81 1 (some ⟨b, 0, none⟩) 5 5 (rdcells none 0 0 false 0 (-1) 0) := OwnRow.lit (upd_same _ _ _) rfl
  generalize H.upd b (.cells (rdcells none 0 0 false 0 (-1) 0).toArray 81) = H2 at u o ⊢
  (repeat first | refine HReg.step ?_ | refine HCode.step ?_)
  refine hk b [b] H2 ⟨[], none, 0, -1, 0, ⟨o, OwnRow.nil _ _ _, fun f hf => by simp at hf, fun i j f f' _ h => by simp at h, fun x hx => ?_, u, List.Pairwise.nil, fun f hf => by simp at hf, fun k x hx => by simp [St0] at hx, fun f hf => by simp at hf, rfl, .inr ⟨rfl, rfl⟩, by decide, by decide⟩, rfl⟩ u
  rcases mem_rblk.1 hx with rfl | h | ⟨f, hf, _⟩
  · exact hb
  · simp [blk] at h
  · simp at hf
theorem rdown_t (R : RAt H1 H g s B) (hk : K (.bool s.d.off) H) : HCalls Try.prog 27 [.pointer (some ⟨g, 0, none⟩)] H K := by
  obtain ⟨fs, aF, cF, cl, st, r, e⟩ := R
  refine hcalls (fn := Try.f27) [] mixed Try.func27 rfl rfl rfl ?_
  (repeat first | refine HReg.step ?_ | refine HCode.step ?_)
  refine HLoad.one (v := .bool s.d.off) (by exact r.obj.rows.get (i := 1) rfl) ?_
  (repeat first | refine HReg.step ?_ | refine HCode.step ?_)
  exact hk
theorem rup_t (R : RAt H1 H g s B) (hk : ∀ H', RAt H1 H' g s.upp B → Stq H H' B B → K (.tuple #[]) H') : HCalls Try.prog 51 [.pointer (some ⟨g, 0, none⟩)] H K := by
  obtain ⟨fs, aF, cF, cl, st, r, rfl⟩ := R
  refine hcalls (fn := Try.f51) [] mixed Try.func51 rfl rfl rfl ?_
  (repeat first | refine HReg.step ?_ | refine HCode.step ?_)
  refine store_row r.obj (v := .bool false) rfl (i := 1) (by decide) (by rfl) fun H4 o4 u4 => ?_
  (repeat first | refine HReg.step ?_ | refine HCode.step ?_)
  refine store_row o4 (v := .int .i64 (-1)) rfl (i := 3) (by decide) (by rfl) fun H5 o5 u5 => ?_
  (repeat first | refine HReg.step ?_ | refine HCode.step ?_)
  have u := u4.trans u5
  exact hk H5 ⟨fs, aF, cF, -1, st, r.setd (s' := s.upp) u o5 rfl rfl (.inr ⟨rfl, rfl⟩) r.hi r.rhi, rfl⟩ (Stq.g u)
theorem rfull_t {n : Int} (R : RAt H1 H g s B) (hn : n ≤ 9223372036854775807) (hk : ∀ H', RAt H1 H' g (s.full n) B → Stq H H' B B → K (.tuple #[]) H') : HCalls Try.prog 52 [.pointer (some ⟨g, 0, none⟩), .int .i64 n] H K := by
  obtain ⟨fs, aF, cF, cl, st, r, rfl⟩ := R
  refine hcalls (fn := Try.f52) [] mixed Try.func52 rfl rfl rfl ?_
  (repeat first | refine HReg.step ?_ | refine HCode.step ?_)
  rw [ite_mx, ite_max]
  refine store_row r.obj (v := .int .i64 (max n 0)) rfl (i := 2) (by decide) (by rfl) fun H4 o4 u4 => ?_
  (repeat first | refine HReg.step ?_ | refine HCode.step ?_)
  exact hk H4 ⟨fs, aF, cF, cl, st, r.setd (s' := s.full n) u4 o4 rfl rfl r.arm r.hi (by show max n 0 ≤ _; omega), rfl⟩ (Stq.g u4)
theorem rarm_t {n keep : Int} (R : RAt H1 H g s B) (h2 : n ≤ 9223372036854775807) (hk : ∀ H', RAt H1 H' g (s.arms n keep) B → Stq H H' B B → K (.tuple #[]) H') : HCalls Try.prog 53 [.pointer (some ⟨g, 0, none⟩), .int .i64 n, .int .i64 keep] H K := by
  obtain ⟨fs, aF, cF, cl, st, r, rfl⟩ := R
  refine hcalls (fn := Try.f53) [] mixed Try.func53 rfl rfl rfl ?_
  (repeat first | refine HReg.step ?_ | refine HCode.step ?_)
  rw [ite_mx, ite_max]
  refine store_row r.obj (v := .int .i64 (max n (-1))) rfl (i := 3) (by decide) (by rfl) fun H4 o4 u4 => ?_
  (repeat first | refine HReg.step ?_ | refine HCode.step ?_)
  refine store_row o4 (v := .int .i64 keep) rfl (i := 4) (by decide) (by rfl) fun H5 o5 u5 => ?_
  (repeat first | refine HReg.step ?_ | refine HCode.step ?_)
  have u := u4.trans u5
  have ha : Armed (s.arms n keep) (max n (-1)) keep := by
    by_cases h : 0 ≤ n
    · exact .inl ⟨decide_eq_true h, h, by show max n (-1) = n; omega, rfl⟩
    · exact .inr ⟨decide_eq_false h, by omega⟩
  exact hk H5 ⟨fs, aF, cF, _, _, r.setd (s' := s.arms n keep) u o5 rfl rfl ha h2 r.rhi, rfl⟩ (Stq.g u)
theorem rnamed_t {n : ByteArray} (hk : K (.bool (decide (1 ≤ n.size ∧ n.size ≤ 32))) H) : HCalls Try.prog 58 [.string n] H K := by
  refine hcalls (fn := Try.f58) [] mixed Try.func58 rfl rfl rfl ?_
  (repeat first | refine HReg.step ?_ | refine HCode.step ?_)
  by_cases h1 : 1 ≤ n.size
  · rw [ltB_false.2 (show (1 : Int) ≤ (n.size : Int) by omega)]
    (repeat first | refine HReg.step ?_ | refine HCode.step ?_)
    by_cases h2 : n.size ≤ 32
    · rw [ltB_false.2 (show (n.size : Int) ≤ 32 by omega)]
      (repeat first | refine HReg.step ?_ | refine HCode.step ?_)
      rw [decide_eq_true ⟨h1, h2⟩] at hk
      exact hk
    · rw [ltB_true.2 (show (32 : Int) < (n.size : Int) by omega)]
      (repeat first | refine HReg.step ?_ | refine HCode.step ?_)
      rw [decide_eq_false (fun h => h2 h.2)] at hk
      exact hk
  · rw [ltB_true.2 (show (n.size : Int) < 1 by omega)]
    (repeat first | refine HReg.step ?_ | refine HCode.step ?_)
    rw [decide_eq_false (fun h => h1 h.1)] at hk
    exact hk
end
end Go.Proofs.Ytocejipjnklieaa
