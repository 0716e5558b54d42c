import Derived.Test.YtindnfcioibdnaaS6
namespace Go.Proofs.Ytindnfcioibdnaa
open Go Hv
set_option linter.unusedVariables false
set_option maxRecDepth 10000

/-! ## Plain laws of Split -/
theorem num_append {r : List UInt8} (h : 4 ≤ r.length) (e : List UInt8) : num (r ++ e) = num r := by
  match r, h with
  | x :: y :: z :: w :: t, _ => simp only [num, List.cons_append, List.getD_cons_zero, List.getD_cons_succ]
theorem splitA_app (k : Nat) : ∀ (out : List (List UInt8)) (r e : List UInt8), r.length ≤ k →
    (splitA out r = none → splitA out (r ++ e) = none) ∧ (∀ o q, splitA out r = some (o, q) → splitA out (r ++ e) = splitA o (q ++ e) ∧ 4 * o.length + q.length ≤ 4 * out.length + r.length) := by
  induction k with
  | zero =>
    intro out r e h
    have : splitA out r = some (out, r) := splitA_short (by omega)
    rw [this]
    exact ⟨fun h => (by cases h), fun o q h => (by cases h; exact ⟨rfl, by omega⟩)⟩
  | succ k ih =>
    intro out r e h
    by_cases h4 : 4 ≤ r.length
    · by_cases h1 : 1048576 < num r
      · rw [splitA_long h4 h1]
        refine ⟨fun _ => splitA_long (by rw [List.length_append]; omega) (by rw [num_append h4]; exact h1), fun o q h => (by cases h)⟩
      · by_cases h2 : r.length - 4 < num r
        · rw [splitA_part h4 (by omega) h2]
          exact ⟨fun h => (by cases h), fun o q h => (by cases h; exact ⟨rfl, by omega⟩)⟩
        · have e1 := splitA_next (out := out) h4 (by omega) (by omega : num r ≤ r.length - 4)
          have e2 := splitA_next (out := out) (r := r ++ e) (by rw [List.length_append]; omega) (by rw [num_append h4]; omega) (by rw [num_append h4, List.length_append]; omega)
          rw [num_append h4] at e2
          have e3 : ((r ++ e).drop 4).take (num r) = (r.drop 4).take (num r) := by
            rw [List.drop_append_of_le_length h4, List.take_append_of_le_length (by rw [List.length_drop]; omega)]
          have e4 : (r ++ e).drop (4 + num r) = r.drop (4 + num r) ++ e := by
            rw [List.drop_append_of_le_length (by omega)]
          rw [e3, e4] at e2
          rw [e1, e2]
          have := ih (out ++ [(r.drop 4).take (num r)]) (r.drop (4 + num r)) e (by rw [List.length_drop]; omega)
          refine ⟨this.1, fun o q h => ⟨(this.2 o q h).1, ?_⟩⟩
          have := (this.2 o q h).2
          simp only [List.length_append, List.length_singleton, List.length_drop] at this
          omega
    · have : splitA out r = some (out, r) := splitA_short (by omega)
      rw [this]
      exact ⟨fun h => (by cases h), fun o q h => (by cases h; exact ⟨rfl, by omega⟩)⟩
theorem splitA_none {out : List (List UInt8)} {r : List UInt8} (h : splitA out r = none) (e : List UInt8) : splitA out (r ++ e) = none := (splitA_app _ out r e (Nat.le_refl _)).1 h
theorem splitA_some {out o : List (List UInt8)} {r q : List UInt8} (h : splitA out r = some (o, q)) (e : List UInt8) : splitA out (r ++ e) = splitA o (q ++ e) := ((splitA_app _ out r e (Nat.le_refl _)).2 o q h).1
theorem splitA_count {out o : List (List UInt8)} {r q : List UInt8} (h : splitA out r = some (o, q)) : 4 * o.length + q.length ≤ 4 * out.length + r.length := ((splitA_app _ out r [] (Nat.le_refl _)).2 o q h).2
theorem splitA_lift (k : Nat) : ∀ (out pre : List (List UInt8)) (r : List UInt8), r.length ≤ k → splitA (pre ++ out) r = (splitA out r).map fun x => (pre ++ x.1, x.2) := by
  induction k with
  | zero => intro out pre r h; rw [splitA_short (by omega), splitA_short (by omega)]; rfl
  | succ k ih =>
    intro out pre r h
    by_cases h4 : 4 ≤ r.length
    · by_cases h1 : 1048576 < num r
      · rw [splitA_long h4 h1, splitA_long h4 h1]; rfl
      · by_cases h2 : r.length - 4 < num r
        · rw [splitA_part h4 (by omega) h2, splitA_part h4 (by omega) h2]; rfl
        · rw [splitA_next h4 (by omega) (by omega), splitA_next h4 (by omega) (by omega), List.append_assoc]
          exact ih _ _ _ (by rw [List.length_drop]; omega)
    · rw [splitA_short (by omega), splitA_short (by omega)]; rfl
theorem splitA_pre (pre : List (List UInt8)) (r : List UInt8) : splitA pre r = (splitA [] r).map fun x => (pre ++ x.1, x.2) := by
  have := splitA_lift r.length [] pre r (Nat.le_refl _)
  rw [List.append_nil] at this; exact this
end Go.Proofs.Ytindnfcioibdnaa
