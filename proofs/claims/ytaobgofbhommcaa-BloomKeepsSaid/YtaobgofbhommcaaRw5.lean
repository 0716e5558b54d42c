import Derived.Test.YtaobgofbhommcaaRw4
import Derived.DataElems
import Derived.DataReads
namespace Go.Proofs.Ytaobgofbhommcaa.Hv
open Go Go.ChangeShapes Go.WideShapes Go.ChangeAt Go.RowKit
set_option linter.unusedVariables false
set_option linter.unusedSimpArgs false
/-! ## Arguments that are slices of structs; arrays of whole numbers -/
theorem weightsAll_mem {H : Type} {P : Program} {e : TypeId} : ∀ {es : List (DataW H)} {i : Nat} {d : DataW H}, es[i]? = some d → ∀ n ∈ d.weights P e, n ∈ DataW.weightsAll P e es
  | x :: es, 0, d, h, n, hn => by
    simp only [List.getElem?_cons_zero, Option.some.injEq] at h
    subst h
    simp only [DataW.weightsAll, List.mem_append]
    exact .inl hn
  | x :: es, i + 1, d, h, n, hn => by
    simp only [List.getElem?_cons_succ] at h
    simp only [DataW.weightsAll, List.mem_append]
    exact .inr (weightsAll_mem h n hn)
  | [], i, d, h, _, _ => by simp at h
theorem sized_elem {H : Type} {P : Program} {ts : List TypeId} {ds : List (DataW H)} (h : (DataW.weightsEach P ts ds).all (· ≤ reachBytes) = true) {j i : Nat} {t e : TypeId} {es sp : List (DataW H)} {d : DataW H} (ht : ts[j]? = some t) (hd : ds[j]? = some (.slice es sp)) (hu : P.underlying t = some (.slice e)) (hi : es[i]? = some d) : ∀ n ∈ d.weights P e, n ≤ reachBytes := by
  intro n hn
  have h1 := weightsAll_mem hi n hn
  have := List.all_eq_true.1 h n (DataW.weights_mem_each ht hd n (by simp only [DataW.weights, hu, List.mem_cons, List.mem_append]; exact .inr (.inl h1)))
  simpa using this
theorem sized_elem_struct {H : Type} {P : Program} {ts : List TypeId} {ds : List (DataW H)} (h : (DataW.weightsEach P ts ds).all (· ≤ reachBytes) = true) {j i : Nat} {t e : TypeId} {es sp parts : List (DataW H)} {fs : Array Field} (ht : ts[j]? = some t) (hd : ds[j]? = some (.slice es sp)) (hu : P.underlying t = some (.slice e)) (hi : es[i]? = some (.agg parts)) (hf : P.underlying e = some (.struct fs)) :
    (DataW.weightsEach P (fs.toList.map (·.type)) parts).all (· ≤ reachBytes) = true := by
  refine List.all_eq_true.2 fun n hn => ?_
  have := sized_elem h ht hd hu hi n (by simp only [DataW.weights, hf]; exact hn)
  simpa using this
theorem cells_get {w : World} {base n : Nat} {a : Addr} {cs : List Value} (h : w.cells? base a n = some cs) : cs.length = n ∧ ∀ (i : Nat) v, cs[i]? = some v → w.cell? (a.add i) = some v := by
  unfold World.cells? at h
  split at h
  · have hl := mapM_some_length h
    rw [List.length_range] at hl
    refine ⟨hl, fun i v hv => ?_⟩
    have hi := (List.getElem?_eq_some_iff.1 hv).1
    rw [mapM_some_get h i i (by rw [List.getElem?_range (by omega)]), hv]
  · cases h
theorem exists_list {α : Type} {Q : Nat → α → Prop} : ∀ n, (∀ i, i < n → ∃ v, Q i v) → ∃ vs : List α, vs.length = n ∧ ∀ i v, vs[i]? = some v → Q i v
  | 0, _ => ⟨[], rfl, fun i v h => by simp at h⟩
  | n + 1, h => by
    obtain ⟨vs, h1, h2⟩ := exists_list n fun i hi => h i (by omega)
    obtain ⟨v, hv⟩ := h n (by omega)
    refine ⟨vs ++ [v], by simp [h1], fun i w hw => ?_⟩
    by_cases hi : i < n
    · rw [List.getElem?_append_left (by omega)] at hw
      exact h2 i w hw
    · have hi' := (List.getElem?_eq_some_iff.1 hw).1
      simp [h1] at hi'
      have : i = n := by omega
      subst this
      rw [List.getElem?_append_right (by omega), h1, Nat.sub_self] at hw
      cases hw; exact hv
theorem list5 {α : Type} {l : List α} (h : l.length = 5) : ∃ a b c d e, l = [a, b, c, d, e] := by
  match l, h with
  | [a, b, c, d, e], _ => exact ⟨a, b, c, d, e, rfl⟩
/-- An array of four whole numbers. -/
theorem okWide_ints4 {P : Program} {w : World} {r : Reach} {base : Nat} {t e : TypeId} {n : Nat} {v : Value} (ht : P.underlying t = some (.array n e)) (he : P.underlying e = some (.int .i64)) (hc : P.cellsOf t = 4) (hts : P.cellTypes P.depth t = some [e, e, e, e]) (h : Value.okWide P w r base t v) :
    ∃ z0 z1 z2 z3 : Int, v = .agg #[.int .i64 z0, .int .i64 z1, .int .i64 z2, .int .i64 z3] := by
  simp only [Value.okWide, ht] at h
  obtain ⟨cs, rfl, hsz, ts, hts', _, hall⟩ := h
  rw [hts] at hts'
  cases hts'
  obtain ⟨x0, x1, x2, x3, rfl⟩ := arr4 (Array.length_toList.trans (hsz.trans hc))
  have key : ∀ (i : Nat) x, i < 4 → #[x0, x1, x2, x3][i]? = some x → ∃ z, x = .int .i64 z := by
    intro i x hi hx
    obtain ⟨u, hu, hcell⟩ := hall i x hx
    have hue : u = e := by
      have : ∀ i : Nat, i < 4 → [e, e, e, e][i % 4]? = some e := fun i hi => by
        match i, hi with
        | 0, _ => rfl
        | 1, _ => rfl
        | 2, _ => rfl
        | 3, _ => rfl
      have h2 : [e, e, e, e][i % 4]? = some u := hu
      rw [this i hi] at h2; cases h2; rfl
    subst hue
    simp only [Cell.okWide, he] at hcell
    cases x <;> simp_all [Cell.ok]
  obtain ⟨z0, rfl⟩ := key 0 x0 (by decide) rfl
  obtain ⟨z1, rfl⟩ := key 1 x1 (by decide) rfl
  obtain ⟨z2, rfl⟩ := key 2 x2 (by decide) rfl
  obtain ⟨z3, rfl⟩ := key 3 x3 (by decide) rfl
  exact ⟨z0, z1, z2, z3, rfl⟩
end Go.Proofs.Ytaobgofbhommcaa.Hv
