import Derived.Test.YtaobgofbhommcaaRw
namespace Go.Proofs.Ytaobgofbhommcaa.Hv
open Go Go.ChangeShapes Go.WideShapes Go.ChangeAt Go.RowKit
set_option linter.unusedVariables false
set_option linter.unusedSimpArgs false
theorem exists_lists {α β : Type} {Q : Nat → α → β → Prop} : ∀ n, (∀ i, i < n → ∃ v l, Q i v l) → ∃ (vs : List α) (ls : List β), vs.length = n ∧ ls.length = n ∧ ∀ i v l, vs[i]? = some v → ls[i]? = some l → Q i v l
  | 0, _ => ⟨[], [], rfl, rfl, fun i v l h => by simp at h⟩
  | n + 1, h => by
    obtain ⟨vs, ls, h1, h2, h3⟩ := exists_lists n fun i hi => h i (by omega)
    obtain ⟨v, l, hq⟩ := h n (by omega)
    refine ⟨vs ++ [v], ls ++ [l], by simp [h1], by simp [h2], fun i v' l' hv hl => ?_⟩
    by_cases hi : i < n
    · rw [List.getElem?_append_left (by omega)] at hv hl
      exact h3 i v' l' hv hl
    · have hi' := (List.getElem?_eq_some_iff.1 hv).1
      simp [h1] at hi'
      have : i = n := by omega
      subst this
      rw [List.getElem?_append_right (by omega), h1] at hv
      rw [List.getElem?_append_right (by omega), h2] at hl
      simp at hv hl
      subst hv; subst hl; exact hq
theorem All2.of {α β : Type} {R : α → β → Prop} : ∀ {xs : List α} {ys : List β}, xs.length = ys.length → (∀ (i : Nat) (x : α) (y : β), xs[i]? = some x → ys[i]? = some y → R x y) → All2 R xs ys
  | [], [], _, _ => trivial
  | x :: xs, y :: ys, hl, h => ⟨h 0 x y rfl rfl, All2.of (by simpa using hl) fun i a b ha hb => h (i + 1) a b (by simpa using ha) (by simpa using hb)⟩
theorem open_bytes1 {T : Type} {enc : TypeId × Value → T} {P : Program} {w : World} {base : Nat} {spare : Nat → Bool} {held : Bool} {t e : TypeId} {fuel : Nat} {a : Option Addr} {len cap : Nat} {x : DataW T} {pl : List MemPlace}
    (ht : P.underlying t = some (.slice e)) (he : P.underlying e = some (.int .u8)) (hc : P.cellsOf e = 1) (h : DataW.trod enc P w base spare held fuel t [.slice a len cap] = some (x, pl)) :
    ∃ ys : List UInt8, RowAt (heapOf w) a (u8s ys) ∧ ys.length = len ∧ len ≤ cap ∧ len + 1 ≤ Rows.uptoBulk x := by
  obtain ⟨ys, h1, h2, h3, h4⟩ := open_bytes ht he hc h
  refine ⟨ys, h1, h2, h3, ?_⟩
  rcases DataW.trod_slice ht h with ⟨hcs, hx⟩ | ⟨_, _, _, elems, rest, _, _, hcs, hx, _, _, _, hlen, _⟩
  · cases hcs; obtain ⟨rfl, rfl⟩ := Prod.mk.inj hx; simp [Rows.uptoBulk]
  · cases hcs
    obtain ⟨rfl, rfl⟩ := Prod.mk.inj hx
    have := slice_le (elems.map (·.1)) (rest.map (·.1))
    rw [List.length_map, hlen] at this
    omega
theorem sum_bulk {T : Type} : ∀ (ls : List (List UInt8)) (es : List (DataW T × List MemPlace)), ls.length = es.length → (∀ (i : Nat) (l : List UInt8) (y : DataW T × List MemPlace), ls[i]? = some l → es[i]? = some y → List.length l + 1 ≤ Rows.uptoBulk y.1) → (ls.map List.length).sum + es.length ≤ Rows.uptoBulkAll (es.map (·.1))
  | [], [], _, _ => by simp [Rows.uptoBulkAll]
  | l :: ls, y :: es, hl, h => by
    have h1 := h 0 l y rfl rfl
    have h2 := sum_bulk ls es (by simpa using hl) fun i a b ha hb => h (i + 1) a b (by simpa using ha) (by simpa using hb)
    simp only [List.map_cons, List.sum_cons, List.length_cons, Rows.uptoBulkAll]
    omega
/-- An argument: a slice of slices of bytes. -/
theorem open_lists {T : Type} {enc : TypeId × Value → T} {P : Program} {w : World} {base : Nat} {spare : Nat → Bool} {held : Bool} {s t e : TypeId} {fuel : Nat} {a : Option Addr} {len cap : Nat} {x : DataW T} {pl : List MemPlace}
    (hs : P.underlying s = some (.slice t)) (hct : P.cellsOf t = 1) (ht : P.underlying t = some (.slice e)) (he : P.underlying e = some (.int .u8)) (hc : P.cellsOf e = 1) (h : DataW.trod enc P w base spare held fuel s [.slice a len cap] = some (x, pl)) :
    ∃ (vs : List Value) (ls : List (List UInt8)), RowAt (heapOf w) a vs ∧ vs.length = len ∧ ls.length = len ∧ len ≤ cap ∧
      (∀ (i : Nat) (v : Value) (l : List UInt8), vs[i]? = some v → ls[i]? = some l → ∃ b c, v = .slice b l.length c ∧ l.length ≤ c ∧ RowAt (heapOf w) b (u8s l)) ∧
      (ls.map List.length).sum + len ≤ Rows.uptoBulk x := by
  rcases DataW.trod_slice hs h with ⟨hcs, _⟩ | ⟨p, len', cap', elems, rest, n, _, hcs, hx, _, hl, _, hlen, hel, _, _⟩
  · cases hcs
    exact ⟨[], [], RowAt.nil _ _, rfl, rfl, Nat.zero_le _, fun i v l h => by simp at h, Nat.zero_le _⟩
  · cases hcs
    obtain ⟨vs, ls, h1, h2, h3⟩ := exists_lists (Q := fun i v l => w.cell? (p.add i) = some v ∧ (∀ y, elems[i]? = some y → List.length l + 1 ≤ Rows.uptoBulk y.1) ∧ ∃ b c, v = .slice b (List.length l) c ∧ List.length l ≤ c ∧ RowAt (heapOf w) b (u8s l)) len (fun i hi => by
      have h4 := hel i hi
      rw [hct, Nat.mul_one] at h4
      cases hv : elems[i]? with
      | none => rw [List.getElem?_eq_none_iff] at hv; omega
      | some y =>
        rw [hv] at h4
        unfold World.cells? at h4
        split at h4
        · cases hcell : w.cell? (p.add i) with
          | none =>
            have e0 : (p.add i).add 0 = p.add i := by unfold Addr.add; simp
            simp [List.range_succ, e0, hcell] at h4
          | some v =>
            have e0 : (p.add i).add 0 = p.add i := by unfold Addr.add; simp
            simp [List.range_succ, e0, hcell] at h4
            have hv' : ∃ b l c, v = .slice b l c := by
              rcases DataW.trod_slice ht h4 with ⟨hcs, _⟩ | ⟨_, _, _, _, _, _, _, hcs, _⟩
              · cases hcs; exact ⟨_, _, _, rfl⟩
              · cases hcs; exact ⟨_, _, _, rfl⟩
            obtain ⟨b, l, c, rfl⟩ := hv'
            obtain ⟨d, ps⟩ := y
            obtain ⟨ys, hr, hyl, hle, hbk⟩ := open_bytes1 ht he hc h4
            exact ⟨_, ys, rfl, fun y' hy' => (by cases hy'; rw [hyl]; exact hbk), b, c, by rw [hyl], by omega, hr⟩
        · cases h4)
    refine ⟨vs, ls, rowAt_of fun i v hi => ?_, h1, h2, hl, fun i v l hv hll => (h3 i v l hv hll).2.2, ?_⟩
    rotate_left
    · obtain ⟨rfl, rfl⟩ := Prod.mk.inj hx
      show (ls.map List.length).sum + len ≤ Rows.uptoBulk (DataW.slice _ _)
      simp only [Rows.uptoBulk]
      have := sum_bulk ls elems (by omega) fun i l y hl' hy => by
        obtain ⟨v, hv⟩ : ∃ v, vs[i]? = some v := by
          have := (List.getElem?_eq_some_iff.1 hl').1
          exact ⟨vs[i]'(by omega), by simp⟩
        exact (h3 i v l hv hl').2.1 y hy
      omega
    have hi' := (List.getElem?_eq_some_iff.1 hi).1
    obtain ⟨l, hll⟩ : ∃ l, ls[i]? = some l := ⟨ls[i]'(by omega), by simp⟩
    exact (h3 i v l hi hll).1
end Go.Proofs.Ytaobgofbhommcaa.Hv
