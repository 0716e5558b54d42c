import Derived.Test.YtaobgofbhommcaaRw5
namespace Go.Proofs.Ytaobgofbhommcaa.Hv
open Go Go.ChangeShapes Go.WideShapes Go.ChangeAt Go.RowKit
set_option linter.unusedVariables false
set_option linter.unusedSimpArgs false
/-! An argument: a slice of strings. -/
def textsV (ls : List (List UInt8)) : List Value := ls.map fun l => Value.string (bs l)
theorem open_texts {T : Type} {enc : TypeId × Value → T} {P : Program} {w : World} {base : Nat} {spare : Nat → Bool} {held : Bool} {ts : List TypeId} {ds : List (DataW T)} {j : Nat} {t e : TypeId} {fuel : Nat} {a : Option Addr} {len cap : Nat} {x : DataW T} {pl : List MemPlace}
    (ht : P.underlying t = some (.slice e)) (he : P.underlying e = some .string) (hc : P.cellsOf e = 1) (hb : P.bytesOf e = 16)
    (hz : (DataW.weightsEach P ts ds).all (· ≤ reachBytes) = true) (hts : ts[j]? = some t) (hds : ds[j]? = some x) (h : DataW.trod enc P w base spare held fuel t [.slice a len cap] = some (x, pl)) :
    ∃ ls : List (List UInt8), RowAt (heapOf w) a (textsV ls) ∧ ls.length = len ∧ len ≤ cap ∧ (∀ l ∈ ls, l.length ≤ 140737488351232) ∧ len ≤ 8796093021952 := by
  rcases DataW.trod_slice ht h with ⟨hcs, hx⟩ | ⟨p, len', cap', elems, rest, n, _, hcs, hx, _, hl, _, hlen, hel, _, _⟩
  · cases hcs
    exact ⟨[], RowAt.nil _ _, rfl, Nat.le_refl _, fun o ho => by simp at ho, Nat.zero_le _⟩
  · cases hcs
    obtain ⟨rfl, rfl⟩ := Prod.mk.inj hx
    obtain ⟨ls, hol, hoq⟩ := exists_list (Q := fun i l => w.cell? (p.add i) = some (.string (bs l)) ∧ List.length l ≤ 140737488351232) len (fun i hi => by
      have h4 := hel i hi
      rw [hc, Nat.mul_one] at h4
      cases hv : elems[i]? with
      | none => rw [List.getElem?_eq_none_iff] at hv; omega
      | some y =>
        rw [hv] at h4
        obtain ⟨cs, hcs, htr⟩ := Option.bind_eq_some_iff.1 h4
        obtain ⟨hcl, hcg⟩ := cells_get hcs
        obtain ⟨c0, rfl⟩ : ∃ c0, cs = [c0] := by
          match cs, hcl with
          | [c0], _ => exact ⟨c0, rfl⟩
        obtain ⟨s, hs, hy, hm⟩ := DataW.trod_string he htr
        have h5 := hcg 0 c0 rfl
        have e0 : (p.add i).add 0 = p.add i := by unfold Addr.add; simp
        rw [e0] at h5
        cases hs
        refine ⟨s.data.toList, ?_, ?_⟩
        · rw [h5]
          show some (Value.string s) = some (Value.string ⟨s.data.toList.toArray⟩)
          rw [Array.toArray_toList]
        · have := sized_elem hz hts hds ht (i := i) (d := y.1) (by rw [List.getElem?_map, hv]; rfl) s.data.toList.length (by rw [hy]; simp [DataW.weights])
          exact this)
    refine ⟨ls, rowAt_of fun i v hi => ?_, hol, hl, fun o ho => ?_, ?_⟩
    · unfold textsV at hi
      rw [List.getElem?_map] at hi
      cases hli : ls[i]? with
      | none => rw [hli] at hi; cases hi
      | some l => rw [hli] at hi; cases hi; exact (hoq i l hli).1
    · obtain ⟨i, hi⟩ := List.getElem?_of_mem ho
      exact (hoq i o hi).2
    · have := sized_slice hz hts hds ht
      rw [hb, List.length_map, List.length_map, hlen] at this
      have hr : reachBytes = 140737488351232 := rfl
      omega
end Go.Proofs.Ytaobgofbhommcaa.Hv
