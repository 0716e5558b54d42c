import Derived.Test.YtokfmkfobjkkpaaL4
namespace Go.Proofs.Ytokfmkfobjkkpaa
open Go Hv Go.ChangeShapes Go.WideShapes Go.ChangeAt Go.RowKit
set_option linter.unusedVariables false
set_option linter.unusedSimpArgs false
set_option maxRecDepth 10000
set_option maxHeartbeats 1000000
/-! A list of pairs, opened -/
def pcells (p : Txt × Txt) : List Value := [.string (bs p.1), .string (bs p.2)]
theorem pairsV_split : ∀ {l : List (Txt × Txt)} {idx : Nat} {v : Value}, (pairsV l)[idx]? = some v → ∃ i k p, idx = i * 2 + k ∧ l[i]? = some p ∧ (pcells p)[k]? = some v
  | [], idx, v, h => by simp [pairsV] at h
  | p :: l, idx, v, h => by
    have e : (pcells p).length = 2 := rfl
    have h : (pcells p ++ pairsV l)[idx]? = some v := h
    by_cases hi : idx < 2
    · rw [List.getElem?_append_left (by rw [e]; exact hi)] at h
      exact ⟨0, idx, p, by omega, rfl, h⟩
    · rw [List.getElem?_append_right (by rw [e]; omega), e] at h
      obtain ⟨i, k, q, h1, h2, h3⟩ := pairsV_split h
      exact ⟨i + 1, k, q, by omega, by simpa using h2, h3⟩
theorem list2 {α : Type} {l : List α} (h : l.length = 2) : ∃ a b, l = [a, b] := by
  match l, h with
  | [a, b], _ => exact ⟨a, b, rfl⟩
theorem open_pairs {T : Type} {enc : TypeId × Value → T} {w : World} {base : Nat} {spare : Nat → Bool} {held : Bool} {ts : List TypeId} {ds : List (DataW T)} {j fuel : Nat} {a : Option Addr} {len cap : Nat} {x : DataW T} {pl : List MemPlace}
    (hz : (DataW.weightsEach Try.prog ts ds).all (· ≤ reachBytes) = true) (hts : ts[j]? = some 24) (hds : ds[j]? = some x) (h : DataW.trod enc Try.prog w base spare held fuel 24 [.slice a len cap] = some (x, pl)) :
    ∃ ps : List (Txt × Txt), RowAt (heapOf w) a (pairsV ps) ∧ ps.length = len ∧ len ≤ cap ∧ len ≤ 4398046510976 := by
  rcases DataW.trod_slice Try.underlying24 h with ⟨hcs, hx⟩ | ⟨p, len', cap', elems, rest, n, _, hcs, hx, _, hl, _, hlen, hel, _, _⟩
  · cases hcs
    exact ⟨[], RowAt.nil _ _, rfl, Nat.le_refl _, Nat.zero_le _⟩
  · cases hcs
    obtain ⟨rfl, rfl⟩ := Prod.mk.inj hx
    have hc49 : Try.prog.cellsOf 49 = 2 := by kernel_rfl
    have hb49 : Try.prog.bytesOf 49 = 32 := by kernel_rfl
    obtain ⟨ps, hol, hoq⟩ := exists_list (Q := fun i o => (∀ (k : Nat) v, (pcells o)[k]? = some v → w.cell? (p.add (i * 2 + k)) = some v)) len (fun i hi => by
      have h4 := hel i hi
      rw [hc49] at h4
      cases hv : elems[i]? with
      | none => rw [List.getElem?_eq_none_iff] at hv; omega
      | some y =>
        rw [hv] at h4
        obtain ⟨cs, hcs, htr⟩ := Option.bind_eq_some_iff.1 h4
        obtain ⟨hcl, hcg⟩ := cells_get hcs
        obtain ⟨c0, c1, rfl⟩ := list2 hcl
        obtain ⟨parts, hd, fl⟩ := trod_field Try.underlying49 htr
        obtain ⟨n0, y0, pt0, tr0⟩ := fl 0 _ c0 rfl (by kernel_rfl) rfl
        obtain ⟨s0, rfl⟩ := open_stringU Try.underlying9 tr0
        obtain ⟨n1, y1, pt1, tr1⟩ := fl 1 _ c1 rfl (by kernel_rfl) rfl
        obtain ⟨s1, rfl⟩ := open_stringU Try.underlying9 tr1
        refine ⟨(s0, s1), fun k v hk => ?_⟩
        have := hcg k v hk
        rw [Addr.add_add] at this; exact this)
    refine ⟨ps, rowAt_of fun idx v hv => ?_, hol, hl, ?_⟩
    · obtain ⟨i, k, o, rfl, h2, h3⟩ := pairsV_split hv
      exact hoq i o h2 k v h3
    · have := sized_slice hz hts hds Try.underlying24
      rw [hb49, List.length_map, List.length_map, hlen] at this
      have hr : reachBytes = 140737488351232 := rfl
      omega
end Go.Proofs.Ytokfmkfobjkkpaa
