import Derived.Test.YtefmplilhbbiaaaN15
import Derived.Test.YtefmplilhbbiaaaRw5
namespace Go.Proofs.Ytefmplilhbbiaaa
open Go Go.ChangeShapes Go.WideShapes Go.ChangeAt Go.RowKit Hv
set_option linter.unusedVariables false
set_option maxRecDepth 10000
theorem orow_split : ∀ {l : List Opr} {idx : Nat} {v : Value}, (orow l)[idx]? = some v → ∃ i k o, idx = i * 5 + k ∧ l[i]? = some o ∧ (ocells o)[k]? = some v
  | [], idx, v, h => by simp [orow] at h
  | o :: l, idx, v, h => by
    have h : (ocells o ++ orow l)[idx]? = some v := h
    by_cases hi : idx < 5
    · rw [List.getElem?_append_left (by show idx < 5; exact hi)] at h
      exact ⟨0, idx, o, by omega, rfl, h⟩
    · rw [List.getElem?_append_right (by show 5 ≤ idx; omega)] at h
      obtain ⟨i, k, o', h1, h2, h3⟩ := orow_split h
      have h1 : idx - 5 = i * 5 + k := h1
      exact ⟨i + 1, k, o', by omega, by simpa using h2, h3⟩
theorem open_ops {T : Type} {enc : TypeId × Value → T} {w : World} {base : Nat} {spare : Nat → Bool} {held : Bool} {ts : List TypeId} {ds : List (DataW T)} {j fuel : Nat} {a : Option Addr} {len cap : Nat} {x : DataW T} {pl : List MemPlace}
    (hz : (DataW.weightsEach Try.prog ts ds).all (· ≤ reachBytes) = true) (hts : ts[j]? = some 45) (hds : ds[j]? = some x) (h : DataW.trod enc Try.prog w base spare held fuel 45 [.slice a len cap] = some (x, pl)) :
    ∃ ops : List Opr, RowAt (heapOf w) a (orow ops) ∧ ops.length = len ∧ (∀ o ∈ ops, OprOk (heapOf w) o) ∧ len ≤ 2513169434843 := by
  rcases DataW.trod_slice Try.underlying45 h with ⟨hcs, hx⟩ | ⟨p, len', cap', elems, rest, n, _, hcs, hx, _, hl, _, hlen, hel, _, _⟩
  · cases hcs
    exact ⟨[], RowAt.nil _ _, rfl, fun o ho => by simp at ho, Nat.zero_le _⟩
  · cases hcs
    obtain ⟨rfl, rfl⟩ := Prod.mk.inj hx
    have hc52 : Try.prog.cellsOf 52 = 5 := by kernel_rfl
    have hb52 : Try.prog.bytesOf 52 = 56 := by kernel_rfl
    obtain ⟨ops, hol, hoq⟩ := exists_list (Q := fun i o => (∀ (k : Nat) v, (ocells o)[k]? = some v → w.cell? (p.add (i * 5 + k)) = some v) ∧ OprOk (heapOf w) o) len (fun i hi => by
      have h4 := hel i hi
      rw [hc52] at h4
      cases hv : elems[i]? with
      | none => rw [List.getElem?_eq_none_iff] at hv; omega
      | some y =>
        rw [hv] at h4
        obtain ⟨cs, hcs, htr⟩ := Option.bind_eq_some_iff.1 h4
        obtain ⟨hcl, hcg⟩ := cells_get hcs
        obtain ⟨c0, c1, c2, c3, c4, rfl⟩ := list5 hcl
        obtain ⟨parts, hd, fl⟩ := trod_field Try.underlying52 htr
        have hz5 := sized_elem_struct hz hts hds Try.underlying45 (i := i) (parts := parts) (by rw [List.getElem?_map, hv, ← hd]; rfl) Try.underlying52
        obtain ⟨n0, y0, pt0, tr0⟩ := fl 0 _ c0 rfl (by kernel_rfl) rfl
        obtain ⟨z0, he0, _, _⟩ := DataW.trod_int Try.underlying3 tr0
        cases he0
        obtain ⟨n1, y1, pt1, tr1⟩ := fl 1 _ c1 rfl (by kernel_rfl) rfl
        obtain ⟨z1, he1, _, _⟩ := DataW.trod_int Try.underlying3 tr1
        cases he1
        obtain ⟨n2, y2, pt2, tr2⟩ := fl 2 _ c2 rfl (by kernel_rfl) rfl
        obtain ⟨z2, he2, _, _⟩ := DataW.trod_int Try.underlying3 tr2
        cases he2
        obtain ⟨n3, y3, pt3, tr3⟩ := fl 3 _ c3 rfl (by kernel_rfl) rfl
        obtain ⟨z3, he3, _, _⟩ := DataW.trod_int Try.underlying3 tr3
        cases he3
        obtain ⟨n4, y4, pt4, tr4⟩ := fl 4 _ c4 rfl (by kernel_rfl) rfl
        obtain ⟨ab, nb, cb, rfl⟩ := trod_slice1 Try.underlying22 tr4
        obtain ⟨ys, r4, l4, c4', b4⟩ := open_sized (j := 4) Try.underlying22 Try.underlying5 (by kernel_rfl) (by kernel_rfl) hz5 rfl pt4 tr4
        exact ⟨⟨z0, z1, z2, z3, ab, nb, cb, ys⟩, fun k v hk => by
          have := hcg k v hk
          rw [Addr.add_add] at this; exact this, r4, l4, b4⟩)
    refine ⟨ops, rowAt_of fun idx v hv => ?_, hol, fun o ho => ?_, ?_⟩
    · obtain ⟨i, k, o, rfl, h2, h3⟩ := orow_split hv
      exact (hoq i o h2).1 k v h3
    · obtain ⟨i, hi⟩ := List.getElem?_of_mem ho
      exact (hoq i o hi).2
    · have := sized_slice hz hts hds Try.underlying45
      rw [hb52, List.length_map, List.length_map, hlen] at this
      have hr : reachBytes = 140737488351232 := rfl
      omega
end Go.Proofs.Ytefmplilhbbiaaa
