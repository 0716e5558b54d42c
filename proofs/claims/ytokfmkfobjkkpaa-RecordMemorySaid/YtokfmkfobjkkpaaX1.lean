import Derived.Test.YtokfmkfobjkkpaaL4
namespace Go.Proofs.Ytokfmkfobjkkpaa
open Go Hv Go.ChangeShapes Go.WideShapes Go.ChangeAt Go.RowKit
set_option linter.unusedVariables false
set_option linter.unusedSimpArgs false
set_option maxRecDepth 10000
set_option maxHeartbeats 1000000
/-! A list of Plain, opened -/
structure PlA where
  x : Plain
  a : Option Addr
  c : Nat
def PlA.cells (p : PlA) : List Value := p.x.cells p.a p.c
structure PlOk (H : Heap) (p : PlA) : Prop where
  row : RowAt H p.a (txts p.x.ks)
  n : p.x.ks.length ≤ 9000000000000000000
  id : p.x.id < 18446744073709551616
def plV : List PlA → List Value
  | [] => []
  | p :: l => p.cells ++ plV l
theorem plV_split : ∀ {l : List PlA} {idx : Nat} {v : Value}, (plV l)[idx]? = some v → ∃ i k p, idx = i * 5 + k ∧ l[i]? = some p ∧ p.cells[k]? = some v
  | [], idx, v, h => by simp [plV] at h
  | p :: l, idx, v, h => by
    have e : p.cells.length = 5 := rfl
    by_cases hi : idx < 5
    · have h : (p.cells ++ plV l)[idx]? = some v := h
      rw [List.getElem?_append_left (by rw [e]; exact hi)] at h
      exact ⟨0, idx, p, by omega, rfl, h⟩
    · have h : (p.cells ++ plV l)[idx]? = some v := h
      rw [List.getElem?_append_right (by rw [e]; omega), e] at h
      obtain ⟨i, k, q, h1, h2, h3⟩ := plV_split h
      exact ⟨i + 1, k, q, by omega, by simpa using h2, h3⟩
theorem plV_get : ∀ {l : List PlA} {i : Nat} {p : PlA}, l[i]? = some p → ∀ (k : Nat) v, p.cells[k]? = some v → (plV l)[i * 5 + k]? = some v
  | [], i, q, h => by simp at h
  | p :: qs, 0, q, h => fun k v hk => by
    simp at h; subst h
    have : k < p.cells.length := (List.getElem?_eq_some_iff.1 hk).1
    show (p.cells ++ plV qs)[0 * 5 + k]? = _
    rw [Nat.zero_mul, Nat.zero_add, List.getElem?_append_left this]; exact hk
  | p :: qs, i + 1, q, h => fun k v hk => by
    have ih := plV_get (l := qs) (i := i) (p := q) (by simpa using h) k v hk
    have e : p.cells.length = 5 := rfl
    show (p.cells ++ plV qs)[(i + 1) * 5 + k]? = _
    rw [List.getElem?_append_right (by rw [e]; omega), e]
    have e2 : (i + 1) * 5 + k - 5 = i * 5 + k := by omega
    rw [e2]; exact ih
theorem bulk_mem {H : Type} : ∀ {l : List (DataW H)} {d : DataW H}, d ∈ l → Rows.uptoBulk d ≤ Rows.uptoBulkAll l
  | [], d, h => by simp at h
  | x :: l, d, h => by
    simp only [Rows.uptoBulkAll]
    rcases List.mem_cons.1 h with rfl | h
    · omega
    · have := bulk_mem h; omega
theorem list5 {α : Type} {l : List α} (h : l.length = 5) : ∃ a b c d e, l = [a, b, c, d, e] := by
  match l, h with
  | [a, b, c, d, e], _ => exact ⟨a, b, c, d, e, rfl⟩
theorem open_plainsU {T : Type} {enc : TypeId × Value → T} {w : World} {base : Nat} {spare : Nat → Bool} {held : Bool} {fuel : Nat} {a : Option Addr} {len cap : Nat} {x : DataW T} {pl : List MemPlace}
    (h : DataW.trod enc Try.prog w base spare held fuel 57 [.slice a len cap] = some (x, pl)) (hb : Rows.uptoBulk x ≤ 1048576) :
    ∃ ps : List PlA, RowAt (heapOf w) a (plV ps) ∧ ps.length = len ∧ len ≤ cap ∧ (∀ o ∈ ps, PlOk (heapOf w) o) ∧ len ≤ 1048576 := by
  rcases DataW.trod_slice Try.underlying57 h with ⟨hcs, hx⟩ | ⟨p, len', cap', elems, rest, n, _, hcs, hx, _, hl, _, hlen, hel, _, _⟩
  · cases hcs
    exact ⟨[], RowAt.nil _ _, rfl, Nat.le_refl _, fun o ho => by simp at ho, Nat.zero_le _⟩
  · cases hcs
    obtain ⟨rfl, rfl⟩ := Prod.mk.inj hx
    have hc40 : Try.prog.cellsOf 40 = 5 := by kernel_rfl
    have hle := slice_le (elems.map (·.1)) (rest.map (·.1))
    rw [List.length_map] at hle
    have hall : ∀ (i : Nat) y, elems[i]? = some y → Rows.uptoBulk y.1 ≤ 1048576 := fun i y hy => by
      have := bulk_mem (List.mem_map.2 ⟨y, List.mem_of_getElem? hy, rfl⟩ : y.1 ∈ elems.map (·.1))
      have e : Rows.uptoBulk (DataW.slice (elems.map (·.1)) (rest.map (·.1))) ≤ 1048576 := hb
      simp only [Rows.uptoBulk] at e
      omega
    obtain ⟨ops, hol, hoq⟩ := exists_list (Q := fun i o => (∀ (k : Nat) v, (PlA.cells o)[k]? = some v → w.cell? (p.add (i * 5 + k)) = some v) ∧ PlOk (heapOf w) o) len (fun i hi => by
      have h4 := hel i hi
      rw [hc40] at h4
      cases hv : elems[i]? with
      | none => rw [List.getElem?_eq_none_iff] at hv; omega
      | some y =>
        rw [hv] at h4
        obtain ⟨cs, hcs, htr⟩ := Option.bind_eq_some_iff.1 h4
        obtain ⟨hcl, hcg⟩ := cells_get hcs
        obtain ⟨c0, c1, c2, c3, c4, rfl⟩ := list5 hcl
        obtain ⟨parts, hd, fl⟩ := trod_field Try.underlying40 htr
        obtain ⟨n0, y0, pt0, tr0⟩ := fl 0 _ c0 rfl (by kernel_rfl) rfl
        obtain ⟨z0, he0, _⟩ := DataW.trod_bool Try.underlying4 tr0
        cases he0
        obtain ⟨n1, y1, pt1, tr1⟩ := fl 1 _ c1 rfl (by kernel_rfl) rfl
        obtain ⟨z1, he1, _, w1⟩ := DataW.trod_int Try.underlying22 tr1
        cases he1
        obtain ⟨v1, hv1, rfl⟩ := u64_wf w1
        obtain ⟨n2, y2, pt2, tr2⟩ := fl 2 _ c2 rfl (by kernel_rfl) rfl
        obtain ⟨ab, nb, cb, rfl⟩ := trod_slice1 Try.underlying25 tr2
        obtain ⟨l2, r2, e2, q2, b2⟩ := open_textsU (x := y2.1) (pl := y2.2) Try.underlying25 Try.underlying9 (by kernel_rfl) tr2
        subst e2
        obtain ⟨n3, y3, pt3, tr3⟩ := fl 3 _ c3 rfl (by kernel_rfl) rfl
        obtain ⟨z3, he3, _, w3⟩ := DataW.trod_int Try.underlying22 tr3
        cases he3
        obtain ⟨v3, hv3, rfl⟩ := u64_wf w3
        obtain ⟨n4, y4, pt4, tr4⟩ := fl 4 _ c4 rfl (by kernel_rfl) rfl
        obtain ⟨s4, rfl⟩ := open_stringU Try.underlying9 tr4
        have hd' : y.1 = .agg parts := hd
        have hy := hall i y hv
        rw [hd'] at hy
        have hm := bulk_mem (List.mem_of_getElem? pt2)
        simp only [Rows.uptoBulk] at hy
        refine ⟨⟨⟨z0, v1, l2, v3, s4⟩, ab, cb⟩, fun k v hk => ?_, ⟨r2, by show l2.length ≤ _; omega, hv1⟩⟩
        have := hcg k v hk
        rw [Addr.add_add] at this; exact this)
    refine ⟨ops, rowAt_of fun idx v hv => ?_, hol, hl, fun o ho => ?_, ?_⟩
    · obtain ⟨i, k, o, rfl, h2, h3⟩ := plV_split hv
      exact (hoq i o h2).1 k v h3
    · obtain ⟨i, hi⟩ := List.getElem?_of_mem ho
      exact (hoq i o hi).2
    · have e : Rows.uptoBulk (DataW.slice (elems.map (·.1)) (rest.map (·.1))) ≤ 1048576 := hb
      omega
end Go.Proofs.Ytokfmkfobjkkpaa
