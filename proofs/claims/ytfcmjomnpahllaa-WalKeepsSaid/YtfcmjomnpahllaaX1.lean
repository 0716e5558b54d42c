import Derived.Test.YtfcmjomnpahllaaRwA
import Derived.Test.YtfcmjomnpahllaaW6
namespace Go.Proofs.Ytfcmjomnpahllaa
open Go Hv Go.ChangeShapes Go.WideShapes Go.ChangeAt Go.RowKit
set_option linter.unusedVariables false
set_option linter.unusedSimpArgs false
set_option maxRecDepth 10000
set_option maxHeartbeats 1000000
/-! A record and a list of records, opened -/
theorem u64_wf {n : Int} (h : (Lit.int .u64 n).wf = true) : ∃ m : Nat, m < 18446744073709551616 ∧ n = (m : Int) := by
  have h : IntKind.u64.min ≤ n ∧ n ≤ IntKind.u64.max := by simpa [Lit.wf] using h
  have h1 : IntKind.u64.min = 0 := by decide
  have h2 : IntKind.u64.max = 18446744073709551615 := by decide
  exact ⟨n.toNat, by omega, by omega⟩
theorem open_stringU {H : Type} {enc : TypeId × Value → H} {P : Program} {w : World} {base : Nat} {spare : Nat → Bool} {held : Bool} {fuel : Nat} {t : TypeId} {v : Value} {x : DataW H × List MemPlace} (ht : P.underlying t = some .string)
    (h : DataW.trod enc P w base spare held fuel t [v] = some x) : ∃ l : List UInt8, v = .string (bs l) := by
  obtain ⟨s, hs, rfl, hm⟩ := DataW.trod_string ht h
  refine ⟨s.data.toList, ?_⟩
  cases hs
  show Value.string s = Value.string ⟨s.data.toList.toArray⟩
  rw [Array.toArray_toList]
def pcells (p : Txt × Txt) : List Value := [.string (bs p.1), .string (bs p.2)]
def wcells (p : Txt × Nat) : List Value := [.string (bs p.1), .int .u64 (p.2 : Int)]
theorem pairsV_split : ∀ {l : List (Txt × Txt)} {idx : Nat} {v : Value}, (pairsV l)[idx]? = some v → ∃ i k p, idx = i * 2 + k ∧ l[i]? = some p ∧ (pcells p)[k]? = some v
  | [], idx, v, h => by simp [pairsV] at h
  | p :: l, idx, v, h => by
    have e : (pcells p).length = 2 := rfl
    have h : (pcells p ++ pairsV l)[idx]? = some v := h
    by_cases hi : idx < 2
    · rw [List.getElem?_append_left (by rw [e]; exact hi)] at h
      exact ⟨0, idx, p, by omega, rfl, h⟩
    · rw [List.getElem?_append_right (by rw [e]; omega), e] at h
      obtain ⟨i, k, q, h1, h2, h3⟩ := pairsV_split h
      exact ⟨i + 1, k, q, by omega, by simpa using h2, h3⟩
theorem recsV_split : ∀ {l : List PRec} {idx : Nat} {v : Value}, (recsV l)[idx]? = some v → ∃ i k p, idx = i * 4 + k ∧ l[i]? = some p ∧ (PRec.cells p)[k]? = some v
  | [], idx, v, h => by simp [recsV] at h
  | p :: l, idx, v, h => by
    have e : (PRec.cells p).length = 4 := rfl
    have h : (PRec.cells p ++ recsV l)[idx]? = some v := h
    by_cases hi : idx < 4
    · rw [List.getElem?_append_left (by rw [e]; exact hi)] at h
      exact ⟨0, idx, p, by omega, rfl, h⟩
    · rw [List.getElem?_append_right (by rw [e]; omega), e] at h
      obtain ⟨i, k, q, h1, h2, h3⟩ := recsV_split h
      exact ⟨i + 1, k, q, by omega, by simpa using h2, h3⟩
theorem list2 {α : Type} {l : List α} (h : l.length = 2) : ∃ a b, l = [a, b] := by
  match l, h with
  | [a, b], _ => exact ⟨a, b, rfl⟩
theorem list4 {α : Type} {l : List α} (h : l.length = 4) : ∃ a b c d, l = [a, b, c, d] := by
  match l, h with
  | [a, b, c, d], _ => exact ⟨a, b, c, d, rfl⟩
section
variable {T : Type} {enc : TypeId × Value → T} {w : World} {base : Nat} {spare : Nat → Bool} {held : Bool} {ts : List TypeId} {ds : List (DataW T)} {j fuel : Nat} {a : Option Addr} {len cap : Nat} {x : DataW T} {pl : List MemPlace}
theorem open_pairs (hz : (DataW.weightsEach Try.prog ts ds).all (· ≤ reachBytes) = true) (hts : ts[j]? = some 25) (hds : ds[j]? = some x) (h : DataW.trod enc Try.prog w base spare held fuel 25 [.slice a len cap] = some (x, pl)) :
    ∃ ps : List (Txt × Txt), RowAt (heapOf w) a (pairsV ps) ∧ ps.length = len ∧ len ≤ cap ∧ len ≤ 4398046510976 := by
  rcases DataW.trod_slice Try.underlying25 h with ⟨hcs, hx⟩ | ⟨p, len', cap', elems, rest, n, _, hcs, hx, _, hl, _, hlen, hel, _, _⟩
  · cases hcs
    exact ⟨[], RowAt.nil _ _, rfl, Nat.le_refl _, Nat.zero_le _⟩
  · cases hcs
    obtain ⟨rfl, rfl⟩ := Prod.mk.inj hx
    have hc : Try.prog.cellsOf 50 = 2 := by kernel_rfl
    have hb : Try.prog.bytesOf 50 = 32 := by kernel_rfl
    obtain ⟨ps, hol, hoq⟩ := exists_list (Q := fun i o => (∀ (k : Nat) v, (pcells o)[k]? = some v → w.cell? (p.add (i * 2 + k)) = some v)) len (fun i hi => by
      have h4 := hel i hi
      rw [hc] at h4
      cases hv : elems[i]? with
      | none => rw [List.getElem?_eq_none_iff] at hv; omega
      | some y =>
        rw [hv] at h4
        obtain ⟨cs, hcs, htr⟩ := Option.bind_eq_some_iff.1 h4
        obtain ⟨hcl, hcg⟩ := cells_get hcs
        obtain ⟨c0, c1, rfl⟩ := list2 hcl
        obtain ⟨parts, hd, fl⟩ := trod_field Try.underlying50 htr
        obtain ⟨n0, y0, pt0, tr0⟩ := fl 0 _ c0 rfl (by kernel_rfl) rfl
        obtain ⟨s0, rfl⟩ := open_stringU Try.underlying9 tr0
        obtain ⟨n1, y1, pt1, tr1⟩ := fl 1 _ c1 rfl (by kernel_rfl) rfl
        obtain ⟨s1, rfl⟩ := open_stringU Try.underlying9 tr1
        refine ⟨(s0, s1), fun k v hk => ?_⟩
        have := hcg k v hk
        rw [Addr.add_add] at this; exact this)
    refine ⟨ps, rowAt_of fun idx v hv => ?_, hol, hl, ?_⟩
    · obtain ⟨i, k, o, rfl, h2, h3⟩ := pairsV_split hv
      exact hoq i o h2 k v h3
    · have := sized_slice hz hts hds Try.underlying25
      rw [hb, List.length_map, List.length_map, hlen] at this
      have hr : reachBytes = 140737488351232 := rfl
      omega
theorem open_rec {cs : List Value} (hz : (DataW.weightsEach Try.prog ts ds).all (· ≤ reachBytes) = true) (hts : ts[j]? = some 28) (hds : ds[j]? = some x) (hl : cs.length = 4) (h : DataW.trod enc Try.prog w base spare held fuel 28 cs = some (x, pl)) :
    ∃ m : PRec, cs = m.cells ∧ RecIn (heapOf w) m.r m.ap m.ak ∧ m.r.id < 18446744073709551616 := by
  obtain ⟨c0, c1, c2, c3, rfl⟩ := list4 hl
  obtain ⟨parts, hd, fl⟩ := trod_field Try.underlying28 h
  have hd : x = .agg parts := hd
  have hze := sized_struct hz hts (by rw [hds, hd]) Try.underlying28
  obtain ⟨n0, y0, pt0, tr0⟩ := fl 0 _ c0 rfl (by kernel_rfl) rfl
  obtain ⟨z0, he0, _, w0⟩ := DataW.trod_int Try.underlying3 tr0
  cases he0
  obtain ⟨n1, y1, pt1, tr1⟩ := fl 1 _ c1 rfl (by kernel_rfl) rfl
  obtain ⟨z1, he1, _, w1⟩ := DataW.trod_int Try.underlying24 tr1
  cases he1
  obtain ⟨v1, hv1, rfl⟩ := u64_wf w1
  obtain ⟨n2, y2, pt2, tr2⟩ := fl 2 _ c2 rfl (by kernel_rfl) rfl
  obtain ⟨a2, l2, q2, rfl⟩ := trod_slice1 Try.underlying25 tr2
  obtain ⟨ps, r2, e2, _, b2⟩ := open_pairs (j := 2) (x := y2.1) (pl := y2.2) hze rfl pt2 tr2
  subst e2
  obtain ⟨n3, y3, pt3, tr3⟩ := fl 3 _ c3 rfl (by kernel_rfl) rfl
  obtain ⟨a3, l3, q3, rfl⟩ := trod_slice1 Try.underlying26 tr3
  obtain ⟨ks, r3, e3, _, _, b3⟩ := open_texts (j := 3) (x := y3.1) (pl := y3.2) Try.underlying26 Try.underlying9 (by kernel_rfl) (by kernel_rfl) hze rfl pt3 tr3
  subst e3
  exact ⟨⟨⟨z0, v1, ps, ks⟩, a2, q2, a3, q3⟩, rfl, ⟨r2, r3, b2, b3⟩, hv1⟩
theorem open_recs (hz : (DataW.weightsEach Try.prog ts ds).all (· ≤ reachBytes) = true) (hts : ts[j]? = some 22) (hds : ds[j]? = some x) (h : DataW.trod enc Try.prog w base spare held fuel 22 [.slice a len cap] = some (x, pl)) :
    ∃ ps : List PRec, Recs (heapOf w) a ps ∧ ps.length = len ∧ len ≤ cap ∧ (∀ q ∈ ps, q.r.id < 18446744073709551616) ∧ len ≤ 2199023255488 := by
  rcases DataW.trod_slice Try.underlying22 h with ⟨hcs, hx⟩ | ⟨p, len', cap', elems, rest, n, _, hcs, hx, _, hl, _, hlen, hel, _, _⟩
  · cases hcs
    exact ⟨[], ⟨RowAt.nil _ _, fun o ho => by simp at ho⟩, rfl, Nat.le_refl _, fun o ho => by simp at ho, Nat.zero_le _⟩
  · cases hcs
    obtain ⟨rfl, rfl⟩ := Prod.mk.inj hx
    have hc : Try.prog.cellsOf 28 = 4 := by kernel_rfl
    have hb : Try.prog.bytesOf 28 = 64 := by kernel_rfl
    obtain ⟨ps, hol, hoq⟩ := exists_list (Q := fun i o => (∀ (k : Nat) v, (PRec.cells o)[k]? = some v → w.cell? (p.add (i * 4 + k)) = some v) ∧ RecIn (heapOf w) (PRec.r o) o.ap o.ak ∧ o.r.id < 18446744073709551616) len (fun i hi => by
      have h4 := hel i hi
      rw [hc] at h4
      cases hv : elems[i]? with
      | none => rw [List.getElem?_eq_none_iff] at hv; omega
      | some y =>
        rw [hv] at h4
        obtain ⟨cs, hcs, htr⟩ := Option.bind_eq_some_iff.1 h4
        obtain ⟨hcl, hcg⟩ := cells_get hcs
        obtain ⟨c0, c1, c2, c3, rfl⟩ := list4 hcl
        obtain ⟨parts, hd, fl⟩ := trod_field Try.underlying28 htr
        have hze := sized_elem_struct hz hts hds Try.underlying22 (i := i) (parts := parts) (by rw [List.getElem?_map, hv, ← hd]; rfl) Try.underlying28
        obtain ⟨n0, y0, pt0, tr0⟩ := fl 0 _ c0 rfl (by kernel_rfl) rfl
        obtain ⟨z0, he0, _, w0⟩ := DataW.trod_int Try.underlying3 tr0
        cases he0
        obtain ⟨n1, y1, pt1, tr1⟩ := fl 1 _ c1 rfl (by kernel_rfl) rfl
        obtain ⟨z1, he1, _, w1⟩ := DataW.trod_int Try.underlying24 tr1
        cases he1
        obtain ⟨v1, hv1, rfl⟩ := u64_wf w1
        obtain ⟨n2, y2, pt2, tr2⟩ := fl 2 _ c2 rfl (by kernel_rfl) rfl
        obtain ⟨a2, l2, q2, rfl⟩ := trod_slice1 Try.underlying25 tr2
        obtain ⟨ps, r2, e2, _, b2⟩ := open_pairs (j := 2) (x := y2.1) (pl := y2.2) hze rfl pt2 tr2
        subst e2
        obtain ⟨n3, y3, pt3, tr3⟩ := fl 3 _ c3 rfl (by kernel_rfl) rfl
        obtain ⟨a3, l3, q3, rfl⟩ := trod_slice1 Try.underlying26 tr3
        obtain ⟨ks, r3, e3, _, _, b3⟩ := open_texts (j := 3) (x := y3.1) (pl := y3.2) Try.underlying26 Try.underlying9 (by kernel_rfl) (by kernel_rfl) hze rfl pt3 tr3
        subst e3
        refine ⟨⟨⟨z0, v1, ps, ks⟩, a2, q2, a3, q3⟩, fun k v hk => ?_, ⟨r2, r3, b2, b3⟩, hv1⟩
        have := hcg k v hk
        rw [Addr.add_add] at this; exact this)
    refine ⟨ps, ⟨rowAt_of fun idx v hv => ?_, fun o ho => ?_⟩, hol, hl, fun o ho => ?_, ?_⟩
    · obtain ⟨i, k, o, rfl, h2, h3⟩ := recsV_split hv
      exact (hoq i o h2).1 k v h3
    · obtain ⟨i, hi⟩ := List.getElem?_of_mem ho
      exact (hoq i o hi).2.1
    · obtain ⟨i, hi⟩ := List.getElem?_of_mem ho
      exact (hoq i o hi).2.2
    · have := sized_slice hz hts hds Try.underlying22
      rw [hb, List.length_map, List.length_map, hlen] at this
      have hr : reachBytes = 140737488351232 := rfl
      omega
end
end Go.Proofs.Ytfcmjomnpahllaa
