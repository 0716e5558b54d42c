import Derived.Test.YtlgncabjphokjaaRwA
import Derived.Test.YtlgncabjphokjaaG3
namespace Go.Proofs.Ytlgncabjphokjaa
open Go Hv Go.ChangeShapes Go.WideShapes Go.ChangeAt Go.RowKit
set_option linter.unusedVariables false
set_option linter.unusedSimpArgs false
set_option maxRecDepth 10000
set_option maxHeartbeats 1000000
/-! A message, opened -/
theorem u64_wf {n : Int} (h : (Lit.int .u64 n).wf = true) : ∃ m : Nat, m < 18446744073709551616 ∧ n = (m : Int) := by
  have h : IntKind.u64.min ≤ n ∧ n ≤ IntKind.u64.max := by simpa [Lit.wf] using h
  have h1 : IntKind.u64.min = 0 := by decide
  have h2 : IntKind.u64.max = 18446744073709551615 := by decide
  exact ⟨n.toNat, by omega, by omega⟩
theorem open_stringU {H : Type} {enc : TypeId × Value → H} {P : Program} {w : World} {base : Nat} {spare : Nat → Bool} {held : Bool} {fuel : Nat} {t : TypeId} {v : Value} {x : DataW H × List MemPlace} (ht : P.underlying t = some .string)
    (h : DataW.trod enc P w base spare held fuel t [v] = some x) : ∃ l : List UInt8, v = .string (bs l) := by
  obtain ⟨s, hs, rfl, hm⟩ := DataW.trod_string ht h
  refine ⟨s.data.toList, ?_⟩
  cases hs
  show Value.string s = Value.string ⟨s.data.toList.toArray⟩
  rw [Array.toArray_toList]
def pcells (p : Txt × Txt) : List Value := [.string (bs p.1), .string (bs p.2)]
def wcells (p : Txt × Nat) : List Value := [.string (bs p.1), .int .u64 (p.2 : Int)]
theorem pairsV_split : ∀ {l : List (Txt × Txt)} {idx : Nat} {v : Value}, (pairsV l)[idx]? = some v → ∃ i k p, idx = i * 2 + k ∧ l[i]? = some p ∧ (pcells p)[k]? = some v
  | [], idx, v, h => by simp [pairsV] at h
  | p :: l, idx, v, h => by
    have e : (pcells p).length = 2 := rfl
    have h : (pcells p ++ pairsV l)[idx]? = some v := h
    by_cases hi : idx < 2
    · rw [List.getElem?_append_left (by rw [e]; exact hi)] at h
      exact ⟨0, idx, p, by omega, rfl, h⟩
    · rw [List.getElem?_append_right (by rw [e]; omega), e] at h
      obtain ⟨i, k, q, h1, h2, h3⟩ := pairsV_split h
      exact ⟨i + 1, k, q, by omega, by simpa using h2, h3⟩
theorem wantsV_split : ∀ {l : List (Txt × Nat)} {idx : Nat} {v : Value}, (wantsV l)[idx]? = some v → ∃ i k p, idx = i * 2 + k ∧ l[i]? = some p ∧ (wcells p)[k]? = some v
  | [], idx, v, h => by simp [wantsV] at h
  | p :: l, idx, v, h => by
    have e : (wcells p).length = 2 := rfl
    have h : (wcells p ++ wantsV l)[idx]? = some v := h
    by_cases hi : idx < 2
    · rw [List.getElem?_append_left (by rw [e]; exact hi)] at h
      exact ⟨0, idx, p, by omega, rfl, h⟩
    · rw [List.getElem?_append_right (by rw [e]; omega), e] at h
      obtain ⟨i, k, q, h1, h2, h3⟩ := wantsV_split h
      exact ⟨i + 1, k, q, by omega, by simpa using h2, h3⟩
theorem versV_split : ∀ {l : List VerA} {idx : Nat} {v : Value}, (versV l)[idx]? = some v → ∃ i k p, idx = i * 4 + k ∧ l[i]? = some p ∧ (VerA.cells p)[k]? = some v
  | [], idx, v, h => by simp [versV] at h
  | p :: l, idx, v, h => by
    have e : (VerA.cells p).length = 4 := rfl
    have h : (VerA.cells p ++ versV l)[idx]? = some v := h
    by_cases hi : idx < 4
    · rw [List.getElem?_append_left (by rw [e]; exact hi)] at h
      exact ⟨0, idx, p, by omega, rfl, h⟩
    · rw [List.getElem?_append_right (by rw [e]; omega), e] at h
      obtain ⟨i, k, q, h1, h2, h3⟩ := versV_split h
      exact ⟨i + 1, k, q, by omega, by simpa using h2, h3⟩
theorem list2 {α : Type} {l : List α} (h : l.length = 2) : ∃ a b, l = [a, b] := by
  match l, h with
  | [a, b], _ => exact ⟨a, b, rfl⟩
theorem list4 {α : Type} {l : List α} (h : l.length = 4) : ∃ a b c d, l = [a, b, c, d] := by
  match l, h with
  | [a, b, c, d], _ => exact ⟨a, b, c, d, rfl⟩
section
variable {T : Type} {enc : TypeId × Value → T} {w : World} {base : Nat} {spare : Nat → Bool} {held : Bool} {ts : List TypeId} {ds : List (DataW T)} {j fuel : Nat} {a : Option Addr} {len cap : Nat} {x : DataW T} {pl : List MemPlace}
theorem open_pairs (hz : (DataW.weightsEach Try.prog ts ds).all (· ≤ reachBytes) = true) (hts : ts[j]? = some 24) (hds : ds[j]? = some x) (h : DataW.trod enc Try.prog w base spare held fuel 24 [.slice a len cap] = some (x, pl)) :
    ∃ ps : List (Txt × Txt), RowAt (heapOf w) a (pairsV ps) ∧ ps.length = len ∧ len ≤ cap ∧ len ≤ 4398046510976 := by
  rcases DataW.trod_slice Try.underlying24 h with ⟨hcs, hx⟩ | ⟨p, len', cap', elems, rest, n, _, hcs, hx, _, hl, _, hlen, hel, _, _⟩
  · cases hcs
    exact ⟨[], RowAt.nil _ _, rfl, Nat.le_refl _, Nat.zero_le _⟩
  · cases hcs
    obtain ⟨rfl, rfl⟩ := Prod.mk.inj hx
    have hc : Try.prog.cellsOf 64 = 2 := by kernel_rfl
    have hb : Try.prog.bytesOf 64 = 32 := by kernel_rfl
    obtain ⟨ps, hol, hoq⟩ := exists_list (Q := fun i o => (∀ (k : Nat) v, (pcells o)[k]? = some v → w.cell? (p.add (i * 2 + k)) = some v)) len (fun i hi => by
      have h4 := hel i hi
      rw [hc] at h4
      cases hv : elems[i]? with
      | none => rw [List.getElem?_eq_none_iff] at hv; omega
      | some y =>
        rw [hv] at h4
        obtain ⟨cs, hcs, htr⟩ := Option.bind_eq_some_iff.1 h4
        obtain ⟨hcl, hcg⟩ := cells_get hcs
        obtain ⟨c0, c1, rfl⟩ := list2 hcl
        obtain ⟨parts, hd, fl⟩ := trod_field Try.underlying64 htr
        obtain ⟨n0, y0, pt0, tr0⟩ := fl 0 _ c0 rfl (by kernel_rfl) rfl
        obtain ⟨s0, rfl⟩ := open_stringU Try.underlying9 tr0
        obtain ⟨n1, y1, pt1, tr1⟩ := fl 1 _ c1 rfl (by kernel_rfl) rfl
        obtain ⟨s1, rfl⟩ := open_stringU Try.underlying9 tr1
        refine ⟨(s0, s1), fun k v hk => ?_⟩
        have := hcg k v hk
        rw [Addr.add_add] at this; exact this)
    refine ⟨ps, rowAt_of fun idx v hv => ?_, hol, hl, ?_⟩
    · obtain ⟨i, k, o, rfl, h2, h3⟩ := pairsV_split hv
      exact hoq i o h2 k v h3
    · have := sized_slice hz hts hds Try.underlying24
      rw [hb, List.length_map, List.length_map, hlen] at this
      have hr : reachBytes = 140737488351232 := rfl
      omega
theorem open_wants (hz : (DataW.weightsEach Try.prog ts ds).all (· ≤ reachBytes) = true) (hts : ts[j]? = some 26) (hds : ds[j]? = some x) (h : DataW.trod enc Try.prog w base spare held fuel 26 [.slice a len cap] = some (x, pl)) :
    ∃ ps : List (Txt × Nat), RowAt (heapOf w) a (wantsV ps) ∧ ps.length = len ∧ len ≤ cap ∧ (∀ p ∈ ps, p.2 < 18446744073709551616) ∧ len ≤ 5864062014634 := by
  rcases DataW.trod_slice Try.underlying26 h with ⟨hcs, hx⟩ | ⟨p, len', cap', elems, rest, n, _, hcs, hx, _, hl, _, hlen, hel, _, _⟩
  · cases hcs
    exact ⟨[], RowAt.nil _ _, rfl, Nat.le_refl _, fun o ho => by simp at ho, Nat.zero_le _⟩
  · cases hcs
    obtain ⟨rfl, rfl⟩ := Prod.mk.inj hx
    have hc : Try.prog.cellsOf 46 = 2 := by kernel_rfl
    have hb : Try.prog.bytesOf 46 = 24 := by kernel_rfl
    obtain ⟨ps, hol, hoq⟩ := exists_list (Q := fun i o => (∀ (k : Nat) v, (wcells o)[k]? = some v → w.cell? (p.add (i * 2 + k)) = some v) ∧ Prod.snd o < 18446744073709551616) len (fun i hi => by
      have h4 := hel i hi
      rw [hc] at h4
      cases hv : elems[i]? with
      | none => rw [List.getElem?_eq_none_iff] at hv; omega
      | some y =>
        rw [hv] at h4
        obtain ⟨cs, hcs, htr⟩ := Option.bind_eq_some_iff.1 h4
        obtain ⟨hcl, hcg⟩ := cells_get hcs
        obtain ⟨c0, c1, rfl⟩ := list2 hcl
        obtain ⟨parts, hd, fl⟩ := trod_field Try.underlying46 htr
        obtain ⟨n0, y0, pt0, tr0⟩ := fl 0 _ c0 rfl (by kernel_rfl) rfl
        obtain ⟨s0, rfl⟩ := open_stringU Try.underlying9 tr0
        obtain ⟨n1, y1, pt1, tr1⟩ := fl 1 _ c1 rfl (by kernel_rfl) rfl
        obtain ⟨z1, he1, _, w1⟩ := DataW.trod_int Try.underlying23 tr1
        cases he1
        obtain ⟨v1, hv1, rfl⟩ := u64_wf w1
        refine ⟨(s0, v1), fun k v hk => ?_, hv1⟩
        have := hcg k v hk
        rw [Addr.add_add] at this; exact this)
    refine ⟨ps, rowAt_of fun idx v hv => ?_, hol, hl, fun o ho => ?_, ?_⟩
    · obtain ⟨i, k, o, rfl, h2, h3⟩ := wantsV_split hv
      exact (hoq i o h2).1 k v h3
    · obtain ⟨i, hi⟩ := List.getElem?_of_mem ho
      exact (hoq i o hi).2
    · have := sized_slice hz hts hds Try.underlying26
      rw [hb, List.length_map, List.length_map, hlen] at this
      have hr : reachBytes = 140737488351232 := rfl
      omega
structure VerOk (H : Heap) (v : VerA) : Prop where
  row : RowAt H v.a (txts v.v.ks)
  n : v.v.ks.length ≤ 8796093021952
  id : v.v.id < 18446744073709551616
theorem open_vers (hz : (DataW.weightsEach Try.prog ts ds).all (· ≤ reachBytes) = true) (hts : ts[j]? = some 27) (hds : ds[j]? = some x) (h : DataW.trod enc Try.prog w base spare held fuel 27 [.slice a len cap] = some (x, pl)) :
    ∃ ps : List VerA, RowAt (heapOf w) a (versV ps) ∧ ps.length = len ∧ len ≤ cap ∧ (∀ p ∈ ps, VerOk (heapOf w) p) ∧ len ≤ 2199023255488 := by
  rcases DataW.trod_slice Try.underlying27 h with ⟨hcs, hx⟩ | ⟨p, len', cap', elems, rest, n, _, hcs, hx, _, hl, _, hlen, hel, _, _⟩
  · cases hcs
    exact ⟨[], RowAt.nil _ _, rfl, Nat.le_refl _, fun o ho => by simp at ho, Nat.zero_le _⟩
  · cases hcs
    obtain ⟨rfl, rfl⟩ := Prod.mk.inj hx
    have hc : Try.prog.cellsOf 52 = 4 := by kernel_rfl
    have hb : Try.prog.bytesOf 52 = 64 := by kernel_rfl
    obtain ⟨ps, hol, hoq⟩ := exists_list (Q := fun i o => (∀ (k : Nat) v, (VerA.cells o)[k]? = some v → w.cell? (p.add (i * 4 + k)) = some v) ∧ VerOk (heapOf w) o) len (fun i hi => by
      have h4 := hel i hi
      rw [hc] at h4
      cases hv : elems[i]? with
      | none => rw [List.getElem?_eq_none_iff] at hv; omega
      | some y =>
        rw [hv] at h4
        obtain ⟨cs, hcs, htr⟩ := Option.bind_eq_some_iff.1 h4
        obtain ⟨hcl, hcg⟩ := cells_get hcs
        obtain ⟨c0, c1, c2, c3, rfl⟩ := list4 hcl
        obtain ⟨parts, hd, fl⟩ := trod_field Try.underlying52 htr
        have hze := sized_elem_struct hz hts hds Try.underlying27 (i := i) (parts := parts) (by rw [List.getElem?_map, hv, ← hd]; rfl) Try.underlying52
        obtain ⟨n0, y0, pt0, tr0⟩ := fl 0 _ c0 rfl (by kernel_rfl) rfl
        obtain ⟨s0, rfl⟩ := open_stringU Try.underlying9 tr0
        obtain ⟨n1, y1, pt1, tr1⟩ := fl 1 _ c1 rfl (by kernel_rfl) rfl
        obtain ⟨z1, he1, _, w1⟩ := DataW.trod_int Try.underlying23 tr1
        cases he1
        obtain ⟨v1, hv1, rfl⟩ := u64_wf w1
        obtain ⟨n2, y2, pt2, tr2⟩ := fl 2 _ c2 rfl (by kernel_rfl) rfl
        obtain ⟨s2, rfl⟩ := open_stringU Try.underlying9 tr2
        obtain ⟨n3, y3, pt3, tr3⟩ := fl 3 _ c3 rfl (by kernel_rfl) rfl
        obtain ⟨ab, nb, cb, rfl⟩ := trod_slice1 Try.underlying25 tr3
        obtain ⟨l3, r3, e3, q3, _, b3⟩ := open_texts (j := 3) (x := y3.1) (pl := y3.2) Try.underlying25 Try.underlying9 (by kernel_rfl) (by kernel_rfl) hze rfl pt3 tr3
        subst e3
        refine ⟨⟨⟨s0, v1, s2, l3⟩, ab, cb⟩, fun k v hk => ?_, ⟨r3, by show l3.length ≤ _; omega, hv1⟩⟩
        have := hcg k v hk
        rw [Addr.add_add] at this; exact this)
    refine ⟨ps, rowAt_of fun idx v hv => ?_, hol, hl, fun o ho => ?_, ?_⟩
    · obtain ⟨i, k, o, rfl, h2, h3⟩ := versV_split hv
      exact (hoq i o h2).1 k v h3
    · obtain ⟨i, hi⟩ := List.getElem?_of_mem ho
      exact (hoq i o hi).2
    · have := sized_slice hz hts hds Try.underlying27
      rw [hb, List.length_map, List.length_map, hlen] at this
      have hr : reachBytes = 140737488351232 := rfl
      omega
theorem open_msgL {cs : List Value} (hz : (DataW.weightsEach Try.prog ts ds).all (· ≤ reachBytes) = true) (hts : ts[j]? = some 29) (hds : ds[j]? = some x) (hl : cs.length = 8) (h : DataW.trod enc Try.prog w base spare held fuel 29 cs = some (x, pl)) :
    ∃ m : MsgA, cs = m.cells ∧ MsgIn (heapOf w) m ∧ Fit m.m ∧ m.ws.length ≤ 5864062014634 ∧ m.vs.length ≤ 2199023255488 := by
  obtain ⟨c0, c1, c2, c3, c4, c5, c6, c7, rfl⟩ := list8 hl
  obtain ⟨parts, hd, fl⟩ := trod_field Try.underlying29 h
  have hd : x = .agg parts := hd
  have hze := sized_struct hz hts (by rw [hds, hd]) Try.underlying29
  obtain ⟨n0, y0, pt0, tr0⟩ := fl 0 _ c0 rfl (by kernel_rfl) rfl
  obtain ⟨z0, he0, _, w0⟩ := DataW.trod_int Try.underlying3 tr0
  cases he0
  obtain ⟨n1, y1, pt1, tr1⟩ := fl 1 _ c1 rfl (by kernel_rfl) rfl
  obtain ⟨z1, he1, _, w1⟩ := DataW.trod_int Try.underlying3 tr1
  cases he1
  obtain ⟨n2, y2, pt2, tr2⟩ := fl 2 _ c2 rfl (by kernel_rfl) rfl
  obtain ⟨z2, he2, _, w2⟩ := DataW.trod_int Try.underlying22 tr2
  cases he2
  obtain ⟨v2, hv2, rfl⟩ := u64_wf w2
  obtain ⟨n3, y3, pt3, tr3⟩ := fl 3 _ c3 rfl (by kernel_rfl) rfl
  obtain ⟨z3, he3, _, w3⟩ := DataW.trod_int Try.underlying23 tr3
  cases he3
  obtain ⟨v3, hv3, rfl⟩ := u64_wf w3
  obtain ⟨n4, y4, pt4, tr4⟩ := fl 4 _ c4 rfl (by kernel_rfl) rfl
  obtain ⟨a4, l4, q4, rfl⟩ := trod_slice1 Try.underlying24 tr4
  obtain ⟨ps, r4, e4, _, b4⟩ := open_pairs (j := 4) (x := y4.1) (pl := y4.2) hze rfl pt4 tr4
  subst e4
  obtain ⟨n5, y5, pt5, tr5⟩ := fl 5 _ c5 rfl (by kernel_rfl) rfl
  obtain ⟨a5, l5, q5, rfl⟩ := trod_slice1 Try.underlying25 tr5
  obtain ⟨ks, r5, e5, _, _, b5⟩ := open_texts (j := 5) (x := y5.1) (pl := y5.2) Try.underlying25 Try.underlying9 (by kernel_rfl) (by kernel_rfl) hze rfl pt5 tr5
  subst e5
  obtain ⟨n6, y6, pt6, tr6⟩ := fl 6 _ c6 rfl (by kernel_rfl) rfl
  obtain ⟨a6, l6, q6, rfl⟩ := trod_slice1 Try.underlying26 tr6
  obtain ⟨ws, r6, e6, _, f6, b6⟩ := open_wants (j := 6) (x := y6.1) (pl := y6.2) hze rfl pt6 tr6
  subst e6
  obtain ⟨n7, y7, pt7, tr7⟩ := fl 7 _ c7 rfl (by kernel_rfl) rfl
  obtain ⟨a7, l7, q7, rfl⟩ := trod_slice1 Try.underlying27 tr7
  obtain ⟨vs, r7, e7, _, f7, b7⟩ := open_vers (j := 7) (x := y7.1) (pl := y7.2) hze rfl pt7 tr7
  subst e7
  refine ⟨⟨z0, z1, v2, v3, ps, a4, q4, ks, a5, q5, ws, a6, q6, vs, a7, q7⟩, rfl, ⟨r4, r5, r6, r7, fun v hv => (f7 v hv).row, b4, b5, by show ws.length ≤ _; omega, by show vs.length ≤ _; omega, fun v hv => (f7 v hv).n⟩, ⟨hv2, hv3, f6, fun v hv => ?_⟩, b6, b7⟩
  obtain ⟨y, hy, rfl⟩ := List.mem_map.1 hv
  exact (f7 y hy).id
theorem open_msg {cs : List Value} (hz : (DataW.weightsEach Try.prog ts ds).all (· ≤ reachBytes) = true) (hts : ts[j]? = some 29) (hds : ds[j]? = some x) (hl : cs.length = 8) (h : DataW.trod enc Try.prog w base spare held fuel 29 cs = some (x, pl)) :
    ∃ m : MsgA, cs = m.cells ∧ MsgIn (heapOf w) m ∧ Fit m.m := by
  obtain ⟨m, h1, h2, h3, _⟩ := open_msgL hz hts hds hl h
  exact ⟨m, h1, h2, h3⟩
end
end Go.Proofs.Ytlgncabjphokjaa
