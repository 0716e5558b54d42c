import Derived.Test.YtjnahdcolacldaaA10
import Derived.Test.YtjnahdcolacldaaRw7
namespace Go.Proofs.Ytjnahdcolacldaa
open Go Hv Go.ChangeShapes Go.WideShapes Go.ChangeAt Go.RowKit
set_option linter.unusedVariables false
set_option linter.unusedSimpArgs false
set_option maxRecDepth 10000
set_option maxHeartbeats 1000000
theorem int_wf {n : Int} (h : (Lit.int .i64 n).wf = true) : -9223372036854775808 ≤ n ∧ n ≤ 9223372036854775807 := by
  simp [Lit.wf, IntKind.min, IntKind.max, IntKind.signed, IntKind.bits] at h; omega
theorem list6 {α : Type} {l : List α} (h : l.length = 6) : ∃ a b c d e f, l = [a, b, c, d, e, f] := by
  match l, h with
  | [a, b, c, d, e, f], _ => exact ⟨a, b, c, d, e, f, rfl⟩
theorem flat_sum (l : List (List UInt8)) : (l.flatMap textB).length = (l.map List.length).sum + 4 * l.length := by
  induction l with
  | nil => rfl
  | cons s l ih => simp only [List.flatMap_cons, List.length_append, textB_length, List.map_cons, List.sum_cons, List.length_cons, ih]; omega
theorem open_opsU {T : Type} {enc : TypeId × Value → T} {w : World} {base : Nat} {spare : Nat → Bool} {held : Bool} {fuel : Nat} {a : Option Addr} {len cap : Nat} {x : DataW T} {pl : List MemPlace}
    (h : DataW.trod enc Try.prog w base spare held fuel 22 [.slice a len cap] = some (x, pl)) :
    ∃ ops : List Opk, RowAt (heapOf w) a (orow ops) ∧ ops.length = len ∧ len ≤ cap ∧ (∀ o ∈ ops, OpOk (heapOf w) o) ∧ opsLen ops ≤ 4 * Rows.uptoBulk x ∧ len ≤ Rows.uptoBulk x := by
  rcases DataW.trod_slice Try.underlying22 h with ⟨hcs, hx⟩ | ⟨p, len', cap', elems, rest, n, _, hcs, hx, _, hl, _, hlen, hel, _, _⟩
  · cases hcs
    exact ⟨[], RowAt.nil _ _, rfl, Nat.le_refl _, fun o ho => by simp at ho, Nat.zero_le _, Nat.zero_le _⟩
  · cases hcs
    obtain ⟨rfl, rfl⟩ := Prod.mk.inj hx
    have hc34 : Try.prog.cellsOf 34 = 6 := by kernel_rfl
    obtain ⟨ops, hol, hoq⟩ := exists_list (Q := fun i o => (∀ (k : Nat) v, (ocells o)[k]? = some v → w.cell? (p.add (i * 6 + k)) = some v) ∧ OpOk (heapOf w) o ∧ ∀ y, elems[i]? = some y → opLen o ≤ 4 * Rows.uptoBulk y.1) len (fun i hi => by
      have h4 := hel i hi
      rw [hc34] at h4
      cases hv : elems[i]? with
      | none => rw [List.getElem?_eq_none_iff] at hv; omega
      | some y =>
        rw [hv] at h4
        obtain ⟨cs, hcs, htr⟩ := Option.bind_eq_some_iff.1 h4
        obtain ⟨hcl, hcg⟩ := cells_get hcs
        obtain ⟨c0, c1, c2, c3, c4, c5, rfl⟩ := list6 hcl
        obtain ⟨parts, hd, fl⟩ := trod_field Try.underlying34 htr
        obtain ⟨n0, y0, pt0, tr0⟩ := fl 0 _ c0 rfl (by kernel_rfl) rfl
        obtain ⟨z0, he0, _, _⟩ := DataW.trod_int Try.underlying3 tr0
        cases he0
        obtain ⟨n1, y1, pt1, tr1⟩ := fl 1 _ c1 rfl (by kernel_rfl) rfl
        obtain ⟨z1, he1, _, w1⟩ := DataW.trod_int Try.underlying31 tr1
        cases he1
        obtain ⟨n2, y2, pt2, tr2⟩ := fl 2 _ c2 rfl (by kernel_rfl) rfl
        obtain ⟨s2, rfl, b2⟩ := open_textU Try.underlying9 tr2
        obtain ⟨n3, y3, pt3, tr3⟩ := fl 3 _ c3 rfl (by kernel_rfl) rfl
        obtain ⟨ab, nb, cb, rfl⟩ := trod_slice1 Try.underlying32 tr3
        obtain ⟨l3, r3, e3, q3, b3⟩ := open_textsU (x := y3.1) (pl := y3.2) Try.underlying32 Try.underlying9 (by kernel_rfl) tr3
        obtain ⟨n4, y4, pt4, tr4⟩ := fl 4 _ c4 rfl (by kernel_rfl) rfl
        obtain ⟨z4, he4, _, w4⟩ := DataW.trod_int Try.underlying3 tr4
        cases he4
        obtain ⟨n5, y5, pt5, tr5⟩ := fl 5 _ c5 rfl (by kernel_rfl) rfl
        obtain ⟨z5, he5, _, w5⟩ := DataW.trod_int Try.underlying3 tr5
        cases he5
        have hz1 : 0 ≤ z1 ∧ z1 ≤ 18446744073709551615 := by
          simpa [Lit.wf, IntKind.has, IntKind.min, IntKind.max, IntKind.signed, IntKind.bits] using w1
        have hz4 : z4 ≤ 9223372036854775807 := (int_wf w4).2
        have hz5 : z5 ≤ 9223372036854775807 := (int_wf w5).2
        have bk := bulk6 pt0 pt1 pt2 pt3 pt4 pt5
        have o0 := one_bulk y0.1
        have o1 := one_bulk y1.1
        have o4 := one_bulk y4.1
        have o5 := one_bulk y5.1
        obtain ⟨v1, rfl⟩ : ∃ v1 : Nat, z1 = (v1 : Int) := ⟨z1.toNat, by omega⟩
        refine ⟨⟨z0, v1, s2, ab, nb, cb, l3, z4, z5⟩, fun k v hk => ?_, ⟨by show v1 < _; omega, r3, e3, hz4, hz5, q3⟩, fun y' hy' => ?_⟩
        · have := hcg k v hk
          rw [Addr.add_add] at this; exact this
        · cases hy'
          have hl3 := textsB_length l3
          have hf3 := flat_sum l3
          have hd' : y.1 = .agg parts := hd
          rw [hd']
          show 12 + s2.length + (textsB l3).length ≤ _
          omega)
    refine ⟨ops, rowAt_of fun idx v hv => ?_, hol, hl, fun o ho => ?_, ?_, ?_⟩
    · obtain ⟨i, k, o, rfl, h2, h3⟩ := orow_split hv
      exact (hoq i o h2).1 k v h3
    · obtain ⟨i, hi⟩ := List.getElem?_of_mem ho
      exact (hoq i o hi).2.1
    · have := sum_of (f := opLen) (k := 4) ops elems (by omega) fun i o y ho hy => (hoq i o ho).2.2 y hy
      show opsLen ops ≤ 4 * Rows.uptoBulk (DataW.slice _ _)
      simp only [Rows.uptoBulk]
      unfold opsLen
      omega
    · have := slice_le (elems.map (·.1)) (rest.map (·.1))
      rw [List.length_map] at this
      omega
end Go.Proofs.Ytjnahdcolacldaa
