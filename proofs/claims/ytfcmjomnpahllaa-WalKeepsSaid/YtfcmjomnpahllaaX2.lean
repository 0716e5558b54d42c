import Derived.Test.YtfcmjomnpahllaaX1
import Derived.Test.YtfcmjomnpahllaaW12
namespace Go.Proofs.Ytfcmjomnpahllaa
open Go Hv Go.ChangeShapes Go.WideShapes Go.ChangeAt Go.RowKit
set_option linter.unusedVariables false
set_option linter.unusedSimpArgs false
set_option maxRecDepth 10000
set_option maxHeartbeats 1000000
/-! A script, opened -/
theorem trod_fields {H : Type} {enc : TypeId × Value → H} {P : Program} {w : World} {base : Nat} {spare : Nat → Bool} {held : Bool} {fuel : Nat} {t : TypeId} {cs : List Value} {x : DataW H × List MemPlace} {fs : Array Field} (ht : P.underlying t = some (.struct fs)) (h : DataW.trod enc P w base spare held fuel t cs = some x) :
    ∃ parts : List (DataW H), x.1 = .agg parts ∧ ∀ (j : Nat) (f : Field), fs[j]? = some f → ∃ n y, parts[j]? = some y.1 ∧ DataW.trod enc P w base spare held n f.type ((cs.drop f.offset).take (P.cellsOf f.type)) = some y := by
  obtain ⟨xs, n, _, rfl, hl, hlen, hf⟩ := DataW.trod_struct ht h
  refine ⟨_, rfl, fun j f hj => ?_⟩
  have h1 := hf j f hj
  have hj' : j < xs.length := by rw [hlen]; exact (Array.getElem?_eq_some_iff.1 hj).1
  rw [List.getElem?_eq_getElem hj'] at h1
  exact ⟨n, xs[j], by simp [hj'], h1⟩
theorem int_wf {n : Int} (h : (Lit.int .i64 n).wf = true) : -9223372036854775808 ≤ n ∧ n ≤ 9223372036854775807 := by
  simp [Lit.wf, IntKind.min, IntKind.max, IntKind.signed, IntKind.bits] at h; omega
theorem list9 {α : Type} {l : List α} (h : l.length = 9) : ∃ a b c d e f g h i, l = [a, b, c, d, e, f, g, h, i] := by
  match l, h with
  | [a, b, c, d, e, f, g, h, i], _ => exact ⟨a, b, c, d, e, f, g, h, i, rfl⟩
section
variable {T : Type} {enc : TypeId × Value → T} {w : World} {base : Nat} {spare : Nat → Bool} {held : Bool} {ts : List TypeId} {ds : List (DataW T)} {j fuel : Nat} {a : Option Addr} {len cap : Nat} {x : DataW T} {pl : List MemPlace}
theorem open_opsw (hz : (DataW.weightsEach Try.prog ts ds).all (· ≤ reachBytes) = true) (hts : ts[j]? = some 54) (hds : ds[j]? = some x) (h : DataW.trod enc Try.prog w base spare held fuel 54 [.slice a len cap] = some (x, pl)) :
    ∃ ps : List OpW, Ops (heapOf w) a ps ∧ ps.length = len ∧ len ≤ cap ∧ len ≤ 2199023255488 := by
  rcases DataW.trod_slice Try.underlying54 h with ⟨hcs, hx⟩ | ⟨p, len', cap', elems, rest, n, _, hcs, hx, _, hl, _, hlen, hel, _, _⟩
  · cases hcs
    exact ⟨[], ⟨RowAt.nil _ _, fun o ho => by simp at ho⟩, rfl, Nat.le_refl _, Nat.zero_le _⟩
  · cases hcs
    obtain ⟨rfl, rfl⟩ := Prod.mk.inj hx
    have hc : Try.prog.cellsOf 57 = 9 := by kernel_rfl
    have hb : Try.prog.bytesOf 57 = 128 := by kernel_rfl
    have c28 : Try.prog.cellsOf 28 = 4 := by kernel_rfl
    have c3 : Try.prog.cellsOf 3 = 1 := by kernel_rfl
    have c9 : Try.prog.cellsOf 9 = 1 := by kernel_rfl
    have c32 : Try.prog.cellsOf 32 = 1 := by kernel_rfl
    obtain ⟨ps, hol, hoq⟩ := exists_list (Q := fun i o => (∀ (k : Nat) v, (OpW.cells o)[k]? = some v → w.cell? (p.add (i * 9 + k)) = some v) ∧ OpOk (heapOf w) o) len (fun i hi => by
      have h4 := hel i hi
      rw [hc] at h4
      cases hv : elems[i]? with
      | none => rw [List.getElem?_eq_none_iff] at hv; omega
      | some y =>
        rw [hv] at h4
        obtain ⟨cs, hcs, htr⟩ := Option.bind_eq_some_iff.1 h4
        obtain ⟨hcl, hcg⟩ := cells_get hcs
        obtain ⟨e0, e1, e2, e3, e4, e5, e6, e7, e8, rfl⟩ := list9 hcl
        obtain ⟨parts, hd, fl⟩ := trod_fields Try.underlying57 htr
        have hze := sized_elem_struct hz hts hds Try.underlying54 (i := i) (parts := parts) (by rw [List.getElem?_map, hv, ← hd]; rfl) Try.underlying57
        obtain ⟨n0, y0, pt0, tr0⟩ := fl 0 _ rfl
        have tr0 : DataW.trod enc Try.prog w base spare held n0 3 (([e0, e1, e2, e3, e4, e5, e6, e7, e8].drop 0).take (Try.prog.cellsOf 3)) = some y0 := tr0
        rw [c3] at tr0
        have tr0 : DataW.trod enc Try.prog w base spare held n0 3 [e0] = some y0 := tr0
        obtain ⟨z0, he0, _, w0⟩ := DataW.trod_int Try.underlying3 tr0
        cases he0
        obtain ⟨n1, y1, pt1, tr1⟩ := fl 1 _ rfl
        have tr1 : DataW.trod enc Try.prog w base spare held n1 28 (([Value.int .i64 z0, e1, e2, e3, e4, e5, e6, e7, e8].drop 1).take (Try.prog.cellsOf 28)) = some y1 := tr1
        rw [c28] at tr1
        have tr1 : DataW.trod enc Try.prog w base spare held n1 28 [e1, e2, e3, e4] = some y1 := tr1
        obtain ⟨m, hm, inm, idm⟩ := open_rec (j := 1) (x := y1.1) (pl := y1.2) hze rfl pt1 rfl tr1
        have hm : [e1, e2, e3, e4] = [Value.int .i64 m.r.kind, .int .u64 (m.r.id : Int), .slice m.ap m.r.ps.length m.cp, .slice m.ak m.r.ks.length m.ck] := hm
        cases hm
        obtain ⟨n2, y2, pt2, tr2⟩ := fl 2 _ rfl
        have tr2 : DataW.trod enc Try.prog w base spare held n2 3 ((([_, _, _, _, _, e5, e6, e7, e8] : List Value).drop 5).take (Try.prog.cellsOf 3)) = some y2 := tr2
        rw [c3] at tr2
        have tr2 : DataW.trod enc Try.prog w base spare held n2 3 [e5] = some y2 := tr2
        obtain ⟨z2, he2, _, w2⟩ := DataW.trod_int Try.underlying3 tr2
        cases he2
        obtain ⟨n3, y3, pt3, tr3⟩ := fl 3 _ rfl
        have tr3 : DataW.trod enc Try.prog w base spare held n3 3 ((([_, _, _, _, _, _, e6, e7, e8] : List Value).drop 6).take (Try.prog.cellsOf 3)) = some y3 := tr3
        rw [c3] at tr3
        have tr3 : DataW.trod enc Try.prog w base spare held n3 3 [e6] = some y3 := tr3
        obtain ⟨z3, he3, _, w3⟩ := DataW.trod_int Try.underlying3 tr3
        cases he3
        obtain ⟨n4, y4, pt4, tr4⟩ := fl 4 _ rfl
        have tr4 : DataW.trod enc Try.prog w base spare held n4 9 ((([_, _, _, _, _, _, _, e7, e8] : List Value).drop 7).take (Try.prog.cellsOf 9)) = some y4 := tr4
        rw [c9] at tr4
        have tr4 : DataW.trod enc Try.prog w base spare held n4 9 [e7] = some y4 := tr4
        obtain ⟨s4, rfl⟩ := open_stringU Try.underlying9 tr4
        obtain ⟨n5, y5, pt5, tr5⟩ := fl 5 _ rfl
        have tr5 : DataW.trod enc Try.prog w base spare held n5 32 ((([_, _, _, _, _, _, _, _, e8] : List Value).drop 8).take (Try.prog.cellsOf 32)) = some y5 := tr5
        rw [c32] at tr5
        have tr5 : DataW.trod enc Try.prog w base spare held n5 32 [e8] = some y5 := tr5
        obtain ⟨ab, nb, cb, rfl⟩ := trod_slice1 Try.underlying32 tr5
        have b2 := int_wf w2
        have b3 := int_wf w3
        refine ⟨⟨z0, m, z2, z3, bs s4, ab, nb, cb⟩, fun k v hk => ?_, ⟨inm, idm, b2.1, b2.2, b3.1, b3.2⟩⟩
        have := hcg k v hk
        rw [Addr.add_add] at this; exact this)
    refine ⟨ps, ⟨rowAt_of fun idx v hv => ?_, fun o ho => ?_⟩, hol, hl, ?_⟩
    · obtain ⟨i, k, o, rfl, h2, h3⟩ := opsV_split hv
      exact (hoq i o h2).1 k v h3
    · obtain ⟨i, hi⟩ := List.getElem?_of_mem ho
      exact (hoq i o hi).2
    · have := sized_slice hz hts hds Try.underlying54
      rw [hb, List.length_map, List.length_map, hlen] at this
      have hr : reachBytes = 140737488351232 := rfl
      omega
end
end Go.Proofs.Ytfcmjomnpahllaa
