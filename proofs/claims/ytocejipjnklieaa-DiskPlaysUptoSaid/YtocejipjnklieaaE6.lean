import Derived.Test.YtocejipjnklieaaE5
import Derived.Test.YtocejipjnklieaaRwA
namespace Go.Proofs.Ytocejipjnklieaa
open Go Hv Go.ChangeShapes Go.WideShapes Go.ChangeAt Go.RowKit
set_option linter.unusedVariables false
set_option linter.unusedSimpArgs false
set_option maxRecDepth 10000
set_option maxHeartbeats 1000000
/-! Scripts in memory. -/
structure OpA where
  o : Opc
  a : Option Addr
  c : Nat
def OpA.cells (p : OpA) : List Value := p.o.cells p.a p.c
def orow : List OpA → List Value
  | [] => []
  | o :: os => o.cells ++ orow os
theorem orow_split : ∀ {os : List OpA} {idx : Nat} {v : Value}, (orow os)[idx]? = some v → ∃ i k o, idx = i * 7 + k ∧ os[i]? = some o ∧ o.cells[k]? = some v
  | [], idx, v, h => by simp [orow] at h
  | o :: os, idx, v, h => by
    unfold orow at h
    have hl : o.cells.length = 7 := rfl
    by_cases hi : idx < 7
    · rw [List.getElem?_append_left (by omega)] at h
      exact ⟨0, idx, o, by omega, rfl, h⟩
    · rw [List.getElem?_append_right (by omega)] at h
      obtain ⟨i, k, o', h1, h2, h3⟩ := orow_split h
      exact ⟨i + 1, k, o', by omega, by simpa using h2, h3⟩
theorem orow_get : ∀ {os : List OpA} {i : Nat} {o : OpA}, os[i]? = some o → ∀ (k : Nat) v, o.cells[k]? = some v → (orow os)[i * 7 + k]? = some v
  | [], i, o, h => by simp at h
  | p :: os, 0, o, h => fun k v hk => by
    simp at h; subst h
    have : k < p.cells.length := (List.getElem?_eq_some_iff.1 hk).1
    show (p.cells ++ orow os)[0 * 7 + k]? = _
    rw [Nat.zero_mul, Nat.zero_add, List.getElem?_append_left this]; exact hk
  | p :: os, i + 1, o, h => fun k v hk => by
    have ih := orow_get (os := os) (i := i) (o := o) (by simpa using h) k v hk
    have e : p.cells.length = 7 := rfl
    show (p.cells ++ orow os)[(i + 1) * 7 + k]? = _
    rw [List.getElem?_append_right (by rw [e]; omega), e]
    have e2 : (i + 1) * 7 + k - 7 = i * 7 + k := by omega
    rw [e2]; exact ih
theorem HLoadN_op {H : Heap} {b off i : Nat} {os : List OpA} {o : OpA} {K : List Value → Prop} (h : RowAt H (some ⟨b, off, none⟩) (orow os)) (ho : os[i]? = some o) (hk : K o.cells) : HLoadN [H] b (off + i * 7) 7 K :=
  ⟨o.cells, fun H' hH j v hv => by
    rw [List.mem_singleton.1 hH, Nat.add_assoc]
    exact h.get (orow_get ho j v hv), rfl, hk⟩
structure OpIn (H : Heap) (p : OpA) : Prop where
  row : RowAt H p.a (u8s p.o.b)
  fits : p.o.Fits
theorem OpIn.upd0 {H H' : Heap} {p : OpA} (h : OpIn H p) (u : Upd [] H H') : OpIn H' p := ⟨h.row.upd (S := []) u (.inr (Off.nil _)), h.fits⟩
def opSum (ops : List OpA) : Nat := (ops.map fun p => p.o.b.length).sum
theorem int_wf {n : Int} (h : (Lit.int .i64 n).wf = true) : -9223372036854775808 ≤ n ∧ n ≤ 9223372036854775807 := by
  simp [Lit.wf, IntKind.min, IntKind.max, IntKind.signed, IntKind.bits] at h; omega
theorem list7 {α : Type} {l : List α} (h : l.length = 7) : ∃ a b c d e f g, l = [a, b, c, d, e, f, g] := by
  match l, h with
  | [a, b, c, d, e, f, g], _ => exact ⟨a, b, c, d, e, f, g, rfl⟩
theorem bulk_in {H : Type} : ∀ {parts : List (DataW H)} {i : Nat} {y : DataW H}, parts[i]? = some y → Rows.uptoBulk y ≤ Rows.uptoBulkAll parts
  | [], i, y, h => by simp at h
  | z :: r, 0, y, h => by cases h; simp only [Rows.uptoBulkAll]; omega
  | z :: r, i + 1, y, h => by
    have := bulk_in (parts := r) (i := i) (y := y) (by simpa using h)
    simp only [Rows.uptoBulkAll]; omega
theorem open_opsU {T : Type} {enc : TypeId × Value → T} {w : World} {base : Nat} {spare : Nat → Bool} {held : Bool} {fuel : Nat} {a : Option Addr} {len cap : Nat} {x : DataW T} {pl : List MemPlace}
    (h : DataW.trod enc Try.prog w base spare held fuel 42 [.slice a len cap] = some (x, pl)) :
    ∃ ops : List OpA, RowAt (heapOf w) a (orow ops) ∧ ops.length = len ∧ len ≤ cap ∧ (∀ o ∈ ops, OpIn (heapOf w) o) ∧ opSum ops ≤ 1 * Rows.uptoBulk x ∧ len ≤ Rows.uptoBulk x := by
  rcases DataW.trod_slice Try.underlying42 h with ⟨hcs, hx⟩ | ⟨p, len', cap', elems, rest, n, _, hcs, hx, _, hl, _, hlen, hel, _, _⟩
  · cases hcs
    exact ⟨[], RowAt.nil _ _, rfl, Nat.le_refl _, fun o ho => by simp at ho, Nat.zero_le _, Nat.zero_le _⟩
  · cases hcs
    obtain ⟨rfl, rfl⟩ := Prod.mk.inj hx
    have hc48 : Try.prog.cellsOf 48 = 7 := by kernel_rfl
    obtain ⟨ops, hol, hoq⟩ := exists_list (Q := fun i (o : OpA) => (∀ (k : Nat) v, o.cells[k]? = some v → w.cell? (p.add (i * 7 + k)) = some v) ∧ OpIn (heapOf w) o ∧ ∀ y, elems[i]? = some y → o.o.b.length ≤ 1 * Rows.uptoBulk y.1) len (fun i hi => by
      have h4 := hel i hi
      rw [hc48] at h4
      cases hv : elems[i]? with
      | none => rw [List.getElem?_eq_none_iff] at hv; omega
      | some y =>
        rw [hv] at h4
        obtain ⟨cs, hcs, htr⟩ := Option.bind_eq_some_iff.1 h4
        obtain ⟨hcl, hcg⟩ := cells_get hcs
        obtain ⟨c0, c1, c2, c3, c4, c5, c6, rfl⟩ := list7 hcl
        obtain ⟨parts, hd, fl⟩ := trod_field Try.underlying48 htr
        obtain ⟨n0, y0, pt0, tr0⟩ := fl 0 _ c0 rfl (by kernel_rfl) rfl
        obtain ⟨z0, he0, _, _⟩ := DataW.trod_int Try.underlying3 tr0
        cases he0
        obtain ⟨n1, y1, pt1, tr1⟩ := fl 1 _ c1 rfl (by kernel_rfl) rfl
        obtain ⟨z1, he1, _, w1⟩ := DataW.trod_int Try.underlying3 tr1
        cases he1
        obtain ⟨n2, y2, pt2, tr2⟩ := fl 2 _ c2 rfl (by kernel_rfl) rfl
        obtain ⟨s2, rfl, b2⟩ := open_textU Try.underlying9 tr2
        obtain ⟨n3, y3, pt3, tr3⟩ := fl 3 _ c3 rfl (by kernel_rfl) rfl
        obtain ⟨s3, rfl, b3⟩ := open_textU Try.underlying9 tr3
        obtain ⟨n4, y4, pt4, tr4⟩ := fl 4 _ c4 rfl (by kernel_rfl) rfl
        obtain ⟨ab, nb, cb, rfl⟩ := trod_slice1 Try.underlying22 tr4
        obtain ⟨l4, r4, e4, q4, b4⟩ := open_bytes (x := y4.1) (pl := y4.2) Try.underlying22 Try.underlying5 (by kernel_rfl) tr4
        obtain ⟨n5, y5, pt5, tr5⟩ := fl 5 _ c5 rfl (by kernel_rfl) rfl
        obtain ⟨z5, he5, _, w5⟩ := DataW.trod_int Try.underlying3 tr5
        cases he5
        obtain ⟨n6, y6, pt6, tr6⟩ := fl 6 _ c6 rfl (by kernel_rfl) rfl
        obtain ⟨z6, he6, _, w6⟩ := DataW.trod_int Try.underlying3 tr6
        cases he6
        subst e4
        refine ⟨⟨⟨z0, z1, s2, s3, l4, z5, z6⟩, ab, cb⟩, fun k v hk => ?_, ⟨r4, ⟨(int_wf w5).1, (int_wf w5).2, (int_wf w6).1, (int_wf w6).2⟩⟩, fun y' hy' => ?_⟩
        · have := hcg k v hk
          rw [Addr.add_add] at this; exact this
        · cases hy'
          have hd' : y.1 = .agg parts := hd
          have := bulk_in pt4
          rw [hd']
          simp only [Rows.uptoBulk]
          show l4.length ≤ _
          omega)
    refine ⟨ops, rowAt_of fun idx v hv => ?_, hol, hl, fun o ho => ?_, ?_, ?_⟩
    · obtain ⟨i, k, o, rfl, h2, h3⟩ := orow_split hv
      exact (hoq i o h2).1 k v h3
    · obtain ⟨i, hi⟩ := List.getElem?_of_mem ho
      exact (hoq i o hi).2.1
    · have := sum_of (f := fun p : OpA => p.o.b.length) (k := 1) ops elems (by omega) fun i o y ho hy => (hoq i o ho).2.2 y hy
      show opSum ops ≤ 1 * Rows.uptoBulk (DataW.slice _ _)
      simp only [Rows.uptoBulk]
      unfold opSum
      omega
    · have := slice_le (elems.map (·.1)) (rest.map (·.1))
      rw [List.length_map] at this
      omega
/-! Several disks -/
structure Dsk where
  g : Nat
  r : Nat
  s : St
  fl : List Fl
def Dsk.bl (d : Dsk) : List Nat := dblk d.g d.r d.fl
structure Many (H1 H : Heap) (ds : List Dsk) : Prop where
  each : ∀ (i : Nat) d, ds[i]? = some d → DiskAt H1 H d.g d.r d.s d.fl
  apart : ∀ (i j : Nat) d e, i ≠ j → ds[i]? = some d → ds[j]? = some e → ∀ b ∈ d.bl, b ∉ e.bl
theorem Many.nil (H1 H : Heap) : Many H1 H [] := ⟨fun i d h => by simp at h, fun i j d e _ h => by simp at h⟩
theorem Many.upd0 {H1 H H' : Heap} {ds : List Dsk} (M : Many H1 H ds) (u : Upd [] H H') : Many H1 H' ds := ⟨fun i d h => (M.each i d h).upd0 u, M.apart⟩
theorem Hv.GrpM.base' {e : Nat} {H1 H2 H : Heap} {vs : List Value} {ls : List (List UInt8)} (G : GrpM e H2 H vs ls) (hn : ∀ v ∈ vs, ∀ b ∈ vblk v, H1 b = none) (u : Upd [] H1 H) : GrpM e H1 H vs ls := ⟨G.grp, hn, u⟩
theorem DiskAt.rebase {H1 H2 H : Heap} {g r : Nat} {s : St} {fl : List Fl} (D : DiskAt H2 H g r s fl) (hn : ∀ b ∈ dblk g r fl, H1 b = none) (u : Upd [] H1 H) : DiskAt H1 H g r s fl := by
  have P := D.phys
  refine ⟨⟨P.obj, P.map, P.str, P.grp.base' (fun v hv b hb => ?_) u, P.np, P.nb, P.nn, P.syn, P.lim, hn g (mem_dblk.2 (.inl rfl)), hn r (mem_dblk.2 (.inr (.inl rfl))), fun f hf => hn _ (mem_dblk.2 (.inr (.inr (.inl ⟨f, hf, rfl⟩))))⟩, D.get, D.all, D.cnt, D.arm, D.lo, D.hi, D.rhi⟩
  obtain ⟨f, hf, rfl⟩ := List.mem_map.1 hv
  exact hn b (mem_dblk.2 (.inr (.inr (.inr ⟨f, hf, hb⟩))))
theorem Many.step {H1 H H' : Heap} {ds : List Dsk} {d : Dsk} {i : Nat} {s' : St} {fl' : List Fl} (M : Many H1 H ds) (hi : ds[i]? = some d) (D' : DiskAt H1 H' d.g d.r s' fl') (S : Stp H H' d.g d.r d.fl fl') : Many H1 H' (ds.set i ⟨d.g, d.r, s', fl'⟩) := by
  have hil := (List.getElem?_eq_some_iff.1 hi).1
  have D := M.each i d hi
  have sub : ∀ b ∈ dblk d.g d.r fl', b ∈ d.bl ∨ H b = none := S.sub
  refine ⟨fun j e hj => ?_, fun j k e f hjk hj hk b hb hb' => ?_⟩
  · rw [List.getElem?_set] at hj
    split at hj
    · cases hj; exact D'
    · rename_i hij
      exact (M.each j e hj).upd S.upd (fun b hb => M.apart i j d e hij hi hj b hb) (fun b hb => D.phys.old b hb)
  · rw [List.getElem?_set] at hj hk
    split at hj
    · rename_i e1; subst e1
      cases hj
      rw [if_neg hjk] at hk
      rcases sub b hb with h | h
      · exact M.apart _ _ _ _ hjk hi hk b h hb'
      · exact (M.each _ _ hk).phys.live b hb' h
    · split at hk
      · rename_i e1 e2; subst e2
        cases hk
        rcases sub b hb' with h | h
        · exact M.apart _ _ _ _ hjk hj hi b hb h
        · exact (M.each _ _ hj).phys.live b hb h
      · exact M.apart _ _ _ _ hjk hj hk b hb hb'
theorem Many.add {H1 H H' : Heap} {ds : List Dsk} {g r : Nat} {s : St} {fl : List Fl} (M : Many H1 H ds) (hb0 : Upd [] H1 H) (D : DiskAt H H' g r s fl) (u : Upd [] H H') : Many H1 H' (ds ++ [⟨g, r, s, fl⟩]) := by
  have D1 : DiskAt H1 H' g r s fl := D.rebase (fun b hb => Upd.none (S := []) hb0 (by simp) (D.phys.old b hb)) (hb0.trans u)
  have M' := M.upd0 u
  refine ⟨fun j e hj => ?_, fun j k e f hjk hj hk b hb hb' => ?_⟩
  · rw [List.getElem?_append] at hj
    split at hj
    · exact M'.each j e hj
    · have : e ∈ [(⟨g, r, s, fl⟩ : Dsk)] := List.mem_of_getElem? hj
      cases List.mem_singleton.1 this
      exact D1
  · rw [List.getElem?_append] at hj hk
    split at hj
    · split at hk
      · exact M.apart j k e f hjk hj hk b hb hb'
      · have : f ∈ [(⟨g, r, s, fl⟩ : Dsk)] := List.mem_of_getElem? hk
        cases List.mem_singleton.1 this
        exact (M.each j e hj).phys.live b hb (D.phys.old b hb')
    · split at hk
      · have : e ∈ [(⟨g, r, s, fl⟩ : Dsk)] := List.mem_of_getElem? hj
        cases List.mem_singleton.1 this
        exact (M.each k f hk).phys.live b hb' (D.phys.old b hb)
      · have h1 := (List.getElem?_eq_some_iff.1 hj).1
        have h2 := (List.getElem?_eq_some_iff.1 hk).1
        simp only [List.length_singleton] at h1 h2
        omega
def lessH (H : Heap) (B : List Nat) : Heap := fun b => if b ∈ B then none else H b
theorem lessH_none {H : Heap} {B : List Nat} {b : Nat} (h : b ∈ B) : lessH H B b = none := if_pos h
theorem upd_less (H : Heap) (B : List Nat) : Upd B H (lessH H B) := fun k hk _ => if_neg hk
theorem less_upd (H : Heap) (B : List Nat) : Upd [] (lessH H B) H := fun k _ h => by
  unfold lessH at h ⊢
  split at h
  · exact absurd rfl h
  · rename_i h'; rw [if_neg h']
theorem upd_less0 {H0 H : Heap} {B : List Nat} (u : Upd [] H0 H) (h : ∀ b ∈ B, H0 b = none) : Upd [] H0 (lessH H B) := fun k hk hn => by
  unfold lessH
  rw [if_neg fun hb => hn (h k hb)]; exact u k hk hn
def dskB (ds : List Dsk) : List Nat := ds.flatMap Dsk.bl
theorem Many.less {H1 H : Heap} {ds : List Dsk} (M : Many H1 H ds) : Many (lessH H (dskB ds)) H ds :=
  ⟨fun i d h => (M.each i d h).rebase (fun b hb => lessH_none (List.mem_flatMap.2 ⟨d, List.mem_of_getElem? h, hb⟩)) (less_upd _ _), M.apart⟩
theorem Many.old {H1 H : Heap} {ds : List Dsk} (M : Many H1 H ds) : ∀ b ∈ dskB ds, H1 b = none := fun b hb => by
  obtain ⟨d, hd, hb⟩ := List.mem_flatMap.1 hb
  obtain ⟨i, hi⟩ := List.getElem?_of_mem hd
  exact (M.each i d hi).phys.old b hb
end Go.Proofs.Ytocejipjnklieaa
