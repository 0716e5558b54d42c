import Derived.Test.YtfcmjomnpahllaaGreatRows
import Derived.Test.YtfcmjomnpahllaaGreatHvA
import Derived.WalkKit
import Derived.ProofKit
import Derived.OpenShut
import Derived.ShutString
import Derived.ChangeOld
import Derived.Below
import Derived.JoinedCond
import Derived.SizedLaws
import Derived.DataElems
import Derived.DataReads
section
namespace Go.Proofs.YtfcmjomnpahllaaGreat.Hv
open Go Go.ChangeShapes Go.WideShapes Go.ChangeAt Go.RowKit
set_option linter.unusedVariables false
set_option linter.unusedSimpArgs false

/-! ## From a world to a heap in part and back -/
def heapOf (W : World) : Heap := fun b => W.heap[b]?
theorem sat_heapOf (W : World) : Sat (heapOf W) W := fun _ _ h => h
theorem cell_heapOf {W : World} {a : Addr} {v : Value} (h : W.cell? a = some v) : (heapOf W).cell? a = some v := by
  unfold World.cell? at h; unfold Heap.cell? heapOf
  cases e : W.heap[a.block]? with
  | none => rw [e] at h; cases h
  | some o => rw [e] at h; cases o <;> exact h
theorem below_of {W w' : World} {H' : Heap} (hs : Sat H' w') (hf : Fr (heapOf W) H' W w') (hu : Upd [] (heapOf W) H') : Below W.heap.size W w' := by
  refine ⟨hf.os, hf.tape, hf.output, hf.size, fun k hk => ?_⟩
  have hne : heapOf W k ≠ none := by unfold heapOf; simp [hk]
  have h1 := hu k (by simp) hne
  cases e : heapOf W k with
  | none => exact absurd e hne
  | some o => rw [e] at h1; rw [hs k o h1]; exact e.symm
theorem spot_of {W : World} {a : Addr} {v : Value} (h : W.cell? a = some v) : a.spot = none := by
  unfold World.cell? at h
  cases hs : a.spot with
  | none => rfl
  | some s =>
    cases e : W.heap[a.block]? with
    | none => rw [e] at h; cases h
    | some o => rw [e] at h; cases o <;> simp [hs] at h
theorem rowAt_of {W : World} {a : Addr} {cs : List Value} (h : ∀ i v, cs[i]? = some v → W.cell? (a.add i) = some v) : RowAt (heapOf W) (some a) cs := fun i v hi => by
  have h0 : a.spot = none := by
    have hlt := (List.getElem?_eq_some_iff.1 hi).1
    have := h 0 (cs[0]'(by omega)) (by simp)
    have e0 : a.add 0 = a := by unfold Addr.add; simp
    rw [e0] at this
    exact spot_of this
  obtain ⟨b, off, sp⟩ := a
  simp only at h0
  subst h0
  have h1 := h i v hi
  rw [Addr.add_lit] at h1
  exact ⟨b, off, rfl, cell_heapOf h1⟩
theorem slice_le {H : Type} (elems spare : List (DataW H)) : elems.length + spare.length + 1 ≤ Rows.uptoBulk (.slice elems spare) := by
  have one : ∀ d : DataW H, 1 ≤ Rows.uptoBulk d := fun d => by
    cases d with
    | lit l => cases l <;> simp [Rows.uptoBulk]
    | _ => simp [Rows.uptoBulk]
  have len : ∀ l : List (DataW H), l.length ≤ Rows.uptoBulkAll l := fun l => by
    induction l with
    | nil => simp [Rows.uptoBulkAll]
    | cons x r ih => have := one x; simp only [Rows.uptoBulkAll, List.length_cons]; omega
  have h1 := len elems
  have h2 := len spare
  simp only [Rows.uptoBulk]
  omega
theorem bulk_bound {H : Type} {l : List (DataW H)} (hk : Rows.uptoSmall H l = true) : Rows.uptoBulkAll l ≤ 1048576 := of_decide_eq_true hk
/-- An argument of bytes. -/
theorem open_bytes {T : Type} {enc : TypeId × Value → T} {P : Program} {w : World} {base : Nat} {spare : Nat → Bool} {held : Bool} {t e : TypeId} {fuel : Nat} {a : Option Addr} {len cap : Nat} {x : DataW T} {pl : List MemPlace}
    (ht : P.underlying t = some (.slice e)) (he : P.underlying e = some (.int .u8)) (hc : P.cellsOf e = 1) (h : DataW.trod enc P w base spare held fuel t [.slice a len cap] = some (x, pl)) :
    ∃ ys : List UInt8, RowAt (heapOf w) a (u8s ys) ∧ ys.length = len ∧ len ≤ cap ∧ len ≤ Rows.uptoBulk x := by
  rcases open_ints ht he hc h with ⟨hcs, _⟩ | ⟨p, l, c, zs, hcs, _, hl, hm, hz, hx, hcell, hwz⟩
  · cases hcs
    exact ⟨[], RowAt.nil _ _, rfl, Nat.le_refl _, Nat.zero_le _⟩
  · cases hcs
    have hlz : len ≤ zs.length := by rw [hz]; split <;> omega
    refine ⟨(zs.take len).map fun z => UInt8.ofNat z.toNat, ?_, by simp; omega, hl, ?_⟩
    · refine rowAt_of fun i v hi => ?_
      unfold u8s at hi
      rw [List.map_map, List.getElem?_map, List.getElem?_take] at hi
      split at hi
      · rename_i hlt
        have hi' : i < zs.length := by omega
        rw [List.getElem?_eq_getElem hi'] at hi
        simp only [Option.map_some, Option.some.injEq] at hi
        rw [hcell i hi', ← hi]
        have hw := hwz zs[i] (List.getElem_mem hi')
        have e1 : zs.getD i 0 = zs[i] := by simp [List.getD, hi']
        rw [e1]
        show some (Value.int .u8 zs[i]) = some (Value.int .u8 ((UInt8.ofNat zs[i].toNat).toNat : Int))
        have : (Lit.int .u8 zs[i]).wf = true → 0 ≤ zs[i] ∧ zs[i] ≤ 255 := fun h => by
          simp [Lit.wf, IntKind.min, IntKind.max, IntKind.signed, IntKind.bits] at h; omega
        have := this hw
        congr 2
        rw [UInt8.toNat_ofNat']; omega
      · cases hi
    · obtain ⟨rfl, rfl⟩ := Prod.mk.inj hx
      have := slice_le (lits (H := T) .u8 (zs.take len)) (lits .u8 (zs.drop len))
      have e : (lits (H := T) .u8 (zs.take len)).length = len := by simp [lits]; omega
      show len ≤ Rows.uptoBulk (DataW.slice _ _)
      omega
/-- An argument of whole numbers. -/
theorem open_nums {T : Type} {enc : TypeId × Value → T} {P : Program} {w : World} {base : Nat} {spare : Nat → Bool} {held : Bool} {t e : TypeId} {k : IntKind} {fuel : Nat} {a : Option Addr} {len cap : Nat} {x : DataW T} {pl : List MemPlace}
    (ht : P.underlying t = some (.slice e)) (he : P.underlying e = some (.int k)) (hc : P.cellsOf e = 1) (h : DataW.trod enc P w base spare held fuel t [.slice a len cap] = some (x, pl)) :
    ∃ zs : List Int, RowAt (heapOf w) a (zs.map (Value.int k)) ∧ zs.length = len ∧ len ≤ cap ∧ len ≤ Rows.uptoBulk x ∧ ∀ z ∈ zs, (Lit.int k z).wf = true := by
  rcases open_ints ht he hc h with ⟨hcs, _⟩ | ⟨p, l, c, zs, hcs, _, hl, hm, hz, hx, hcell, hwz⟩
  · cases hcs
    exact ⟨[], RowAt.nil _ _, rfl, Nat.le_refl _, Nat.zero_le _, fun z hz => by cases hz⟩
  · cases hcs
    have hlz : len ≤ zs.length := by rw [hz]; split <;> omega
    refine ⟨zs.take len, ?_, by simp; omega, hl, ?_, fun z hz => hwz z (List.mem_of_mem_take hz)⟩
    · refine rowAt_of fun i v hi => ?_
      rw [List.getElem?_map, List.getElem?_take] at hi
      split at hi
      · rename_i hlt
        have hi' : i < zs.length := by omega
        rw [List.getElem?_eq_getElem hi'] at hi
        simp only [Option.map_some, Option.some.injEq] at hi
        rw [hcell i hi', ← hi]
        have e1 : zs.getD i 0 = zs[i] := by simp [List.getD, hi']
        rw [e1]
      · cases hi
    · obtain ⟨rfl, rfl⟩ := Prod.mk.inj hx
      have := slice_le (lits (H := T) k (zs.take len)) (lits k (zs.drop len))
      have e : (lits (H := T) k (zs.take len)).length = len := by simp [lits]; omega
      show len ≤ Rows.uptoBulk (DataW.slice _ _)
      omega
end Go.Proofs.YtfcmjomnpahllaaGreat.Hv
end
section
namespace Go.Proofs.YtfcmjomnpahllaaGreat.Hv
open Go Go.ChangeShapes Go.WideShapes Go.ChangeAt Go.RowKit
set_option linter.unusedVariables false
set_option linter.unusedSimpArgs false
theorem exists_lists {α β : Type} {Q : Nat → α → β → Prop} : ∀ n, (∀ i, i < n → ∃ v l, Q i v l) → ∃ (vs : List α) (ls : List β), vs.length = n ∧ ls.length = n ∧ ∀ i v l, vs[i]? = some v → ls[i]? = some l → Q i v l
  | 0, _ => ⟨[], [], rfl, rfl, fun i v l h => by simp at h⟩
  | n + 1, h => by
    obtain ⟨vs, ls, h1, h2, h3⟩ := exists_lists n fun i hi => h i (by omega)
    obtain ⟨v, l, hq⟩ := h n (by omega)
    refine ⟨vs ++ [v], ls ++ [l], by simp [h1], by simp [h2], fun i v' l' hv hl => ?_⟩
    by_cases hi : i < n
    · rw [List.getElem?_append_left (by omega)] at hv hl
      exact h3 i v' l' hv hl
    · have hi' := (List.getElem?_eq_some_iff.1 hv).1
      simp [h1] at hi'
      have : i = n := by omega
      subst this
      rw [List.getElem?_append_right (by omega), h1] at hv
      rw [List.getElem?_append_right (by omega), h2] at hl
      simp at hv hl
      subst hv; subst hl; exact hq
theorem All2.of {α β : Type} {R : α → β → Prop} : ∀ {xs : List α} {ys : List β}, xs.length = ys.length → (∀ (i : Nat) (x : α) (y : β), xs[i]? = some x → ys[i]? = some y → R x y) → All2 R xs ys
  | [], [], _, _ => trivial
  | x :: xs, y :: ys, hl, h => ⟨h 0 x y rfl rfl, All2.of (by simpa using hl) fun i a b ha hb => h (i + 1) a b (by simpa using ha) (by simpa using hb)⟩
theorem open_bytes1 {T : Type} {enc : TypeId × Value → T} {P : Program} {w : World} {base : Nat} {spare : Nat → Bool} {held : Bool} {t e : TypeId} {fuel : Nat} {a : Option Addr} {len cap : Nat} {x : DataW T} {pl : List MemPlace}
    (ht : P.underlying t = some (.slice e)) (he : P.underlying e = some (.int .u8)) (hc : P.cellsOf e = 1) (h : DataW.trod enc P w base spare held fuel t [.slice a len cap] = some (x, pl)) :
    ∃ ys : List UInt8, RowAt (heapOf w) a (u8s ys) ∧ ys.length = len ∧ len ≤ cap ∧ len + 1 ≤ Rows.uptoBulk x := by
  obtain ⟨ys, h1, h2, h3, h4⟩ := open_bytes ht he hc h
  refine ⟨ys, h1, h2, h3, ?_⟩
  rcases DataW.trod_slice ht h with ⟨hcs, hx⟩ | ⟨_, _, _, elems, rest, _, _, hcs, hx, _, _, _, hlen, _⟩
  · cases hcs; obtain ⟨rfl, rfl⟩ := Prod.mk.inj hx; simp [Rows.uptoBulk]
  · cases hcs
    obtain ⟨rfl, rfl⟩ := Prod.mk.inj hx
    have := slice_le (elems.map (·.1)) (rest.map (·.1))
    rw [List.length_map, hlen] at this
    omega
theorem sum_bulk {T : Type} : ∀ (ls : List (List UInt8)) (es : List (DataW T × List MemPlace)), ls.length = es.length → (∀ (i : Nat) (l : List UInt8) (y : DataW T × List MemPlace), ls[i]? = some l → es[i]? = some y → List.length l + 1 ≤ Rows.uptoBulk y.1) → (ls.map List.length).sum + es.length ≤ Rows.uptoBulkAll (es.map (·.1))
  | [], [], _, _ => by simp [Rows.uptoBulkAll]
  | l :: ls, y :: es, hl, h => by
    have h1 := h 0 l y rfl rfl
    have h2 := sum_bulk ls es (by simpa using hl) fun i a b ha hb => h (i + 1) a b (by simpa using ha) (by simpa using hb)
    simp only [List.map_cons, List.sum_cons, List.length_cons, Rows.uptoBulkAll]
    omega
/-- An argument: a slice of slices of bytes. -/
theorem open_lists {T : Type} {enc : TypeId × Value → T} {P : Program} {w : World} {base : Nat} {spare : Nat → Bool} {held : Bool} {s t e : TypeId} {fuel : Nat} {a : Option Addr} {len cap : Nat} {x : DataW T} {pl : List MemPlace}
    (hs : P.underlying s = some (.slice t)) (hct : P.cellsOf t = 1) (ht : P.underlying t = some (.slice e)) (he : P.underlying e = some (.int .u8)) (hc : P.cellsOf e = 1) (h : DataW.trod enc P w base spare held fuel s [.slice a len cap] = some (x, pl)) :
    ∃ (vs : List Value) (ls : List (List UInt8)), RowAt (heapOf w) a vs ∧ vs.length = len ∧ ls.length = len ∧ len ≤ cap ∧
      (∀ (i : Nat) (v : Value) (l : List UInt8), vs[i]? = some v → ls[i]? = some l → ∃ b c, v = .slice b l.length c ∧ l.length ≤ c ∧ RowAt (heapOf w) b (u8s l)) ∧
      (ls.map List.length).sum + len ≤ Rows.uptoBulk x := by
  rcases DataW.trod_slice hs h with ⟨hcs, _⟩ | ⟨p, len', cap', elems, rest, n, _, hcs, hx, _, hl, _, hlen, hel, _, _⟩
  · cases hcs
    exact ⟨[], [], RowAt.nil _ _, rfl, rfl, Nat.zero_le _, fun i v l h => by simp at h, Nat.zero_le _⟩
  · cases hcs
    obtain ⟨vs, ls, h1, h2, h3⟩ := exists_lists (Q := fun i v l => w.cell? (p.add i) = some v ∧ (∀ y, elems[i]? = some y → List.length l + 1 ≤ Rows.uptoBulk y.1) ∧ ∃ b c, v = .slice b (List.length l) c ∧ List.length l ≤ c ∧ RowAt (heapOf w) b (u8s l)) len (fun i hi => by
      have h4 := hel i hi
      rw [hct, Nat.mul_one] at h4
      cases hv : elems[i]? with
      | none => rw [List.getElem?_eq_none_iff] at hv; omega
      | some y =>
        rw [hv] at h4
        unfold World.cells? at h4
        split at h4
        · cases hcell : w.cell? (p.add i) with
          | none =>
            have e0 : (p.add i).add 0 = p.add i := by unfold Addr.add; simp
            simp [List.range_succ, e0, hcell] at h4
          | some v =>
            have e0 : (p.add i).add 0 = p.add i := by unfold Addr.add; simp
            simp [List.range_succ, e0, hcell] at h4
            have hv' : ∃ b l c, v = .slice b l c := by
              rcases DataW.trod_slice ht h4 with ⟨hcs, _⟩ | ⟨_, _, _, _, _, _, _, hcs, _⟩
              · cases hcs; exact ⟨_, _, _, rfl⟩
              · cases hcs; exact ⟨_, _, _, rfl⟩
            obtain ⟨b, l, c, rfl⟩ := hv'
            obtain ⟨d, ps⟩ := y
            obtain ⟨ys, hr, hyl, hle, hbk⟩ := open_bytes1 ht he hc h4
            exact ⟨_, ys, rfl, fun y' hy' => (by cases hy'; rw [hyl]; exact hbk), b, c, by rw [hyl], by omega, hr⟩
        · cases h4)
    refine ⟨vs, ls, rowAt_of fun i v hi => ?_, h1, h2, hl, fun i v l hv hll => (h3 i v l hv hll).2.2, ?_⟩
    rotate_left
    · obtain ⟨rfl, rfl⟩ := Prod.mk.inj hx
      show (ls.map List.length).sum + len ≤ Rows.uptoBulk (DataW.slice _ _)
      simp only [Rows.uptoBulk]
      have := sum_bulk ls elems (by omega) fun i l y hl' hy => by
        obtain ⟨v, hv⟩ : ∃ v, vs[i]? = some v := by
          have := (List.getElem?_eq_some_iff.1 hl').1
          exact ⟨vs[i]'(by omega), by simp⟩
        exact (h3 i v l hv hl').2.1 y hy
      omega
    have hi' := (List.getElem?_eq_some_iff.1 hi).1
    obtain ⟨l, hll⟩ : ∃ l, ls[i]? = some l := ⟨ls[i]'(by omega), by simp⟩
    exact (h3 i v l hi hll).1
end Go.Proofs.YtfcmjomnpahllaaGreat.Hv
end
section
namespace Go.Proofs.YtfcmjomnpahllaaGreat.Hv
open Go Go.ChangeShapes Go.WideShapes Go.ChangeAt Go.RowKit
set_option linter.unusedVariables false
set_option linter.unusedSimpArgs false
theorem okWide_num {P : Program} {w : World} {r : Reach} {base : Nat} {t : TypeId} {v : Value} {k : IntKind} (ht : P.underlying t = some (.int k)) (h : Value.okWide P w r base t v) : ∃ n, v = .int k n ∧ k.min ≤ n ∧ n ≤ k.max := by
  simp only [Value.okWide, ht, Cell.okWide] at h
  cases v <;> simp_all [Cell.ok, IntKind.has]
/-- An argument of bytes, sized. -/
theorem open_sized {T : Type} {enc : TypeId × Value → T} {P : Program} {w : World} {base : Nat} {spare : Nat → Bool} {held : Bool} {ts : List TypeId} {ds : List (DataW T)} {j : Nat} {t e : TypeId} {fuel : Nat} {a : Option Addr} {len cap : Nat} {x : DataW T} {pl : List MemPlace}
    (ht : P.underlying t = some (.slice e)) (he : P.underlying e = some (.int .u8)) (hc : P.cellsOf e = 1) (hb : P.bytesOf e = 1)
    (hz : (DataW.weightsEach P ts ds).all (· ≤ reachBytes) = true) (hts : ts[j]? = some t) (hds : ds[j]? = some x) (h : DataW.trod enc P w base spare held fuel t [.slice a len cap] = some (x, pl)) :
    ∃ ys : List UInt8, RowAt (heapOf w) a (u8s ys) ∧ ys.length = len ∧ len ≤ cap ∧ len ≤ 140737488351232 := by
  obtain ⟨ys, h1, h2, h3, _⟩ := open_bytes ht he hc h
  refine ⟨ys, h1, h2, h3, ?_⟩
  rcases DataW.trod_slice ht h with ⟨hcs, _⟩ | ⟨_, _, _, elems, rest, _, _, hcs, hx, _, _, _, hlen, _⟩
  · cases hcs; exact Nat.zero_le _
  · cases hcs
    obtain ⟨rfl, rfl⟩ := Prod.mk.inj hx
    have := sized_slice hz hts hds ht
    rw [hb, List.length_map, List.length_map, hlen] at this
    have hr : reachBytes = 140737488351232 := rfl
    omega
end Go.Proofs.YtfcmjomnpahllaaGreat.Hv
end
section
namespace Go.Proofs.YtfcmjomnpahllaaGreat.Hv
open Go Go.ChangeShapes Go.WideShapes Go.ChangeAt Go.RowKit
set_option linter.unusedVariables false
set_option linter.unusedSimpArgs false
/-! ## Arguments that are structs whose fields have one cell each -/
theorem arr1 {cs : Array Value} (h : cs.toList.length = 1) : ∃ x0, cs = #[x0] := by
  obtain ⟨l⟩ := cs
  match l, h with
  | [x0], _ => exact ⟨x0, rfl⟩
theorem arr2 {cs : Array Value} (h : cs.toList.length = 2) : ∃ x0 x1, cs = #[x0, x1] := by
  obtain ⟨l⟩ := cs
  match l, h with
  | [x0, x1], _ => exact ⟨x0, x1, rfl⟩
theorem arr3 {cs : Array Value} (h : cs.toList.length = 3) : ∃ x0 x1 x2, cs = #[x0, x1, x2] := by
  obtain ⟨l⟩ := cs
  match l, h with
  | [x0, x1, x2], _ => exact ⟨x0, x1, x2, rfl⟩
theorem arr4 {cs : Array Value} (h : cs.toList.length = 4) : ∃ x0 x1 x2 x3, cs = #[x0, x1, x2, x3] := by
  obtain ⟨l⟩ := cs
  match l, h with
  | [x0, x1, x2, x3], _ => exact ⟨x0, x1, x2, x3, rfl⟩
theorem arr5 {cs : Array Value} (h : cs.toList.length = 5) : ∃ x0 x1 x2 x3 x4, cs = #[x0, x1, x2, x3, x4] := by
  obtain ⟨l⟩ := cs
  match l, h with
  | [x0, x1, x2, x3, x4], _ => exact ⟨x0, x1, x2, x3, x4, rfl⟩
theorem arr6 {cs : Array Value} (h : cs.toList.length = 6) : ∃ x0 x1 x2 x3 x4 x5, cs = #[x0, x1, x2, x3, x4, x5] := by
  obtain ⟨l⟩ := cs
  match l, h with
  | [x0, x1, x2, x3, x4, x5], _ => exact ⟨x0, x1, x2, x3, x4, x5, rfl⟩
theorem arr7 {cs : Array Value} (h : cs.toList.length = 7) : ∃ x0 x1 x2 x3 x4 x5 x6, cs = #[x0, x1, x2, x3, x4, x5, x6] := by
  obtain ⟨l⟩ := cs
  match l, h with
  | [x0, x1, x2, x3, x4, x5, x6], _ => exact ⟨x0, x1, x2, x3, x4, x5, x6, rfl⟩
theorem arr8 {cs : Array Value} (h : cs.toList.length = 8) : ∃ x0 x1 x2 x3 x4 x5 x6 x7, cs = #[x0, x1, x2, x3, x4, x5, x6, x7] := by
  obtain ⟨l⟩ := cs
  match l, h with
  | [x0, x1, x2, x3, x4, x5, x6, x7], _ => exact ⟨x0, x1, x2, x3, x4, x5, x6, x7, rfl⟩
theorem sized_struct {H : Type} {P : Program} {ts : List TypeId} {ds : List (DataW H)} (h : (DataW.weightsEach P ts ds).all (· ≤ reachBytes) = true) {j : Nat} {t : TypeId} {fs : Array Field} {parts : List (DataW H)} (ht : ts[j]? = some t) (hd : ds[j]? = some (.agg parts)) (hu : P.underlying t = some (.struct fs)) :
    (DataW.weightsEach P (fs.toList.map (·.type)) parts).all (· ≤ reachBytes) = true := by
  refine List.all_eq_true.2 fun n hn => ?_
  exact List.all_eq_true.1 h n (DataW.weights_mem_each ht hd n (by simp only [DataW.weights, hu]; exact hn))
theorem trod_field {H : Type} {enc : TypeId × Value → H} {P : Program} {w : World} {base : Nat} {spare : Nat → Bool} {held : Bool} {fuel : Nat} {t : TypeId} {cs : List Value} {x : DataW H × List MemPlace} {fs : Array Field} (ht : P.underlying t = some (.struct fs)) (h : DataW.trod enc P w base spare held fuel t cs = some x) :
    ∃ parts : List (DataW H), x.1 = .agg parts ∧ ∀ (j : Nat) (f : Field) (e : Value), fs[j]? = some f → P.cellsOf f.type = 1 → cs[f.offset]? = some e → ∃ n y, parts[j]? = some y.1 ∧ DataW.trod enc P w base spare held n f.type [e] = some y := by
  obtain ⟨xs, n, _, rfl, hl, hlen, hf⟩ := DataW.trod_struct ht h
  refine ⟨_, rfl, fun j f e hj hc he => ?_⟩
  have h1 := hf j f hj
  have hj' : j < xs.length := by rw [hlen]; exact (Array.getElem?_eq_some_iff.1 hj).1
  rw [hc, List.getElem?_eq_getElem hj'] at h1
  have e1 : (cs.drop f.offset).take 1 = [e] := by
    obtain ⟨h2, h3⟩ := List.getElem?_eq_some_iff.1 he
    rw [List.drop_eq_getElem_cons h2, h3]; rfl
  rw [e1] at h1
  exact ⟨n, xs[j], by simp [hj'], h1⟩
theorem trod_slice1 {H : Type} {enc : TypeId × Value → H} {P : Program} {w : World} {base : Nat} {spare : Nat → Bool} {held : Bool} {fuel : Nat} {t e : TypeId} {v : Value} {x : DataW H × List MemPlace} (ht : P.underlying t = some (.slice e)) (h : DataW.trod enc P w base spare held fuel t [v] = some x) : ∃ a l c, v = .slice a l c := by
  rcases DataW.trod_slice ht h with ⟨hcs, _⟩ | ⟨_, _, _, _, _, _, _, hcs, _⟩
  · cases hcs; exact ⟨_, _, _, rfl⟩
  · cases hcs; exact ⟨_, _, _, rfl⟩
theorem open_string {H : Type} {enc : TypeId × Value → H} {P : Program} {w : World} {base : Nat} {spare : Nat → Bool} {held : Bool} {fuel : Nat} {t : TypeId} {v : Value} {x : DataW H × List MemPlace} {ts : List TypeId} {ds : List (DataW H)} {j : Nat} (ht : P.underlying t = some .string)
    (hz : (DataW.weightsEach P ts ds).all (· ≤ reachBytes) = true) (hts : ts[j]? = some t) (hds : ds[j]? = some x.1) (h : DataW.trod enc P w base spare held fuel t [v] = some x) : ∃ l : List UInt8, v = .string (bs l) ∧ l.length ≤ 140737488351232 := by
  obtain ⟨s, hs, rfl, hm⟩ := DataW.trod_string ht h
  have := sized_string hz hts hds
  refine ⟨s.data.toList, ?_, this⟩
  cases hs
  show Value.string s = Value.string ⟨s.data.toList.toArray⟩
  rw [Array.toArray_toList]
end Go.Proofs.YtfcmjomnpahllaaGreat.Hv
end
section
namespace Go.Proofs.YtfcmjomnpahllaaGreat.Hv
open Go Go.ChangeShapes Go.WideShapes Go.ChangeAt Go.RowKit
set_option linter.unusedVariables false
set_option linter.unusedSimpArgs false
/-! ## Arguments that are slices of structs; arrays of whole numbers -/
theorem weightsAll_mem {H : Type} {P : Program} {e : TypeId} : ∀ {es : List (DataW H)} {i : Nat} {d : DataW H}, es[i]? = some d → ∀ n ∈ d.weights P e, n ∈ DataW.weightsAll P e es
  | x :: es, 0, d, h, n, hn => by
    simp only [List.getElem?_cons_zero, Option.some.injEq] at h
    subst h
    simp only [DataW.weightsAll, List.mem_append]
    exact .inl hn
  | x :: es, i + 1, d, h, n, hn => by
    simp only [List.getElem?_cons_succ] at h
    simp only [DataW.weightsAll, List.mem_append]
    exact .inr (weightsAll_mem h n hn)
  | [], i, d, h, _, _ => by simp at h
theorem sized_elem {H : Type} {P : Program} {ts : List TypeId} {ds : List (DataW H)} (h : (DataW.weightsEach P ts ds).all (· ≤ reachBytes) = true) {j i : Nat} {t e : TypeId} {es sp : List (DataW H)} {d : DataW H} (ht : ts[j]? = some t) (hd : ds[j]? = some (.slice es sp)) (hu : P.underlying t = some (.slice e)) (hi : es[i]? = some d) : ∀ n ∈ d.weights P e, n ≤ reachBytes := by
  intro n hn
  have h1 := weightsAll_mem hi n hn
  have := List.all_eq_true.1 h n (DataW.weights_mem_each ht hd n (by simp only [DataW.weights, hu, List.mem_cons, List.mem_append]; exact .inr (.inl h1)))
  simpa using this
theorem sized_elem_struct {H : Type} {P : Program} {ts : List TypeId} {ds : List (DataW H)} (h : (DataW.weightsEach P ts ds).all (· ≤ reachBytes) = true) {j i : Nat} {t e : TypeId} {es sp parts : List (DataW H)} {fs : Array Field} (ht : ts[j]? = some t) (hd : ds[j]? = some (.slice es sp)) (hu : P.underlying t = some (.slice e)) (hi : es[i]? = some (.agg parts)) (hf : P.underlying e = some (.struct fs)) :
    (DataW.weightsEach P (fs.toList.map (·.type)) parts).all (· ≤ reachBytes) = true := by
  refine List.all_eq_true.2 fun n hn => ?_
  have := sized_elem h ht hd hu hi n (by simp only [DataW.weights, hf]; exact hn)
  simpa using this
theorem cells_get {w : World} {base n : Nat} {a : Addr} {cs : List Value} (h : w.cells? base a n = some cs) : cs.length = n ∧ ∀ (i : Nat) v, cs[i]? = some v → w.cell? (a.add i) = some v := by
  unfold World.cells? at h
  split at h
  · have hl := mapM_some_length h
    rw [List.length_range] at hl
    refine ⟨hl, fun i v hv => ?_⟩
    have hi := (List.getElem?_eq_some_iff.1 hv).1
    rw [mapM_some_get h i i (by rw [List.getElem?_range (by omega)]), hv]
  · cases h
theorem exists_list {α : Type} {Q : Nat → α → Prop} : ∀ n, (∀ i, i < n → ∃ v, Q i v) → ∃ vs : List α, vs.length = n ∧ ∀ i v, vs[i]? = some v → Q i v
  | 0, _ => ⟨[], rfl, fun i v h => by simp at h⟩
  | n + 1, h => by
    obtain ⟨vs, h1, h2⟩ := exists_list n fun i hi => h i (by omega)
    obtain ⟨v, hv⟩ := h n (by omega)
    refine ⟨vs ++ [v], by simp [h1], fun i w hw => ?_⟩
    by_cases hi : i < n
    · rw [List.getElem?_append_left (by omega)] at hw
      exact h2 i w hw
    · have hi' := (List.getElem?_eq_some_iff.1 hw).1
      simp [h1] at hi'
      have : i = n := by omega
      subst this
      rw [List.getElem?_append_right (by omega), h1, Nat.sub_self] at hw
      cases hw; exact hv
theorem list5 {α : Type} {l : List α} (h : l.length = 5) : ∃ a b c d e, l = [a, b, c, d, e] := by
  match l, h with
  | [a, b, c, d, e], _ => exact ⟨a, b, c, d, e, rfl⟩
/-- An array of four whole numbers. -/
theorem okWide_ints4 {P : Program} {w : World} {r : Reach} {base : Nat} {t e : TypeId} {n : Nat} {v : Value} (ht : P.underlying t = some (.array n e)) (he : P.underlying e = some (.int .i64)) (hc : P.cellsOf t = 4) (hts : P.cellTypes P.depth t = some [e, e, e, e]) (h : Value.okWide P w r base t v) :
    ∃ z0 z1 z2 z3 : Int, v = .agg #[.int .i64 z0, .int .i64 z1, .int .i64 z2, .int .i64 z3] := by
  simp only [Value.okWide, ht] at h
  obtain ⟨cs, rfl, hsz, ts, hts', _, hall⟩ := h
  rw [hts] at hts'
  cases hts'
  obtain ⟨x0, x1, x2, x3, rfl⟩ := arr4 (Array.length_toList.trans (hsz.trans hc))
  have key : ∀ (i : Nat) x, i < 4 → #[x0, x1, x2, x3][i]? = some x → ∃ z, x = .int .i64 z := by
    intro i x hi hx
    obtain ⟨u, hu, hcell⟩ := hall i x hx
    have hue : u = e := by
      have : ∀ i : Nat, i < 4 → [e, e, e, e][i % 4]? = some e := fun i hi => by
        match i, hi with
        | 0, _ => rfl
        | 1, _ => rfl
        | 2, _ => rfl
        | 3, _ => rfl
      have h2 : [e, e, e, e][i % 4]? = some u := hu
      rw [this i hi] at h2; cases h2; rfl
    subst hue
    simp only [Cell.okWide, he] at hcell
    cases x <;> simp_all [Cell.ok]
  obtain ⟨z0, rfl⟩ := key 0 x0 (by decide) rfl
  obtain ⟨z1, rfl⟩ := key 1 x1 (by decide) rfl
  obtain ⟨z2, rfl⟩ := key 2 x2 (by decide) rfl
  obtain ⟨z3, rfl⟩ := key 3 x3 (by decide) rfl
  exact ⟨z0, z1, z2, z3, rfl⟩
end Go.Proofs.YtfcmjomnpahllaaGreat.Hv
end
section
namespace Go.Proofs.YtfcmjomnpahllaaGreat.Hv
open Go Go.ChangeShapes Go.WideShapes Go.ChangeAt Go.RowKit
set_option linter.unusedVariables false
set_option linter.unusedSimpArgs false
/-! An argument: a slice of strings. -/
def textsV (ls : List (List UInt8)) : List Value := ls.map fun l => Value.string (bs l)
theorem open_texts {T : Type} {enc : TypeId × Value → T} {P : Program} {w : World} {base : Nat} {spare : Nat → Bool} {held : Bool} {ts : List TypeId} {ds : List (DataW T)} {j : Nat} {t e : TypeId} {fuel : Nat} {a : Option Addr} {len cap : Nat} {x : DataW T} {pl : List MemPlace}
    (ht : P.underlying t = some (.slice e)) (he : P.underlying e = some .string) (hc : P.cellsOf e = 1) (hb : P.bytesOf e = 16)
    (hz : (DataW.weightsEach P ts ds).all (· ≤ reachBytes) = true) (hts : ts[j]? = some t) (hds : ds[j]? = some x) (h : DataW.trod enc P w base spare held fuel t [.slice a len cap] = some (x, pl)) :
    ∃ ls : List (List UInt8), RowAt (heapOf w) a (textsV ls) ∧ ls.length = len ∧ len ≤ cap ∧ (∀ l ∈ ls, l.length ≤ 140737488351232) ∧ len ≤ 8796093021952 := by
  rcases DataW.trod_slice ht h with ⟨hcs, hx⟩ | ⟨p, len', cap', elems, rest, n, _, hcs, hx, _, hl, _, hlen, hel, _, _⟩
  · cases hcs
    exact ⟨[], RowAt.nil _ _, rfl, Nat.le_refl _, fun o ho => by simp at ho, Nat.zero_le _⟩
  · cases hcs
    obtain ⟨rfl, rfl⟩ := Prod.mk.inj hx
    obtain ⟨ls, hol, hoq⟩ := exists_list (Q := fun i l => w.cell? (p.add i) = some (.string (bs l)) ∧ List.length l ≤ 140737488351232) len (fun i hi => by
      have h4 := hel i hi
      rw [hc, Nat.mul_one] at h4
      cases hv : elems[i]? with
      | none => rw [List.getElem?_eq_none_iff] at hv; omega
      | some y =>
        rw [hv] at h4
        obtain ⟨cs, hcs, htr⟩ := Option.bind_eq_some_iff.1 h4
        obtain ⟨hcl, hcg⟩ := cells_get hcs
        obtain ⟨c0, rfl⟩ : ∃ c0, cs = [c0] := by
          match cs, hcl with
          | [c0], _ => exact ⟨c0, rfl⟩
        obtain ⟨s, hs, hy, hm⟩ := DataW.trod_string he htr
        have h5 := hcg 0 c0 rfl
        have e0 : (p.add i).add 0 = p.add i := by unfold Addr.add; simp
        rw [e0] at h5
        cases hs
        refine ⟨s.data.toList, ?_, ?_⟩
        · rw [h5]
          show some (Value.string s) = some (Value.string ⟨s.data.toList.toArray⟩)
          rw [Array.toArray_toList]
        · have := sized_elem hz hts hds ht (i := i) (d := y.1) (by rw [List.getElem?_map, hv]; rfl) s.data.toList.length (by rw [hy]; simp [DataW.weights])
          exact this)
    refine ⟨ls, rowAt_of fun i v hi => ?_, hol, hl, fun o ho => ?_, ?_⟩
    · unfold textsV at hi
      rw [List.getElem?_map] at hi
      cases hli : ls[i]? with
      | none => rw [hli] at hi; cases hi
      | some l => rw [hli] at hi; cases hi; exact (hoq i l hli).1
    · obtain ⟨i, hi⟩ := List.getElem?_of_mem ho
      exact (hoq i o hi).2
    · have := sized_slice hz hts hds ht
      rw [hb, List.length_map, List.length_map, hlen] at this
      have hr : reachBytes = 140737488351232 := rfl
      omega
end Go.Proofs.YtfcmjomnpahllaaGreat.Hv
end
section
namespace Go.Proofs.YtfcmjomnpahllaaGreat.Hv
open Go Go.ChangeShapes Go.WideShapes Go.ChangeAt Go.RowKit
set_option linter.unusedVariables false
set_option linter.unusedSimpArgs false
/-! Bulk: texts, lists of texts -/
theorem open_textU {T : Type} {enc : TypeId × Value → T} {P : Program} {w : World} {base : Nat} {spare : Nat → Bool} {held : Bool} {t : TypeId} {fuel : Nat} {v : Value} {x : DataW T × List MemPlace} (ht : P.underlying t = some .string) (h : DataW.trod enc P w base spare held fuel t [v] = some x) :
    ∃ l : List UInt8, v = .string (bs l) ∧ l.length + 1 = Rows.uptoBulk x.1 := by
  obtain ⟨s, hs, rfl, hm⟩ := DataW.trod_string ht h
  refine ⟨s.data.toList, ?_, rfl⟩
  cases hs
  show Value.string s = Value.string ⟨s.data.toList.toArray⟩
  rw [Array.toArray_toList]
theorem open_textsU {T : Type} {enc : TypeId × Value → T} {P : Program} {w : World} {base : Nat} {spare : Nat → Bool} {held : Bool} {t e : TypeId} {fuel : Nat} {a : Option Addr} {len cap : Nat} {x : DataW T} {pl : List MemPlace}
    (ht : P.underlying t = some (.slice e)) (he : P.underlying e = some .string) (hc : P.cellsOf e = 1) (h : DataW.trod enc P w base spare held fuel t [.slice a len cap] = some (x, pl)) :
    ∃ ls : List (List UInt8), RowAt (heapOf w) a (textsV ls) ∧ ls.length = len ∧ len ≤ cap ∧ (ls.map List.length).sum + ls.length + 1 ≤ Rows.uptoBulk x := by
  rcases DataW.trod_slice ht h with ⟨hcs, hx⟩ | ⟨p, len', cap', elems, rest, n, _, hcs, hx, _, hl, _, hlen, hel, _, _⟩
  · cases hcs
    refine ⟨[], RowAt.nil _ _, rfl, Nat.le_refl _, ?_⟩
    obtain ⟨rfl, rfl⟩ := Prod.mk.inj hx
    simp [Rows.uptoBulk]
  · cases hcs
    obtain ⟨rfl, rfl⟩ := Prod.mk.inj hx
    obtain ⟨ls, hol, hoq⟩ := exists_list (Q := fun i l => w.cell? (p.add i) = some (.string (bs l)) ∧ ∀ y, elems[i]? = some y → List.length l + 1 ≤ Rows.uptoBulk y.1) len (fun i hi => by
      have h4 := hel i hi
      rw [hc, Nat.mul_one] at h4
      cases hv : elems[i]? with
      | none => rw [List.getElem?_eq_none_iff] at hv; omega
      | some y =>
        rw [hv] at h4
        obtain ⟨cs, hcs, htr⟩ := Option.bind_eq_some_iff.1 h4
        obtain ⟨hcl, hcg⟩ := cells_get hcs
        obtain ⟨c0, rfl⟩ : ∃ c0, cs = [c0] := by
          match cs, hcl with
          | [c0], _ => exact ⟨c0, rfl⟩
        obtain ⟨l, rfl, hb⟩ := open_textU he htr
        have h5 := hcg 0 _ rfl
        have e0 : (p.add i).add 0 = p.add i := by unfold Addr.add; simp
        rw [e0] at h5
        exact ⟨l, h5, fun y' hy' => by cases hy'; omega⟩)
    refine ⟨ls, rowAt_of fun i v hi => ?_, hol, hl, ?_⟩
    · unfold textsV at hi
      rw [List.getElem?_map] at hi
      cases hli : ls[i]? with
      | none => rw [hli] at hi; cases hi
      | some l => rw [hli] at hi; cases hi; exact (hoq i l hli).1
    · have := sum_bulk ls elems (by omega) fun i l y hl' hy => (hoq i l hl').2 y hy
      show _ ≤ Rows.uptoBulk (DataW.slice _ _)
      simp only [Rows.uptoBulk]
      omega
theorem bulk6 {H : Type} {parts : List (DataW H)} {y0 y1 y2 y3 y4 y5 : DataW H} (h0 : parts[0]? = some y0) (h1 : parts[1]? = some y1) (h2 : parts[2]? = some y2) (h3 : parts[3]? = some y3) (h4 : parts[4]? = some y4) (h5 : parts[5]? = some y5) :
    Rows.uptoBulk y0 + Rows.uptoBulk y1 + Rows.uptoBulk y2 + Rows.uptoBulk y3 + Rows.uptoBulk y4 + Rows.uptoBulk y5 + 1 ≤ Rows.uptoBulk (.agg parts) := by
  match parts, h0, h1, h2, h3, h4, h5 with
  | z0 :: z1 :: z2 :: z3 :: z4 :: z5 :: r, h0, h1, h2, h3, h4, h5 =>
    cases h0; cases h1; cases h2; cases h3; cases h4; cases h5
    simp only [Rows.uptoBulk, Rows.uptoBulkAll]
    omega
theorem one_bulk {H : Type} (d : DataW H) : 1 ≤ Rows.uptoBulk d := by
  cases d with
  | lit l => cases l <;> simp [Rows.uptoBulk]
  | _ => simp [Rows.uptoBulk]
theorem sum_of {A T : Type} {f : A → Nat} {k : Nat} : ∀ (os : List A) (es : List (DataW T × List MemPlace)), os.length = es.length → (∀ (i : Nat) (o : A) (y : DataW T × List MemPlace), os[i]? = some o → es[i]? = some y → f o ≤ k * Rows.uptoBulk y.1) → (os.map f).sum ≤ k * Rows.uptoBulkAll (es.map (·.1))
  | [], [], _, _ => by simp [Rows.uptoBulkAll]
  | o :: os, y :: es, hl, h => by
    have h1 := h 0 o y rfl rfl
    have h2 := sum_of os es (by simpa using hl) fun i a b ha hb => h (i + 1) a b (by simpa using ha) (by simpa using hb)
    simp only [List.map_cons, List.sum_cons, Rows.uptoBulkAll]
    rw [Nat.mul_add]; omega
end Go.Proofs.YtfcmjomnpahllaaGreat.Hv
end
