import Derived.Test.YtaobgofbhommcaaRows
import Derived.Test.YtaobgofbhommcaaHv11
import Derived.WalkKit
import Derived.ProofKit
import Derived.OpenShut
import Derived.ShutString
import Derived.ChangeOld
import Derived.Below
import Derived.JoinedCond
namespace Go.Proofs.Ytaobgofbhommcaa.Hv
open Go Go.ChangeShapes Go.WideShapes Go.ChangeAt Go.RowKit
set_option linter.unusedVariables false
set_option linter.unusedSimpArgs false

/-! ## From a world to a heap in part and back -/
def heapOf (W : World) : Heap := fun b => W.heap[b]?
theorem sat_heapOf (W : World) : Sat (heapOf W) W := fun _ _ h => h
theorem cell_heapOf {W : World} {a : Addr} {v : Value} (h : W.cell? a = some v) : (heapOf W).cell? a = some v := by
  unfold World.cell? at h; unfold Heap.cell? heapOf
  cases e : W.heap[a.block]? with
  | none => rw [e] at h; cases h
  | some o => rw [e] at h; cases o <;> exact h
theorem below_of {W w' : World} {H' : Heap} (hs : Sat H' w') (hf : Fr (heapOf W) H' W w') (hu : Upd [] (heapOf W) H') : Below W.heap.size W w' := by
  refine ⟨hf.os, hf.tape, hf.output, hf.size, fun k hk => ?_⟩
  have hne : heapOf W k ≠ none := by unfold heapOf; simp [hk]
  have h1 := hu k (by simp) hne
  cases e : heapOf W k with
  | none => exact absurd e hne
  | some o => rw [e] at h1; rw [hs k o h1]; exact e.symm
theorem spot_of {W : World} {a : Addr} {v : Value} (h : W.cell? a = some v) : a.spot = none := by
  unfold World.cell? at h
  cases hs : a.spot with
  | none => rfl
  | some s =>
    cases e : W.heap[a.block]? with
    | none => rw [e] at h; cases h
    | some o => rw [e] at h; cases o <;> simp [hs] at h
theorem rowAt_of {W : World} {a : Addr} {cs : List Value} (h : ∀ i v, cs[i]? = some v → W.cell? (a.add i) = some v) : RowAt (heapOf W) (some a) cs := fun i v hi => by
  have h0 : a.spot = none := by
    have hlt := (List.getElem?_eq_some_iff.1 hi).1
    have := h 0 (cs[0]'(by omega)) (by simp)
    have e0 : a.add 0 = a := by unfold Addr.add; simp
    rw [e0] at this
    exact spot_of this
  obtain ⟨b, off, sp⟩ := a
  simp only at h0
  subst h0
  have h1 := h i v hi
  rw [Addr.add_lit] at h1
  exact ⟨b, off, rfl, cell_heapOf h1⟩
theorem slice_le {H : Type} (elems spare : List (DataW H)) : elems.length + spare.length + 1 ≤ Rows.uptoBulk (.slice elems spare) := by
  have one : ∀ d : DataW H, 1 ≤ Rows.uptoBulk d := fun d => by
    cases d with
    | lit l => cases l <;> simp [Rows.uptoBulk]
    | _ => simp [Rows.uptoBulk]
  have len : ∀ l : List (DataW H), l.length ≤ Rows.uptoBulkAll l := fun l => by
    induction l with
    | nil => simp [Rows.uptoBulkAll]
    | cons x r ih => have := one x; simp only [Rows.uptoBulkAll, List.length_cons]; omega
  have h1 := len elems
  have h2 := len spare
  simp only [Rows.uptoBulk]
  omega
theorem bulk_bound {H : Type} {l : List (DataW H)} (hk : Rows.uptoSmall H l = true) : Rows.uptoBulkAll l ≤ 1048576 := of_decide_eq_true hk
/-- An argument of bytes. -/
theorem open_bytes {T : Type} {enc : TypeId × Value → T} {P : Program} {w : World} {base : Nat} {spare : Nat → Bool} {held : Bool} {t e : TypeId} {fuel : Nat} {a : Option Addr} {len cap : Nat} {x : DataW T} {pl : List MemPlace}
    (ht : P.underlying t = some (.slice e)) (he : P.underlying e = some (.int .u8)) (hc : P.cellsOf e = 1) (h : DataW.trod enc P w base spare held fuel t [.slice a len cap] = some (x, pl)) :
    ∃ ys : List UInt8, RowAt (heapOf w) a (u8s ys) ∧ ys.length = len ∧ len ≤ cap ∧ len ≤ Rows.uptoBulk x := by
  rcases open_ints ht he hc h with ⟨hcs, _⟩ | ⟨p, l, c, zs, hcs, _, hl, hm, hz, hx, hcell, hwz⟩
  · cases hcs
    exact ⟨[], RowAt.nil _ _, rfl, Nat.le_refl _, Nat.zero_le _⟩
  · cases hcs
    have hlz : len ≤ zs.length := by rw [hz]; split <;> omega
    refine ⟨(zs.take len).map fun z => UInt8.ofNat z.toNat, ?_, by simp; omega, hl, ?_⟩
    · refine rowAt_of fun i v hi => ?_
      unfold u8s at hi
      rw [List.map_map, List.getElem?_map, List.getElem?_take] at hi
      split at hi
      · rename_i hlt
        have hi' : i < zs.length := by omega
        rw [List.getElem?_eq_getElem hi'] at hi
        simp only [Option.map_some, Option.some.injEq] at hi
        rw [hcell i hi', ← hi]
        have hw := hwz zs[i] (List.getElem_mem hi')
        have e1 : zs.getD i 0 = zs[i] := by simp [List.getD, hi']
        rw [e1]
        show some (Value.int .u8 zs[i]) = some (Value.int .u8 ((UInt8.ofNat zs[i].toNat).toNat : Int))
        have : (Lit.int .u8 zs[i]).wf = true → 0 ≤ zs[i] ∧ zs[i] ≤ 255 := fun h => by
          simp [Lit.wf, IntKind.min, IntKind.max, IntKind.signed, IntKind.bits] at h; omega
        have := this hw
        congr 2
        rw [UInt8.toNat_ofNat']; omega
      · cases hi
    · obtain ⟨rfl, rfl⟩ := Prod.mk.inj hx
      have := slice_le (lits (H := T) .u8 (zs.take len)) (lits .u8 (zs.drop len))
      have e : (lits (H := T) .u8 (zs.take len)).length = len := by simp [lits]; omega
      show len ≤ Rows.uptoBulk (DataW.slice _ _)
      omega
/-- An argument of whole numbers. -/
theorem open_nums {T : Type} {enc : TypeId × Value → T} {P : Program} {w : World} {base : Nat} {spare : Nat → Bool} {held : Bool} {t e : TypeId} {k : IntKind} {fuel : Nat} {a : Option Addr} {len cap : Nat} {x : DataW T} {pl : List MemPlace}
    (ht : P.underlying t = some (.slice e)) (he : P.underlying e = some (.int k)) (hc : P.cellsOf e = 1) (h : DataW.trod enc P w base spare held fuel t [.slice a len cap] = some (x, pl)) :
    ∃ zs : List Int, RowAt (heapOf w) a (zs.map (Value.int k)) ∧ zs.length = len ∧ len ≤ cap ∧ len ≤ Rows.uptoBulk x ∧ ∀ z ∈ zs, (Lit.int k z).wf = true := by
  rcases open_ints ht he hc h with ⟨hcs, _⟩ | ⟨p, l, c, zs, hcs, _, hl, hm, hz, hx, hcell, hwz⟩
  · cases hcs
    exact ⟨[], RowAt.nil _ _, rfl, Nat.le_refl _, Nat.zero_le _, fun z hz => by cases hz⟩
  · cases hcs
    have hlz : len ≤ zs.length := by rw [hz]; split <;> omega
    refine ⟨zs.take len, ?_, by simp; omega, hl, ?_, fun z hz => hwz z (List.mem_of_mem_take hz)⟩
    · refine rowAt_of fun i v hi => ?_
      rw [List.getElem?_map, List.getElem?_take] at hi
      split at hi
      · rename_i hlt
        have hi' : i < zs.length := by omega
        rw [List.getElem?_eq_getElem hi'] at hi
        simp only [Option.map_some, Option.some.injEq] at hi
        rw [hcell i hi', ← hi]
        have e1 : zs.getD i 0 = zs[i] := by simp [List.getD, hi']
        rw [e1]
      · cases hi
    · obtain ⟨rfl, rfl⟩ := Prod.mk.inj hx
      have := slice_le (lits (H := T) k (zs.take len)) (lits k (zs.drop len))
      have e : (lits (H := T) k (zs.take len)).length = len := by simp [lits]; omega
      show len ≤ Rows.uptoBulk (DataW.slice _ _)
      omega
end Go.Proofs.Ytaobgofbhommcaa.Hv
