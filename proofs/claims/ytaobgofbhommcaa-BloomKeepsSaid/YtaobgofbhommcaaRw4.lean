import Derived.Test.YtaobgofbhommcaaRw3
namespace Go.Proofs.Ytaobgofbhommcaa.Hv
open Go Go.ChangeShapes Go.WideShapes Go.ChangeAt Go.RowKit
set_option linter.unusedVariables false
set_option linter.unusedSimpArgs false
/-! ## Arguments that are structs whose fields have one cell each -/
theorem arr1 {cs : Array Value} (h : cs.toList.length = 1) : ∃ x0, cs = #[x0] := by
  obtain ⟨l⟩ := cs
  match l, h with
  | [x0], _ => exact ⟨x0, rfl⟩
theorem arr2 {cs : Array Value} (h : cs.toList.length = 2) : ∃ x0 x1, cs = #[x0, x1] := by
  obtain ⟨l⟩ := cs
  match l, h with
  | [x0, x1], _ => exact ⟨x0, x1, rfl⟩
theorem arr3 {cs : Array Value} (h : cs.toList.length = 3) : ∃ x0 x1 x2, cs = #[x0, x1, x2] := by
  obtain ⟨l⟩ := cs
  match l, h with
  | [x0, x1, x2], _ => exact ⟨x0, x1, x2, rfl⟩
theorem arr4 {cs : Array Value} (h : cs.toList.length = 4) : ∃ x0 x1 x2 x3, cs = #[x0, x1, x2, x3] := by
  obtain ⟨l⟩ := cs
  match l, h with
  | [x0, x1, x2, x3], _ => exact ⟨x0, x1, x2, x3, rfl⟩
theorem arr5 {cs : Array Value} (h : cs.toList.length = 5) : ∃ x0 x1 x2 x3 x4, cs = #[x0, x1, x2, x3, x4] := by
  obtain ⟨l⟩ := cs
  match l, h with
  | [x0, x1, x2, x3, x4], _ => exact ⟨x0, x1, x2, x3, x4, rfl⟩
theorem arr6 {cs : Array Value} (h : cs.toList.length = 6) : ∃ x0 x1 x2 x3 x4 x5, cs = #[x0, x1, x2, x3, x4, x5] := by
  obtain ⟨l⟩ := cs
  match l, h with
  | [x0, x1, x2, x3, x4, x5], _ => exact ⟨x0, x1, x2, x3, x4, x5, rfl⟩
theorem arr7 {cs : Array Value} (h : cs.toList.length = 7) : ∃ x0 x1 x2 x3 x4 x5 x6, cs = #[x0, x1, x2, x3, x4, x5, x6] := by
  obtain ⟨l⟩ := cs
  match l, h with
  | [x0, x1, x2, x3, x4, x5, x6], _ => exact ⟨x0, x1, x2, x3, x4, x5, x6, rfl⟩
theorem arr8 {cs : Array Value} (h : cs.toList.length = 8) : ∃ x0 x1 x2 x3 x4 x5 x6 x7, cs = #[x0, x1, x2, x3, x4, x5, x6, x7] := by
  obtain ⟨l⟩ := cs
  match l, h with
  | [x0, x1, x2, x3, x4, x5, x6, x7], _ => exact ⟨x0, x1, x2, x3, x4, x5, x6, x7, rfl⟩
theorem sized_struct {H : Type} {P : Program} {ts : List TypeId} {ds : List (DataW H)} (h : (DataW.weightsEach P ts ds).all (· ≤ reachBytes) = true) {j : Nat} {t : TypeId} {fs : Array Field} {parts : List (DataW H)} (ht : ts[j]? = some t) (hd : ds[j]? = some (.agg parts)) (hu : P.underlying t = some (.struct fs)) :
    (DataW.weightsEach P (fs.toList.map (·.type)) parts).all (· ≤ reachBytes) = true := by
  refine List.all_eq_true.2 fun n hn => ?_
  exact List.all_eq_true.1 h n (DataW.weights_mem_each ht hd n (by simp only [DataW.weights, hu]; exact hn))
theorem trod_field {H : Type} {enc : TypeId × Value → H} {P : Program} {w : World} {base : Nat} {spare : Nat → Bool} {held : Bool} {fuel : Nat} {t : TypeId} {cs : List Value} {x : DataW H × List MemPlace} {fs : Array Field} (ht : P.underlying t = some (.struct fs)) (h : DataW.trod enc P w base spare held fuel t cs = some x) :
    ∃ parts : List (DataW H), x.1 = .agg parts ∧ ∀ (j : Nat) (f : Field) (e : Value), fs[j]? = some f → P.cellsOf f.type = 1 → cs[f.offset]? = some e → ∃ n y, parts[j]? = some y.1 ∧ DataW.trod enc P w base spare held n f.type [e] = some y := by
  obtain ⟨xs, n, _, rfl, hl, hlen, hf⟩ := DataW.trod_struct ht h
  refine ⟨_, rfl, fun j f e hj hc he => ?_⟩
  have h1 := hf j f hj
  have hj' : j < xs.length := by rw [hlen]; exact (Array.getElem?_eq_some_iff.1 hj).1
  rw [hc, List.getElem?_eq_getElem hj'] at h1
  have e1 : (cs.drop f.offset).take 1 = [e] := by
    obtain ⟨h2, h3⟩ := List.getElem?_eq_some_iff.1 he
    rw [List.drop_eq_getElem_cons h2, h3]; rfl
  rw [e1] at h1
  exact ⟨n, xs[j], by simp [hj'], h1⟩
theorem trod_slice1 {H : Type} {enc : TypeId × Value → H} {P : Program} {w : World} {base : Nat} {spare : Nat → Bool} {held : Bool} {fuel : Nat} {t e : TypeId} {v : Value} {x : DataW H × List MemPlace} (ht : P.underlying t = some (.slice e)) (h : DataW.trod enc P w base spare held fuel t [v] = some x) : ∃ a l c, v = .slice a l c := by
  rcases DataW.trod_slice ht h with ⟨hcs, _⟩ | ⟨_, _, _, _, _, _, _, hcs, _⟩
  · cases hcs; exact ⟨_, _, _, rfl⟩
  · cases hcs; exact ⟨_, _, _, rfl⟩
theorem open_string {H : Type} {enc : TypeId × Value → H} {P : Program} {w : World} {base : Nat} {spare : Nat → Bool} {held : Bool} {fuel : Nat} {t : TypeId} {v : Value} {x : DataW H × List MemPlace} {ts : List TypeId} {ds : List (DataW H)} {j : Nat} (ht : P.underlying t = some .string)
    (hz : (DataW.weightsEach P ts ds).all (· ≤ reachBytes) = true) (hts : ts[j]? = some t) (hds : ds[j]? = some x.1) (h : DataW.trod enc P w base spare held fuel t [v] = some x) : ∃ l : List UInt8, v = .string (bs l) ∧ l.length ≤ 140737488351232 := by
  obtain ⟨s, hs, rfl, hm⟩ := DataW.trod_string ht h
  have := sized_string hz hts hds
  refine ⟨s.data.toList, ?_, this⟩
  cases hs
  show Value.string s = Value.string ⟨s.data.toList.toArray⟩
  rw [Array.toArray_toList]
end Go.Proofs.Ytaobgofbhommcaa.Hv
