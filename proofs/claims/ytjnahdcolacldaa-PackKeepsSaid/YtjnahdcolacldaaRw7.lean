import Derived.Test.YtjnahdcolacldaaRw6
namespace Go.Proofs.Ytjnahdcolacldaa.Hv
open Go Go.ChangeShapes Go.WideShapes Go.ChangeAt Go.RowKit
set_option linter.unusedVariables false
set_option linter.unusedSimpArgs false
/-! Bulk: texts, lists of texts -/
theorem open_textU {T : Type} {enc : TypeId × Value → T} {P : Program} {w : World} {base : Nat} {spare : Nat → Bool} {held : Bool} {t : TypeId} {fuel : Nat} {v : Value} {x : DataW T × List MemPlace} (ht : P.underlying t = some .string) (h : DataW.trod enc P w base spare held fuel t [v] = some x) :
    ∃ l : List UInt8, v = .string (bs l) ∧ l.length + 1 = Rows.uptoBulk x.1 := by
  obtain ⟨s, hs, rfl, hm⟩ := DataW.trod_string ht h
  refine ⟨s.data.toList, ?_, rfl⟩
  cases hs
  show Value.string s = Value.string ⟨s.data.toList.toArray⟩
  rw [Array.toArray_toList]
theorem open_textsU {T : Type} {enc : TypeId × Value → T} {P : Program} {w : World} {base : Nat} {spare : Nat → Bool} {held : Bool} {t e : TypeId} {fuel : Nat} {a : Option Addr} {len cap : Nat} {x : DataW T} {pl : List MemPlace}
    (ht : P.underlying t = some (.slice e)) (he : P.underlying e = some .string) (hc : P.cellsOf e = 1) (h : DataW.trod enc P w base spare held fuel t [.slice a len cap] = some (x, pl)) :
    ∃ ls : List (List UInt8), RowAt (heapOf w) a (textsV ls) ∧ ls.length = len ∧ len ≤ cap ∧ (ls.map List.length).sum + ls.length + 1 ≤ Rows.uptoBulk x := by
  rcases DataW.trod_slice ht h with ⟨hcs, hx⟩ | ⟨p, len', cap', elems, rest, n, _, hcs, hx, _, hl, _, hlen, hel, _, _⟩
  · cases hcs
    refine ⟨[], RowAt.nil _ _, rfl, Nat.le_refl _, ?_⟩
    obtain ⟨rfl, rfl⟩ := Prod.mk.inj hx
    simp [Rows.uptoBulk]
  · cases hcs
    obtain ⟨rfl, rfl⟩ := Prod.mk.inj hx
    obtain ⟨ls, hol, hoq⟩ := exists_list (Q := fun i l => w.cell? (p.add i) = some (.string (bs l)) ∧ ∀ y, elems[i]? = some y → List.length l + 1 ≤ Rows.uptoBulk y.1) len (fun i hi => by
      have h4 := hel i hi
      rw [hc, Nat.mul_one] at h4
      cases hv : elems[i]? with
      | none => rw [List.getElem?_eq_none_iff] at hv; omega
      | some y =>
        rw [hv] at h4
        obtain ⟨cs, hcs, htr⟩ := Option.bind_eq_some_iff.1 h4
        obtain ⟨hcl, hcg⟩ := cells_get hcs
        obtain ⟨c0, rfl⟩ : ∃ c0, cs = [c0] := by
          match cs, hcl with
          | [c0], _ => exact ⟨c0, rfl⟩
        obtain ⟨l, rfl, hb⟩ := open_textU he htr
        have h5 := hcg 0 _ rfl
        have e0 : (p.add i).add 0 = p.add i := by unfold Addr.add; simp
        rw [e0] at h5
        exact ⟨l, h5, fun y' hy' => by cases hy'; omega⟩)
    refine ⟨ls, rowAt_of fun i v hi => ?_, hol, hl, ?_⟩
    · unfold textsV at hi
      rw [List.getElem?_map] at hi
      cases hli : ls[i]? with
      | none => rw [hli] at hi; cases hi
      | some l => rw [hli] at hi; cases hi; exact (hoq i l hli).1
    · have := sum_bulk ls elems (by omega) fun i l y hl' hy => (hoq i l hl').2 y hy
      show _ ≤ Rows.uptoBulk (DataW.slice _ _)
      simp only [Rows.uptoBulk]
      omega
theorem bulk6 {H : Type} {parts : List (DataW H)} {y0 y1 y2 y3 y4 y5 : DataW H} (h0 : parts[0]? = some y0) (h1 : parts[1]? = some y1) (h2 : parts[2]? = some y2) (h3 : parts[3]? = some y3) (h4 : parts[4]? = some y4) (h5 : parts[5]? = some y5) :
    Rows.uptoBulk y0 + Rows.uptoBulk y1 + Rows.uptoBulk y2 + Rows.uptoBulk y3 + Rows.uptoBulk y4 + Rows.uptoBulk y5 + 1 ≤ Rows.uptoBulk (.agg parts) := by
  match parts, h0, h1, h2, h3, h4, h5 with
  | z0 :: z1 :: z2 :: z3 :: z4 :: z5 :: r, h0, h1, h2, h3, h4, h5 =>
    cases h0; cases h1; cases h2; cases h3; cases h4; cases h5
    simp only [Rows.uptoBulk, Rows.uptoBulkAll]
    omega
theorem one_bulk {H : Type} (d : DataW H) : 1 ≤ Rows.uptoBulk d := by
  cases d with
  | lit l => cases l <;> simp [Rows.uptoBulk]
  | _ => simp [Rows.uptoBulk]
theorem sum_of {A T : Type} {f : A → Nat} {k : Nat} : ∀ (os : List A) (es : List (DataW T × List MemPlace)), os.length = es.length → (∀ (i : Nat) (o : A) (y : DataW T × List MemPlace), os[i]? = some o → es[i]? = some y → f o ≤ k * Rows.uptoBulk y.1) → (os.map f).sum ≤ k * Rows.uptoBulkAll (es.map (·.1))
  | [], [], _, _ => by simp [Rows.uptoBulkAll]
  | o :: os, y :: es, hl, h => by
    have h1 := h 0 o y rfl rfl
    have h2 := sum_of os es (by simpa using hl) fun i a b ha hb => h (i + 1) a b (by simpa using ha) (by simpa using hb)
    simp only [List.map_cons, List.sum_cons, Rows.uptoBulkAll]
    rw [Nat.mul_add]; omega
end Go.Proofs.Ytjnahdcolacldaa.Hv
