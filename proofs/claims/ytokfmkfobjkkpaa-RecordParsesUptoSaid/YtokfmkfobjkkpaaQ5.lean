import Derived.Test.YtokfmkfobjkkpaaD7
namespace Go.Proofs.Ytokfmkfobjkkpaa
open Go Hv
set_option linter.unusedVariables false
set_option linter.unusedSimpArgs false
set_option maxRecDepth 10000
set_option maxHeartbeats 2000000
/-! What the document reads off a payload -/
theorem getR_val {l x A B : List UInt8} (hl : l = A ++ (x ++ B)) : ∀ n, n ≤ x.length → getR l A.length n = val (x.take n)
  | 0, _ => by rw [List.take_zero]; rfl
  | n + 1, h => by
    have ih := getR_val hl n (by omega)
    have hx : l[A.length + n]? = some (x[n]'(by omega)) := by
      rw [hl, List.getElem?_append_right (by omega), Nat.add_sub_cancel_left, List.getElem?_append_left (by omega)]
      simp
    show getR l A.length n * 256 + (match l[A.length + n]? with | some c => c.toNat | none => 0) = _
    rw [hx, ih]
    exact (val_take (l := x) (i := n) (x := x[n]'(by omega)) (by simp)).symm
theorem getR_num (A B : List UInt8) (v n : Nat) : getR (A ++ (num v n ++ B)) A.length n = v % 256 ^ n := by
  rw [getR_val rfl n (by rw [num_length]; exact Nat.le_refl _), List.take_of_length_le (by rw [num_length]; exact Nat.le_refl _), val_num]
def pieceR (l : List UInt8) (at_ : Nat) : Txt × Nat :=
  ((l.drop (min (at_ + 4) l.length)).take (min (min (at_ + 4) l.length + getR l at_ 4) l.length - min (at_ + 4) l.length), at_ + 4 + getR l at_ 4)
theorem pieceR_text (A s B : List UInt8) (hs : s.length < 4294967296) : pieceR (A ++ (textB s ++ B)) A.length = (s, A.length + (textB s).length) := by
  have hg : getR (A ++ (textB s ++ B)) A.length 4 = s.length := by
    have e : A ++ (textB s ++ B) = A ++ (num s.length 4 ++ (s ++ B)) := by unfold textB; rw [List.append_assoc]
    rw [e, getR_num]; exact Nat.mod_eq_of_lt hs
  have hl : (A ++ (textB s ++ B)).length = A.length + (4 + s.length + B.length) := by rw [List.length_append, List.length_append, textB_length]
  have hd : (A ++ (textB s ++ B)).drop (A.length + 4) = s ++ B := by
    have e : A ++ (textB s ++ B) = (A ++ num s.length 4) ++ (s ++ B) := by unfold textB; simp only [List.append_assoc]
    rw [e, List.drop_left' (by rw [List.length_append, num_length])]
  unfold pieceR
  rw [hg, hl, Nat.min_eq_left (by omega), Nat.min_eq_left (by omega), hd, textB_length, Nat.add_sub_cancel_left, List.take_append_of_le_length (Nat.le_refl _), List.take_of_length_le (Nat.le_refl _), Nat.add_assoc]
def prR (l : List UInt8) : Nat → Nat → List (Txt × Txt) × Nat
  | 0, a => ([], a)
  | n + 1, a => if a < l.length then (((pieceR l a).1, (pieceR l (pieceR l a).2).1) :: (prR l n (pieceR l (pieceR l a).2).2).1, (prR l n (pieceR l (pieceR l a).2).2).2) else ([], a)
def ksR (l : List UInt8) : Nat → Nat → List Txt × Nat
  | 0, a => ([], a)
  | n + 1, a => if a < l.length then ((pieceR l a).1 :: (ksR l n (pieceR l a).2).1, (ksR l n (pieceR l a).2).2) else ([], a)
def candR (l : List UInt8) : Rec :=
  if getR l 0 1 = 1 then ⟨1, getR l 1 8, (prR l (getR l 9 4) 13).1, (ksR l (getR l (prR l (getR l 9 4) 13).2 4) ((prR l (getR l 9 4) 13).2 + 4)).1⟩
  else ⟨(getR l 0 1 : Int), getR l 1 8, [], []⟩
theorem prR_back : ∀ (ps : List (Txt × Txt)) (A B l : List UInt8), l = A ++ ((pairPieces ps).flatten ++ B) → (∀ p ∈ ps, p.1.length ≤ 65535 ∧ p.2.length ≤ 65535) → prR l ps.length A.length = (ps, A.length + (pairPieces ps).flatten.length)
  | [], A, B, l, _, _ => rfl
  | p :: ps, A, B, l, hl, h => by
    have hp := h p List.mem_cons_self
    have e : (pairPieces (p :: ps)).flatten = textB p.1 ++ (textB p.2 ++ (pairPieces ps).flatten) := by
      unfold pairPieces
      rw [List.flatMap_cons]
      simp only [List.cons_append, List.nil_append, List.flatten_cons, List.append_assoc]
    have l1 : l = A ++ (textB p.1 ++ (textB p.2 ++ ((pairPieces ps).flatten ++ B))) := by rw [hl, e]; simp only [List.append_assoc]
    have l2 : l = (A ++ textB p.1) ++ (textB p.2 ++ ((pairPieces ps).flatten ++ B)) := by rw [l1]; simp only [List.append_assoc]
    have l3 : l = (A ++ textB p.1 ++ textB p.2) ++ ((pairPieces ps).flatten ++ B) := by rw [l1]; simp only [List.append_assoc]
    have e1 : pieceR l A.length = (p.1, A.length + (textB p.1).length) := by rw [l1]; exact pieceR_text A p.1 _ (by omega)
    have e2 : pieceR l (A.length + (textB p.1).length) = (p.2, A.length + (textB p.1).length + (textB p.2).length) := by
      have := pieceR_text (A ++ textB p.1) p.2 ((pairPieces ps).flatten ++ B) (by omega)
      rw [← l2, List.length_append] at this; exact this
    have ih := prR_back ps (A ++ textB p.1 ++ textB p.2) B l l3 (fun q hq => h q (List.mem_cons_of_mem _ hq))
    rw [List.length_append, List.length_append] at ih
    have hlt : A.length < l.length := by rw [l1, List.length_append, List.length_append, textB_length]; omega
    show (if A.length < l.length then _ else _) = _
    rw [if_pos hlt, e1]
    show (((p.1, (pieceR l (A.length + (textB p.1).length)).1) :: (prR l ps.length (pieceR l (A.length + (textB p.1).length)).2).1), (prR l ps.length (pieceR l (A.length + (textB p.1).length)).2).2) = _
    rw [e2]
    show ((p.1, p.2) :: (prR l ps.length (A.length + (textB p.1).length + (textB p.2).length)).1, (prR l ps.length (A.length + (textB p.1).length + (textB p.2).length)).2) = _
    rw [ih, e, List.length_append, List.length_append]
    simp only [Nat.add_assoc]
theorem ksR_back : ∀ (ks : List Txt) (A B l : List UInt8), l = A ++ (ks.flatMap textB ++ B) → (∀ p ∈ ks, p.length ≤ 65535) → ksR l ks.length A.length = (ks, A.length + (ks.flatMap textB).length)
  | [], A, B, l, _, _ => rfl
  | s :: ks, A, B, l, hl, h => by
    have hp := h s List.mem_cons_self
    have l1 : l = A ++ (textB s ++ (ks.flatMap textB ++ B)) := by rw [hl, List.flatMap_cons]; simp only [List.append_assoc]
    have l2 : l = (A ++ textB s) ++ (ks.flatMap textB ++ B) := by rw [l1]; simp only [List.append_assoc]
    have e1 : pieceR l A.length = (s, A.length + (textB s).length) := by rw [l1]; exact pieceR_text A s _ (by omega)
    have ih := ksR_back ks (A ++ textB s) B l l2 (fun q hq => h q (List.mem_cons_of_mem _ hq))
    rw [List.length_append] at ih
    have hlt : A.length < l.length := by rw [l1, List.length_append, List.length_append, textB_length]; omega
    show (if A.length < l.length then _ else _) = _
    rw [if_pos hlt, e1]
    show (s :: (ksR l ks.length (A.length + (textB s).length)).1, (ksR l ks.length (A.length + (textB s).length)).2) = _
    rw [ih, List.flatMap_cons, List.length_append]
    simp only [Nat.add_assoc]
theorem cand_pay {z : Rec} (h : May z) (hid : z.id < 18446744073709551616) : candR (pay z) = z := by
  obtain ⟨kind, id, ps, ks⟩ := z
  have hf := h.few
  have hs := h.short
  have hid : id < 18446744073709551616 := hid
  rcases h.2 with ⟨h1, h2, h3⟩ | ⟨h1, _⟩
  · have h1 : kind = 2 := h1
    have h2 : ps = [] := h2
    have h3 : ks = [] := h3
    subst h1 h2 h3
    rw [pay2 rfl]
    have g0 : getR (num 2 1 ++ num id 8) 0 1 = 2 := by
      have := getR_num [] (num id 8) 2 1
      exact this
    have g1 : getR (num 2 1 ++ num id 8) 1 8 = id := by
      have := getR_num (num 2 1) [] id 8
      rw [List.append_nil, num_length] at this
      rw [this]; exact Nat.mod_eq_of_lt hid
    unfold candR
    rw [g0, g1, if_neg (by decide)]; rfl
  · have h1 : kind = 1 := h1
    subst h1
    rw [pay1 rfl]
    have hf1 : ps.length ≤ 1024 := hf.1
    have hf2 : ks.length ≤ 1024 := hf.2
    show candR (num 1 1 ++ (num id 8 ++ (num ps.length 4 ++ ((pairPieces ps).flatten ++ textsB ks)))) = _
    generalize hl : num 1 1 ++ (num id 8 ++ (num ps.length 4 ++ ((pairPieces ps).flatten ++ textsB ks))) = l
    have g0 : getR l 0 1 = 1 := by
      have := getR_num [] (num id 8 ++ (num ps.length 4 ++ ((pairPieces ps).flatten ++ textsB ks))) 1 1
      rw [List.nil_append, hl] at this; exact this
    have g1 : getR l 1 8 = id := by
      have := getR_num (num 1 1) (num ps.length 4 ++ ((pairPieces ps).flatten ++ textsB ks)) id 8
      rw [hl, num_length] at this
      rw [this]; exact Nat.mod_eq_of_lt hid
    have g9 : getR l 9 4 = ps.length := by
      have := getR_num (num 1 1 ++ num id 8) ((pairPieces ps).flatten ++ textsB ks) ps.length 4
      rw [List.append_assoc, hl, List.length_append, num_length, num_length] at this
      rw [this]; exact Nat.mod_eq_of_lt (by show ps.length < 4294967296; omega)
    have hpr : prR l ps.length 13 = (ps, 13 + (pairPieces ps).flatten.length) := by
      have := prR_back ps (num 1 1 ++ (num id 8 ++ num ps.length 4)) (textsB ks) l (by rw [← hl]; simp only [List.append_assoc]) hs.1
      rw [List.length_append, List.length_append, num_length, num_length, num_length] at this
      exact this
    have gm : getR l (13 + (pairPieces ps).flatten.length) 4 = ks.length := by
      have := getR_num (num 1 1 ++ (num id 8 ++ (num ps.length 4 ++ (pairPieces ps).flatten))) (ks.flatMap textB) ks.length 4
      have e : num 1 1 ++ (num id 8 ++ (num ps.length 4 ++ (pairPieces ps).flatten)) ++ (num ks.length 4 ++ ks.flatMap textB) = l := by
        rw [← hl]; unfold textsB; simp only [List.append_assoc]
      rw [e] at this
      simp only [List.length_append, num_length] at this
      rw [show 13 + (pairPieces ps).flatten.length = 1 + (8 + (4 + (pairPieces ps).flatten.length)) by omega, this]
      exact Nat.mod_eq_of_lt (by show ks.length < 4294967296; omega)
    have hks : ksR l ks.length (13 + (pairPieces ps).flatten.length + 4) = (ks, 13 + (pairPieces ps).flatten.length + 4 + (ks.flatMap textB).length) := by
      have := ksR_back ks (num 1 1 ++ (num id 8 ++ (num ps.length 4 ++ ((pairPieces ps).flatten ++ num ks.length 4)))) [] l (by rw [← hl]; unfold textsB; simp only [List.append_assoc, List.append_nil]) hs.2
      simp only [List.length_append, num_length] at this
      rw [show 1 + (8 + (4 + ((pairPieces ps).flatten.length + 4))) = 13 + (pairPieces ps).flatten.length + 4 by omega] at this
      exact this
    unfold candR
    rw [g0, if_pos rfl, g1, g9, hpr]
    show Rec.mk 1 id ps (ksR l (getR l (13 + (pairPieces ps).flatten.length) 4) (13 + (pairPieces ps).flatten.length + 4)).1 = _
    rw [gm, hks]
theorem getR8_lt (l : List UInt8) (a : Nat) : getR l a 8 < 18446744073709551616 := getR_lt l a 8
/-- The document's answer: is it a payload, and of which record? -/
theorem cand_ok {p : List UInt8} : (May (candR p) ∧ pay (candR p) = p) ↔ ReadOk p := by
  have hid : (candR p).id < 18446744073709551616 := by
    unfold candR; split <;> exact getR8_lt _ _
  constructor
  · rintro ⟨h1, h2⟩
    rw [← h2]; exact pay_short h1 hid
  · intro h
    have hp := pay_read h
    have hid2 : (readR p).1.id < 18446744073709551616 := by
      have key : ∀ (r : R), (r.number 8).1 < 18446744073709551616 := fun r => number_lt (r := r) 8
      unfold readR; split <;> exact key _
    have hc := cand_pay h.2 hid2
    rw [hp] at hc
    rw [hc]
    exact ⟨h.2, hp⟩
theorem cand_eq {p : List UInt8} (h : ReadOk p) : candR p = (readR p).1 := by
  have hp := pay_read h
  have hid2 : (readR p).1.id < 18446744073709551616 := by
    have key : ∀ (r : R), (r.number 8).1 < 18446744073709551616 := fun r => number_lt (r := r) 8
    unfold readR; split <;> exact key _
  have hc := cand_pay h.2 hid2
  rw [hp] at hc
  exact hc
end Go.Proofs.Ytokfmkfobjkkpaa
