import Derived.Test.YtlgncabjphokjaaGreatK1
namespace Go.Proofs.YtlgncabjphokjaaGreat
open Go Hv
set_option linter.unusedVariables false
set_option linter.unusedSimpArgs false
set_option maxRecDepth 10000
set_option maxHeartbeats 1000000
/-! What is laid is read back, what is read was laid: numbers, texts, lists (plainly) -/
theorem nodup_le : ∀ {l m : List Txt}, l.Nodup → (∀ x ∈ l, x ∈ m) → l.length ≤ m.length
  | [], m, _, _ => Nat.zero_le _
  | a :: l, m, hn, hs => by
    have hn' := List.nodup_cons.1 hn
    have ha := hs a List.mem_cons_self
    have h1 := nodup_le (m := m.erase a) hn'.2 (fun x hx => (List.mem_erase_of_ne (fun e => hn'.1 (by rw [← e]; exact hx))).2 (hs x (List.mem_cons_of_mem _ hx)))
    rw [List.length_erase_of_mem ha] at h1
    have := List.length_pos_of_mem ha
    rw [List.length_cons]; omega
def layL (w : W) (bs : List (List UInt8)) : W := bs.foldl W.lay w
theorem layL_append (w : W) (a b : List (List UInt8)) : layL w (a ++ b) = layL (layL w a) b := List.foldl_append
theorem layL_err {w : W} (h : w.err ≠ 0) : ∀ bs, layL w bs = w
  | [] => rfl
  | b :: bs => by
    show layL (w.lay b) bs = w
    have e : w.lay b = w := by unfold W.lay; rw [if_pos h]
    rw [e]; exact layL_err h bs
theorem layL_lim (w : W) : ∀ bs, (layL w bs).lim = w.lim
  | [] => rfl
  | b :: bs => (layL_lim (w.lay b) bs).trans W.lay_len.2
theorem layL_fit : ∀ (bs : List (List UInt8)) {w : W}, w.err = 0 → w.out.length + bs.flatten.length ≤ w.lim → layL w bs = { w with out := w.out ++ bs.flatten }
  | [], w, _, _ => by simp [layL]
  | b :: bs, w, he, hl => by
    rw [List.flatten_cons, List.length_append] at hl
    show layL (w.lay b) bs = _
    rw [lay_yes he (by omega), layL_fit bs (w := { w with out := w.out ++ b }) he (by rw [List.length_append]; show _ ≤ w.lim; omega)]
    rw [List.flatten_cons, List.append_assoc]
theorem layL_over : ∀ (bs : List (List UInt8)) {w : W}, w.err = 0 → w.out.length ≤ w.lim → w.lim < w.out.length + bs.flatten.length → (layL w bs).err = 3
  | [], w, _, h1, h2 => by simp at h2; omega
  | b :: bs, w, he, h1, h2 => by
    rw [List.flatten_cons, List.length_append] at h2
    show (layL (w.lay b) bs).err = 3
    by_cases hb : b.length ≤ w.lim - w.out.length
    · rw [lay_yes he hb]
      exact layL_over bs (w := { w with out := w.out ++ b }) he (by rw [List.length_append]; show _ ≤ w.lim; omega) (by rw [List.length_append]; show w.lim < _; omega)
    · rw [lay_no (fun h => hb h.2), if_pos he, layL_err (by show (3 : Int) ≠ 0; decide)]
def pairPieces (ps : List (Txt × Txt)) : List (List UInt8) := ps.flatMap fun p => [textB p.1, textB p.2]
theorem flat_bound {l : List Txt} {B : Nat} (h : ∀ s ∈ l, s.length ≤ B) : (l.flatMap textB).length ≤ l.length * (4 + B) := by
  induction l with
  | nil => simp
  | cons s l ih =>
    have h1 := ih fun x hx => h x (List.mem_cons_of_mem _ hx)
    have h2 := h s List.mem_cons_self
    rw [List.flatMap_cons, List.length_append, textB_length, List.length_cons, Nat.add_mul]
    omega
theorem pieces_take {ps : List (Txt × Txt)} {i : Nat} {p : Txt × Txt} (hp : ps[i]? = some p) : pairPieces (ps.take (i + 1)) = pairPieces (ps.take i) ++ [textB p.1, textB p.2] := by
  unfold pairPieces; rw [List.take_add_one, hp, List.flatMap_append]; simp
theorem number_back (v n : Nat) (t : List UInt8) : (⟨num v n ++ t, 0⟩ : R).number n = (v % 256 ^ n, ⟨t, 0⟩) := by
  have hn := num_length v n
  unfold R.number
  rw [if_neg (by simp), if_neg (by show ¬ (num v n ++ t).length < n; rw [List.length_append]; omega)]
  show (val ((num v n ++ t).take n), R.mk ((num v n ++ t).drop n) 0) = _
  rw [List.take_append_of_le_length (by omega), List.drop_append_of_le_length (by omega), List.take_of_length_le (by omega), List.drop_of_length_le (by omega), val_num, List.nil_append]
theorem text_back (s : List UInt8) (m : Nat) (t : List UInt8) (hs : s.length < 4294967296) (hm : s.length ≤ m) : (⟨textB s ++ t, 0⟩ : R).text m = (s, ⟨t, 0⟩) := by
  have hn := num_length s.length 4
  have ht4 : (textB s ++ t).take 4 = num s.length 4 := by
    unfold textB
    rw [List.append_assoc, List.take_append_of_le_length (by omega), List.take_of_length_le (by omega)]
  have hd4 : (textB s ++ t).drop 4 = s ++ t := by
    unfold textB
    rw [List.append_assoc, List.drop_append_of_le_length (by omega), List.drop_of_length_le (by omega), List.nil_append]
  have hl : (textB s ++ t).length = 4 + s.length + t.length := by rw [List.length_append, textB_length]
  have hv : val ((textB s ++ t).take 4) = s.length := by rw [ht4, val_num, Nat.mod_eq_of_lt hs]
  have hd : (textB s ++ t).drop (4 + s.length) = t := by
    rw [← List.drop_drop, hd4, List.drop_append_of_le_length (by omega), List.drop_of_length_le (by omega), List.nil_append]
  unfold R.text
  rw [if_neg (by simp), if_neg (by show ¬ (textB s ++ t).length < 4; omega), if_neg (by show ¬ (val ((textB s ++ t).take 4) : Int) > _; rw [hv]; omega), if_neg (by show ¬ (textB s ++ t).length - 4 < val ((textB s ++ t).take 4); rw [hv]; omega)]
  show (((textB s ++ t).drop 4).take (val ((textB s ++ t).take 4)), R.mk ((textB s ++ t).drop (4 + val ((textB s ++ t).take 4))) 0) = _
  rw [hv, hd4, hd, List.take_append_of_le_length (by omega), List.take_of_length_le (by omega)]
theorem many_back (each : Nat) : ∀ (l : List (List UInt8)) (t : List UInt8), (∀ s ∈ l, s.length < 4294967296 ∧ s.length ≤ each) → R.many each l.length ⟨l.flatMap textB ++ t, 0⟩ = (l, ⟨t, 0⟩)
  | [], t, _ => rfl
  | s :: l, t, h => by
    have hs := h s List.mem_cons_self
    have e : (⟨(s :: l).flatMap textB ++ t, 0⟩ : R).text each = (s, ⟨l.flatMap textB ++ t, 0⟩) := by
      rw [List.flatMap_cons, List.append_assoc]; exact text_back s each _ hs.1 hs.2
    show R.many each (l.length + 1) _ = _
    rw [many_step each l.length _ (by rw [e]), e]
    rw [many_back each l t (fun x hx => h x (List.mem_cons_of_mem _ hx))]
theorem count_back (k m : Nat) (t : List UInt8) (hk : k < 4294967296) (hm : k ≤ m) : (⟨num k 4 ++ t, 0⟩ : R).count m = (k, ⟨t, 0⟩) := by
  have hn := num_length k 4
  have hv : val ((num k 4 ++ t).take 4) = k := by rw [List.take_append_of_le_length (by omega), List.take_of_length_le (by omega), val_num, Nat.mod_eq_of_lt hk]
  unfold R.count
  rw [if_neg (by simp), if_neg (by show ¬ (num k 4 ++ t).length < 4; rw [List.length_append]; omega), if_neg (by show ¬ (val ((num k 4 ++ t).take 4) : Int) > _; rw [hv]; omega)]
  show (val ((num k 4 ++ t).take 4), R.mk ((num k 4 ++ t).drop 4) 0) = _
  rw [hv, List.drop_append_of_le_length (by omega), List.drop_of_length_le (by omega), List.nil_append]
theorem texts_backG (l : List (List UInt8)) (most each : Nat) (t : List UInt8) (hk : l.length < 4294967296) (hm : l.length ≤ most) (h : ∀ s ∈ l, s.length < 4294967296 ∧ s.length ≤ each) : (⟨textsB l ++ t, 0⟩ : R).texts most each = (l, ⟨t, 0⟩) := by
  unfold R.texts textsB
  rw [List.append_assoc, count_back l.length most _ hk hm, many_back each l t h, if_neg (by simp)]
theorem num_val : ∀ (l : List UInt8), num (val l) l.length = l := by
  have key : ∀ (l : List UInt8) (v : Nat), v % 256 ^ l.length = val l → num v l.length = l := by
    intro l
    induction l with
    | nil => intro v _; rfl
    | cons c l ih =>
      intro v hv
      rw [val_cons, List.length_cons] at hv
      have hlt := val_lt l
      have hpos : 0 < 256 ^ l.length := Nat.pow_pos (by decide)
      have h1 : v % 256 ^ l.length = val l := by
        have e := Nat.mod_mod_of_dvd v (Nat.dvd_mul_left (256 ^ l.length) 256)
        rw [Nat.mul_comm 256, ← Nat.pow_succ] at e
        rw [← e, hv, Nat.mul_comm, Nat.mul_add_mod, Nat.mod_eq_of_lt hlt]
      have h2 : v / 256 ^ l.length % 256 = c.toNat := by
        have e : v % 256 ^ (l.length + 1) / 256 ^ l.length = v / 256 ^ l.length % 256 := by
          rw [Nat.pow_succ, Nat.mod_mul_right_div_self]
        rw [← e, hv, Nat.mul_comm, Nat.mul_add_div hpos, Nat.div_eq_of_lt hlt, Nat.add_zero]
      show UInt8.ofNat (v / 256 ^ l.length) :: num v l.length = c :: l
      rw [ih v h1]
      congr 1
      apply UInt8.toNat.inj
      rw [UInt8.toNat_ofNat']
      exact h2
  exact fun l => key l (val l) (Nat.mod_eq_of_lt (val_lt l))
theorem number_inv {r : R} {n : Nat} (h : (r.number n).2.err = 0) : r.err = 0 ∧ r.rest = num (r.number n).1 n ++ (r.number n).2.rest := by
  unfold R.number at h ⊢
  by_cases h1 : r.err ≠ 0
  · rw [if_pos h1] at h; exact absurd h h1
  rw [if_neg h1] at h ⊢
  by_cases h2 : r.rest.length < n
  · rw [if_pos h2] at h; exact absurd (show (4 : Int) = 0 from h) (by decide)
  rw [if_neg h2]
  refine ⟨Classical.not_not.1 h1, ?_⟩
  show r.rest = num (val (r.rest.take n)) n ++ r.rest.drop n
  have hl : (r.rest.take n).length = n := by rw [List.length_take]; omega
  have := num_val (r.rest.take n)
  rw [hl] at this
  rw [this, List.take_append_drop]
theorem text_inv {r : R} {most : Int} (h : (r.text most).2.err = 0) : r.err = 0 ∧ r.rest = textB (r.text most).1 ++ (r.text most).2.rest := by
  unfold R.text at h ⊢
  by_cases h1 : r.err ≠ 0
  · rw [if_pos h1] at h; exact absurd h h1
  rw [if_neg h1] at h ⊢
  by_cases h2 : r.rest.length < 4
  · rw [if_pos h2] at h; exact absurd (show (4 : Int) = 0 from h) (by decide)
  rw [if_neg h2] at h ⊢
  by_cases h3 : (val (r.rest.take 4) : Int) > max most 0
  · rw [if_pos h3] at h; exact absurd (show (3 : Int) = 0 from h) (by decide)
  rw [if_neg h3] at h ⊢
  by_cases h4 : r.rest.length - 4 < val (r.rest.take 4)
  · rw [if_pos h4] at h; exact absurd (show (4 : Int) = 0 from h) (by decide)
  rw [if_neg h4]
  refine ⟨Classical.not_not.1 h1, ?_⟩
  show r.rest = textB ((r.rest.drop 4).take (val (r.rest.take 4))) ++ r.rest.drop (4 + val (r.rest.take 4))
  have hl : (r.rest.take 4).length = 4 := by rw [List.length_take]; omega
  have hl2 : ((r.rest.drop 4).take (val (r.rest.take 4))).length = val (r.rest.take 4) := by rw [List.length_take, List.length_drop]; omega
  have := num_val (r.rest.take 4)
  rw [hl] at this
  unfold textB
  rw [hl2, this, List.append_assoc, ← List.drop_drop, List.take_append_drop, List.take_append_drop]
theorem count_inv {r : R} {most : Int} (h : (r.count most).2.err = 0) : r.err = 0 ∧ r.rest = num (r.count most).1 4 ++ (r.count most).2.rest := by
  unfold R.count at h ⊢
  by_cases h1 : r.err ≠ 0
  · rw [if_pos h1] at h; exact absurd h h1
  rw [if_neg h1] at h ⊢
  by_cases h2 : r.rest.length < 4
  · rw [if_pos h2] at h; exact absurd (show (4 : Int) = 0 from h) (by decide)
  rw [if_neg h2] at h ⊢
  by_cases h3 : (val (r.rest.take 4) : Int) > max most 0
  · rw [if_pos h3] at h; exact absurd (show (3 : Int) = 0 from h) (by decide)
  rw [if_neg h3]
  refine ⟨Classical.not_not.1 h1, ?_⟩
  show r.rest = num (val (r.rest.take 4)) 4 ++ r.rest.drop 4
  have hl : (r.rest.take 4).length = 4 := by rw [List.length_take]; omega
  have := num_val (r.rest.take 4)
  rw [hl] at this
  rw [this, List.take_append_drop]
theorem many_inv {each : Int} : ∀ (n : Nat) {r : R}, (R.many each n r).2.err = 0 → r.err = 0 ∧ r.rest = (R.many each n r).1.flatMap textB ++ (R.many each n r).2.rest ∧ (R.many each n r).1.length = n
  | 0, r, h => ⟨h, rfl, rfl⟩
  | n + 1, r, h => by
    by_cases he : (r.text each).2.err = 0
    · rw [many_step each n r he] at h ⊢
      have ⟨h1, h2, h3⟩ := many_inv n (r := (r.text each).2) h
      obtain ⟨t1, t2⟩ := text_inv he
      refine ⟨t1, ?_, by rw [List.length_cons, h3]⟩
      rw [List.flatMap_cons, List.append_assoc, ← h2]
      exact t2
    · rw [many_stop each n r he] at h
      exact absurd h he
theorem texts_inv {r : R} {most each : Int} (h : (r.texts most each).2.err = 0) : r.err = 0 ∧ r.rest = textsB (r.texts most each).1 ++ (r.texts most each).2.rest := by
  unfold R.texts at h ⊢
  by_cases h1 : (R.many each (r.count most).1 (r.count most).2).2.err ≠ 0
  · rw [if_pos h1] at h; exact absurd h h1
  rw [if_neg h1]
  have ⟨m1, m2, m3⟩ := many_inv _ (Classical.not_not.1 h1)
  obtain ⟨c1, c2⟩ := count_inv m1
  refine ⟨c1, ?_⟩
  unfold textsB
  rw [m3, List.append_assoc, ← m2]
  exact c2
theorem fin_zero {r : R} (h : r.fin = 0) : r.err = 0 ∧ r.rest = [] := by
  unfold R.fin at h
  by_cases h1 : r.err = 0 ∧ 0 < r.rest.length
  · rw [if_pos h1] at h; exact absurd h (by decide)
  · rw [if_neg h1] at h
    refine ⟨h, ?_⟩
    cases hr : r.rest with
    | nil => rfl
    | cons x l => exact absurd ⟨h, by rw [hr]; simp⟩ h1
theorem count_le (r : R) (m : Nat) : (r.count (m : Int)).1 ≤ m := by
  unfold R.count
  split
  · exact Nat.zero_le _
  · split
    · exact Nat.zero_le _
    · split
      · exact Nat.zero_le _
      · rename_i h; show val _ ≤ m; omega
theorem manyP_len (each : Int) : ∀ (n : Nat) (r : R), (R.many each n r).1.length ≤ n
  | 0, r => Nat.le_refl _
  | n + 1, r => by
    unfold R.many
    split
    · simp
    · have := manyP_len each n (r.text each).2
      simp only [List.length_cons]; omega
theorem texts_lenR (r : R) (most each : Int) : (r.texts most each).1.length ≤ 4294967296 := by
  unfold R.texts
  split
  · exact Nat.zero_le _
  · exact Nat.le_trans (manyP_len _ _ _) (Nat.le_of_lt (count_lt r most))
end Go.Proofs.YtlgncabjphokjaaGreat
