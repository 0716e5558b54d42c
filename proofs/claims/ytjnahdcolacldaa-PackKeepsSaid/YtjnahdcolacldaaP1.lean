import Derived.Test.YtjnahdcolacldaaA15
namespace Go.Proofs.Ytjnahdcolacldaa
open Go Hv
set_option linter.unusedVariables false
set_option linter.unusedSimpArgs false
set_option maxRecDepth 10000
set_option maxHeartbeats 1000000
/-! What is written is read back -/
def opB (o : Opk) : List UInt8 := if o.kind = 1 then num (o.v % 256) 1 else if o.kind = 2 then num (o.v % 4294967296) 4 else if o.kind = 3 then num o.v 8 else if o.kind = 4 then textB o.s else if o.kind = 5 then textsB o.l else []
def allB (os : List Opk) : List UInt8 := os.flatMap opB
theorem opB_le (o : Opk) : (opB o).length ≤ opLen o := by
  unfold opB opLen
  repeat' split
  all_goals try simp only [num_length, textB_length, List.length_nil]
  all_goals omega
theorem lay_nil (w : W) : w.lay [] = w := by
  cases w with
  | mk l o e =>
    unfold W.lay
    split
    · rfl
    · rw [if_neg (by simp), List.append_nil]
theorem op_lay (w : W) (o : Opk) : w.op o = w.lay (opB o) := by
  unfold W.op opB
  by_cases h1 : o.kind = 1
  · rw [if_pos h1, if_pos h1]
  rw [if_neg h1, if_neg h1]
  by_cases h2 : o.kind = 2
  · rw [if_pos h2, if_pos h2]
  rw [if_neg h2, if_neg h2]
  by_cases h3 : o.kind = 3
  · rw [if_pos h3, if_pos h3]
  rw [if_neg h3, if_neg h3]
  by_cases h4 : o.kind = 4
  · rw [if_pos h4, if_pos h4]
  rw [if_neg h4, if_neg h4]
  by_cases h5 : o.kind = 5
  · rw [if_pos h5, if_pos h5]
  rw [if_neg h5, if_neg h5, lay_nil]
theorem allB_le (os : List Opk) : (allB os).length ≤ opsLen os := by
  induction os with
  | nil => exact Nat.le_refl _
  | cons o os ih =>
    have := opB_le o
    unfold allB opsLen at *
    rw [List.flatMap_cons, List.length_append, List.map_cons, List.sum_cons]; omega
theorem ops_fit : ∀ (os : List Opk) (w : W), w.err = 0 → w.out.length + (allB os).length ≤ w.lim → w.ops os = { w with out := w.out ++ allB os }
  | [], w, _, _ => by cases w; simp [W.ops, allB]
  | o :: os, w, he, h => by
    have hl : (allB (o :: os)).length = (opB o).length + (allB os).length := by unfold allB; rw [List.flatMap_cons, List.length_append]
    have e : w.op o = { w with out := w.out ++ opB o } := by rw [op_lay, lay_yes he (by omega)]
    show (w.op o).ops os = _
    rw [e, ops_fit os ⟨w.lim, w.out ++ opB o, w.err⟩ he (by show (w.out ++ opB o).length + _ ≤ w.lim; rw [List.length_append]; omega)]
    show W.mk w.lim ((w.out ++ opB o) ++ allB os) w.err = W.mk w.lim (w.out ++ allB (o :: os)) w.err
    unfold allB
    rw [List.flatMap_cons, List.append_assoc]
theorem ops_err : ∀ (os : List Opk) (w : W), w.err ≠ 0 → w.ops os = w
  | [], w, _ => rfl
  | o :: os, w, he => by
    have e : w.op o = w := by rw [op_lay]; unfold W.lay; rw [if_pos he]
    show (w.op o).ops os = w
    rw [e]; exact ops_err os w he
theorem ops_over : ∀ (os : List Opk) (w : W), w.err = 0 → w.out.length ≤ w.lim → w.lim < w.out.length + (allB os).length → (w.ops os).err = 3
  | [], w, _, h1, h2 => by simp [allB] at h2; omega
  | o :: os, w, he, h1, h2 => by
    have hl : (allB (o :: os)).length = (opB o).length + (allB os).length := by unfold allB; rw [List.flatMap_cons, List.length_append]
    show ((w.op o).ops os).err = 3
    by_cases h : (opB o).length ≤ w.lim - w.out.length
    · rw [op_lay, lay_yes he h]
      refine ops_over os ⟨w.lim, w.out ++ opB o, w.err⟩ he ?_ ?_
      · show (w.out ++ opB o).length ≤ w.lim; rw [List.length_append]; omega
      · show w.lim < (w.out ++ opB o).length + _; rw [List.length_append]; omega
    · rw [op_lay, lay_no (fun hh => h hh.2), if_pos he, ops_err _ _ (by show (3 : Int) ≠ 0; decide)]
theorem ops_ok (os : List Opk) : ∀ {w : W}, WOk w → WOk (w.ops os) := by
  induction os with
  | nil => intro w h; exact h
  | cons o os ih => intro w h; exact ih (w := w.op o) (by rw [op_lay]; exact W.lay_ok h)
theorem ops_lim (os : List Opk) : ∀ (w : W), (w.ops os).lim = w.lim := by
  induction os with
  | nil => intro w; rfl
  | cons o os ih => intro w; show ((w.op o).ops os).lim = _; rw [ih, op_lay]; exact W.lay_len.2
/-! readers -/
def maxLen (l : List (List UInt8)) : Nat := l.foldl (fun m s => max m s.length) 0
def R.reads (r : R) (o : Opk) : Bool × R :=
  if o.kind = 1 then (decide ((r.number 1).1 = o.v % 256), (r.number 1).2)
  else if o.kind = 2 then (decide ((r.number 4).1 = o.v % 4294967296), (r.number 4).2)
  else if o.kind = 3 then (decide ((r.number 8).1 = o.v), (r.number 8).2)
  else if o.kind = 4 then (decide ((r.text o.s.length).1 = o.s), (r.text o.s.length).2)
  else if o.kind = 5 then (decide ((r.texts o.l.length (maxLen o.l)).1 = o.l), (r.texts o.l.length (maxLen o.l)).2)
  else (true, r)
theorem number_back (v n : Nat) (t : List UInt8) : (⟨num v n ++ t, 0⟩ : R).number n = (v % 256 ^ n, ⟨t, 0⟩) := by
  have hn := num_length v n
  unfold R.number
  rw [if_neg (by simp), if_neg (by show ¬ (num v n ++ t).length < n; rw [List.length_append]; omega)]
  show (val ((num v n ++ t).take n), R.mk ((num v n ++ t).drop n) 0) = _
  rw [List.take_append_of_le_length (by omega), List.drop_append_of_le_length (by omega), List.take_of_length_le (by omega), List.drop_of_length_le (by omega), val_num, List.nil_append]
theorem number_cut (l : List UInt8) (n : Nat) (h : l.length < n) : ((⟨l, 0⟩ : R).number n).2.err = 4 := by
  unfold R.number
  rw [if_neg (by simp), if_pos h]
theorem text_back (s : List UInt8) (m : Nat) (t : List UInt8) (hs : s.length < 4294967296) (hm : s.length ≤ m) : (⟨textB s ++ t, 0⟩ : R).text m = (s, ⟨t, 0⟩) := by
  have hn := num_length s.length 4
  have ht4 : (textB s ++ t).take 4 = num s.length 4 := by
    unfold textB
    rw [List.append_assoc, List.take_append_of_le_length (by omega), List.take_of_length_le (by omega)]
  have hd4 : (textB s ++ t).drop 4 = s ++ t := by
    unfold textB
    rw [List.append_assoc, List.drop_append_of_le_length (by omega), List.drop_of_length_le (by omega), List.nil_append]
  have hl : (textB s ++ t).length = 4 + s.length + t.length := by rw [List.length_append, textB_length]
  have hv : val ((textB s ++ t).take 4) = s.length := by rw [ht4, val_num, Nat.mod_eq_of_lt hs]
  have hd : (textB s ++ t).drop (4 + s.length) = t := by
    rw [← List.drop_drop, hd4, List.drop_append_of_le_length (by omega), List.drop_of_length_le (by omega), List.nil_append]
  unfold R.text
  rw [if_neg (by simp), if_neg (by show ¬ (textB s ++ t).length < 4; omega), if_neg (by show ¬ (val ((textB s ++ t).take 4) : Int) > _; rw [hv]; omega), if_neg (by show ¬ (textB s ++ t).length - 4 < val ((textB s ++ t).take 4); rw [hv]; omega)]
  show (((textB s ++ t).drop 4).take (val ((textB s ++ t).take 4)), R.mk ((textB s ++ t).drop (4 + val ((textB s ++ t).take 4))) 0) = _
  rw [hv, hd4, hd, List.take_append_of_le_length (by omega), List.take_of_length_le (by omega)]
theorem text_cut (s : List UInt8) (m : Nat) (j : Nat) (hs : s.length < 4294967296) (hm : s.length ≤ m) (hj : j < (textB s).length) : ((⟨(textB s).take j, 0⟩ : R).text m).2.err = 4 := by
  have hn := num_length s.length 4
  rw [textB_length] at hj
  have hl : ((textB s).take j).length = j := by rw [List.length_take, textB_length]; omega
  unfold R.text
  rw [if_neg (by simp)]
  by_cases h4 : j < 4
  · rw [if_pos (by show ((textB s).take j).length < 4; omega)]
  have hv : val (((textB s).take j).take 4) = s.length := by
    have : ((textB s).take j).take 4 = num s.length 4 := by
      rw [List.take_take, Nat.min_eq_left (by omega)]
      unfold textB
      rw [List.take_append_of_le_length (by omega), List.take_of_length_le (by omega)]
    rw [this, val_num, Nat.mod_eq_of_lt hs]
  rw [if_neg (by show ¬ ((textB s).take j).length < 4; omega), if_neg (by show ¬ (val (((textB s).take j).take 4) : Int) > _; rw [hv]; omega), if_pos (by show ((textB s).take j).length - 4 < val (((textB s).take j).take 4); rw [hv]; omega)]
theorem many_back (each : Nat) : ∀ (l : List (List UInt8)) (t : List UInt8), (∀ s ∈ l, s.length < 4294967296 ∧ s.length ≤ each) → R.many each l.length ⟨l.flatMap textB ++ t, 0⟩ = (l, ⟨t, 0⟩)
  | [], t, _ => rfl
  | s :: l, t, h => by
    have hs := h s List.mem_cons_self
    have e : (⟨(s :: l).flatMap textB ++ t, 0⟩ : R).text each = (s, ⟨l.flatMap textB ++ t, 0⟩) := by
      rw [List.flatMap_cons, List.append_assoc]; exact text_back s each _ hs.1 hs.2
    show R.many each (l.length + 1) _ = _
    rw [many_step each l.length _ (by rw [e]), e]
    rw [many_back each l t (fun x hx => h x (List.mem_cons_of_mem _ hx))]
theorem many_cut (each : Nat) : ∀ (l : List (List UInt8)) (j : Nat), (∀ s ∈ l, s.length < 4294967296 ∧ s.length ≤ each) → j < (l.flatMap textB).length → (R.many each l.length ⟨(l.flatMap textB).take j, 0⟩).2.err = 4
  | [], j, _, hj => by simp at hj
  | s :: l, j, h, hj => by
    have hs := h s List.mem_cons_self
    rw [List.flatMap_cons, List.length_append] at hj
    show (R.many each (l.length + 1) _).2.err = _
    by_cases hc : j < (textB s).length
    · have e : ((s :: l).flatMap textB).take j = (textB s).take j := by rw [List.flatMap_cons, List.take_append_of_le_length (by omega)]
      have ht := text_cut s each j hs.1 hs.2 hc
      rw [e, many_stop each l.length _ (by rw [ht]; decide)]
      exact ht
    · have e : ((s :: l).flatMap textB).take j = textB s ++ (l.flatMap textB).take (j - (textB s).length) := by
        rw [List.flatMap_cons, List.take_append, List.take_of_length_le (by omega)]
      have e2 : (⟨((s :: l).flatMap textB).take j, 0⟩ : R).text each = (s, ⟨(l.flatMap textB).take (j - (textB s).length), 0⟩) := by
        rw [e]; exact text_back s each _ hs.1 hs.2
      rw [many_step each l.length _ (by rw [e2]), e2]
      exact many_cut each l _ (fun x hx => h x (List.mem_cons_of_mem _ hx)) (by omega)
theorem count_back (k m : Nat) (t : List UInt8) (hk : k < 4294967296) (hm : k ≤ m) : (⟨num k 4 ++ t, 0⟩ : R).count m = (k, ⟨t, 0⟩) := by
  have hn := num_length k 4
  have hv : val ((num k 4 ++ t).take 4) = k := by rw [List.take_append_of_le_length (by omega), List.take_of_length_le (by omega), val_num, Nat.mod_eq_of_lt hk]
  unfold R.count
  rw [if_neg (by simp), if_neg (by show ¬ (num k 4 ++ t).length < 4; rw [List.length_append]; omega), if_neg (by show ¬ (val ((num k 4 ++ t).take 4) : Int) > _; rw [hv]; omega)]
  show (val ((num k 4 ++ t).take 4), R.mk ((num k 4 ++ t).drop 4) 0) = _
  rw [hv, List.drop_append_of_le_length (by omega), List.drop_of_length_le (by omega), List.nil_append]
theorem texts_back (l : List (List UInt8)) (each : Nat) (t : List UInt8) (hk : l.length < 4294967296) (h : ∀ s ∈ l, s.length < 4294967296 ∧ s.length ≤ each) : (⟨textsB l ++ t, 0⟩ : R).texts l.length each = (l, ⟨t, 0⟩) := by
  unfold R.texts textsB
  rw [List.append_assoc, count_back l.length l.length _ hk (Nat.le_refl _), many_back each l t h, if_neg (by simp)]
theorem texts_cut (l : List (List UInt8)) (each j : Nat) (hk : l.length < 4294967296) (h : ∀ s ∈ l, s.length < 4294967296 ∧ s.length ≤ each) (hj : j < (textsB l).length) : ((⟨(textsB l).take j, 0⟩ : R).texts l.length each).2.err = 4 := by
  have hn := num_length l.length 4
  have hl : (textsB l).length = 4 + (l.flatMap textB).length := by unfold textsB; rw [List.length_append]; omega
  by_cases h4 : j < 4
  · have hc : (⟨(textsB l).take j, 0⟩ : R).count l.length = (0, ⟨(textsB l).take j, 4⟩) := by
      unfold R.count
      rw [if_neg (by simp), if_pos (by show ((textsB l).take j).length < 4; rw [List.length_take]; omega)]
    unfold R.texts
    rw [hc, if_pos (by show (4 : Int) ≠ 0; decide)]; rfl
  · have e : (textsB l).take j = num l.length 4 ++ (l.flatMap textB).take (j - 4) := by
      unfold textsB
      rw [List.take_append, hn, List.take_of_length_le (by omega)]
    have hm := many_cut each l (j - 4) h (by omega)
    unfold R.texts
    rw [e, count_back l.length l.length _ hk (Nat.le_refl _), if_pos (by rw [hm]; decide)]
    exact hm
/-! a script -/
structure OpFit (o : Opk) : Prop where
  v : o.v < 18446744073709551616
  s : o.s.length < 4294967296
  k : o.l.length < 4294967296
  l : ∀ s ∈ o.l, s.length < 4294967296
theorem foldl_max : ∀ (l : List (List UInt8)) (m : Nat), m ≤ l.foldl (fun m s => max m s.length) m ∧ ∀ s ∈ l, s.length ≤ l.foldl (fun m s => max m s.length) m
  | [], m => ⟨Nat.le_refl _, fun s hs => by cases hs⟩
  | x :: l, m => by
    obtain ⟨h1, h2⟩ := foldl_max l (max m x.length)
    refine ⟨Nat.le_trans (Nat.le_max_left _ _) h1, fun s hs => ?_⟩
    rcases List.mem_cons.1 hs with rfl | hs
    · exact Nat.le_trans (Nat.le_max_right _ _) h1
    · exact h2 s hs
theorem maxLen_le {l : List (List UInt8)} {s : List UInt8} (h : s ∈ l) : s.length ≤ maxLen l := (foldl_max l 0).2 s h
theorem reads_back {o : Opk} (ok : OpFit o) (t : List UInt8) : (⟨opB o ++ t, 0⟩ : R).reads o = (true, ⟨t, 0⟩) := by
  unfold R.reads opB
  by_cases h1 : o.kind = 1
  · rw [if_pos h1, if_pos h1, number_back]; simp
  rw [if_neg h1, if_neg h1]
  by_cases h2 : o.kind = 2
  · rw [if_pos h2, if_pos h2, number_back]; simp
  rw [if_neg h2, if_neg h2]
  by_cases h3 : o.kind = 3
  · rw [if_pos h3, if_pos h3, number_back]
    have := ok.v
    have e : o.v % 256 ^ 8 = o.v := Nat.mod_eq_of_lt (by omega)
    rw [e]; simp
  rw [if_neg h3, if_neg h3]
  by_cases h4 : o.kind = 4
  · rw [if_pos h4, if_pos h4, text_back o.s o.s.length t ok.s (Nat.le_refl _)]; simp
  rw [if_neg h4, if_neg h4]
  by_cases h5 : o.kind = 5
  · rw [if_pos h5, if_pos h5, texts_back o.l (maxLen o.l) t ok.k (fun s hs => ⟨ok.l s hs, maxLen_le hs⟩)]; simp
  rw [if_neg h5, if_neg h5]; rfl
theorem reads_cut {o : Opk} (ok : OpFit o) {j : Nat} (hj : j < (opB o).length) : ((⟨(opB o).take j, 0⟩ : R).reads o).2.err = 4 := by
  unfold R.reads
  unfold opB at hj ⊢
  by_cases h1 : o.kind = 1
  · rw [if_pos h1] at hj; rw [if_pos h1, if_pos h1]
    exact number_cut _ _ (by rw [List.length_take]; rw [num_length] at hj ⊢; omega)
  rw [if_neg h1] at hj; rw [if_neg h1, if_neg h1]
  by_cases h2 : o.kind = 2
  · rw [if_pos h2] at hj; rw [if_pos h2, if_pos h2]
    exact number_cut _ _ (by rw [List.length_take]; rw [num_length] at hj ⊢; omega)
  rw [if_neg h2] at hj; rw [if_neg h2, if_neg h2]
  by_cases h3 : o.kind = 3
  · rw [if_pos h3] at hj; rw [if_pos h3, if_pos h3]
    exact number_cut _ _ (by rw [List.length_take]; rw [num_length] at hj ⊢; omega)
  rw [if_neg h3] at hj; rw [if_neg h3, if_neg h3]
  by_cases h4 : o.kind = 4
  · rw [if_pos h4] at hj; rw [if_pos h4, if_pos h4]
    exact text_cut o.s _ j ok.s (Nat.le_refl _) hj
  rw [if_neg h4] at hj; rw [if_neg h4, if_neg h4]
  by_cases h5 : o.kind = 5
  · rw [if_pos h5] at hj; rw [if_pos h5, if_pos h5]
    exact texts_cut o.l _ j ok.k (fun s hs => ⟨ok.l s hs, maxLen_le hs⟩) hj
  rw [if_neg h5] at hj; cases hj
def R.readsAll (r : R) (os : List Opk) : R := os.foldl (fun r o => (r.reads o).2) r
theorem readsAll_take {r : R} {os : List Opk} {i : Nat} {o : Opk} (h : os[i]? = some o) : r.readsAll (os.take (i + 1)) = ((r.readsAll (os.take i)).reads o).2 := by
  unfold R.readsAll
  rw [take_get h, List.foldl_append]; rfl
theorem number_err {r : R} (n : Nat) (h : r.err ≠ 0) : (r.number n).2 = r := by unfold R.number; rw [if_pos h]
theorem text_err {r : R} (m : Int) (h : r.err ≠ 0) : (r.text m).2 = r := by unfold R.text; rw [if_pos h]
theorem texts_err {r : R} (m e : Int) (h : r.err ≠ 0) : (r.texts m e).2 = r := by
  have hc : r.count m = (0, r) := by unfold R.count; rw [if_pos h]
  have he : (R.many e (r.count m).1 (r.count m).2) = ([], r) := by rw [hc]; rfl
  unfold R.texts
  rw [he, if_pos h]
theorem reads_err {r : R} (o : Opk) (h : r.err ≠ 0) : (r.reads o).2 = r := by
  unfold R.reads
  by_cases h1 : o.kind = 1
  · rw [if_pos h1]; exact number_err 1 h
  rw [if_neg h1]
  by_cases h2 : o.kind = 2
  · rw [if_pos h2]; exact number_err 4 h
  rw [if_neg h2]
  by_cases h3 : o.kind = 3
  · rw [if_pos h3]; exact number_err 8 h
  rw [if_neg h3]
  by_cases h4 : o.kind = 4
  · rw [if_pos h4]; exact text_err _ h
  rw [if_neg h4]
  by_cases h5 : o.kind = 5
  · rw [if_pos h5]; exact texts_err _ _ h
  rw [if_neg h5]
theorem readsAll_err : ∀ (os : List Opk) {r : R}, r.err ≠ 0 → r.readsAll os = r
  | [], r, _ => rfl
  | o :: os, r, h => by
    show R.readsAll (r.reads o).2 os = r
    rw [reads_err o h]; exact readsAll_err os h
theorem readsAll_back : ∀ (os : List Opk) (t : List UInt8), (∀ o ∈ os, OpFit o) → (⟨allB os ++ t, 0⟩ : R).readsAll os = ⟨t, 0⟩
  | [], t, _ => rfl
  | o :: os, t, h => by
    have e : allB (o :: os) ++ t = opB o ++ (allB os ++ t) := by unfold allB; rw [List.flatMap_cons, List.append_assoc]
    show R.readsAll ((⟨allB (o :: os) ++ t, 0⟩ : R).reads o).2 os = _
    rw [e, reads_back (h o List.mem_cons_self)]
    exact readsAll_back os t fun x hx => h x (List.mem_cons_of_mem _ hx)
theorem readsAll_step {os : List Opk} {t : List UInt8} (h : ∀ o ∈ os, OpFit o) {i : Nat} {o : Opk} (ho : os[i]? = some o) : ((⟨allB os ++ t, 0⟩ : R).readsAll (os.take i)).reads o = (true, (⟨allB os ++ t, 0⟩ : R).readsAll (os.take (i + 1))) := by
  have e : allB os ++ t = allB (os.take i) ++ (opB o ++ (allB (os.drop (i + 1)) ++ t)) := by
    unfold allB
    conv => lhs; rw [← List.take_append_drop i os, List.flatMap_append, drop_get ho, List.flatMap_cons]
    simp only [List.append_assoc]
  have h1 := reads_back (h o (List.mem_of_getElem? ho)) (allB (os.drop (i + 1)) ++ t)
  have h2 := readsAll_back (os.take i) (opB o ++ (allB (os.drop (i + 1)) ++ t)) (fun x hx => h x (List.mem_of_mem_take hx))
  rw [readsAll_take ho, e, h2, h1]
theorem readsAll_cut : ∀ (os : List Opk) (j : Nat), (∀ o ∈ os, OpFit o) → j < (allB os).length → ((⟨(allB os).take j, 0⟩ : R).readsAll os).err = 4
  | [], j, _, hj => by simp [allB] at hj
  | o :: os, j, h, hj => by
    have e0 : allB (o :: os) = opB o ++ allB os := by unfold allB; rw [List.flatMap_cons]
    have ok := h o List.mem_cons_self
    rw [e0] at hj ⊢
    rw [List.length_append] at hj
    show (R.readsAll ((⟨(opB o ++ allB os).take j, 0⟩ : R).reads o).2 os).err = 4
    by_cases hc : j < (opB o).length
    · rw [List.take_append_of_le_length (by omega)]
      have := reads_cut ok hc
      rw [readsAll_err os (by rw [this]; decide)]; exact this
    · rw [List.take_append, List.take_of_length_le (by omega), reads_back ok]
      exact readsAll_cut os _ (fun x hx => h x (List.mem_cons_of_mem _ hx)) (by omega)
end Go.Proofs.Ytjnahdcolacldaa
