import Derived.Test.YtfcmjomnpahllaaK8
namespace Go.Proofs.Ytfcmjomnpahllaa
open Go Hv
set_option linter.unusedVariables false
set_option linter.unusedSimpArgs false
set_option maxRecDepth 10000
set_option maxHeartbeats 1000000
/-! What is built is read back; what is read was built (plainly) -/
theorem number_back (v n : Nat) (t : List UInt8) : (⟨num v n ++ t, 0⟩ : R).number n = (v % 256 ^ n, ⟨t, 0⟩) := by
  have hn := num_length v n
  unfold R.number
  rw [if_neg (by simp), if_neg (by show ¬ (num v n ++ t).length < n; rw [List.length_append]; omega)]
  show (val ((num v n ++ t).take n), R.mk ((num v n ++ t).drop n) 0) = _
  rw [List.take_append_of_le_length (by omega), List.drop_append_of_le_length (by omega), List.take_of_length_le (by omega), List.drop_of_length_le (by omega), val_num, List.nil_append]
theorem text_back (s : List UInt8) (m : Nat) (t : List UInt8) (hs : s.length < 4294967296) (hm : s.length ≤ m) : (⟨textB s ++ t, 0⟩ : R).text m = (s, ⟨t, 0⟩) := by
  have hn := num_length s.length 4
  have ht4 : (textB s ++ t).take 4 = num s.length 4 := by
    unfold textB
    rw [List.append_assoc, List.take_append_of_le_length (by omega), List.take_of_length_le (by omega)]
  have hd4 : (textB s ++ t).drop 4 = s ++ t := by
    unfold textB
    rw [List.append_assoc, List.drop_append_of_le_length (by omega), List.drop_of_length_le (by omega), List.nil_append]
  have hl : (textB s ++ t).length = 4 + s.length + t.length := by rw [List.length_append, textB_length]
  have hv : val ((textB s ++ t).take 4) = s.length := by rw [ht4, val_num, Nat.mod_eq_of_lt hs]
  have hd : (textB s ++ t).drop (4 + s.length) = t := by
    rw [← List.drop_drop, hd4, List.drop_append_of_le_length (by omega), List.drop_of_length_le (by omega), List.nil_append]
  unfold R.text
  rw [if_neg (by simp), if_neg (by show ¬ (textB s ++ t).length < 4; omega), if_neg (by show ¬ (val ((textB s ++ t).take 4) : Int) > _; rw [hv]; omega), if_neg (by show ¬ (textB s ++ t).length - 4 < val ((textB s ++ t).take 4); rw [hv]; omega)]
  show (((textB s ++ t).drop 4).take (val ((textB s ++ t).take 4)), R.mk ((textB s ++ t).drop (4 + val ((textB s ++ t).take 4))) 0) = _
  rw [hv, hd4, hd, List.take_append_of_le_length (by omega), List.take_of_length_le (by omega)]
theorem many_back (each : Nat) : ∀ (l : List (List UInt8)) (t : List UInt8), (∀ s ∈ l, s.length < 4294967296 ∧ s.length ≤ each) → R.many each l.length ⟨l.flatMap textB ++ t, 0⟩ = (l, ⟨t, 0⟩)
  | [], t, _ => rfl
  | s :: l, t, h => by
    have hs := h s List.mem_cons_self
    have e : (⟨(s :: l).flatMap textB ++ t, 0⟩ : R).text each = (s, ⟨l.flatMap textB ++ t, 0⟩) := by
      rw [List.flatMap_cons, List.append_assoc]; exact text_back s each _ hs.1 hs.2
    show R.many each (l.length + 1) _ = _
    rw [many_step each l.length _ (by rw [e]), e]
    rw [many_back each l t (fun x hx => h x (List.mem_cons_of_mem _ hx))]
theorem count_back (k m : Nat) (t : List UInt8) (hk : k < 4294967296) (hm : k ≤ m) : (⟨num k 4 ++ t, 0⟩ : R).count m = (k, ⟨t, 0⟩) := by
  have hn := num_length k 4
  have hv : val ((num k 4 ++ t).take 4) = k := by rw [List.take_append_of_le_length (by omega), List.take_of_length_le (by omega), val_num, Nat.mod_eq_of_lt hk]
  unfold R.count
  rw [if_neg (by simp), if_neg (by show ¬ (num k 4 ++ t).length < 4; rw [List.length_append]; omega), if_neg (by show ¬ (val ((num k 4 ++ t).take 4) : Int) > _; rw [hv]; omega)]
  show (val ((num k 4 ++ t).take 4), R.mk ((num k 4 ++ t).drop 4) 0) = _
  rw [hv, List.drop_append_of_le_length (by omega), List.drop_of_length_le (by omega), List.nil_append]
theorem texts_backG (l : List (List UInt8)) (most each : Nat) (t : List UInt8) (hk : l.length < 4294967296) (hm : l.length ≤ most) (h : ∀ s ∈ l, s.length < 4294967296 ∧ s.length ≤ each) : (⟨textsB l ++ t, 0⟩ : R).texts most each = (l, ⟨t, 0⟩) := by
  unfold R.texts textsB
  rw [List.append_assoc, count_back l.length most _ hk hm, many_back each l t h, if_neg (by simp)]
theorem pairsP_back : ∀ (ps : List (Txt × Txt)) (t : List UInt8), (∀ p ∈ ps, p.1.length ≤ 65535 ∧ p.2.length ≤ 65535) → pairsP ps.length ⟨(pairPieces ps).flatten ++ t, 0⟩ = (ps, ⟨t, 0⟩)
  | [], t, _ => rfl
  | p :: ps, t, h => by
    have hp := h p List.mem_cons_self
    have e : (pairPieces (p :: ps)).flatten ++ t = textB p.1 ++ (textB p.2 ++ ((pairPieces ps).flatten ++ t)) := by
      unfold pairPieces
      rw [List.flatMap_cons]
      simp only [List.cons_append, List.nil_append, List.flatten_cons, List.append_assoc]
    have e1 := text_back p.1 65535 (textB p.2 ++ ((pairPieces ps).flatten ++ t)) (by omega) (by omega)
    have e2 := text_back p.2 65535 ((pairPieces ps).flatten ++ t) (by omega) (by omega)
    rw [e]
    show (if (0 : Int) ≠ 0 then _ else _) = _
    rw [if_neg (by simp)]
    have e1 : (⟨textB p.1 ++ (textB p.2 ++ ((pairPieces ps).flatten ++ t)), 0⟩ : R).text 65535 = _ := e1
    have e2 : (⟨textB p.2 ++ ((pairPieces ps).flatten ++ t), 0⟩ : R).text 65535 = _ := e2
    rw [e1]
    show (((p.1, ((⟨textB p.2 ++ ((pairPieces ps).flatten ++ t), 0⟩ : R).text 65535).1) :: (pairsP ps.length ((⟨textB p.2 ++ ((pairPieces ps).flatten ++ t), 0⟩ : R).text 65535).2).1), (pairsP ps.length ((⟨textB p.2 ++ ((pairPieces ps).flatten ++ t), 0⟩ : R).text 65535).2).2) = _
    rw [e2]
    show ((p.1, p.2) :: (pairsP ps.length ⟨(pairPieces ps).flatten ++ t, 0⟩).1, (pairsP ps.length ⟨(pairPieces ps).flatten ++ t, 0⟩).2) = _
    rw [pairsP_back ps t (fun q hq => h q (List.mem_cons_of_mem _ hq))]
theorem pay1 {r : Rec} (h : r.kind = 1) : pay r = num 1 1 ++ (num r.id 8 ++ (num r.ps.length 4 ++ ((pairPieces r.ps).flatten ++ textsB r.ks))) := by
  unfold pay payPieces
  rw [if_pos h, h]
  simp only [List.cons_append, List.nil_append, List.flatten_cons, List.flatten_append, List.append_assoc, List.flatten_nil, List.append_nil]
  rfl
theorem pay2 {r : Rec} (h : r.kind = 2) : pay r = num 2 1 ++ num r.id 8 := by
  unfold pay payPieces
  rw [h, if_neg (by decide)]
  simp only [List.flatten_cons, List.flatten_nil, List.append_nil]
  rfl
theorem read_pay {r : Rec} (h : May r) (hid : r.id < 18446744073709551616) : readR (pay r) = (r, ⟨[], 0⟩) := by
  obtain ⟨kind, id, ps, ks⟩ := r
  have hf := h.few
  have hs := h.short
  rcases h.2 with ⟨h1, h2, h3⟩ | ⟨h1, _⟩
  · have h1 : kind = 2 := h1
    have h2 : ps = [] := h2
    have h3 : ks = [] := h3
    subst h1 h2 h3
    rw [pay2 rfl]
    have e1 := number_back 2 1 (num id 8)
    have e8 := number_back id 8 []
    rw [List.append_nil, Nat.mod_eq_of_lt hid] at e8
    unfold readR
    rw [e1, if_neg (show ¬ (2 % 256 ^ 1 = 1) by decide)]
    show (Rec.mk ((2 % 256 ^ 1 : Nat) : Int) ((⟨num id 8, 0⟩ : R).number 8).1 [] [], ((⟨num id 8, 0⟩ : R).number 8).2) = _
    rw [e8]; rfl
  · have h1 : kind = 1 := h1
    subst h1
    rw [pay1 rfl]
    have e1 := number_back 1 1 (num id 8 ++ (num ps.length 4 ++ ((pairPieces ps).flatten ++ textsB ks)))
    have e8 := number_back id 8 (num ps.length 4 ++ ((pairPieces ps).flatten ++ textsB ks))
    rw [Nat.mod_eq_of_lt hid] at e8
    have ec : (⟨num ps.length 4 ++ ((pairPieces ps).flatten ++ textsB ks), 0⟩ : R).count 1024 = _ := count_back ps.length 1024 ((pairPieces ps).flatten ++ textsB ks) (by have : ps.length ≤ 1024 := hf.1; omega) hf.1
    have ep := pairsP_back ps (textsB ks) hs.1
    have et : (⟨textsB ks, 0⟩ : R).texts 1024 65535 = (ks, ⟨[], 0⟩) := by
      have := texts_backG ks 1024 65535 [] (by have : ks.length ≤ 1024 := hf.2; omega) hf.2 (fun s hs' => ⟨by have := hs.2 s hs'; omega, hs.2 s hs'⟩)
      rw [List.append_nil] at this; exact this
    unfold readR
    rw [e1, if_pos (show 1 % 256 ^ 1 = 1 by decide)]
    simp only [e8, ec, ep, et]
theorem pay_short {r : Rec} (h : May r) (hid : r.id < 18446744073709551616) : ReadOk (pay r) := by
  unfold ReadOk
  rw [read_pay h hid]
  exact ⟨rfl, h⟩
theorem frame_len (p : List UInt8) : (frameR p).length = 8 + p.length := by
  unfold frameR
  rw [List.length_append, List.length_append, num_length, num_length]
theorem crcN_lt (p : List UInt8) : crcN p < 4294967296 := (Crc.crc 0#32 p).isLt
theorem frame_take4 (p t : List UInt8) : (frameR p ++ t).take 4 = num p.length 4 := by
  unfold frameR
  rw [List.append_assoc, List.append_assoc, List.take_append_of_le_length (by rw [num_length]; exact Nat.le_refl _), List.take_of_length_le (by rw [num_length]; exact Nat.le_refl _)]
theorem frame_mid (p t : List UInt8) : ((frameR p ++ t).drop 4).take 4 = num (crcN p) 4 := by
  unfold frameR
  rw [List.append_assoc, List.append_assoc, List.drop_append_of_le_length (by rw [num_length]; exact Nat.le_refl _), List.drop_of_length_le (by rw [num_length]; exact Nat.le_refl _), List.nil_append, List.take_append_of_le_length (by rw [num_length]; exact Nat.le_refl _), List.take_of_length_le (by rw [num_length]; exact Nat.le_refl _)]
theorem frame_drop8 (p t : List UInt8) : (frameR p ++ t).drop 8 = p ++ t := by
  unfold frameR
  rw [List.append_assoc, List.drop_append_of_le_length (by rw [List.length_append, num_length, num_length]; exact Nat.le_refl _), List.drop_of_length_le (by rw [List.length_append, num_length, num_length]; exact Nat.le_refl _), List.nil_append]
theorem parse_frame {p : List UInt8} (t : List UInt8) (hp : p.length ≤ 1048576) (h : ReadOk p) : parseR (frameR p ++ t) = ((readR p).1, 8 + p.length, 0) := by
  have hv : val ((frameR p ++ t).take 4) = p.length := by rw [frame_take4, val_num]; exact Nat.mod_eq_of_lt (by show p.length < 4294967296; omega)
  have hc : val (((frameR p ++ t).drop 4).take 4) = crcN p := by rw [frame_mid, val_num]; exact Nat.mod_eq_of_lt (crcN_lt p)
  have hl : (frameR p ++ t).length = 8 + p.length + t.length := by rw [List.length_append, frame_len]
  have hb : ((frameR p ++ t).drop 8).take p.length = p := by rw [frame_drop8, List.take_append_of_le_length (Nat.le_refl _), List.take_of_length_le (Nat.le_refl _)]
  unfold parseR
  rw [hv, hc, hl, hb, if_neg (by omega), if_neg (by omega), if_neg (by omega), if_neg (by simp), if_neg (fun hh => hh h)]
theorem parse_rec {r : Rec} (t : List UInt8) (h : May r) (hid : r.id < 18446744073709551616) (hp : (pay r).length ≤ 1048576) : parseR (frameR (pay r) ++ t) = (r, 8 + (pay r).length, 0) := by
  rw [parse_frame t hp (pay_short h hid), read_pay h hid]
theorem parse_cut {p : List UInt8} {j : Nat} (hp : p.length ≤ 1048576) (hj : j < 8 + p.length) : parseR ((frameR p).take j) = (zeroRec, 0, 91) := by
  have hl : ((frameR p).take j).length = j := by rw [List.length_take, frame_len]; omega
  unfold parseR
  rw [hl]
  by_cases h8 : j < 8
  · rw [if_pos h8]
  rw [if_neg h8]
  have hv : val (((frameR p).take j).take 4) = p.length := by
    rw [List.take_take, Nat.min_eq_left (by omega)]
    have := frame_take4 p []
    rw [List.append_nil] at this
    rw [this, val_num]; exact Nat.mod_eq_of_lt (by show p.length < 4294967296; omega)
  rw [hv, if_neg (by omega), if_pos (by omega)]
end Go.Proofs.Ytfcmjomnpahllaa
