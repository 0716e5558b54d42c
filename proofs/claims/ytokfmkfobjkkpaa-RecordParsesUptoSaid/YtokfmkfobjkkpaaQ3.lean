import Derived.Test.YtokfmkfobjkkpaaQ2
namespace Go.Proofs.Ytokfmkfobjkkpaa
open Go Hv
set_option linter.unusedVariables false
set_option linter.unusedSimpArgs false
set_option maxRecDepth 10000
set_option maxHeartbeats 1000000
/-! What is read was built -/
theorem number_inv {r : R} {n : Nat} (h : (r.number n).2.err = 0) : r.err = 0 ∧ r.rest = num (r.number n).1 n ++ (r.number n).2.rest := by
  unfold R.number at h ⊢
  by_cases h1 : r.err ≠ 0
  · rw [if_pos h1] at h; exact absurd h h1
  rw [if_neg h1] at h ⊢
  by_cases h2 : r.rest.length < n
  · rw [if_pos h2] at h; exact absurd (show (4 : Int) = 0 from h) (by decide)
  rw [if_neg h2]
  refine ⟨Classical.not_not.1 h1, ?_⟩
  show r.rest = num (val (r.rest.take n)) n ++ r.rest.drop n
  have hl : (r.rest.take n).length = n := by rw [List.length_take]; omega
  have := num_val (r.rest.take n)
  rw [hl] at this
  rw [this, List.take_append_drop]
theorem text_inv {r : R} {most : Int} (h : (r.text most).2.err = 0) : r.err = 0 ∧ r.rest = textB (r.text most).1 ++ (r.text most).2.rest := by
  unfold R.text at h ⊢
  by_cases h1 : r.err ≠ 0
  · rw [if_pos h1] at h; exact absurd h h1
  rw [if_neg h1] at h ⊢
  by_cases h2 : r.rest.length < 4
  · rw [if_pos h2] at h; exact absurd (show (4 : Int) = 0 from h) (by decide)
  rw [if_neg h2] at h ⊢
  by_cases h3 : (val (r.rest.take 4) : Int) > max most 0
  · rw [if_pos h3] at h; exact absurd (show (3 : Int) = 0 from h) (by decide)
  rw [if_neg h3] at h ⊢
  by_cases h4 : r.rest.length - 4 < val (r.rest.take 4)
  · rw [if_pos h4] at h; exact absurd (show (4 : Int) = 0 from h) (by decide)
  rw [if_neg h4]
  refine ⟨Classical.not_not.1 h1, ?_⟩
  show r.rest = textB ((r.rest.drop 4).take (val (r.rest.take 4))) ++ r.rest.drop (4 + val (r.rest.take 4))
  have hl : (r.rest.take 4).length = 4 := by rw [List.length_take]; omega
  have hl2 : ((r.rest.drop 4).take (val (r.rest.take 4))).length = val (r.rest.take 4) := by rw [List.length_take, List.length_drop]; omega
  have := num_val (r.rest.take 4)
  rw [hl] at this
  unfold textB
  rw [hl2, this, List.append_assoc, ← List.drop_drop, List.take_append_drop, List.take_append_drop]
theorem count_inv {r : R} {most : Int} (h : (r.count most).2.err = 0) : r.err = 0 ∧ r.rest = num (r.count most).1 4 ++ (r.count most).2.rest := by
  unfold R.count at h ⊢
  by_cases h1 : r.err ≠ 0
  · rw [if_pos h1] at h; exact absurd h h1
  rw [if_neg h1] at h ⊢
  by_cases h2 : r.rest.length < 4
  · rw [if_pos h2] at h; exact absurd (show (4 : Int) = 0 from h) (by decide)
  rw [if_neg h2] at h ⊢
  by_cases h3 : (val (r.rest.take 4) : Int) > max most 0
  · rw [if_pos h3] at h; exact absurd (show (3 : Int) = 0 from h) (by decide)
  rw [if_neg h3]
  refine ⟨Classical.not_not.1 h1, ?_⟩
  show r.rest = num (val (r.rest.take 4)) 4 ++ r.rest.drop 4
  have hl : (r.rest.take 4).length = 4 := by rw [List.length_take]; omega
  have := num_val (r.rest.take 4)
  rw [hl] at this
  rw [this, List.take_append_drop]
theorem many_inv {each : Int} : ∀ (n : Nat) {r : R}, (R.many each n r).2.err = 0 → r.err = 0 ∧ r.rest = (R.many each n r).1.flatMap textB ++ (R.many each n r).2.rest ∧ (R.many each n r).1.length = n
  | 0, r, h => ⟨h, rfl, rfl⟩
  | n + 1, r, h => by
    by_cases he : (r.text each).2.err = 0
    · rw [many_step each n r he] at h ⊢
      have ⟨h1, h2, h3⟩ := many_inv n (r := (r.text each).2) h
      obtain ⟨t1, t2⟩ := text_inv he
      refine ⟨t1, ?_, by rw [List.length_cons, h3]⟩
      rw [List.flatMap_cons, List.append_assoc, ← h2]
      exact t2
    · rw [many_stop each n r he] at h
      exact absurd h he
theorem texts_inv {r : R} {most each : Int} (h : (r.texts most each).2.err = 0) : r.err = 0 ∧ r.rest = textsB (r.texts most each).1 ++ (r.texts most each).2.rest := by
  unfold R.texts at h ⊢
  by_cases h1 : (R.many each (r.count most).1 (r.count most).2).2.err ≠ 0
  · rw [if_pos h1] at h; exact absurd h h1
  rw [if_neg h1]
  have ⟨m1, m2, m3⟩ := many_inv _ (Classical.not_not.1 h1)
  obtain ⟨c1, c2⟩ := count_inv m1
  refine ⟨c1, ?_⟩
  unfold textsB
  rw [m3, List.append_assoc, ← m2]
  exact c2
theorem pairs_inv : ∀ (n : Nat) {r : R}, (pairsP n r).2.err = 0 → r.err = 0 ∧ r.rest = (pairPieces (pairsP n r).1).flatten ++ (pairsP n r).2.rest ∧ (pairsP n r).1.length = n
  | 0, r, h => ⟨h, rfl, rfl⟩
  | n + 1, r, h => by
    by_cases he : r.err = 0
    · have e : pairsP (n + 1) r = (((r.text 65535).1, ((r.text 65535).2.text 65535).1) :: (pairsP n ((r.text 65535).2.text 65535).2).1, (pairsP n ((r.text 65535).2.text 65535).2).2) := by
        show (if r.err ≠ 0 then _ else _) = _
        rw [if_neg (fun h => h he)]
      rw [e] at h ⊢
      have ⟨h1, h2, h3⟩ := pairs_inv n (r := ((r.text 65535).2.text 65535).2) h
      obtain ⟨t1, t2⟩ := text_inv h1
      obtain ⟨s1, s2⟩ := text_inv t1
      refine ⟨he, ?_, by rw [List.length_cons, h3]⟩
      have ep : (pairPieces (((r.text 65535).1, ((r.text 65535).2.text 65535).1) :: (pairsP n ((r.text 65535).2.text 65535).2).1)).flatten = textB (r.text 65535).1 ++ (textB ((r.text 65535).2.text 65535).1 ++ (pairPieces (pairsP n ((r.text 65535).2.text 65535).2).1).flatten) := by
        unfold pairPieces
        rw [List.flatMap_cons]
        simp only [List.cons_append, List.nil_append, List.flatten_cons, List.append_assoc]
      rw [ep, List.append_assoc, List.append_assoc, ← h2, ← t2]
      exact s2
    · rw [pairsP_err he] at h
      exact absurd h he
theorem fin_zero {r : R} (h : r.fin = 0) : r.err = 0 ∧ r.rest = [] := by
  unfold R.fin at h
  by_cases h1 : r.err = 0 ∧ 0 < r.rest.length
  · rw [if_pos h1] at h; exact absurd h (by decide)
  · rw [if_neg h1] at h
    refine ⟨h, ?_⟩
    cases hr : r.rest with
    | nil => rfl
    | cons x l => exact absurd ⟨h, by rw [hr]; simp⟩ h1
theorem pay_read {l : List UInt8} (h : ReadOk l) : pay (readR l).1 = l := by
  obtain ⟨hf, hm⟩ := h
  obtain ⟨hf1, hf2⟩ := fin_zero hf
  unfold readR at hf1 hf2 hm ⊢
  by_cases h1 : ((⟨l, 0⟩ : R).number 1).1 = 1
  · rw [if_pos h1] at hf1 hf2 hm ⊢
    have ⟨t1, t2⟩ := texts_inv hf1
    have ⟨p1, p2, p3⟩ := pairs_inv _ t1
    obtain ⟨c1, c2⟩ := count_inv p1
    obtain ⟨n1, n2⟩ := number_inv c1
    obtain ⟨m1, m2⟩ := number_inv n1
    rw [pay1 rfl]
    have m2 : l = num ((⟨l, 0⟩ : R).number 1).1 1 ++ ((⟨l, 0⟩ : R).number 1).2.rest := m2
    refine Eq.trans ?_ m2.symm
    rw [h1]
    congr 1
    rw [n2]
    congr 1
    rw [c2]
    show num (pairsP _ _).1.length 4 ++ _ = _
    rw [p3]
    congr 1
    rw [p2]
    congr 1
    rw [t2, hf2, List.append_nil]
  · rw [if_neg h1] at hf1 hf2 hm ⊢
    have n1 := number_inv (r := ((⟨l, 0⟩ : R).number 1).2) (n := 8) hf1
    obtain ⟨m1, m2⟩ := number_inv n1.1
    have m2 : l = num ((⟨l, 0⟩ : R).number 1).1 1 ++ ((⟨l, 0⟩ : R).number 1).2.rest := m2
    have hk : ((((⟨l, 0⟩ : R).number 1).1 : Nat) : Int) = 2 := by
      rcases hm.kind with hk | hk
      · have hk : ((((⟨l, 0⟩ : R).number 1).1 : Nat) : Int) = 1 := hk
        omega
      · exact hk
    have hk2 : ((⟨l, 0⟩ : R).number 1).1 = 2 := by omega
    rw [pay2 (r := ⟨((((⟨l, 0⟩ : R).number 1).1 : Nat) : Int), (((⟨l, 0⟩ : R).number 1).2.number 8).1, [], []⟩) hk]
    refine Eq.trans ?_ m2.symm
    rw [hk2]
    congr 1
    rw [n1.2, hf2, List.append_nil]
theorem parse_back {l : List UInt8} (h : (parseR l).2.2 = 0) : buildR (parseR l).1 = (l.take (parseR l).2.1, 0) ∧ (parseR l).2.1 ≤ l.length := by
  obtain ⟨L, hL, h8, hmax, hcrc, hok, hp⟩ := parse_ok h
  rw [hp]
  refine ⟨?_, h8⟩
  have hpl : ((l.drop 8).take L).length = L := by rw [List.length_take, List.length_drop]; omega
  show buildR (readR ((l.drop 8).take L)).1 = _
  have e := pay_read hok
  rw [build_ok hok.2 (by rw [e, hpl]; exact hmax), e]
  congr 1
  unfold frameR
  rw [hpl, hcrc]
  have h4 : (l.take 4).length = 4 := by rw [List.length_take]; omega
  have h4' : ((l.drop 4).take 4).length = 4 := by rw [List.length_take, List.length_drop]; omega
  have e1 := num_val (l.take 4)
  rw [h4, ← hL] at e1
  have e2 := num_val ((l.drop 4).take 4)
  rw [h4'] at e2
  rw [e1, e2]
  show l.take 4 ++ (l.drop 4).take 4 ++ (l.drop 8).take L = l.take (8 + L)
  rw [show (8 + L) = 4 + (4 + L) by omega, List.take_add, List.take_add, List.drop_drop, List.append_assoc]
theorem parse_fail {l : List UInt8} (h : (parseR l).2.2 ≠ 0) : (parseR l).1 = zeroRec ∧ (parseR l).2.1 = 0 ∧ (l.length < 8 → (parseR l).2.2 = 91) := by
  unfold parseR at h ⊢
  by_cases h1 : l.length < 8
  · rw [if_pos h1]; exact ⟨rfl, rfl, fun _ => rfl⟩
  rw [if_neg h1] at h ⊢
  by_cases h2 : 1048576 < val (l.take 4)
  · rw [if_pos h2]; exact ⟨rfl, rfl, fun hh => absurd hh h1⟩
  rw [if_neg h2] at h ⊢
  by_cases h3 : l.length - 8 < val (l.take 4)
  · rw [if_pos h3]; exact ⟨rfl, rfl, fun hh => absurd hh h1⟩
  rw [if_neg h3] at h ⊢
  by_cases h4 : crcN ((l.drop 8).take (val (l.take 4))) ≠ val ((l.drop 4).take 4)
  · rw [if_pos h4]; exact ⟨rfl, rfl, fun hh => absurd hh h1⟩
  rw [if_neg h4] at h ⊢
  by_cases h5 : ¬ ReadOk ((l.drop 8).take (val (l.take 4)))
  · rw [if_pos h5]; exact ⟨rfl, rfl, fun hh => absurd hh h1⟩
  rw [if_neg h5] at h; exact absurd rfl h
end Go.Proofs.Ytokfmkfobjkkpaa
