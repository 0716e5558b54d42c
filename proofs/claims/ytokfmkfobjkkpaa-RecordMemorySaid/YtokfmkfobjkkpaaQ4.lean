import Derived.Test.YtokfmkfobjkkpaaQ2
namespace Go.Proofs.Ytokfmkfobjkkpaa
open Go Hv
set_option linter.unusedVariables false
set_option linter.unusedSimpArgs false
set_option maxRecDepth 10000
set_option maxHeartbeats 1000000
/-! A row of records, cut off anywhere -/
def fr (rs : List Rec) : List UInt8 := rs.flatMap fun r => frameR (pay r)
theorem fr_cons (r : Rec) (rs : List Rec) : fr (r :: rs) = frameR (pay r) ++ fr rs := List.flatMap_cons
theorem fr_snoc (rs : List Rec) (r : Rec) : fr (rs ++ [r]) = fr rs ++ frameR (pay r) := by
  unfold fr; rw [List.flatMap_append]; simp
theorem fr_append (a b : List Rec) : fr (a ++ b) = fr a ++ fr b := by
  unfold fr; rw [List.flatMap_append]
theorem fr_mono (rs : List Rec) {i j : Nat} (h : i ≤ j) : (fr (rs.take i)).length ≤ (fr (rs.take j)).length := by
  have e : rs.take j = rs.take i ++ (rs.take j).drop i := by
    have := (List.take_append_drop i (rs.take j)).symm
    rw [List.take_take, Nat.min_eq_left h] at this
    exact this
  rw [e, fr_append, List.length_append]; omega
theorem parse_nil : parseR [] = (zeroRec, 0, 91) := by
  unfold parseR; rw [if_pos (by simp)]
theorem scan_row : ∀ (rs : List Rec), (∀ r ∈ rs, Mr r) → ∀ n, n ≤ (fr rs).length → ∃ w, w ≤ rs.length ∧ scanR ((fr rs).take n) = (rs.take w, (fr (rs.take w)).length) ∧ (fr (rs.take w)).length ≤ n ∧ (w < rs.length → n < (fr (rs.take (w + 1))).length) ∧ (parseR (((fr rs).take n).drop (fr (rs.take w)).length)).2.2 = 91
  | [], _, n, hn => by
    have e : (fr []).take n = [] := by simp [fr]
    refine ⟨0, Nat.le_refl _, ?_, Nat.zero_le _, fun h => absurd h (Nat.lt_irrefl _), ?_⟩
    · rw [e, scan_no (by rw [parse_nil]; decide)]; rfl
    · rw [e]; simp [parse_nil]
  | r :: rs, hm, n, hn => by
    have mr := hm r List.mem_cons_self
    have hp := mr.pay_le
    have hl : (fr (r :: rs)).length = 8 + (pay r).length + (fr rs).length := by rw [fr_cons, List.length_append, frame_len]
    by_cases h : n < 8 + (pay r).length
    · have e : (fr (r :: rs)).take n = (frameR (pay r)).take n := by
        rw [fr_cons, List.take_append_of_le_length (by rw [frame_len]; omega)]
      have hc := parse_cut (p := pay r) (j := n) (by omega) h
      refine ⟨0, Nat.zero_le _, ?_, Nat.zero_le _, fun _ => ?_, ?_⟩
      · rw [e, scan_no (by rw [hc]; decide)]; rfl
      · show n < (fr [r]).length
        rw [fr_cons, List.length_append, frame_len]; omega
      · rw [e]
        show (parseR (((frameR (pay r)).take n).drop 0)).2.2 = 91
        rw [List.drop_zero, hc]
    · have e : (fr (r :: rs)).take n = frameR (pay r) ++ (fr rs).take (n - (8 + (pay r).length)) := by
        rw [fr_cons, List.take_append, frame_len, List.take_of_length_le (by rw [frame_len]; omega)]
      obtain ⟨w, hw, hs, hle, hlt, hpar⟩ := scan_row rs (fun q hq => hm q (List.mem_cons_of_mem _ hq)) (n - (8 + (pay r).length)) (by omega)
      have hpr := mr.parsed ((fr rs).take (n - (8 + (pay r).length)))
      have hd : ∀ k, (frameR (pay r) ++ (fr rs).take (n - (8 + (pay r).length))).drop (8 + (pay r).length + k) = ((fr rs).take (n - (8 + (pay r).length))).drop k := fun k => by
        rw [← List.drop_drop, List.drop_left' (frame_len _)]
      have hfl : ∀ k, (fr ((r :: rs).take (k + 1))).length = 8 + (pay r).length + (fr (rs.take k)).length := fun k => by
        rw [List.take_succ_cons, fr_cons, List.length_append, frame_len]
      refine ⟨w + 1, by rw [List.length_cons]; omega, ?_, by rw [hfl]; omega, fun h2 => ?_, ?_⟩
      · rw [e, scan_yes (by rw [hpr]), hpr]
        have hd0 := hd 0
        rw [Nat.add_zero, List.drop_zero] at hd0
        show (r :: (scanR (List.drop (8 + (pay r).length) _)).1, 8 + (pay r).length + (scanR (List.drop (8 + (pay r).length) _)).2) = _
        rw [hd0, hs, hfl, List.take_succ_cons]
      · have := hlt (by rw [List.length_cons] at h2; omega)
        rw [hfl]; omega
      · rw [e, hfl, hd]
        exact hpar
end Go.Proofs.Ytokfmkfobjkkpaa
