import Derived.Test.YtfcmjomnpahllaaDk9
import Derived.Test.YtfcmjomnpahllaaK8
import Derived.Test.YtfcmjomnpahllaaQ1
namespace Go.Proofs.Ytfcmjomnpahllaa
open Go Hv
set_option linter.unusedVariables false
set_option linter.unusedSimpArgs false
set_option maxRecDepth 10000
set_option maxHeartbeats 1000000
/-! Plain laws of a log: records laid one behind another; a disk all of which is synced. -/
structure Good (r : Rec) : Prop where
  may : May r
  id : r.id < 18446744073709551616
  len : (pay r).length ≤ 1048576
def frG (rs : List Rec) : List UInt8 := rs.flatMap fun r => frameR (pay r)
theorem frG_cons (r : Rec) (rs : List Rec) : frG (r :: rs) = frameR (pay r) ++ frG rs := List.flatMap_cons
theorem frG_append (a b : List Rec) : frG (a ++ b) = frG a ++ frG b := by unfold frG; rw [List.flatMap_append]
theorem frG_one (r : Rec) : frG [r] = frameR (pay r) := by rw [frG_cons]; show _ ++ [] = _; rw [List.append_nil]
theorem frame_pos (p : List UInt8) : 8 ≤ (frameR p).length := by rw [frame_len]; omega
theorem build_good {r : Rec} (h : Good r) : buildR r = (frameR (pay r), 0) := by
  unfold buildR; rw [if_neg (fun hh => hh h.may), if_neg (by have := h.len; omega)]
theorem good_build {r : Rec} (hid : r.id < 18446744073709551616) (h : (buildR r).2 = 0) : Good r := by
  unfold buildR at h
  split at h
  · cases h
  · rename_i hm
    split at h
    · cases h
    · rename_i hl
      exact ⟨Classical.not_not.1 hm, hid, by omega⟩
theorem frG_nil {rs : List Rec} {t : List UInt8} (h : frG rs ++ t = []) : rs = [] ∧ t = [] := by
  cases rs with
  | nil => exact ⟨rfl, h⟩
  | cons r rs =>
    rw [frG_cons] at h
    have := congrArg List.length h
    have h8 := frame_pos (pay r)
    simp only [List.length_append, List.length_nil] at this
    omega
theorem parse_good {r : Rec} (h : Good r) (t : List UInt8) : parseR (frameR (pay r) ++ t) = (r, 8 + (pay r).length, 0) := parse_rec t h.may h.id h.len
theorem parse_empty : (parseR []).2.2 ≠ 0 := by
  have h := parse_cut (p := []) (j := 0) (by decide) (by decide)
  rw [List.take_zero] at h
  rw [h]; decide
theorem parse_torn {r : Rec} (h : Good r) {j : Nat} (hj : j < (frameR (pay r)).length) : (parseR ((frameR (pay r)).take j)).2.2 ≠ 0 := by
  rw [frame_len] at hj
  rw [parse_cut h.len hj]; decide
theorem scan_frames : ∀ (rs : List Rec), (∀ r ∈ rs, Good r) → ∀ t, (parseR t).2.2 ≠ 0 → scanR (frG rs ++ t) = (rs, (frG rs).length)
  | [], _, t, ht => scan_no ht
  | r :: rs, h, t, ht => by
    have hp := parse_good (h r (by simp)) (frG rs ++ t)
    have e : frG (r :: rs) ++ t = frameR (pay r) ++ (frG rs ++ t) := by rw [frG_cons, List.append_assoc]
    rw [e, scan_yes (by rw [hp]), hp]
    dsimp only
    have hd : (frameR (pay r) ++ (frG rs ++ t)).drop (8 + (pay r).length) = frG rs ++ t := by
      rw [← frame_len, List.drop_left]
    rw [hd, scan_frames rs (fun x hx => h x (List.mem_cons_of_mem _ hx)) t ht, frG_cons, List.length_append, frame_len]
/-- What is read of records, and of a beginning of one more. -/
theorem scan_tail {D : List Rec} {r : Rec} (hD : ∀ x ∈ D, Good x) (hr : Good r) (j : Nat) :
    ∃ A, (A = D ∨ A = D ++ [r]) ∧ scanR (frG D ++ (frameR (pay r)).take j) = (A, (frG A).length) ∧ (frG D ++ (frameR (pay r)).take j).take (frG A).length = frG A ∧ (frG A).length ≤ (frG D ++ (frameR (pay r)).take j).length := by
  by_cases hj : j < (frameR (pay r)).length
  · refine ⟨D, .inl rfl, scan_frames D hD _ (parse_torn hr hj), List.take_left, by simp⟩
  · rw [List.take_of_length_le (by omega), ← frG_one r, ← frG_append]
    refine ⟨D ++ [r], .inr rfl, ?_, List.take_length, Nat.le_refl _⟩
    have := scan_frames (D ++ [r]) (fun x hx => by
      rcases List.mem_append.1 hx with h | h
      · exact hD x h
      · rw [List.mem_singleton.1 h]; exact hr) [] parse_empty
    rw [List.append_nil] at this
    exact this
theorem scan_all {D : List Rec} (hD : ∀ x ∈ D, Good x) : scanR (frG D) = (D, (frG D).length) := by
  have := scan_frames D hD [] parse_empty
  rw [List.append_nil] at this; exact this
/-! The disk -/
def Syn (s : St) : Prop := ∀ k x y, s.fs k = some (x, y) → y = x.length
theorem crash1_syn (keep : Int) (x : List UInt8) : crash1 keep (x, x.length) = (x, x.length) := by
  have e : tailOf keep x.length x.length = 0 := by unfold tailOf; omega
  unfold crash1
  dsimp only
  rw [e, Nat.add_zero, List.take_length]
theorem crash_syn {s : St} (h : Syn s) (keep : Int) : (s.crash keep).fs = s.fs ∧ (s.crash keep).cnt = s.cnt ∧ (s.crash keep).d.off = true := by
  unfold St.crash
  split
  · rename_i ho; exact ⟨rfl, rfl, ho⟩
  · refine ⟨?_, rfl, rfl⟩
    funext k
    show (s.fs k).map (crash1 keep) = s.fs k
    cases e : s.fs k with
    | none => rfl
    | some x =>
      obtain ⟨a, b⟩ := x
      have := h k a b e
      subst this
      show some (crash1 keep (a, a.length)) = _
      rw [crash1_syn]
theorem call_syn {s : St} (h : Syn s) : s.call.fs = s.fs ∧ s.call.cnt = s.cnt ∧ (s.d.off = true → s.call.d.off = true) := by
  unfold St.call
  split
  · split
    · obtain ⟨h1, h2, h3⟩ := crash_syn h s.d.keep
      exact ⟨h1, h2, fun _ => h3⟩
    · exact ⟨rfl, rfl, fun h => h⟩
  · exact ⟨rfl, rfl, fun h => h⟩
theorem Syn.same {s s' : St} (h : Syn s) (e : s'.fs = s.fs) : Syn s' := fun k x y hk => h k x y (by rw [← e]; exact hk)
end Go.Proofs.Ytfcmjomnpahllaa
