import Derived.Test.YtfcmjomnpahllaaW4
namespace Go.Proofs.Ytfcmjomnpahllaa
open Go Hv
set_option linter.unusedVariables false
set_option linter.unusedSimpArgs false
set_option maxRecDepth 10000
set_option maxHeartbeats 1000000
/-! A disk of one file, plainly. -/
def one (d : Fd) (n : ByteArray) (v : Option (List UInt8 × Nat)) : St := ⟨d, fun k => if k = n then v else none, if v.isSome then 1 else 0⟩
section
variable {d : Fd} {n : ByteArray} {v : Option (List UInt8 × Nat)}
theorem one_fs : (one d n v).fs n = v := if_pos rfl
theorem one_zero (n : ByteArray) : St0 = one ⟨false, false, 0, 0, 0⟩ n none := by
  unfold St0 one
  congr 1
  funext k
  split <;> rfl
theorem one_put (x : List UInt8 × Nat) : (one d n v).put n x = one d n (some x) := by
  unfold one St.put
  dsimp only
  congr 1
  · funext k
    by_cases h : k = n
    · rw [if_pos h, if_pos h]
    · rw [if_neg h, if_neg h, if_neg h]
  · cases v <;> simp
theorem one_crash (h : d.off = false) (keep : Int) : (one d n v).crash keep = one ⟨true, false, d.refuses, d.calls, d.keep⟩ n (v.map (crash1 keep)) := by
  unfold St.crash one
  dsimp only
  rw [if_neg (by rw [h]; simp)]
  congr 1
  · funext k
    by_cases hk : k = n
    · rw [if_pos hk, if_pos hk]
    · rw [if_neg hk, if_neg hk]; rfl
  · cases v <;> rfl
theorem one_crash_off (h : d.off = true) (keep : Int) : (one d n v).crash keep = one d n v := by unfold St.crash; rw [if_pos (show (one d n v).d.off = true from h)]
theorem one_call (h : d.armed = false) : (one d n v).call = one d n v := by unfold St.call; rw [if_neg (by show ¬ d.armed = true; rw [h]; simp)]
theorem one_call_n (h : d.armed = true) (hc : d.calls ≠ 0) : (one d n v).call = one { d with calls := d.calls - 1 } n v := by
  unfold St.call; rw [if_pos (show (one d n v).d.armed = true from h), if_neg (show ¬ (one d n v).d.calls = 0 from hc)]; rfl
theorem one_call_0 (h : d.armed = true) (hc : d.calls = 0) : (one d n v).call = (one d n v).crash d.keep := by
  unfold St.call; rw [if_pos (show (one d n v).d.armed = true from h), if_pos (show (one d n v).d.calls = 0 from hc)]; rfl
theorem one_readF (ha : d.armed = false) (ho : d.off = false) : (one d n v).readF n = match v with | none => (61, []) | some (x, _) => (0, x) := by
  unfold St.readF
  rw [one_call ha, if_neg (by show ¬ d.off = true; rw [ho]; simp), one_fs]
  cases v <;> rfl
theorem one_append {d' : Fd} {b : List UInt8} (ha : (one d n v).call = one d' n v) (ho : d'.off = false) (h1 : 1 ≤ n.size ∧ n.size ≤ 32) (hr : ¬ (0 < b.length ∧ 0 < d'.refuses)) :
    (one d n v).append n b = (0, one d' n (some ((v.getD ([], 0)).1 ++ b, (v.getD ([], 0)).2))) := by
  unfold St.append
  rw [ha]
  dsimp only
  rw [if_neg (by show ¬ d'.off = true; rw [ho]; simp), if_neg (fun h => h h1), if_neg (fun h => by
    have h2 : 16 ≤ (one d' n v).cnt := h.2
    unfold one at h2
    dsimp only at h2
    split at h2 <;> omega), if_neg (show ¬ (0 < b.length ∧ 0 < (one d' n v).d.refuses) from hr), one_put, one_fs]
theorem one_refused {d' : Fd} {b : List UInt8} (ha : (one d n v).call = one d' n v) (ho : d'.off = false) (h1 : 1 ≤ n.size ∧ n.size ≤ 32) (hb : 0 < b.length) (hr : 0 < d'.refuses) :
    (one d n v).append n b = (60, one { d' with refuses := d'.refuses - 1 } n v) := by
  unfold St.append
  rw [ha]
  dsimp only
  rw [if_neg (by show ¬ d'.off = true; rw [ho]; simp), if_neg (fun h => h h1), if_neg (fun h => by
    have h2 : 16 ≤ (one d' n v).cnt := h.2
    unfold one at h2
    dsimp only at h2
    split at h2 <;> omega), if_pos (show 0 < b.length ∧ 0 < (one d' n v).d.refuses from ⟨hb, hr⟩)]
  rfl
theorem one_sync {d' : Fd} {x : List UInt8} {y : Nat} (ha : (one d n (some (x, y))).call = one d' n (some (x, y))) (ho : d'.off = false) : (one d n (some (x, y))).sync n = (0, one d' n (some (x, x.length))) := by
  unfold St.sync
  rw [St.has_yes (x := x) (y := y) (by rw [ha]; exact ho) (by rw [ha]; exact one_fs), ha, one_put]
theorem one_cut {x : List UInt8} {y k : Nat} (ha : (one d n (some (x, y))).call = one d n (some (x, y))) (ho : d.off = false) (hk : k ≤ x.length) : (one d n (some (x, y))).call.cut n (k : Int) = (0, one d n (some (x.take k, min y k))) := by
  unfold St.cut
  rw [ha, St.has_yes (x := x) (y := y) (by rw [ha]; exact ho) (by rw [ha]; exact one_fs), ha, if_pos (by omega), one_put]
  rfl
theorem one_open_none (ha : d.armed = false) (ho : d.off = false) : openW (one d n none) n = (0, ([], 0), one d n none) := by
  unfold openW
  rw [one_readF ha ho]
  dsimp only
  rw [if_neg (by decide), if_pos rfl, one_call ha]
theorem one_open {x : List UInt8} {y k : Nat} {A : List Rec} (ha : d.armed = false) (ho : d.off = false) (hs : scanR x = (A, k)) (hk : k ≤ x.length) (hy : y ≤ x.length) :
    openW (one d n (some (x, y))) n = (0, (A, k), one d n (some (x.take k, min y k))) := by
  unfold openW
  rw [one_readF ha ho]
  dsimp only
  rw [if_pos rfl, hs]
  dsimp only
  by_cases h : k < x.length
  · rw [if_pos h, one_cut (one_call ha) ho hk]
    dsimp only
    rw [if_pos rfl]
  · have e : k = x.length := by omega
    subst e
    rw [if_neg h, one_call ha, List.take_length, Nat.min_eq_left hy]
/-- A record is appended to a file that is synced. -/
theorem one_appendW {x : Rec} {c : List UInt8} {k : Nat} (ha : d.armed = false) (ho : d.off = false) (hr : d.refuses ≤ 0) (h1 : 1 ≤ n.size ∧ n.size ≤ 32) (hx : Good x) (hv : (v.getD ([], 0)).1 = c) :
    appendW (one d n v) n k x = (0, k + (frameR (pay x)).length, one d n (some (c ++ frameR (pay x), (c ++ frameR (pay x)).length))) := by
  unfold appendW
  rw [build_good hx]
  dsimp only
  rw [if_neg (fun h => h rfl), one_append (one_call ha) ho h1 (fun h => by omega)]
  dsimp only
  rw [if_neg (fun h => h rfl), one_sync (one_call ha) ho, hv]
  dsimp only
  rw [if_neg (fun h => h rfl)]
theorem one_appendW_ref {d' : Fd} {x : Rec} {k : Nat} (ha : (one d n v).call = one d' n v) (ho : d'.off = false) (hr : 0 < d'.refuses) (h1 : 1 ≤ n.size ∧ n.size ≤ 32) (hx : Good x) :
    appendW (one d n v) n k x = (60, k, one { d' with refuses := d'.refuses - 1 } n v) := by
  unfold appendW
  rw [build_good hx]
  dsimp only
  rw [if_neg (fun h => h rfl), one_refused ha ho h1 (by have := frame_pos (pay x); omega) hr]
  dsimp only
  rw [if_pos (by decide)]
/-- The power goes off in the Sync. -/
theorem one_appendW_cut {d' : Fd} {x : Rec} {c : List UInt8} {k y : Nat} {w : List UInt8 × Nat} (ha : (one d n v).call = one d' n v) (ho : d'.off = false) (hr : d'.refuses ≤ 0) (h1 : 1 ≤ n.size ∧ n.size ≤ 32) (hx : Good x) (hv : v.getD ([], 0) = (c, y)) (hca : d'.armed = true) (hc0 : d'.calls = 0) (hw : crash1 d'.keep (c ++ frameR (pay x), y) = w) :
    appendW (one d n v) n k x = (62, k, one ⟨true, false, d'.refuses, d'.calls, d'.keep⟩ n (some w)) := by
  unfold appendW
  rw [build_good hx]
  dsimp only
  rw [if_neg (fun h => h rfl), one_append ha ho h1 (fun h => by omega), hv]
  dsimp only
  rw [if_neg (fun h => h rfl)]
  have e : (one d' n (some (c ++ frameR (pay x), y))).call = one ⟨true, false, d'.refuses, d'.calls, d'.keep⟩ n (some w) := by
    rw [one_call_0 hca hc0, one_crash ho, Option.map_some, hw]
  have e2 : (one d' n (some (c ++ frameR (pay x), y))).sync n = (62, one ⟨true, false, d'.refuses, d'.calls, d'.keep⟩ n (some w)) := by
    unfold St.sync
    rw [St.has_off (by rw [e]; rfl), e]
  rw [e2]
  dsimp only
  rw [if_pos (by decide)]
end
end Go.Proofs.Ytfcmjomnpahllaa
