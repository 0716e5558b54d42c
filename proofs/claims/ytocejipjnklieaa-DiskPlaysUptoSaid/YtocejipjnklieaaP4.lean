import Derived.Test.YtocejipjnklieaaP3
namespace Go.Proofs.Ytocejipjnklieaa
open Go Hv
set_option linter.unusedVariables false
set_option linter.unusedSimpArgs false
set_option maxRecDepth 10000
set_option maxHeartbeats 1000000
/-! Plain laws: what a crash leaves. -/
structure Live (s : St) : Prop where
  un : s.d.armed = false
  on : s.d.off = false
theorem Live.call {s : St} (h : Live s) : s.call = s := St.call_idle h.un
theorem Live.upp {s : St} (h : Live s) : s.upp = s := by
  obtain ⟨⟨off, armed, rf, calls, keep⟩, fs, cnt⟩ := s
  have h1 : armed = false := h.un
  have h2 : off = false := h.on
  subst h1 h2
  rfl
theorem upp_live (s : St) : Live s.upp := ⟨rfl, rfl⟩
theorem Live.put {s : St} (h : Live s) (n : ByteArray) (x : List UInt8 × Nat) : Live (s.put n x) := ⟨h.un, h.on⟩
theorem Live.does {s : St} {o : Opc} (h : Live s) (hk : o.kind < 9) : Live (s.does o).2 := by
  by_cases hc : o.counts
  · have hr : Rl ⟨s.d.armed, s.d.calls, s.d.keep⟩ ⟨s.d.armed, s.d.calls, s.d.keep⟩ s.call s.call := by
      rw [h.call]
      exact ⟨s.d.off, s.d.refuses, s.fs, s.cnt, rfl, rfl⟩
    obtain ⟨_, off, rf, fs, cnt, e, _⟩ := does_counted hc hr
    refine ⟨by rw [e]; exact h.un, ?_⟩
    rw [off_counted hc, h.call]; exact h.on
  · have h0 : o.kind < 1 := by unfold Opc.counts at hc; omega
    have e : (s.does o).2 = s := by
      unfold St.does
      rw [if_neg (by omega), if_neg (by omega), if_neg (by omega), if_neg (by omega), if_neg (by omega), if_neg (by omega), if_neg (by omega), if_neg (by omega), if_neg (by omega), if_neg (by omega), if_neg (by omega), if_neg (by omega)]
    rw [e]; exact h
def runOne (s : St) (o : Opc) : St := if o.kind < 9 then (s.does o).2 else s
def St.run (s : St) (ops : List Opc) : St := ops.foldl runOne s
theorem run_snoc (s : St) (ops : List Opc) (o : Opc) : s.run (ops ++ [o]) = runOne (s.run ops) o := by unfold St.run; rw [List.foldl_append]; rfl
theorem Live.one {s : St} (h : Live s) (o : Opc) : Live (runOne s o) := by
  unfold runOne
  split
  · exact h.does (by assumption)
  · exact h
theorem Live.run {s : St} (h : Live s) : ∀ ops, Live (s.run ops) := by
  intro ops
  induction ops generalizing s with
  | nil => exact h
  | cons o ops ih => exact ih (h.one o)
theorem live0 : Live St0 := ⟨rfl, rfl⟩
theorem crash_fs {s : St} (h : s.d.off = false) (k : Int) (n : ByteArray) : (s.crash k).fs n = (s.fs n).map (crash1 k) := by
  unfold St.crash
  rw [if_neg (by rw [h]; decide)]
theorem crash_off {s : St} (k : Int) : (s.crash k).d.off = true := by
  unfold St.crash
  split
  · assumption
  · rfl
theorem map_none_iff {f : List UInt8 × Nat → List UInt8 × Nat} {x : Option (List UInt8 × Nat)} : x.map f = none ↔ x = none := by cases x <;> simp
theorem bytesAtP_map {s : St} {t : Txt} {x : Option (List UInt8 × Nat)} {f : List UInt8 × Nat → List UInt8 × Nat} {y : List UInt8 × Nat} (h : s.fs (bs t) = x.map f) (hx : x = some y) : ((s.fs (bs t)).getD ([], 0)).1 = (f y).1 := by
  rw [h, hx]; rfl
/-- The files that are named so far are synced. -/
structure Syd (R s : St) (done : List Txt) : Prop where
  live : Live s
  fs : ∀ k : ByteArray, s.fs k = if k.data.toList ∈ done then (R.fs k).map (fun x => (x.1, x.1.length)) else R.fs k
theorem Syd.start {R : St} (h : Live R) : Syd R R [] := ⟨h, fun k => by simp⟩
theorem Syd.step {R s : St} {done : List Txt} {t : Txt} (h : Syd R s done) (ht : R.fs (bs t) ≠ none) : (s.sync (bs t)).1 = 0 ∧ Syd R (s.sync (bs t)).2 (done ++ [t]) := by
  obtain ⟨⟨x, y⟩, hx⟩ : ∃ x, R.fs (bs t) = some x := Option.ne_none_iff_exists'.1 ht
  have hs : ∃ y', s.fs (bs t) = some (x, y') := by
    rw [h.fs, hx]
    split
    · exact ⟨x.length, rfl⟩
    · exact ⟨y, rfl⟩
  obtain ⟨y', hs⟩ := hs
  have e : s.sync (bs t) = (0, s.put (bs t) (x, x.length)) := by
    unfold St.sync
    rw [St.has_yes (x := x) (y := y') (by rw [h.live.call]; exact h.live.on) (by rw [h.live.call]; exact hs), h.live.call]
  rw [e]
  refine ⟨rfl, h.live.put _ _, fun k => ?_⟩
  show (if k = bs t then some (x, x.length) else s.fs k) = _
  by_cases hk : k = bs t
  · subst hk
    rw [if_pos rfl, if_pos (by rw [bs_list]; simp), hx]; rfl
  · rw [if_neg hk, h.fs]
    have : k.data.toList ≠ t := fun e => hk (by rw [← e]; rfl)
    simp [this]
theorem crash_len {K : Nat} {x : List UInt8} {y : Nat} (hy : y ≤ x.length) : (crash1 (K : Int) (x, y)) = (x.take (y + min K (x.length - y)), y + min K (x.length - y)) := by
  have e : tailOf (K : Int) x.length y = min K (x.length - y) := by
    unfold tailOf
    omega
  unfold crash1
  rw [e]
theorem crash_again {K : Nat} {x : List UInt8} {y : Nat} (hy : y ≤ x.length) (k : Int) : crash1 k (crash1 (K : Int) (x, y)) = crash1 (K : Int) (x, y) := by
  rw [crash_len hy]
  have h : (x.take (y + min K (x.length - y))).length = y + min K (x.length - y) := by rw [List.length_take]; omega
  generalize hz : x.take (y + min K (x.length - y)) = z at h
  rw [← h]
  exact crash_synced k z
structure CutLaw (X a b : List UInt8) (L M : Nat) : Prop where
  ab : a <+: b
  bX : b <+: X
  le : a.length ≤ b.length
  lw : b.length ≤ X.length
  d1 : b.length - a.length ≤ M - L
  d2 : b.length < X.length → b.length - a.length = M - L
theorem cut_law {X : List UInt8} {y L M : Nat} (hy : y ≤ X.length) (h : L ≤ M) : CutLaw X (crash1 (L : Int) (X, y)).1 (crash1 (M : Int) (X, y)).1 L M := by
  rw [crash_len hy, crash_len hy]
  show CutLaw X (X.take (y + min L (X.length - y))) (X.take (y + min M (X.length - y))) L M
  have e : X.take (y + min L (X.length - y)) = (X.take (y + min M (X.length - y))).take (y + min L (X.length - y)) := by
    rw [List.take_take]; congr 1; omega
  refine ⟨by rw [e]; exact List.take_prefix _ _, List.take_prefix _ _, ?_, ?_, ?_, ?_⟩ <;> simp only [List.length_take] <;> omega
end Go.Proofs.Ytocejipjnklieaa
