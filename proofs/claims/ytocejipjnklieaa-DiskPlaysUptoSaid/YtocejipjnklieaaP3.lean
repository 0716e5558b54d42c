import Derived.Test.YtocejipjnklieaaP2
namespace Go.Proofs.Ytocejipjnklieaa
open Go Hv
set_option linter.unusedVariables false
set_option linter.unusedSimpArgs false
set_option maxRecDepth 10000
set_option maxHeartbeats 1000000
/-! Plain laws: refused calls change nothing. -/
def keptN : ByteArray := ⟨#[107, 101, 112, 116]⟩
structure Quiet (s : St) : Prop where
  un : s.d.armed = false
  no : s.d.refuses = 0
theorem Quiet.call {s : St} (h : Quiet s) : s.call = s := St.call_idle h.un
theorem Quiet.put {s : St} (h : Quiet s) (n : ByteArray) (x : List UInt8 × Nat) : Quiet (s.put n x) := ⟨h.un, h.no⟩
theorem Quiet.del {s : St} (h : Quiet s) (n : ByteArray) : Quiet (s.del n) := ⟨h.un, h.no⟩
theorem Quiet.crash {s : St} (h : Quiet s) (k : Int) : Quiet (s.crash k) := by
  unfold St.crash
  split
  · exact h
  · exact ⟨rfl, h.no⟩
theorem Quiet.upp {s : St} (h : Quiet s) : Quiet s.upp := ⟨rfl, h.no⟩
theorem Quiet.append {s : St} (h : Quiet s) (n : ByteArray) (b : List UInt8) : Quiet (s.append n b).2 := by
  unfold St.append
  rw [h.call]
  simp only
  split
  · exact h
  · split
    · exact h
    · split
      · exact h
      · split
        · rename_i h1
          have := h.no
          omega
        · exact h.put _ _
theorem Quiet.has {s : St} (h : Quiet s) (n : ByteArray) {k : St → List UInt8 → Nat → Int × St} (hk : ∀ x y, Quiet (k s x y).2) : Quiet (s.has n k).2 := by
  unfold St.has
  rw [h.call]
  simp only
  split
  · exact h
  · split
    · exact h
    · exact hk _ _
theorem Quiet.rename {s : St} (h : Quiet s) (a b : ByteArray) : Quiet (s.rename a b).2 := by
  unfold St.rename
  rw [h.call]
  simp only
  split
  · exact h
  · split
    · exact h
    · split
      · exact h
      · exact (h.del _).put _ _
theorem Quiet.does {s : St} {o : Opc} (h : Quiet s) (k11 : o.kind ≠ 11) (k12 : o.kind ≠ 12) : Quiet (s.does o).2 := by
  unfold St.does
  simp only [if_neg k11, if_neg k12]
  split
  · exact h.append _ _
  split
  · exact h.has _ fun x y => h.put _ _
  split
  · rw [h.call]; exact h
  split
  · rw [h.call]; exact h
  split
  · exact h.has _ fun x y => by split <;> first | exact h.put _ _ | exact h
  split
  · exact h.has _ fun x y => h.del _
  split
  · exact h.rename _ _
  split
  · rw [h.call]; exact h
  split
  · exact h.crash _
  split
  · exact h.upp
  · exact h
theorem full_call {s : St} {N : Nat} (h : Quiet s) (ho : s.d.off = false) (ok : s.Ok N) (r : Int) : (s.full r).call = s.full r := St.call_idle h.un
theorem no_long {s : St} {N : Nat} (h : Quiet s) (ho : s.d.off = false) (ok : s.Ok N) {n : ByteArray} (hn : ¬ (1 ≤ n.size ∧ n.size ≤ 32)) : s.fs n = none := by
  cases e : s.fs n with
  | none => rfl
  | some x => exact absurd (ok.nm n x e) hn
theorem full_zero {s : St} (h : Quiet s) : s.full 0 = s := by
  unfold St.full
  obtain ⟨⟨off, armed, rf, calls, keep⟩, fs, cnt⟩ := s
  have : rf = 0 := h.no
  subst this
  rfl
section
variable {s : St} {N : Nat} (h : Quiet s) (ho : s.d.off = false) (ok : s.Ok N)
include h ho ok
theorem wrong_append {ys : List UInt8} (hy : ys ≠ []) : ∃ r : Int, (r = 0 ∨ r = 1) ∧ ((s.full 1).append keptN ys).2 = s.full r ∧ ((s.full 1).append keptN ys).1 = (if s.fs keptN = none ∧ 16 ≤ s.cnt then 3 else 60) := by
  have e : (s.full 1).call = s.full 1 := full_call h ho ok 1
  unfold St.append
  rw [e]
  have h1 : (s.full 1).d.off = false := ho
  have h2 : (1 ≤ keptN.size ∧ keptN.size ≤ 32) := by decide
  have h3 : (s.full 1).d.refuses = 1 := rfl
  have h4 : 0 < ys.length := List.length_pos_iff.2 hy
  simp only [h1, Bool.false_eq_true, if_false, h2, and_self, not_true_eq_false]
  show ∃ r : Int, _
  by_cases h5 : s.fs keptN = none ∧ 16 ≤ s.cnt
  · have h6 : (s.full 1).fs keptN = none ∧ 16 ≤ (s.full 1).cnt := h5
    rw [if_pos h6, if_pos h5]
    exact ⟨1, .inr rfl, rfl, rfl⟩
  · have h6 : ¬ ((s.full 1).fs keptN = none ∧ 16 ≤ (s.full 1).cnt) := h5
    rw [if_neg h6, if_neg h5, if_pos ⟨h4, by rw [h3]; decide⟩]
    refine ⟨0, .inl rfl, ?_, rfl⟩
    show St.mk ⟨false, s.d.armed, max 1 0 - 1, s.d.calls, s.d.keep⟩ s.fs s.cnt = St.mk ⟨s.d.off, s.d.armed, max 0 0, s.d.calls, s.d.keep⟩ s.fs s.cnt
    rw [ho]; rfl
theorem wrong_empty (r : Int) (ys : List UInt8) : (s.full r).append (bs []) ys = (1, s.full r) := by
  unfold St.append
  rw [full_call h ho ok r]
  have h1 : (s.full r).d.off = false := ho
  have h2 : ¬ (1 ≤ (bs []).size ∧ (bs []).size ≤ 32) := by decide
  simp only [h1, Bool.false_eq_true, if_false, h2, not_false_eq_true, if_true]
theorem wrong_sync (r : Int) {n : ByteArray} (hn : ¬ (1 ≤ n.size ∧ n.size ≤ 32)) : (s.full r).sync n = (61, s.full r) := by
  have h2 : (s.full r).call.fs n = none := by rw [full_call h ho ok r]; exact no_long h ho ok hn
  have h1 : (s.full r).call.d.off = false := by rw [full_call h ho ok r]; exact ho
  unfold St.sync
  rw [St.has_no h1 h2, full_call h ho ok r]
theorem wrong_read (r : Int) {n : ByteArray} (hn : ¬ (1 ≤ n.size ∧ n.size ≤ 32)) : (s.full r).readF n = (61, []) := by
  have h2 : (s.full r).call.fs n = none := by rw [full_call h ho ok r]; exact no_long h ho ok hn
  have h1 : (s.full r).call.d.off = false := by rw [full_call h ho ok r]; exact ho
  unfold St.readF
  rw [if_neg (by rw [h1]; decide), h2]
theorem wrong_rename (r : Int) (a : ByteArray) {n : ByteArray} (hn : ¬ (1 ≤ n.size ∧ n.size ≤ 32)) : (s.full r).rename a n = (1, s.full r) := by
  unfold St.rename
  rw [full_call h ho ok r]
  have h1 : (s.full r).d.off = false := ho
  simp only [h1, Bool.false_eq_true, if_false, hn, not_false_eq_true, if_true]
theorem size_no (r : Int) (hn : s.fs keptN = none) : (s.full r).readF keptN = (61, []) := by
  have h2 : (s.full r).call.fs keptN = none := by rw [full_call h ho ok r]; exact hn
  have h1 : (s.full r).call.d.off = false := by rw [full_call h ho ok r]; exact ho
  unfold St.readF
  rw [if_neg (by rw [h1]; decide), h2]
theorem size_yes (r : Int) {x : List UInt8} {y : Nat} (hn : s.fs keptN = some (x, y)) : (s.full r).readF keptN = (0, x) := by
  have h2 : (s.full r).call.fs keptN = some (x, y) := by rw [full_call h ho ok r]; exact hn
  have h1 : (s.full r).call.d.off = false := by rw [full_call h ho ok r]; exact ho
  unfold St.readF
  rw [if_neg (by rw [h1]; decide), h2]
theorem wrong_cut (r : Int) {x : List UInt8} {y : Nat} (hn : s.fs keptN = some (x, y)) {k : Int} (hk : k < 0 ∨ (x.length : Int) < k) : (s.full r).cut keptN k = (1, s.full r) := by
  have h2 : (s.full r).call.fs keptN = some (x, y) := by rw [full_call h ho ok r]; exact hn
  have h1 : (s.full r).call.d.off = false := by rw [full_call h ho ok r]; exact ho
  unfold St.cut
  rw [St.has_yes h1 h2, full_call h ho ok r, if_neg (by omega)]
end
end Go.Proofs.Ytocejipjnklieaa
