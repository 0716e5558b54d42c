import Derived.Test.YtocejipjnklieaaE3
namespace Go.Proofs.Ytocejipjnklieaa
open Go Hv
set_option linter.unusedVariables false
set_option linter.unusedSimpArgs false
set_option maxRecDepth 10000
set_option maxHeartbeats 1000000
/-! Plain laws: what a call tells looks at nothing of the arming but the crash ahead of it. -/
/-- How a disk is armed. -/
structure Ar where
  armed : Bool
  calls : Int
  keep : Int
def St.mk' (off : Bool) (p : Ar) (rf : Int) (fs : ByteArray → Option (List UInt8 × Nat)) (cnt : Nat) : St := ⟨⟨off, p.armed, rf, p.calls, p.keep⟩, fs, cnt⟩
/-- The two states agree but for how they are armed. -/
def Rl (p q : Ar) (a b : St) : Prop := ∃ off rf fs cnt, a = St.mk' off p rf fs cnt ∧ b = St.mk' off q rf fs cnt
theorem Rl.off {p q : Ar} {a b : St} (h : Rl p q a b) : a.d.off = b.d.off := by obtain ⟨off, rf, fs, cnt, rfl, rfl⟩ := h; rfl
theorem Rl.fs {p q : Ar} {a b : St} (h : Rl p q a b) : a.fs = b.fs := by obtain ⟨off, rf, fs, cnt, rfl, rfl⟩ := h; rfl
theorem Rl.cnt {p q : Ar} {a b : St} (h : Rl p q a b) : a.cnt = b.cnt := by obtain ⟨off, rf, fs, cnt, rfl, rfl⟩ := h; rfl
theorem Rl.rf {p q : Ar} {a b : St} (h : Rl p q a b) : a.d.refuses = b.d.refuses := by obtain ⟨off, rf, fs, cnt, rfl, rfl⟩ := h; rfl
/-- Results alike: the same answer, states that agree. -/
def Res (p q : Ar) (x y : Int × St) : Prop := x.1 = y.1 ∧ Rl p q x.2 y.2
theorem Rl.put {p q : Ar} {a b : St} (h : Rl p q a b) (n : ByteArray) (x : List UInt8 × Nat) : Rl p q (a.put n x) (b.put n x) := by
  obtain ⟨off, rf, fs, cnt, rfl, rfl⟩ := h
  exact ⟨off, rf, _, _, rfl, rfl⟩
theorem Rl.del {p q : Ar} {a b : St} (h : Rl p q a b) (n : ByteArray) : Rl p q (a.del n) (b.del n) := by
  obtain ⟨off, rf, fs, cnt, rfl, rfl⟩ := h
  exact ⟨off, rf, _, _, rfl, rfl⟩
theorem Rl.crash {p q : Ar} {a b : St} (h : Rl p q a b) (k : Int) : Rl (if a.d.off then p else ⟨false, p.calls, p.keep⟩) (if a.d.off then q else ⟨false, q.calls, q.keep⟩) (a.crash k) (b.crash k) := by
  obtain ⟨off, rf, fs, cnt, rfl, rfl⟩ := h
  cases off
  · exact ⟨true, rf, _, _, rfl, rfl⟩
  · exact ⟨true, rf, _, _, rfl, rfl⟩
section
variable {p q : Ar} {a b : St}
theorem append_res (h : Rl p q a.call b.call) (n : ByteArray) (ys : List UInt8) : Res p q (a.append n ys) (b.append n ys) := by
  unfold St.append
  simp only
  rw [h.off, h.fs, h.cnt, h.rf]
  split
  · exact ⟨rfl, h⟩
  · split
    · exact ⟨rfl, h⟩
    · split
      · exact ⟨rfl, h⟩
      · split
        · refine ⟨rfl, ?_⟩
          obtain ⟨off, rf, fs, cnt, e1, e2⟩ := h
          rw [e1, e2]
          exact ⟨off, rf - 1, fs, cnt, rfl, rfl⟩
        · exact ⟨rfl, h.put _ _⟩
theorem has_res (h : Rl p q a.call b.call) (n : ByteArray) {k : St → List UInt8 → Nat → Int × St} (hk : ∀ x y s t, Rl p q s t → Res p q (k s x y) (k t x y)) : Res p q (a.has n k) (b.has n k) := by
  unfold St.has
  simp only
  rw [h.off, h.fs]
  split
  · exact ⟨rfl, h⟩
  · split
    · exact ⟨rfl, h⟩
    · exact hk _ _ _ _ h
theorem sync_res (h : Rl p q a.call b.call) (n : ByteArray) : Res p q (a.sync n) (b.sync n) := has_res h n fun x y s t h => ⟨rfl, h.put _ _⟩
theorem cut_res (h : Rl p q a.call b.call) (n : ByteArray) (k : Int) : Res p q (a.cut n k) (b.cut n k) := has_res h n fun x y s t h => by
  split
  · exact ⟨rfl, h.put _ _⟩
  · exact ⟨rfl, h⟩
theorem delete_res (h : Rl p q a.call b.call) (n : ByteArray) : Res p q (a.delete n) (b.delete n) := has_res h n fun x y s t h => ⟨rfl, h.del _⟩
theorem rename_res (h : Rl p q a.call b.call) (n m : ByteArray) : Res p q (a.rename n m) (b.rename n m) := by
  unfold St.rename
  simp only
  rw [h.off, h.fs]
  split
  · exact ⟨rfl, h⟩
  · split
    · exact ⟨rfl, h⟩
    · split
      · exact ⟨rfl, h⟩
      · exact ⟨rfl, (h.del _).put _ _⟩
theorem read_res (h : Rl p q a.call b.call) (n : ByteArray) : a.readF n = b.readF n := by
  unfold St.readF
  rw [h.off, h.fs]
/-- A counted call. -/
def Opc.counts (o : Opc) : Prop := 1 ≤ o.kind ∧ o.kind ≤ 8
theorem does_counted {o : Opc} (hc : o.counts) (h : Rl p q a.call b.call) : Res p q (a.does o) (b.does o) := by
  have hk : o.kind = 1 ∨ o.kind = 2 ∨ o.kind = 3 ∨ o.kind = 4 ∨ o.kind = 5 ∨ o.kind = 6 ∨ o.kind = 7 ∨ o.kind = 8 := by
    have := hc.1; have := hc.2; omega
  unfold St.does
  rcases hk with e | e | e | e | e | e | e | e <;> simp only [e, reduceIte, Int.reduceEq]
  · exact append_res h _ _
  · exact sync_res h _
  · exact ⟨by rw [read_res h], h⟩
  · exact ⟨by rw [read_res h], h⟩
  · exact cut_res h _ _
  · exact delete_res h _
  · exact rename_res h _ _
  · exact ⟨by rw [h.off], h⟩
theorem does_other {o : Opc} (hc : ¬ o.counts) (h9 : o.kind ≠ 9) (h10 : o.kind ≠ 10) (h12 : o.kind ≠ 12) (h : Rl p q a b) : Res p q (a.does o) (b.does o) := by
  have hk : o.kind ≠ 1 ∧ o.kind ≠ 2 ∧ o.kind ≠ 3 ∧ o.kind ≠ 4 ∧ o.kind ≠ 5 ∧ o.kind ≠ 6 ∧ o.kind ≠ 7 ∧ o.kind ≠ 8 := by
    unfold Opc.counts at hc
    refine ⟨?_, ?_, ?_, ?_, ?_, ?_, ?_, ?_⟩ <;> (intro e; exact hc ⟨by omega, by omega⟩)
  obtain ⟨k1, k2, k3, k4, k5, k6, k7, k8⟩ := hk
  unfold St.does
  simp only [if_neg k1, if_neg k2, if_neg k3, if_neg k4, if_neg k5, if_neg k6, if_neg k7, if_neg k8, if_neg h9, if_neg h10, if_neg h12]
  obtain ⟨off, rf, fs, cnt, rfl, rfl⟩ := h
  split
  · exact ⟨rfl, off, _, fs, cnt, rfl, rfl⟩
  · exact ⟨rfl, off, rf, fs, cnt, rfl, rfl⟩
end
theorem has_off {s : St} (n : ByteArray) {k : St → List UInt8 → Nat → Int × St} (hk : ∀ x y t, (k t x y).2.d.off = t.d.off) : (s.has n k).2.d.off = s.call.d.off := by
  unfold St.has
  simp only
  split
  · rfl
  · split
    · rfl
    · exact hk _ _ _
theorem off_counted {s : St} {o : Opc} (hc : o.counts) : (s.does o).2.d.off = s.call.d.off := by
  have hk : o.kind = 1 ∨ o.kind = 2 ∨ o.kind = 3 ∨ o.kind = 4 ∨ o.kind = 5 ∨ o.kind = 6 ∨ o.kind = 7 ∨ o.kind = 8 := by
    have := hc.1; have := hc.2; omega
  unfold St.does
  rcases hk with e | e | e | e | e | e | e | e <;> simp only [e, reduceIte, Int.reduceEq]
  · unfold St.append
    simp only
    split
    · rfl
    · split
      · rfl
      · split
        · rfl
        · split <;> rfl
  · exact has_off _ fun x y t => rfl
  · exact has_off _ fun x y t => by split <;> rfl
  · exact has_off _ fun x y t => rfl
  · unfold St.rename
    simp only
    split
    · rfl
    · split
      · rfl
      · split <;> rfl
/-- An armed disk beside one that is not: left calls to go; behind them both are off. -/
def Arms (left : Int) (keep : Int) (a b : St) : Prop :=
  (0 ≤ left ∧ a.d.off = false ∧ ∃ c k, Rl ⟨true, left, keep⟩ ⟨false, c, k⟩ a b) ∨ (left < 0 ∧ ∃ c k c' k', Rl ⟨false, c, k⟩ ⟨false, c', k'⟩ a b)
theorem Arms.off {left keep : Int} {a b : St} (h : Arms left keep a b) : a.d.off = b.d.off := by
  rcases h with ⟨_, _, c, k, h⟩ | ⟨_, c, k, c', k', h⟩ <;> exact h.off
theorem call_on {s : St} {off : Bool} {p : Ar} {rf : Int} {fs : ByteArray → Option (List UInt8 × Nat)} {cnt : Nat} (h : p.armed = true) (h0 : p.calls ≠ 0) : (St.mk' off p rf fs cnt).call = St.mk' off ⟨true, p.calls - 1, p.keep⟩ rf fs cnt := by
  unfold St.call
  rw [if_pos (by exact h), if_neg (by exact h0)]
  unfold St.mk'
  simp only [h]
theorem call_zero {off : Bool} {p : Ar} {rf : Int} {fs : ByteArray → Option (List UInt8 × Nat)} {cnt : Nat} (h : p.armed = true) (h0 : p.calls = 0) : (St.mk' off p rf fs cnt).call = (St.mk' off p rf fs cnt).crash p.keep := by
  unfold St.call
  rw [if_pos (by exact h), if_pos (by exact h0)]
  rfl
theorem call_un {off : Bool} {p : Ar} {rf : Int} {fs : ByteArray → Option (List UInt8 × Nat)} {cnt : Nat} (h : p.armed = false) : (St.mk' off p rf fs cnt).call = St.mk' off p rf fs cnt := St.call_idle h
/-- One counted call: the one that is not armed is crashed by hand ahead of it, where no call is left. -/
theorem Arms.counted {left keep : Int} {a b : St} {o : Opc} (h : Arms left keep a b) (hc : o.counts) :
    (a.does o).1 = ((if left = 0 then b.crash keep else b).does o).1 ∧ Arms (left - 1) keep (a.does o).2 ((if left = 0 then b.crash keep else b).does o).2 := by
  rcases h with ⟨h0, hoff, c, k, off, rf, fs, cnt, rfl, rfl⟩ | ⟨h0, c, k, c', k', off, rf, fs, cnt, rfl, rfl⟩
  · have hoff : off = false := hoff
    subst hoff
    by_cases hz : left = 0
    · subst hz
      rw [if_pos rfl]
      have hr : Rl ⟨false, 0, keep⟩ ⟨false, c, k⟩ (St.mk' false ⟨true, 0, keep⟩ rf fs cnt).call ((St.mk' false ⟨false, c, k⟩ rf fs cnt).crash keep).call := by
        rw [call_zero rfl rfl]
        have e : ((St.mk' false ⟨false, c, k⟩ rf fs cnt).crash keep).call = (St.mk' false ⟨false, c, k⟩ rf fs cnt).crash keep := St.call_idle rfl
        rw [e]
        exact ⟨true, rf, _, _, rfl, rfl⟩
      obtain ⟨h1, h2⟩ := does_counted hc hr
      exact ⟨h1, .inr ⟨by omega, _, _, _, _, h2⟩⟩
    · rw [if_neg hz]
      have hr : Rl ⟨true, left - 1, keep⟩ ⟨false, c, k⟩ (St.mk' false ⟨true, left, keep⟩ rf fs cnt).call (St.mk' false ⟨false, c, k⟩ rf fs cnt).call := by
        rw [call_on (s := St0) rfl hz, call_un rfl]
        exact ⟨false, rf, fs, cnt, rfl, rfl⟩
      obtain ⟨h1, h2⟩ := does_counted hc hr
      refine ⟨h1, .inl ⟨by omega, ?_, c, k, h2⟩⟩
      rw [off_counted hc, call_on (s := St0) rfl hz]
      rfl
  · rw [if_neg (by omega)]
    have hr : Rl ⟨false, c, k⟩ ⟨false, c', k'⟩ (St.mk' off ⟨false, c, k⟩ rf fs cnt).call (St.mk' off ⟨false, c', k'⟩ rf fs cnt).call := by
      rw [call_un rfl, call_un rfl]
      exact ⟨off, rf, fs, cnt, rfl, rfl⟩
    obtain ⟨h1, h2⟩ := does_counted hc hr
    exact ⟨h1, .inr ⟨by omega, _, _, _, _, h2⟩⟩
theorem Arms.other {left keep : Int} {a b : St} {o : Opc} (h : Arms left keep a b) (hc : ¬ o.counts) (h9 : o.kind ≠ 9) (h10 : o.kind ≠ 10) (h12 : o.kind ≠ 12) :
    (a.does o).1 = (b.does o).1 ∧ Arms left keep (a.does o).2 (b.does o).2 := by
  rcases h with ⟨h0, hoff, c, k, hr⟩ | ⟨h0, c, k, c', k', hr⟩
  · obtain ⟨h1, h2⟩ := does_other hc h9 h10 h12 hr
    refine ⟨h1, .inl ⟨h0, ?_, c, k, h2⟩⟩
    have hk : o.kind ≠ 1 ∧ o.kind ≠ 2 ∧ o.kind ≠ 3 ∧ o.kind ≠ 4 ∧ o.kind ≠ 5 ∧ o.kind ≠ 6 ∧ o.kind ≠ 7 ∧ o.kind ≠ 8 := by
      unfold Opc.counts at hc
      refine ⟨?_, ?_, ?_, ?_, ?_, ?_, ?_, ?_⟩ <;> (intro e; exact hc ⟨by omega, by omega⟩)
    obtain ⟨k1, k2, k3, k4, k5, k6, k7, k8⟩ := hk
    unfold St.does
    simp only [if_neg k1, if_neg k2, if_neg k3, if_neg k4, if_neg k5, if_neg k6, if_neg k7, if_neg k8, if_neg h9, if_neg h10, if_neg h12]
    split <;> exact hoff
  · obtain ⟨h1, h2⟩ := does_other hc h9 h10 h12 hr
    exact ⟨h1, .inr ⟨h0, c, k, c', k', h2⟩⟩
theorem Arms.start {s : St} {n keep : Int} (h0 : 0 ≤ n) : Arms n keep (s.upp.arms n keep) s.upp :=
  .inl ⟨h0, rfl, s.d.calls, s.d.keep, false, s.d.refuses, s.fs, s.cnt, by unfold St.arms St.upp St.mk'; simp only [h0, decide_true], rfl⟩
theorem Arms.fs {left keep : Int} {a b : St} (h : Arms left keep a b) : a.fs = b.fs := by
  rcases h with ⟨_, _, c, k, h⟩ | ⟨_, c, k, c', k', h⟩ <;> exact h.fs
end Go.Proofs.Ytocejipjnklieaa
