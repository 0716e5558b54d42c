import Derived.Test.YtocejipjnklieaaP4
namespace Go.Proofs.Ytocejipjnklieaa
open Go Hv
set_option linter.unusedVariables false
set_option linter.unusedSimpArgs false
set_option maxRecDepth 10000
set_option maxHeartbeats 1000000
/-! Plain law of DiskMemory: two files. -/
def nmB : ByteArray := ⟨#[98]⟩
theorem neAB : (nmA = nmB) = False := by decide
theorem neBA : (nmB = nmA) = False := by decide
def m2 (x y : List UInt8) : St := ⟨⟨false, false, 0, 0, 0⟩, fun k => if k = nmB then some (y, 0) else if k = nmA then some (x, 0) else none, 2⟩
def m1 (x : List UInt8) : St := ⟨⟨false, false, 0, 0, 0⟩, fun k => if k = nmA then some (x, 0) else none, 1⟩
theorem m1_eq (x : List UInt8) : St0.append nmA x = (0, m1 x) := by
  have e : St0.call = St0 := rfl
  have hs : (1 ≤ nmA.size ∧ nmA.size ≤ 32) := by decide
  unfold St.append
  rw [e]
  simp [St0, St.put, m1, hs]
theorem m2_eq (x y : List UInt8) : (m1 x).append nmB y = (0, m2 x y) := by
  have e : (m1 x).call = m1 x := rfl
  have hs : (1 ≤ nmB.size ∧ nmB.size ≤ 32) := by decide
  unfold St.append
  rw [e]
  simp [m1, St.put, m2, hs, neBA]
theorem m3_eq (x y ys : List UInt8) : (m2 x y).append nmA ys = (0, m2 (x ++ ys) y) := by
  have e : (m2 x y).call = m2 x y := rfl
  have hs : (1 ≤ nmA.size ∧ nmA.size ≤ 32) := by decide
  unfold St.append
  rw [e]
  simp only [m2, St.put, hs, neAB, and_self, not_true_eq_false, if_false, if_true, Bool.false_eq_true, reduceCtorEq, false_and, Int.lt_irrefl, and_false, Option.getD_some, Option.isSome_some]
  congr 2
  funext k
  by_cases h1 : k = nmA
  · subst h1
    simp [neAB]
  · simp [h1]
theorem m2_call (x y : List UInt8) : (m2 x y).call = m2 x y := rfl
theorem m2_readA (x y : List UInt8) : (m2 x y).readF nmA = (0, x) := by
  unfold St.readF
  rw [m2_call]
  simp [m2, neAB]
theorem m2_readB (x y : List UInt8) : (m2 x y).readF nmB = (0, y) := by
  unfold St.readF
  rw [m2_call]
  simp [m2]
theorem m2_ok {x y : List UInt8} {N : Nat} (hx : x.length ≤ N) (hy : y.length ≤ N) : (m2 x y).Ok N := by
  have key : ∀ k z, (m2 x y).fs k = some z → (k = nmB ∧ z = (y, 0)) ∨ (k = nmA ∧ z = (x, 0)) := by
    intro k z h
    have h : (if k = nmB then some (y, 0) else if k = nmA then some (x, 0) else none) = some z := h
    split at h
    · cases h; exact .inl ⟨by assumption, rfl⟩
    · split at h
      · cases h; exact .inr ⟨by assumption, rfl⟩
      · cases h
  refine ⟨fun k z h => ?_, (show 2 ≤ 16 by decide), fun k z h => ?_⟩
  · rcases key k z h with ⟨rfl, _⟩ | ⟨rfl, _⟩ <;> decide
  · rcases key k z h with ⟨_, rfl⟩ | ⟨_, rfl⟩
    · exact ⟨hy, Nat.zero_le _⟩
    · exact ⟨hx, Nat.zero_le _⟩
theorem m2_names {x y : List UInt8} {ns : List Txt} (h : Nms (m2 x y) ns) : ns = [[97], [98]] := by
  have h2 : Nms (m2 x y) [[97], [98]] := by
    refine ⟨by decide, fun t => ?_⟩
    have e : (m2 x y).fs (bs t) = if bs t = nmB then some (y, 0) else if bs t = nmA then some (x, 0) else none := rfl
    rw [e]
    have eB : bs t = nmB ↔ t = [98] := ⟨fun h => by have := congrArg (fun z : ByteArray => z.data.toList) h; exact this, fun h => by rw [h]; rfl⟩
    have eA : bs t = nmA ↔ t = [97] := ⟨fun h => by have := congrArg (fun z : ByteArray => z.data.toList) h; exact this, fun h => by rw [h]; rfl⟩
    by_cases h1 : t = [98]
    · subst h1; simp [nmB, bs]
    · by_cases h3 : t = [97]
      · subst h3
        rw [if_neg (fun h => h1 (eB.1 h)), if_pos (eA.2 rfl)]; simp
      · rw [if_neg (fun h => h1 (eB.1 h)), if_neg (fun h => h3 (eA.1 h))]
        simp [h1, h3]
  exact h.uniq h2 fun k => Iff.rfl
end Go.Proofs.Ytocejipjnklieaa
