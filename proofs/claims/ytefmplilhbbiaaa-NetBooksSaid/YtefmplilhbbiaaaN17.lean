import Derived.Test.YtefmplilhbbiaaaN15
namespace Go.Proofs.Ytefmplilhbbiaaa
open Go Hv
set_option linter.unusedVariables false
set_option maxRecDepth 10000
set_option maxHeartbeats 1000000
/-! The book of the numbers: which frames are not gone. -/
def alv : Nat → List Opr → List Bool → List (Nat × Opr)
  | k, b :: bs, g :: gs => if g then alv (k + 1) bs gs else (k, b) :: alv (k + 1) bs gs
  | _, _, _ => []
theorem alv_snoc : ∀ {bs : List Opr} {gs : List Bool} (k : Nat) (b : Opr) (g : Bool), bs.length = gs.length → alv k (bs ++ [b]) (gs ++ [g]) = alv k bs gs ++ (if g then [] else [(k + bs.length, b)])
  | [], [], k, b, g, _ => by cases g <;> simp [alv]
  | x :: bs, y :: gs, k, b, g, h => by
    have ih := alv_snoc (bs := bs) (gs := gs) (k + 1) b g (by simpa using h)
    have e : k + 1 + bs.length = k + (bs.length + 1) := by omega
    rw [e] at ih
    cases y
    · show (k, x) :: alv (k + 1) (bs ++ [b]) (gs ++ [g]) = (k, x) :: alv (k + 1) bs gs ++ _
      rw [ih]; rfl
    · show alv (k + 1) (bs ++ [b]) (gs ++ [g]) = alv (k + 1) bs gs ++ _
      rw [ih]; rfl
theorem alv_kill : ∀ {bs : List Opr} {gs : List Bool} {k p q : Nat} {b : Opr}, (alv k bs gs)[p]? = some (q, b) → ∃ j, q = k + j ∧ bs[j]? = some b ∧ gs[j]? = some false ∧ alv k bs (gs.set j true) = (alv k bs gs).eraseIdx p
  | [], gs, k, p, q, b, h => by simp [alv] at h
  | _ :: _, [], k, p, q, b, h => by simp [alv] at h
  | x :: bs, true :: gs, k, p, q, b, h => by
    have h : (alv (k + 1) bs gs)[p]? = some (q, b) := h
    obtain ⟨j, h1, h2, h3, h4⟩ := alv_kill h
    exact ⟨j + 1, by omega, by simpa using h2, by simpa using h3, h4⟩
  | x :: bs, false :: gs, k, 0, q, b, h => by
    have h : some (k, x) = some (q, b) := h
    cases h
    exact ⟨0, rfl, rfl, rfl, rfl⟩
  | x :: bs, false :: gs, k, p + 1, q, b, h => by
    have h : (alv (k + 1) bs gs)[p]? = some (q, b) := h
    obtain ⟨j, h1, h2, h3, h4⟩ := alv_kill h
    refine ⟨j + 1, by omega, by simpa using h2, by simpa using h3, ?_⟩
    show (k, x) :: alv (k + 1) bs (gs.set j true) = (k, x) :: (alv (k + 1) bs gs).eraseIdx p
    rw [h4]
theorem alv_drop {bs : List Opr} {gs : List Bool} {i : Nat} {b : Opr} {g : Bool} (hb : bs[i]? = some b) (hg : gs[i]? = some g) : alv i (bs.drop i) (gs.drop i) = (if g then [] else [(i, b)]) ++ alv (i + 1) (bs.drop (i + 1)) (gs.drop (i + 1)) := by
  obtain ⟨h1, h2⟩ := List.getElem?_eq_some_iff.1 hb
  obtain ⟨h3, h4⟩ := List.getElem?_eq_some_iff.1 hg
  rw [List.drop_eq_getElem_cons h1, h2, List.drop_eq_getElem_cons h3, h4]
  cases g <;> rfl
theorem alv_end {bs : List Opr} {gs : List Bool} {i k : Nat} (h : bs.length ≤ i) : alv k (bs.drop i) (gs.drop i) = [] := by
  rw [List.drop_eq_nil_of_le h]; rfl
theorem alv_take {bs : List Opr} {gs : List Bool} {i : Nat} {b : Opr} {g : Bool} (hb : bs[i]? = some b) (hg : gs[i]? = some g) : alv 0 (bs.take (i + 1)) (gs.take (i + 1)) = alv 0 (bs.take i) (gs.take i) ++ (if g then [] else [(i, b)]) := by
  have h1 := (List.getElem?_eq_some_iff.1 hb).1
  have h2 := (List.getElem?_eq_some_iff.1 hg).1
  rw [List.take_add_one, List.take_add_one, hb, hg]
  have := alv_snoc (bs := bs.take i) (gs := gs.take i) 0 b g (by rw [List.length_take, List.length_take]; omega)
  rw [List.length_take, Nat.min_eq_left (by omega), Nat.zero_add] at this
  exact this
/-- The number at a place, or -1. -/
def atOf (p : Nat) (l : List (Nat × Opr)) : Int := match l[p]? with | some x => (x.1 : Int) | none => -1
theorem atOf_some {p : Nat} {l : List (Nat × Opr)} {x : Nat × Opr} (h : l[p]? = some x) : atOf p l = (x.1 : Int) := by unfold atOf; rw [h]
theorem atOf_none {p : Nat} {l : List (Nat × Opr)} (h : l.length ≤ p) : atOf p l = -1 := by unfold atOf; rw [List.getElem?_eq_none h]
theorem atOf_snoc {p : Nat} {l : List (Nat × Opr)} {x : Nat × Opr} : atOf p (l ++ [x]) = if l.length = p then (x.1 : Int) else atOf p l := by
  by_cases h : l.length = p
  · rw [if_pos h]; exact atOf_some (by rw [List.getElem?_append_right (by omega), h, Nat.sub_self]; rfl)
  · rw [if_neg h]
    by_cases h2 : p < l.length
    · unfold atOf; rw [List.getElem?_append_left h2]
    · rw [atOf_none (by simp; omega), atOf_none (by omega)]
theorem orow_length : ∀ l : List Opr, (orow l).length = l.length * 5
  | [] => rfl
  | f :: l => by show (ocells f ++ orow l).length = _; rw [List.length_append, orow_length l, List.length_cons]; show 5 + _ = _; omega
theorem orow_append : ∀ a b : List Opr, orow (a ++ b) = orow a ++ orow b
  | [], b => rfl
  | f :: a, b => by show ocells f ++ orow (a ++ b) = _; rw [orow_append a b, ← List.append_assoc]; rfl
theorem plain_ocells (o : Opr) : ∀ v ∈ ocells o, Value.plain v = true := by
  intro v hv
  simp only [ocells, List.mem_cons, List.not_mem_nil, or_false] at hv
  rcases hv with rfl | rfl | rfl | rfl | rfl <;> rfl
theorem and_mask (w : Int) (M : Nat) (hM : M < 9223372036854775808) : ∃ k : Nat, bitsS .and .i64 w (M : Int) = (k : Int) ∧ k ≤ M := by
  rw [bitsS_eq]
  have hm : (BitVec.ofInt 64 (M : Int)).toNat = M := by
    rw [BitVec.ofInt_natCast, BitVec.toNat_ofNat]; exact Nat.mod_eq_of_lt (by omega)
  have h1 : (BitVec.ofInt 64 w &&& BitVec.ofInt 64 (M : Int)).toNat ≤ M := by
    rw [BitVec.toNat_and, hm]; exact Nat.and_le_right
  refine ⟨(BitVec.ofInt 64 w &&& BitVec.ofInt 64 (M : Int)).toNat, ?_, h1⟩
  show IntKind.i64.wrap ((BitVec.ofInt 64 w &&& BitVec.ofInt 64 (M : Int)).toNat : Int) = _
  exact IntWalk.i64_in _ (by omega)
def bools (l : List Bool) : List Value := l.map Value.bool
theorem bools_get {l : List Bool} {i : Nat} {b : Bool} (h : l[i]? = some b) : (bools l)[i]? = some (.bool b) := by simp [bools, h]
def FrBook (f : Fr) (x : Nat × Opr) : Prop := f.num = (x.1 : Int) + 1 ∧ f.frm = x.2.A ∧ f.to = x.2.B
theorem all2_erase {α β : Type} {R : α → β → Prop} {xs : List α} {ys : List β} (h : All2 R xs ys) (i : Nat) : All2 R (xs.eraseIdx i) (ys.eraseIdx i) := by
  induction xs generalizing ys i with
  | nil => cases ys with
    | nil => trivial
    | cons y ys => exact h.elim
  | cons x xs ih => cases ys with
    | nil => exact h.elim
    | cons y ys => cases i with
      | zero => exact h.2
      | succ i => exact ⟨h.1, ih h.2 i⟩
end Go.Proofs.Ytefmplilhbbiaaa
