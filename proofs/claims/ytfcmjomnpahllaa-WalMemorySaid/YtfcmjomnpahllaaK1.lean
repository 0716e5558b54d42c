import Derived.Test.YtfcmjomnpahllaaV2
namespace Go.Proofs.Ytfcmjomnpahllaa
open Go Hv
set_option linter.unusedVariables false
set_option linter.unusedSimpArgs false
set_option maxRecDepth 10000
/-! Texts in order, plainly. -/
theorem bytesLess_lt : ∀ (x y : List UInt8), Op.bytesLess x y = decide (x < y)
  | x, [] => by
    have h : ¬ x < [] := List.not_lt_nil x
    rw [decide_eq_false h]; cases x <;> rfl
  | [], b :: y => by
    have h : ([] : List UInt8) < b :: y := List.nil_lt_cons b y
    rw [decide_eq_true h]; rfl
  | a :: x, b :: y => by
    have ih := bytesLess_lt x y
    show (decide (a < b) || (a == b && Op.bytesLess x y)) = _
    rw [ih]
    by_cases h1 : a < b
    · have h : a :: x < b :: y := List.cons_lt_cons_iff.2 (.inl h1)
      rw [decide_eq_true h1, decide_eq_true h]; rfl
    · by_cases h2 : a = b
      · subst h2
        by_cases h3 : x < y
        · have h : a :: x < a :: y := List.cons_lt_cons_iff.2 (.inr ⟨rfl, h3⟩)
          rw [decide_eq_true h3, decide_eq_true h]; simp
        · have h : ¬ a :: x < a :: y := fun h => by
            rcases List.cons_lt_cons_iff.1 h with h | h
            · exact h1 h
            · exact h3 h.2
          rw [decide_eq_false h3, decide_eq_false h]; simp [h1]
      · have h : ¬ a :: x < b :: y := fun h => by
          rcases List.cons_lt_cons_iff.1 h with h | h
          · exact h1 h
          · exact h2 h.1
        rw [decide_eq_false h1, decide_eq_false h]; simp [h2]
theorem sltB_bs (a b : List UInt8) : sltB (bs a) (bs b) = decide (a < b) := by
  rw [sltB_eq, ByteArray.toList_eq, ByteArray.toList_eq]
  exact bytesLess_lt a b
abbrev Txt := List UInt8
theorem lt_irr (a : Txt) : ¬ a < a := List.lt_irrefl a
theorem lt_tr {a b c : Txt} (h : a < b) (k : b < c) : a < c := List.lt_trans h k
theorem lt_or (a b : Txt) : a < b ∨ a = b ∨ b < a := by
  by_cases h : a < b
  · exact .inl h
  · by_cases k : b < a
    · exact .inr (.inr k)
    · exact .inr (.inl (List.le_antisymm (List.not_lt.1 k) (List.not_lt.1 h)))
/-- In order, none twice. -/
def Rising (l : List Txt) : Prop := ∀ (i : Nat) a b, l[i]? = some a → l[i + 1]? = some b → a < b
theorem Rising.lt {l : List Txt} (h : Rising l) : ∀ {i j : Nat} {a b : Txt}, i < j → l[i]? = some a → l[j]? = some b → a < b := by
  intro i j
  induction j with
  | zero => intro a b hij; omega
  | succ j ih =>
    intro a b hij ha hb
    obtain ⟨c, hc⟩ : ∃ c, l[j]? = some c := ⟨l[j]'(by have := (List.getElem?_eq_some_iff.1 hb).1; omega), by simp⟩
    have h1 := h j c b hc hb
    by_cases e : i = j
    · subst e; rw [ha] at hc; cases hc; exact h1
    · exact lt_tr (ih (by omega) ha hc) h1
theorem Rising.pairwise {l : List Txt} (h : Rising l) : l.Pairwise (· < ·) := by
  rw [List.pairwise_iff_getElem]
  intro i j hi hj hij
  exact h.lt hij (by simp [hi]) (by simp [hj])
theorem Rising.of_pairwise {l : List Txt} (h : l.Pairwise (· < ·)) : Rising l := fun i a b ha hb => by
  rw [List.pairwise_iff_getElem] at h
  obtain ⟨h1, rfl⟩ := List.getElem?_eq_some_iff.1 ha
  obtain ⟨h2, rfl⟩ := List.getElem?_eq_some_iff.1 hb
  exact h i (i + 1) h1 h2 (by omega)
theorem Rising.nodup {l : List Txt} (h : Rising l) : l.Nodup := by
  refine h.pairwise.imp ?_
  intro a b hab e
  subst e; exact lt_irr _ hab
theorem Rising.sorted {l : List Txt} (h : Rising l) : sortT l = l := by
  unfold sortT
  apply List.mergeSort_of_pairwise
  refine h.pairwise.imp ?_
  intro a b hab
  exact decide_eq_true (List.le_of_lt hab)
theorem Rising.mem_iff {l : List Txt} (h : Rising l) {k : Txt} {i : Nat} (h1 : ∀ j a, j < i → l[j]? = some a → a < k) (h2 : ∀ j a, i ≤ j → l[j]? = some a → ¬ a < k) : k ∈ l ↔ l[i]? = some k := by
  refine ⟨fun hm => ?_, fun hi => List.mem_of_getElem? hi⟩
  obtain ⟨j, hj⟩ := List.getElem?_of_mem hm
  by_cases e : j < i
  · exact absurd (h1 j k e hj) (lt_irr k)
  · by_cases e2 : j = i
    · rw [← e2]; exact hj
    · obtain ⟨a, ha⟩ : ∃ a, l[i]? = some a := ⟨l[i]'(by have := (List.getElem?_eq_some_iff.1 hj).1; omega), by simp⟩
      exact absurd (h.lt (by omega) ha hj) (h2 i a (Nat.le_refl _) ha)
/-- 1 to 1024 keys, none too long. -/
def Lens (l : List Txt) : Prop := 1 ≤ l.length ∧ l.length ≤ 1024 ∧ ∀ s ∈ l, s.length ≤ 65535
def Whole (l : List Txt) : Prop := Lens l ∧ Rising l
end Go.Proofs.Ytfcmjomnpahllaa
