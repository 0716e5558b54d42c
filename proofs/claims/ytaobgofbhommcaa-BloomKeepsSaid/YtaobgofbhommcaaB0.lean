import Derived.Test.YtaobgofbhommcaaHv14
namespace Go.Proofs.Ytaobgofbhommcaa
open Go Hv
set_option linter.unusedVariables false
set_option linter.unusedSimpArgs false
/-! Filters, plainly: bits in bytes. -/
def bitAt (S : List UInt8) (i : Nat) : Bool := (S.getD (i / 8) 0).toNat.testBit (i % 8)
theorem byte_ext {a b : UInt8} (h : ∀ j, j < 8 → a.toNat.testBit j = b.toNat.testBit j) : a = b := by
  apply UInt8.toNat_inj.1
  apply Nat.eq_of_testBit_eq
  intro j
  by_cases hj : j < 8
  · exact h j hj
  · have ha := a.toNat_lt
    have hb := b.toNat_lt
    have hp : 2 ^ 8 ≤ 2 ^ j := Nat.pow_le_pow_right (by decide) (by omega)
    rw [Nat.testBit_lt_two_pow (by omega), Nat.testBit_lt_two_pow (by omega)]
theorem bits_ext {S T : List UInt8} (hl : S.length = T.length) (h : ∀ i, i < 8 * S.length → bitAt S i = bitAt T i) : S = T := by
  apply List.ext_getElem hl
  intro k h1 h2
  apply byte_ext
  intro j hj
  have := h (8 * k + j) (by omega)
  unfold bitAt at this
  have e1 : (8 * k + j) / 8 = k := by omega
  have e2 : (8 * k + j) % 8 = j := by omega
  rw [e1, e2] at this
  simpa [List.getD, h1, h2] using this
theorem bitAt_out {S : List UInt8} {i : Nat} (h : 8 * S.length ≤ i) : bitAt S i = false := by
  unfold bitAt
  have : S.length ≤ i / 8 := by omega
  simp [List.getD, List.getElem?_eq_none this]
def maskOf (p : Nat) : UInt8 := UInt8.ofNat (2 ^ (p % 8))
theorem mask_bit (p j : Nat) (hj : j < 8) : (maskOf p).toNat.testBit j = decide (j = p % 8) := by
  unfold maskOf
  have hp : p % 8 < 8 := Nat.mod_lt _ (by decide)
  have : 2 ^ (p % 8) < 256 := by
    have : 2 ^ (p % 8) ≤ 2 ^ 7 := Nat.pow_le_pow_right (by decide) (by omega)
    omega
  rw [UInt8.toNat_ofNat', Nat.mod_eq_of_lt (by simpa using this), Nat.testBit_two_pow]
  rw [decide_eq_decide]; omega
def orBit (S : List UInt8) (p : Nat) : List UInt8 := S.set (p / 8) (S.getD (p / 8) 0 ||| maskOf p)
theorem orBit_length (S : List UInt8) (p : Nat) : (orBit S p).length = S.length := by simp [orBit]
theorem orBit_bit {S : List UInt8} {p i : Nat} (hp : p < 8 * S.length) : bitAt (orBit S p) i = (bitAt S i || decide (i = p)) := by
  unfold bitAt orBit
  by_cases h : i / 8 = p / 8
  · have hl : p / 8 < S.length := by omega
    rw [h]
    simp only [List.getD, List.getElem?_set_self hl, Option.getD_some, UInt8.toNat_or, Nat.testBit_or]
    rw [mask_bit _ _ (by omega)]
    congr 1
    rw [decide_eq_decide]; omega
  · simp only [List.getD, List.getElem?_set_ne (Ne.symm h)]
    have : ¬ i = p := fun e => h (by rw [e])
    simp [this]
def addAll (S : List UInt8) (ps : List Nat) : List UInt8 := ps.foldl orBit S
theorem addAll_length (S : List UInt8) (ps : List Nat) : (addAll S ps).length = S.length := by
  induction ps generalizing S with
  | nil => rfl
  | cons p ps ih => exact (ih _).trans (orBit_length S p)
theorem addAll_bit {S : List UInt8} {ps : List Nat} {i : Nat} (hp : ∀ p ∈ ps, p < 8 * S.length) : bitAt (addAll S ps) i = (bitAt S i || decide (i ∈ ps)) := by
  induction ps generalizing S with
  | nil => simp [addAll]
  | cons p ps ih =>
    have := ih (S := orBit S p) (fun q hq => by rw [orBit_length]; exact hp q (List.mem_cons_of_mem _ hq))
    show bitAt (addAll (orBit S p) ps) i = _
    rw [this, orBit_bit (hp p List.mem_cons_self), Bool.or_assoc]
    congr 1
    simp [Bool.decide_or]
def hasAll (S : List UInt8) (ps : List Nat) : Bool := ps.all fun p => bitAt S p
def orSets (S T : List UInt8) : List UInt8 := List.zipWith (· ||| ·) S T
theorem orSets_length {S T : List UInt8} (h : S.length = T.length) : (orSets S T).length = S.length := by simp [orSets, h]
theorem orSets_bit {S T : List UInt8} (h : S.length = T.length) (i : Nat) : bitAt (orSets S T) i = (bitAt S i || bitAt T i) := by
  by_cases hi : i / 8 < S.length
  · have hi2 : i / 8 < T.length := by omega
    unfold bitAt orSets
    simp [List.getD, List.getElem?_zipWith, hi, hi2, UInt8.toNat_or, Nat.testBit_or]
  · rw [bitAt_out (by rw [orSets_length h]; omega), bitAt_out (S := S) (by omega), bitAt_out (S := T) (by omega)]; rfl
/-- How many bits are set. -/
def ones8 (b : UInt8) : Nat := ((List.range 8).filter fun j => b.toNat.testBit j).length
def onesL (S : List UInt8) : Nat := (S.map ones8).sum
def countB (f : Nat → Bool) : Nat → Nat
  | 0 => 0
  | n + 1 => countB f n + (if f n then 1 else 0)
theorem countB_congr {f g : Nat → Bool} : ∀ n, (∀ i, i < n → f i = g i) → countB f n = countB g n
  | 0, _ => rfl
  | n + 1, h => by rw [countB, countB, countB_congr n (fun i hi => h i (by omega)), h n (by omega)]
theorem countB_add (f : Nat → Bool) (m : Nat) : ∀ n, countB f (m + n) = countB f m + countB (fun i => f (m + i)) n
  | 0 => rfl
  | n + 1 => by rw [← Nat.add_assoc, countB, countB, countB_add f m n, Nat.add_assoc]
theorem countB_zero {f : Nat → Bool} (n : Nat) : ∀ m, (∀ i, n ≤ i → f i = false) → n ≤ m → countB f m = countB f n
  | 0, _, h => by rw [Nat.le_zero.1 h]
  | m + 1, hf, h => by
    by_cases e : n = m + 1
    · rw [e]
    · rw [countB, countB_zero n m hf (by omega), hf m (by omega)]; rfl
theorem filter_count (f : Nat → Bool) : ∀ n, ((List.range n).filter f).length = countB f n
  | 0 => rfl
  | n + 1 => by
    rw [List.range_succ, List.filter_append, List.length_append, filter_count f n, countB]
    congr 1
    rw [List.filter_cons]
    split <;> rfl
theorem ones8_count (b : UInt8) : ones8 b = countB (fun j => b.toNat.testBit j) 8 := filter_count _ 8
theorem onesL_count (S : List UInt8) : onesL S = countB (bitAt S) (8 * S.length) := by
  induction S with
  | nil => rfl
  | cons b S ih =>
    have e : 8 * (b :: S).length = 8 + 8 * S.length := by simp; omega
    rw [e, countB_add]
    show ones8 b + onesL S = _
    have a : countB (fun j => b.toNat.testBit j) 8 = countB (bitAt (b :: S)) 8 := countB_congr 8 fun j hj => by
      unfold bitAt
      rw [Nat.div_eq_of_lt hj, Nat.mod_eq_of_lt hj]; rfl
    have c : countB (bitAt S) (8 * S.length) = countB (fun i => bitAt (b :: S) (8 + i)) (8 * S.length) := countB_congr _ fun j _ => by
      unfold bitAt
      have e1 : (8 + j) / 8 = j / 8 + 1 := by omega
      have e2 : (8 + j) % 8 = j % 8 := by omega
      rw [e1, e2]; rfl
    rw [ih, ones8_count, a, c]
/-- A filter's shape and bytes. -/
structure FOk (n h : Nat) (S : List UInt8) : Prop where
  n1 : 1 ≤ n
  n2 : n ≤ 65536
  h1 : 1 ≤ h
  h2 : h ≤ 16
  len : S.length = (n + 7) / 8
  spare : ∀ i, n ≤ i → bitAt S i = false
theorem FOk.ext {n h : Nat} {S T : List UInt8} (a : FOk n h S) (b : FOk n h T) (he : ∀ i, i < n → bitAt S i = bitAt T i) : S = T :=
  bits_ext (by rw [a.len, b.len]) fun i _ => by
    by_cases hi : i < n
    · exact he i hi
    · rw [a.spare i (by omega), b.spare i (by omega)]
def headOf (n h : Nat) : List UInt8 := [UInt8.ofNat (n / 16777216), UInt8.ofNat (n / 65536), UInt8.ofNat (n / 256), UInt8.ofNat n, UInt8.ofNat h]
def bytesOf (n h : Nat) (S : List UInt8) : List UInt8 := headOf n h ++ S
def shapeN (b : List UInt8) : Nat := (b.getD 0 0).toNat * 16777216 + (b.getD 1 0).toNat * 65536 + (b.getD 2 0).toNat * 256 + (b.getD 3 0).toNat
def shapeH (b : List UInt8) : Nat := (b.getD 4 0).toNat
/-- Which bytes are a filter's. -/
def readOk (b : List UInt8) : Prop := 5 ≤ b.length ∧ (1 ≤ shapeN b ∧ shapeN b ≤ 65536 ∧ 1 ≤ shapeH b ∧ shapeH b ≤ 16) ∧ b.length = 5 + (shapeN b + 7) / 8 ∧ ∀ i, shapeN b ≤ i → bitAt (b.drop 5) i = false
theorem readOk.fok {b : List UInt8} (h : readOk b) : FOk (shapeN b) (shapeH b) (b.drop 5) := ⟨h.2.1.1, h.2.1.2.1, h.2.1.2.2.1, h.2.1.2.2.2, by rw [List.length_drop]; have := h.2.2.1; omega, h.2.2.2⟩
theorem shape_head {n h : Nat} (S : List UInt8) (hn : n ≤ 65536) (hh : h ≤ 16) : shapeN (bytesOf n h S) = n ∧ shapeH (bytesOf n h S) = h := by
  unfold shapeN shapeH bytesOf headOf
  simp only [List.cons_append, List.nil_append, List.getD_cons_zero, List.getD_cons_succ, UInt8.toNat_ofNat']
  constructor <;> omega
theorem head_shape {b : List UInt8} (h5 : 5 ≤ b.length) : bytesOf (shapeN b) (shapeH b) (b.drop 5) = b := by
  match b, h5 with
  | b0 :: b1 :: b2 :: b3 :: b4 :: r, _ =>
    unfold bytesOf headOf shapeN shapeH
    simp only [List.getD_cons_zero, List.getD_cons_succ, List.drop_succ_cons, List.drop_zero, List.cons_append, List.nil_append]
    have l0 := b0.toNat_lt
    have l1 := b1.toNat_lt
    have l2 := b2.toNat_lt
    have l3 := b3.toNat_lt
    have l4 := b4.toNat_lt
    have key : ∀ (x : UInt8) (m : Nat), m % 256 = x.toNat → UInt8.ofNat m = x := fun x m h => UInt8.toNat_inj.1 (by rw [UInt8.toNat_ofNat']; exact h)
    rw [key b0 _ (by omega), key b1 _ (by omega), key b2 _ (by omega), key b3 _ (by omega), key b4 _ (by omega)]
theorem bytes_ok {n h : Nat} {S : List UInt8} (f : FOk n h S) : readOk (bytesOf n h S) := by
  obtain ⟨e1, e2⟩ := shape_head S f.n2 f.h2
  unfold readOk
  rw [e1, e2]
  refine ⟨by simp [bytesOf, headOf], ⟨f.n1, f.n2, f.h1, f.h2⟩, ?_, ?_⟩
  · simp only [bytesOf, headOf, List.length_append, List.length_cons, List.length_nil]; rw [f.len]
  · exact f.spare
end Go.Proofs.Ytaobgofbhommcaa
