import Derived.Test.YtfcmjomnpahllaaHvA
namespace Go.Proofs.Ytfcmjomnpahllaa
open Go Hv
set_option linter.unusedVariables false
set_option linter.unusedSimpArgs false
/-! Packing, plainly. -/
def num (v : Nat) : Nat → List UInt8
  | 0 => []
  | n + 1 => UInt8.ofNat (v / 256 ^ n) :: num v n
theorem num_length (v : Nat) : ∀ n, (num v n).length = n
  | 0 => rfl
  | n + 1 => by simp [num, num_length v n]
def val (l : List UInt8) : Nat := l.foldl (fun v c => v * 256 + c.toNat) 0
theorem val_foldl : ∀ (l : List UInt8) (v : Nat), l.foldl (fun v c => v * 256 + c.toNat) v = v * 256 ^ l.length + val l
  | [], v => by simp [val]
  | c :: l, v => by
    have h1 := val_foldl l (v * 256 + c.toNat)
    have h2 := val_foldl l (0 * 256 + c.toNat)
    simp only [List.foldl_cons, val] at *
    rw [h1, h2, List.length_cons, Nat.pow_succ]
    simp only [Nat.zero_mul, Nat.zero_add, Nat.add_mul]
    rw [Nat.mul_assoc, Nat.mul_comm 256, Nat.add_assoc]
theorem val_cons (c : UInt8) (l : List UInt8) : val (c :: l) = c.toNat * 256 ^ l.length + val l := by
  have := val_foldl l c.toNat
  show (c :: l).foldl _ 0 = _
  rw [List.foldl_cons, Nat.zero_mul, Nat.zero_add, this]
theorem val_snoc (l : List UInt8) (c : UInt8) : val (l ++ [c]) = val l * 256 + c.toNat := by unfold val; rw [List.foldl_append]; rfl
theorem val_lt : ∀ l : List UInt8, val l < 256 ^ l.length
  | [] => by simp [val]
  | c :: l => by
    rw [val_cons, List.length_cons, Nat.pow_succ]
    have h1 := val_lt l
    have h2 := c.toNat_lt
    have : c.toNat * 256 ^ l.length ≤ 255 * 256 ^ l.length := Nat.mul_le_mul_right _ (by omega)
    omega
theorem val_num (v : Nat) : ∀ n, val (num v n) = v % 256 ^ n
  | 0 => by simp [num, val, Nat.mod_one]
  | n + 1 => by
    unfold num
    rw [val_cons, val_num v n, num_length, UInt8.toNat_ofNat']
    have h1 : v % (256 ^ n * 256) = v % 256 ^ n + 256 ^ n * (v / 256 ^ n % 256) := Nat.mod_mul
    have e : 256 ^ (n + 1) = 256 ^ n * 256 := Nat.pow_succ ..
    rw [e, h1, Nat.mul_comm (256 ^ n), Nat.add_comm]
/-- A writer. -/
structure W where
  lim : Nat
  out : List UInt8
  err : Int
def W.lay (w : W) (b : List UInt8) : W := if w.err ≠ 0 then w else if b.length > w.lim - w.out.length then { w with err := 3 } else { w with out := w.out ++ b }
def textB (s : List UInt8) : List UInt8 := num s.length 4 ++ s
def textsB (l : List (List UInt8)) : List UInt8 := num l.length 4 ++ l.flatMap textB
structure WOk (w : W) : Prop where
  le : w.out.length ≤ w.lim
  hi : w.lim ≤ 9223372036854775807
  er : w.err = 0 ∨ w.err = 3
theorem W.lay_ok {w : W} {b : List UInt8} (h : WOk w) : WOk (w.lay b) := by
  unfold W.lay
  split
  · exact h
  · split
    · exact ⟨h.le, h.hi, .inr rfl⟩
    · have := h.le
      exact ⟨by show (w.out ++ b).length ≤ w.lim; rw [List.length_append]; omega, h.hi, h.er⟩
theorem W.lay_len {w : W} {b : List UInt8} : (w.lay b).out.length ≤ w.out.length + b.length ∧ (w.lay b).lim = w.lim := by
  unfold W.lay
  split
  · exact ⟨Nat.le_add_right _ _, rfl⟩
  · split
    · exact ⟨Nat.le_add_right _ _, rfl⟩
    · exact ⟨by rw [List.length_append]; exact Nat.le_refl _, rfl⟩
/-- A reader. -/
structure R where
  rest : List UInt8
  err : Int
def R.number (r : R) (n : Nat) : Nat × R := if r.err ≠ 0 then (0, r) else if r.rest.length < n then (0, { r with err := 4 }) else (val (r.rest.take n), { r with rest := r.rest.drop n })
def R.count (r : R) (most : Int) : Nat × R :=
  if r.err ≠ 0 then (0, r) else if r.rest.length < 4 then (0, { r with err := 4 }) else if (val (r.rest.take 4) : Int) > max most 0 then (0, { r with err := 3 }) else (val (r.rest.take 4), { r with rest := r.rest.drop 4 })
def R.text (r : R) (most : Int) : List UInt8 × R :=
  if r.err ≠ 0 then ([], r) else if r.rest.length < 4 then ([], { r with err := 4 }) else if (val (r.rest.take 4) : Int) > max most 0 then ([], { r with err := 3 })
  else if r.rest.length - 4 < val (r.rest.take 4) then ([], { r with err := 4 }) else ((r.rest.drop 4).take (val (r.rest.take 4)), { r with rest := r.rest.drop (4 + val (r.rest.take 4)) })
/-- n texts, one behind the other, till one fails. -/
def R.many (each : Int) : Nat → R → List (List UInt8) × R
  | 0, r => ([], r)
  | n + 1, r => if (r.text each).2.err ≠ 0 then ([(r.text each).1], (r.text each).2) else ((r.text each).1 :: (R.many each n (r.text each).2).1, (R.many each n (r.text each).2).2)
def R.texts (r : R) (most each : Int) : List (List UInt8) × R :=
  if (R.many each (r.count most).1 (r.count most).2).2.err ≠ 0 then ([], ⟨r.rest, (R.many each (r.count most).1 (r.count most).2).2.err⟩) else R.many each (r.count most).1 (r.count most).2
def R.fin (r : R) : Int := if r.err = 0 ∧ 0 < r.rest.length then 5 else r.err
end Go.Proofs.Ytfcmjomnpahllaa
