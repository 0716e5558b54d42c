import Derived.Test.YtokfmkfobjkkpaaM1
namespace Go.Proofs.Ytokfmkfobjkkpaa.Crc
theorem crc_xor3 (b c d : List UInt8) (h1 : c.length = b.length) (h2 : d.length = b.length) : crc 0#32 (List.zipWith (· ^^^ ·) (List.zipWith (· ^^^ ·) b c) d) = crc 0#32 b ^^^ crc 0#32 c ^^^ crc 0#32 d := by
  unfold crc
  have e : (~~~ 0#32 : W) = ((~~~ 0#32) ^^^ (~~~ 0#32)) ^^^ (~~~ 0#32) := by decide
  have x1 := upd_xor b c (~~~ 0#32) (~~~ 0#32) h1.symm
  have x2 := upd_xor (List.zipWith (· ^^^ ·) b c) d ((~~~ 0#32) ^^^ (~~~ 0#32)) (~~~ 0#32) (by simp [h1, h2])
  rw [← e, x1] at x2
  rw [x2]
  generalize upd (~~~ 0#32) b = x
  generalize upd (~~~ 0#32) c = y
  generalize upd (~~~ 0#32) d = z
  rw [not_eq (x ^^^ y ^^^ z), not_eq x, not_eq y, not_eq z]
  generalize (~~~ 0#32 : W) = o
  apply BitVec.eq_of_getLsbD_eq
  intro i hi
  simp only [BitVec.getLsbD_xor]
  cases x.getLsbD i <;> cases y.getLsbD i <;> cases z.getLsbD i <;> cases o.getLsbD i <;> rfl
/-- What a burst up to the bit i does. -/
theorem burst_step {b C : List UInt8} {n p i : Nat} {M : W} {x : UInt8} (hC : C.length = n) (hi : i < 32) (hp : p + i < 8 * n) (hx : C[(p + i) / 8]? = some x)
    (h : upd (~~~ 0#32) C = upd (~~~ 0#32) b ^^^ shn (8 * n - p) M) : upd (~~~ 0#32) (C.set ((p + i) / 8) (x ^^^ UInt8.ofNat (2 ^ ((p + i) % 8)))) = upd (~~~ 0#32) b ^^^ shn (8 * n - p) (M ^^^ 1#32 <<< i) := by
  rw [upd_set _ _ _ _ _ hx, h, BitVec.xor_assoc, ← shn_xor_bit hC hi hp, ← shn_xor]
where
  shn_xor_bit {C : List UInt8} {n p i : Nat} (hC : C.length = n) (hi : i < 32) (hp : p + i < 8 * n) : shn (8 * n - p) (1#32 <<< i) = shn (8 * (C.length - (p + i) / 8)) (byteW (UInt8.ofNat (2 ^ ((p + i) % 8)))) := by
    have hj : (p + i) % 8 < 8 := Nat.mod_lt _ (by decide)
    have hb : ∀ j : Fin 8, byteW (UInt8.ofNat (2 ^ j.val)) = 1#32 <<< j.val := by decide
    have hb' := hb ⟨(p + i) % 8, hj⟩
    simp only at hb'
    rw [hb', shn_bit' hi (by omega), shn_bit' (by omega) (by rw [hC]; omega), hC]
    congr 1; omega
theorem bit_lt {M : W} {i : Nat} (hi : i < 32) (h : M.toNat < 2 ^ i) : (M ^^^ 1#32 <<< i).toNat < 2 ^ (i + 1) ∧ M ^^^ 1#32 <<< i ≠ 0#32 := by
  have e : ∀ i : Fin 32, (1#32 <<< i.val).toNat = 2 ^ i.val := by decide +kernel
  have e' := e ⟨i, hi⟩
  simp only at e'
  constructor
  · rw [BitVec.toNat_xor, e']
    exact Nat.xor_lt_two_pow (by rw [Nat.pow_succ]; omega) (Nat.pow_lt_pow_right (by decide) (by omega))
  · intro h0
    have h1 : (M ^^^ 1#32 <<< i).toNat.testBit i = false := by rw [h0]; simp
    rw [BitVec.toNat_xor, e', Nat.testBit_xor, Nat.testBit_lt_two_pow h, Nat.testBit_two_pow_self] at h1
    cases h1
theorem burst_end {b C : List UInt8} {k : Nat} {M : W} (h : upd (~~~ 0#32) C = upd (~~~ 0#32) b ^^^ shn k M) : crc 0#32 C = crc 0#32 b ↔ M = 0#32 := by
  unfold crc
  constructor
  · intro e
    have e' : upd (~~~ 0#32) C = upd (~~~ 0#32) b := by
      have := congrArg (fun x => ~~~ x) e
      simpa using this
    rw [e'] at h
    have : shn k M = 0#32 := by
      have := congrArg (fun x => upd (~~~ 0#32) b ^^^ x) h
      simp only [BitVec.xor_self, ← BitVec.xor_assoc, BitVec.zero_xor] at this
      exact this.symm
    exact shn_inj this
  · intro e
    subst e
    rw [h, shn_zero, BitVec.xor_zero]
end Go.Proofs.Ytokfmkfobjkkpaa.Crc
