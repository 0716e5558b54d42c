import Derived.Test.YtfcmjomnpahllaaGreatHvA
/-! Plain law: CRC-32 as a linear map over words of 32 bits. No program in sight. -/
namespace Go.Proofs.YtfcmjomnpahllaaGreat.Crc
abbrev W := BitVec 32
def pol : W := 0xEDB88320#32
def sh (w : W) : W := (w >>> 1) ^^^ (bif w.getLsbD 0 then pol else 0#32)
theorem xor4 (a b c d : W) : (a ^^^ b) ^^^ (c ^^^ d) = (a ^^^ c) ^^^ (b ^^^ d) := by
  rw [BitVec.xor_assoc, BitVec.xor_assoc, ← BitVec.xor_assoc b, BitVec.xor_comm b, BitVec.xor_assoc c]
theorem sh_xor (a b : W) : sh (a ^^^ b) = sh a ^^^ sh b := by
  unfold sh
  rw [BitVec.ushiftRight_xor_distrib, BitVec.getLsbD_xor, xor4]
  congr 1
  cases a.getLsbD 0 <;> cases b.getLsbD 0 <;> simp
def shn : Nat → W → W
  | 0, w => w
  | n + 1, w => shn n (sh w)
theorem sh_zero : sh 0#32 = 0#32 := by decide
theorem shn_zero (n : Nat) : shn n 0#32 = 0#32 := by
  induction n with
  | zero => rfl
  | succ n ih => unfold shn; rw [sh_zero, ih]
theorem shn_xor (n : Nat) (a b : W) : shn n (a ^^^ b) = shn n a ^^^ shn n b := by
  induction n generalizing a b with
  | zero => rfl
  | succ n ih => unfold shn; rw [sh_xor, ih]
theorem shn_add (m n : Nat) (w : W) : shn (m + n) w = shn m (shn n w) := by
  induction n generalizing w with
  | zero => rfl
  | succ n ih => show shn (m + n) (sh w) = shn m (shn n (sh w)); exact ih _
theorem shn_sh (n : Nat) (w : W) : shn n (sh w) = sh (shn n w) := by
  have h1 := shn_add n 1 w
  have h2 := shn_add 1 n w
  rw [Nat.add_comm] at h2
  exact h1.symm.trans h2
theorem shn_comm (m n : Nat) (w : W) : shn m (shn n w) = shn n (shn m w) := by rw [← shn_add, ← shn_add, Nat.add_comm]
theorem sh_inj {x : W} (h : sh x = 0#32) : x = 0#32 := by
  have h31 : (sh x).getLsbD 31 = false := by rw [h]; simp
  have e : (sh x).getLsbD 31 = x.getLsbD 0 := by
    unfold sh
    rw [BitVec.getLsbD_xor]
    cases x.getLsbD 0
    · simp
    · simp; decide
  rw [e] at h31
  unfold sh at h
  rw [h31] at h
  simp only [cond_false, BitVec.xor_zero] at h
  apply BitVec.eq_of_getLsbD_eq
  intro i hi
  by_cases h0 : i = 0
  · subst h0; rw [h31]; simp
  · have : (x >>> 1).getLsbD (i - 1) = false := by rw [h]; simp
    rw [BitVec.getLsbD_ushiftRight] at this
    have e1 : 1 + (i - 1) = i := by omega
    rw [e1] at this; rw [this]; simp
theorem shn_inj {n : Nat} {x : W} (h : shn n x = 0#32) : x = 0#32 := by
  induction n generalizing x with
  | zero => exact h
  | succ n ih => exact sh_inj (ih h)
/-! Products -/
def act : List Bool → W → W
  | [], _ => 0#32
  | c :: cs, b => (bif c then b else 0#32) ^^^ act cs (sh b)
theorem act_xor (cs : List Bool) (a b : W) : act cs (a ^^^ b) = act cs a ^^^ act cs b := by
  induction cs generalizing a b with
  | nil => simp [act]
  | cons c cs ih =>
    unfold act
    rw [sh_xor, ih, xor4]
    congr 1
    cases c <;> simp
theorem act_zero (cs : List Bool) : act cs 0#32 = 0#32 := by
  induction cs with
  | nil => rfl
  | cons c cs ih => unfold act; rw [sh_zero, ih]; cases c <;> rfl
theorem act_sh (cs : List Bool) (b : W) : act cs (sh b) = sh (act cs b) := by
  induction cs generalizing b with
  | nil => exact sh_zero.symm
  | cons c cs ih =>
    unfold act
    rw [sh_xor, ih]
    congr 1
    cases c
    · exact sh_zero.symm
    · rfl
theorem act_shn (cs : List Bool) (n : Nat) (b : W) : act cs (shn n b) = shn n (act cs b) := by
  induction n generalizing b with
  | zero => rfl
  | succ n ih => unfold shn; rw [ih, act_sh]
theorem act_act (cs ds : List Bool) (b : W) : act cs (act ds b) = act ds (act cs b) := by
  induction cs generalizing b with
  | nil => exact (act_zero ds).symm
  | cons c cs ih =>
    show (bif c then act ds b else 0#32) ^^^ act cs (sh (act ds b)) = act ds ((bif c then b else 0#32) ^^^ act cs (sh b))
    rw [← act_sh, ih, act_xor]
    congr 1
    cases c
    · exact (act_zero ds).symm
    · rfl
def bitsL (a : W) : List Bool := (List.range 32).map fun i => a.getLsbD (31 - i)
def mulP (a b : W) : W := act (bitsL a) b
def e0 : W := 0x80000000#32
/-- The bits of a from the power k on: k more are to come. -/
theorem act_low (a : W) : ∀ (k : Nat), k ≤ 32 → act ((List.range' (32 - k) k).map fun i => a.getLsbD (31 - i)) (shn (32 - k) e0) = BitVec.ofNat 32 (a.toNat % 2 ^ k) := by
  have hone : ∀ k : Fin 32, shn (31 - k.val) e0 = BitVec.ofNat 32 (2 ^ k.val) := by decide +kernel
  intro k
  induction k with
  | zero => intro _; simp [act, Nat.mod_one]
  | succ k ih =>
    intro hk
    have e1 : 32 - (k + 1) + 1 = 32 - k := by omega
    rw [List.range'_succ, e1, List.map_cons]
    unfold act
    have e2 : sh (shn (32 - (k + 1)) e0) = shn (32 - k) e0 := by rw [← shn_sh, ← e1]; rfl
    rw [e2, ih (by omega)]
    have e3 : 31 - (32 - (k + 1)) = k := by omega
    have e4 : 32 - (k + 1) = 31 - k := by omega
    rw [e3, e4, hone ⟨k, by omega⟩]
    have hb : a.getLsbD k = a.toNat.testBit k := rfl
    have hmod : a.toNat % 2 ^ (k + 1) = 2 ^ k * (a.toNat / 2 ^ k % 2) + a.toNat % 2 ^ k := by
      rw [Nat.pow_succ, Nat.mod_mul]; omega
    have hlt : a.toNat % 2 ^ k < 2 ^ k := Nat.mod_lt _ (Nat.two_pow_pos k)
    have hk2 : 2 ^ k < 2 ^ 32 := Nat.pow_lt_pow_right (by decide) (by omega)
    have hk3 : 2 ^ (k + 1) ≤ 2 ^ 32 := Nat.pow_le_pow_right (by decide) (by omega)
    rw [hb, hmod]
    have htb : a.toNat.testBit k = decide (a.toNat / 2 ^ k % 2 = 1) := by rw [Nat.testBit_eq_decide_div_mod_eq]
    rw [htb]
    rcases Nat.mod_two_eq_zero_or_one (a.toNat / 2 ^ k) with h | h
    · rw [h]; simp
    · rw [h]
      simp only [decide_true, cond_true, Nat.mul_one]
      apply BitVec.eq_of_toNat_eq
      rw [BitVec.toNat_xor, BitVec.toNat_ofNat, BitVec.toNat_ofNat, BitVec.toNat_ofNat]
      have m1 : a.toNat % 2 ^ k % 2 ^ 32 = a.toNat % 2 ^ k := Nat.mod_eq_of_lt (by omega)
      have m2 : (2 ^ k + a.toNat % 2 ^ k) % 2 ^ 32 = 2 ^ k + a.toNat % 2 ^ k := Nat.mod_eq_of_lt (by rw [Nat.pow_succ] at hk3; omega)
      rw [Nat.mod_eq_of_lt hk2, m1, m2]
      have := Nat.two_pow_add_eq_or_of_lt hlt 1
      rw [Nat.mul_one] at this
      rw [this]
      apply Nat.eq_of_testBit_eq
      intro i
      rw [Nat.testBit_xor, Nat.testBit_or]
      by_cases hi : i = k
      · subst hi
        rw [Nat.testBit_two_pow_self, Nat.testBit_lt_two_pow hlt]; rfl
      · rw [Nat.testBit_two_pow_of_ne (Ne.symm hi)]; simp
theorem mulP_one (a : W) : mulP a e0 = a := by
  have := act_low a 32 (Nat.le_refl _)
  simp only [Nat.sub_self] at this
  unfold mulP bitsL
  rw [List.range_eq_range']
  refine Eq.trans this ?_
  apply BitVec.eq_of_toNat_eq
  rw [BitVec.toNat_ofNat, Nat.mod_mod]
  exact Nat.mod_eq_of_lt a.isLt
theorem mulP_comm (a b : W) : mulP a b = mulP b a := by
  have h1 : mulP a b = mulP a (mulP b e0) := by rw [mulP_one]
  have h2 : mulP b a = mulP b (mulP a e0) := by rw [mulP_one]
  rw [h1, h2]
  exact act_act _ _ _
theorem mulP_shn (a b : W) (n : Nat) : mulP a (shn n b) = shn n (mulP a b) := act_shn _ _ _
theorem mulP_pow (a : W) (n : Nat) : mulP a (shn n e0) = shn n a := by rw [mulP_shn, mulP_one]
theorem pow_mulP (a : W) (n : Nat) : mulP (shn n e0) a = shn n a := by rw [mulP_comm, mulP_pow]
theorem pow_eight : shn 8 e0 = 0x800000#32 := by decide
/-! Bytes -/
def byteW (c : UInt8) : W := c.toBitVec.setWidth 32
theorem byteW_toNat (c : UInt8) : (byteW c).toNat = c.toNat := by
  unfold byteW
  rw [BitVec.toNat_setWidth]
  have := c.toNat_lt
  exact Nat.mod_eq_of_lt (by show c.toNat < _; omega)
theorem byteW_xor (a b : UInt8) : byteW (a ^^^ b) = byteW a ^^^ byteW b := by
  unfold byteW
  rw [UInt8.toBitVec_xor, BitVec.setWidth_xor]
theorem byteW_zero : byteW 0 = 0#32 := by decide
def upd : W → List UInt8 → W
  | w, [] => w
  | w, c :: cs => upd (shn 8 (w ^^^ byteW c)) cs
theorem upd_append (w : W) (a b : List UInt8) : upd w (a ++ b) = upd (upd w a) b := by
  induction a generalizing w with
  | nil => rfl
  | cons c a ih => exact ih _
theorem upd_split (w : W) (cs : List UInt8) : upd w cs = shn (8 * cs.length) w ^^^ upd 0#32 cs := by
  induction cs generalizing w with
  | nil => show w = w ^^^ 0#32; simp
  | cons c cs ih =>
    show upd (shn 8 (w ^^^ byteW c)) cs = shn (8 * (cs.length + 1)) w ^^^ upd (shn 8 (0#32 ^^^ byteW c)) cs
    rw [ih, ih (shn 8 (0#32 ^^^ byteW c)), Nat.mul_add, shn_add, ← BitVec.xor_assoc, ← shn_xor, ← shn_xor]
    simp
theorem upd_zeros (w : W) (n : Nat) : upd w (List.replicate n 0) = shn (8 * n) w := by
  induction n generalizing w with
  | zero => rfl
  | succ n ih =>
    show upd (shn 8 (w ^^^ byteW 0)) (List.replicate n 0) = _
    rw [byteW_zero, BitVec.xor_zero, ih, Nat.mul_add, shn_add]
theorem upd_xor : ∀ (cs ds : List UInt8) (v w : W), cs.length = ds.length → upd (v ^^^ w) (List.zipWith (· ^^^ ·) cs ds) = upd v cs ^^^ upd w ds
  | [], [], v, w, _ => rfl
  | c :: cs, d :: ds, v, w, h => by
    show upd (shn 8 ((v ^^^ w) ^^^ byteW (c ^^^ d))) (List.zipWith (· ^^^ ·) cs ds) = upd (shn 8 (v ^^^ byteW c)) cs ^^^ upd (shn 8 (w ^^^ byteW d)) ds
    rw [byteW_xor, xor4, shn_xor]
    exact upd_xor cs ds _ _ (by simpa using h)
theorem upd_set : ∀ (cs : List UInt8) (w : W) (k : Nat) (x v : UInt8), cs[k]? = some x → upd w (cs.set k (x ^^^ v)) = upd w cs ^^^ shn (8 * (cs.length - k)) (byteW v)
  | [], w, k, x, v, h => by simp at h
  | c :: cs, w, 0, x, v, h => by
    simp at h; subst h
    show upd (shn 8 (w ^^^ byteW (c ^^^ v))) cs = upd (shn 8 (w ^^^ byteW c)) cs ^^^ shn (8 * (cs.length + 1)) (byteW v)
    rw [byteW_xor, ← BitVec.xor_assoc, shn_xor, upd_split, shn_xor, upd_split (shn 8 (w ^^^ byteW c)), ← shn_add]
    rw [Nat.mul_add, BitVec.xor_assoc, BitVec.xor_assoc, BitVec.xor_comm (upd 0#32 cs), ← shn_add]
  | c :: cs, w, k + 1, x, v, h => by
    have h' : cs[k]? = some x := by simpa using h
    show upd (shn 8 (w ^^^ byteW c)) (cs.set k (x ^^^ v)) = upd (shn 8 (w ^^^ byteW c)) cs ^^^ shn (8 * (cs.length + 1 - (k + 1))) (byteW v)
    rw [upd_set cs _ k x v h', Nat.add_sub_add_right]
/-! Half bytes -/
theorem sh_even {w : W} (h : w.getLsbD 0 = false) : sh w = w >>> 1 := by unfold sh; rw [h]; simp
theorem shn4_low {w : W} (h : ∀ i, i < 4 → w.getLsbD i = false) : shn 4 w = w >>> 4 := by
  have s1 := sh_even (h 0 (by omega))
  have s2 : sh (w >>> 1) = w >>> 1 >>> 1 := sh_even (by rw [BitVec.getLsbD_ushiftRight]; exact h 1 (by omega))
  have s3 : sh (w >>> 1 >>> 1) = w >>> 1 >>> 1 >>> 1 := sh_even (by rw [BitVec.getLsbD_ushiftRight, BitVec.getLsbD_ushiftRight]; exact h 2 (by omega))
  have s4 : sh (w >>> 1 >>> 1 >>> 1) = w >>> 1 >>> 1 >>> 1 >>> 1 := sh_even (by rw [BitVec.getLsbD_ushiftRight, BitVec.getLsbD_ushiftRight, BitVec.getLsbD_ushiftRight]; exact h 3 (by omega))
  show sh (sh (sh (sh w))) = _
  rw [s1, s2, s3, s4, ← BitVec.shiftRight_add, ← BitVec.shiftRight_add, ← BitVec.shiftRight_add]
theorem nibble (w : W) : (w >>> 4) ^^^ shn 4 (w &&& 15#32) = shn 4 w := by
  have e : w = (w &&& ~~~15#32) ^^^ (w &&& 15#32) := by
    apply BitVec.eq_of_getLsbD_eq
    intro i hi
    rw [BitVec.getLsbD_xor, BitVec.getLsbD_and, BitVec.getLsbD_and, BitVec.getLsbD_not]
    cases w.getLsbD i <;> cases (15#32).getLsbD i <;> simp [hi]
  have low : ∀ i, i < 4 → (w &&& ~~~15#32).getLsbD i = false := by
    intro i hi
    rw [BitVec.getLsbD_and, BitVec.getLsbD_not]
    have : ∀ i : Fin 4, (15#32).getLsbD i.val = true := by decide
    rw [this ⟨i, hi⟩]; simp
  have hs : (w &&& ~~~15#32) >>> 4 = w >>> 4 := by
    apply BitVec.eq_of_getLsbD_eq
    intro i hi
    rw [BitVec.getLsbD_ushiftRight, BitVec.getLsbD_ushiftRight, BitVec.getLsbD_and, BitVec.getLsbD_not]
    by_cases h2 : 4 + i < 32
    · have : ∀ i : Fin 28, (15#32).getLsbD (4 + i.val) = false := by decide
      rw [this ⟨i, by omega⟩]; simp [h2]
    · rw [BitVec.getLsbD_of_ge w (4 + i) (by omega)]; simp
  have h1 : shn 4 w = shn 4 ((w &&& ~~~15#32) ^^^ (w &&& 15#32)) := congrArg (shn 4) e
  rw [h1, shn_xor, shn4_low low, hs]
/-- One bit, wandering down. -/
theorem shn_bit : ∀ i : Fin 32, shn i.val (1#32 <<< i.val) = 1#32 := by decide +kernel
theorem shn_bit' {i n : Nat} (hi : i < 32) (hn : i ≤ n) : shn n (1#32 <<< i) = shn (n - i) 1#32 := by
  have e : n = (n - i) + i := by omega
  have := shn_bit ⟨i, hi⟩
  rw [e, shn_add]
  show shn (n - i) (shn i (1#32 <<< i)) = _
  rw [this]; congr 1; omega
/-! The document's words. -/
def crc (s : W) (b : List UInt8) : W := ~~~ (upd (~~~ s) b)
def join (a b : W) (n : Nat) : W := shn (8 * n) a ^^^ b
theorem not_xor (a b : W) : ~~~ (a ^^^ b) = (~~~ a) ^^^ b := by
  apply BitVec.eq_of_getLsbD_eq
  intro i hi
  simp [hi]
theorem not_eq (a : W) : ~~~ a = a ^^^ (~~~ 0#32) := by
  have := not_xor 0#32 a
  rw [BitVec.zero_xor] at this
  rw [this, BitVec.xor_comm]
theorem crc_append (s : W) (a b : List UInt8) : crc s (a ++ b) = crc (crc s a) b := by
  unfold crc; rw [upd_append, BitVec.not_not]
theorem crc_join (s : W) (b : List UInt8) : crc s b = join s (crc 0#32 b) b.length := by
  unfold crc join
  rw [upd_split (~~~ s), upd_split (~~~ 0#32), not_eq s, shn_xor, not_eq (shn (8 * b.length) s ^^^ shn (8 * b.length) (~~~ 0#32) ^^^ upd 0#32 b), not_eq (shn (8 * b.length) (~~~ 0#32) ^^^ upd 0#32 b)]
  simp only [BitVec.xor_assoc]
theorem join_join (a b c : W) (n m : Nat) : join (join a b n) c m = join a (join b c m) (n + m) := by
  unfold join
  rw [shn_xor, ← shn_add, BitVec.xor_assoc]
  congr 2; omega
end Go.Proofs.YtfcmjomnpahllaaGreat.Crc
