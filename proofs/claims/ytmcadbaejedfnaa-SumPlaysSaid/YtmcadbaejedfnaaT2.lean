import Derived.Test.YtmcadbaejedfnaaT1
namespace Go.Proofs.Ytmcadbaejedfnaa
open Go Hv Crc
set_option linter.unusedVariables false
set_option maxRecDepth 10000
set_option maxHeartbeats 1000000
theorem shr32_1 (a : W) : shrS .u32 (a.toNat : Int) 1 = ((a >>> 1).toNat : Int) := shr32 a 1 (by decide)
theorem shr32_4 (a : W) : shrS .u32 (a.toNat : Int) 4 = ((a >>> 4).toNat : Int) := shr32 a 4 (by decide)
theorem conv8 (c : UInt8) : wr .u32 (c.toNat : Int) = ((byteW c).toNat : Int) := by
  rw [wr_eq, IntKind.wrap_u32, byteW_toNat]; have := c.toNat_lt; omega
theorem e0_ne {i : Nat} (h : i < 32) : ((e0 >>> i).toNat : Int) ≠ 0 := by
  have : ∀ i : Fin 32, (e0 >>> i.val).toNat ≠ 0 := by decide
  have := this ⟨i, h⟩
  intro e; exact this (by exact_mod_cast e)
theorem e0_bit {i : Nat} (h : i < 32) (a : W) : ((a &&& (e0 >>> i)).toNat : Int) = 0 ↔ a.getLsbD (31 - i) = false := by
  have e : ∀ i : Fin 32, e0 >>> i.val = BitVec.twoPow 32 (31 - i.val) := by decide
  have e1 := e ⟨i, h⟩
  have ne : ∀ i : Fin 32, (BitVec.twoPow 32 (31 - i.val)).toNat ≠ 0 := by decide
  have ne1 := ne ⟨i, h⟩
  simp only at e1 ne1
  rw [e1, BitVec.and_twoPow]
  cases hb : a.getLsbD (31 - i)
  · simp
  · simp only [if_true]
    constructor
    · intro h; exact absurd (by exact_mod_cast h) ne1
    · intro h; cases h
theorem bits_drop {a : W} {i : Nat} (h : i < 32) : (bitsL a).drop i = a.getLsbD (31 - i) :: (bitsL a).drop (i + 1) := by
  have hl : (bitsL a).length = 32 := by simp [bitsL]
  rw [List.drop_eq_getElem_cons (by omega)]
  congr 1
  simp [bitsL]
theorem bits_end (a : W) : (bitsL a).drop 32 = [] := by
  apply List.drop_eq_nil_of_le; simp [bitsL]
structure PrInv (a b : W) (H0 : Heap) (m : Nat) (vs : List Value) (H' : Heap) : Prop where
  ex : ∃ (i : Nat) (b' p' : W), vs = [u32 b', u32 p', u32 (e0 >>> i)] ∧ m + i = 32 ∧ p' ^^^ act ((bitsL a).drop i) b' = mulP a b ∧ H0 = H'
theorem act_step {a b' p' t : W} {i : Nat} (h : i < 32) (hp : p' ^^^ act ((bitsL a).drop i) b' = t) : (if a.getLsbD (31 - i) = true then p' ^^^ b' else p') ^^^ act ((bitsL a).drop (i + 1)) (sh b') = t := by
  rw [bits_drop h] at hp
  unfold act at hp
  rw [← hp, ← BitVec.xor_assoc]
  congr 1
  cases a.getLsbD (31 - i) <;> simp
theorem product_t {a b : W} {H : Heap} {K : Value → Heap → Prop} (hk : K (u32 (mulP a b)) H) : HCalls Try.prog 23 [u32 a, u32 b] H K := by
  refine hcalls (fn := Try.f23) [] mixed Try.func23 rfl rfl (by decide +kernel) ?_
  (repeat first | refine HReg.step ?_ | refine HCode.step ?_)
  refine hloopC [1, 5, 6, 7, 8, 9, 10, 11, 12, 13, 14, 15, 16, 17, 18, 19] [1, 5, 6] (PrInv a b H) rfl (by repeat' first | exact Resp.retD | exact Resp1.valuesK | refine Resp.blockD ?_ | refine Resp.thenD ?_ ?_ | refine Resp.hcode ?_) ?_ ?_
  · refine ⟨32, PrInv.mk ⟨0, b, 0#32, rfl, rfl, ?_, rfl⟩⟩
    show 0#32 ^^^ act (bitsL a) b = _
    rw [BitVec.zero_xor]; rfl
  rintro m vs f H' ⟨i, b', p', rfl, hmi, hp, rfl⟩
  (repeat first | refine HReg.step ?_ | refine HCode.step ?_)
  by_cases hi : i < 32
  · refine hif (fun _ => ?_) (fun h => absurd (not_eqB_false.1 h) (e0_ne hi))
    have hst := act_step hi hp
    have es : (e0 >>> i) >>> 1 = e0 >>> (i + 1) := by rw [← BitVec.shiftRight_add]
    (repeat first | refine HReg.step ?_ | refine HCode.step ?_)
    refine hif (fun h => ?_) (fun h => ?_)
    · rw [and32] at h
      have hb : a.getLsbD (31 - i) = true := by
        cases hb : a.getLsbD (31 - i)
        · exact absurd ((e0_bit hi a).2 hb) (not_eqB_true.1 h)
        · rfl
      rw [if_pos hb] at hst
      (repeat first | refine HReg.step ?_ | refine HCode.step ?_)
      refine HCall.mk ⟨Try.f25, Try.func25, by rfl, by rfl⟩ ?_
      refine turned_t ?_
      (repeat first | refine HReg.step ?_ | refine HCode.step ?_)
      refine HReq.mk (by decide) ?_
      (repeat first | refine HReg.step ?_ | refine HCode.step ?_)
      rw [xor32, shr32_1, es]
      refine Exists.intro (m - 1) ?_
      refine And.intro (by omega) ?_
      exact PrInv.mk ⟨i + 1, sh b', p' ^^^ b', rfl, by omega, hst, rfl⟩
    · rw [and32] at h
      have hb : a.getLsbD (31 - i) = false := (e0_bit hi a).1 (not_eqB_false.1 h)
      rw [if_neg (by rw [hb]; decide)] at hst
      (repeat first | refine HReg.step ?_ | refine HCode.step ?_)
      refine HCall.mk ⟨Try.f25, Try.func25, by rfl, by rfl⟩ ?_
      refine turned_t ?_
      (repeat first | refine HReg.step ?_ | refine HCode.step ?_)
      refine HReq.mk (by decide) ?_
      (repeat first | refine HReg.step ?_ | refine HCode.step ?_)
      rw [shr32_1, es]
      refine Exists.intro (m - 1) ?_
      refine And.intro (by omega) ?_
      exact PrInv.mk ⟨i + 1, sh b', p', rfl, by omega, hst, rfl⟩
  · have h32 : i = 32 := by omega
    subst h32
    refine hif (fun h => absurd (by decide) (not_eqB_true.1 h)) (fun h => ?_)
    (repeat first | refine HReg.step ?_ | refine HCode.step ?_)
    rw [bits_end] at hp
    have : p' = mulP a b := by rw [← hp]; simp [act]
    rw [this]
    exact hk
structure TiInv (a b : W) (H0 : Heap) (m : Nat) (vs : List Value) (H' : Heap) : Prop where
  ex : ∃ (i : Nat) (b' p' : W), vs = [u32 b', u32 p', .int .i64 (31 - (i : Int))] ∧ m + i = 32 ∧ p' ^^^ act ((bitsL a).drop i) b' = mulP a b ∧ H0 = H'
theorem times_t {a b : W} {H : Heap} {K : Value → Heap → Prop} (hk : K (u32 (mulP a b)) H) : HCalls Try.prog 24 [u32 a, u32 b] H K := by
  refine hcalls (fn := Try.f24) [] mixed Try.func24 rfl rfl (by decide +kernel) ?_
  (repeat first | refine HReg.step ?_ | refine HCode.step ?_)
  refine hloopC [1, 5, 6, 7, 8, 9, 10, 11, 12, 13, 14, 15, 16, 17, 18, 19, 20] [1, 5, 6] (TiInv a b H) rfl (by repeat' first | exact Resp.retD | exact Resp1.valuesK | refine Resp.blockD ?_ | refine Resp.thenD ?_ ?_ | refine Resp.hcode ?_) ?_ ?_
  · refine ⟨32, TiInv.mk ⟨0, b, 0#32, rfl, rfl, ?_, rfl⟩⟩
    show 0#32 ^^^ act (bitsL a) b = _
    rw [BitVec.zero_xor]; rfl
  rintro m vs f H' ⟨i, b', p', rfl, hmi, hp, rfl⟩
  (repeat first | refine HReg.step ?_ | refine HCode.step ?_)
  by_cases hi : i < 32
  · refine hif (fun _ => ?_) (fun h => absurd (not_ltB_false.1 h) (by omega))
    have hst := act_step hi hp
    have ei : 31 - (i : Int) = ((31 - i : Nat) : Int) := by omega
    have hw : wr .i64 (31 - (i : Int) - 1) = 31 - ((i + 1 : Nat) : Int) := by rw [wr_i64 (by omega) (by omega)]; omega
    (repeat first | refine HReg.step ?_ | refine HCode.step ?_)
    refine HReq.mk (by omega) ?_
    (repeat first | refine HReg.step ?_ | refine HCode.step ?_)
    have eb : (a >>> (31 - i)).getLsbD 0 = a.getLsbD (31 - i) := by rw [BitVec.getLsbD_ushiftRight, Nat.add_zero]
    have es : shrS .u32 (a.toNat : Int) (31 - (i : Int)) = ((a >>> (31 - i)).toNat : Int) := by rw [ei]; exact shr32 a (31 - i) (by omega)
    refine hif (fun h => ?_) (fun h => ?_)
    · rw [es] at h
      have hb : a.getLsbD (31 - i) = true := by rw [← eb]; exact (bit0 _).1 (eqB_true.1 h)
      rw [if_pos hb] at hst
      (repeat first | refine HReg.step ?_ | refine HCode.step ?_)
      refine HCall.mk ⟨Try.f22, Try.func22, by rfl, by rfl⟩ ?_
      refine shift_t ?_
      (repeat first | refine HReg.step ?_ | refine HCode.step ?_)
      rw [xor32, hw]
      refine Exists.intro (m - 1) ?_
      refine And.intro (by omega) ?_
      exact TiInv.mk ⟨i + 1, sh b', p' ^^^ b', rfl, by omega, hst, rfl⟩
    · rw [es] at h
      have hb : ¬ a.getLsbD (31 - i) = true := by rw [← eb]; exact fun x => (eqB_false.1 h) ((bit0 _).2 x)
      rw [if_neg hb] at hst
      (repeat first | refine HReg.step ?_ | refine HCode.step ?_)
      refine HCall.mk ⟨Try.f22, Try.func22, by rfl, by rfl⟩ ?_
      refine shift_t ?_
      (repeat first | refine HReg.step ?_ | refine HCode.step ?_)
      rw [hw]
      refine Exists.intro (m - 1) ?_
      refine And.intro (by omega) ?_
      exact TiInv.mk ⟨i + 1, sh b', p', rfl, by omega, hst, rfl⟩
  · have h32 : i = 32 := by omega
    subst h32
    refine hif (fun h => absurd (not_ltB_true.1 h) (by decide)) (fun h => ?_)
    (repeat first | refine HReg.step ?_ | refine HCode.step ?_)
    rw [bits_end] at hp
    have : p' = mulP a b := by rw [← hp]; simp [act]
    rw [this]
    exact hk
/-! Join -/
theorem and1 {n : Nat} (h : n ≤ 9223372036854775807) : bitsS .and .i64 (n : Int) 1 = ((n % 2 : Nat) : Int) := by
  rw [bitsS_eq]
  have := (bits_nat .i64 63 (by decide) (fun n h0 h1 => by rw [IntKind.wrap_i64]; omega) n 1 (by omega) (by decide)).1
  rw [Nat.and_one_is_mod] at this
  exact this
theorem half {n : Nat} (h : n ≤ 9223372036854775807) : shrS .i64 (n : Int) 1 = ((n / 2 : Nat) : Int) := by
  rw [shrS_eq]
  have e1 : min ((1 : Int).toNat) IntKind.i64.bits = 1 := by decide
  rw [e1, Int.fdiv_eq_ediv_of_nonneg _ (by decide)]
  omega
structure JoInv (a : W) (n : Nat) (H0 : Heap) (m : Nat) (vs : List Value) (H' : Heap) : Prop where
  ex : ∃ (k : Nat) (a' : W), vs = [u32 a', .int .i64 (m : Int), u32 (shn k e0)] ∧ m ≤ n ∧ shn (k * m) a' = shn (8 * n) a ∧ H0 = H'
theorem shn_odd {k m : Nat} {a' t : W} (h : shn (k * m) a' = t) (hm : m % 2 = 1) : shn ((k + k) * (m / 2)) (shn k a') = t := by
  rw [← h, ← shn_add]
  congr 1
  have e : m = 2 * (m / 2) + 1 := by omega
  generalize m / 2 = q at e
  subst e
  rw [Nat.add_mul, Nat.mul_add, Nat.mul_one, Nat.mul_left_comm]; omega
theorem shn_even {k m : Nat} {a' t : W} (h : shn (k * m) a' = t) (hm : m % 2 = 0) : shn ((k + k) * (m / 2)) a' = t := by
  rw [← h]
  congr 1
  have e : m = 2 * (m / 2) := by omega
  generalize m / 2 = q at e
  subst e
  rw [Nat.add_mul, Nat.mul_left_comm]; omega
theorem join_t {a b : W} {n : Nat} {H : Heap} {K : Value → Heap → Prop} (hn : n ≤ 9223372036854775807) (hk : K (u32 (join a b n)) H) : HCalls Try.prog 13 [u32 a, u32 b, .int .i64 (n : Int)] H K := by
  refine hcalls (fn := Try.f13) [] mixed Try.func13 rfl rfl (by decide +kernel) ?_
  (repeat first | refine HReg.step ?_ | refine HCode.step ?_)
  have e8 : Value.int .u32 8388608 = u32 (shn 8 e0) := by rw [pow_eight]; rfl
  rw [e8]
  refine hloopC [0, 2, 7, 8, 9, 10, 11, 12, 13, 14, 15, 16, 17, 18, 19, 20] [0, 2, 7] (JoInv a n H) rfl (by repeat' first | exact Resp.retD | exact Resp1.valuesK | refine Resp.blockD ?_ | refine Resp.thenD ?_ ?_ | refine Resp.hcode ?_) ?_ ?_
  · exact ⟨n, JoInv.mk ⟨8, a, rfl, Nat.le_refl _, rfl, rfl⟩⟩
  rintro m vs f H' ⟨k, a', rfl, hmn, hs, rfl⟩
  (repeat first | refine HReg.step ?_ | refine HCode.step ?_)
  refine hif (fun h => ?_) (fun h => ?_)
  · have h := ltB_true.1 h
    (repeat first | refine HReg.step ?_ | refine HCode.step ?_)
    rw [and1 (by omega)]
    refine hif (fun h1 => ?_) (fun h1 => ?_)
    · have h1 := eqB_true.1 h1
      (repeat first | refine HReg.step ?_ | refine HCode.step ?_)
      refine HCall.mk ⟨Try.f23, Try.func23, by rfl, by rfl⟩ ?_
      refine product_t ?_
      rw [mulP_pow]
      (repeat first | refine HReg.step ?_ | refine HCode.step ?_)
      refine HCall.mk ⟨Try.f23, Try.func23, by rfl, by rfl⟩ ?_
      refine product_t ?_
      rw [mulP_pow, ← shn_add]
      (repeat first | refine HReg.step ?_ | refine HCode.step ?_)
      refine HReq.mk (by decide) ?_
      (repeat first | refine HReg.step ?_ | refine HCode.step ?_)
      rw [half (by omega)]
      refine Exists.intro (m / 2) ?_
      refine And.intro (by omega) ?_
      exact JoInv.mk ⟨k + k, _, rfl, by omega, shn_odd hs (by omega), rfl⟩
    · have h1 := eqB_false.1 h1
      (repeat first | refine HReg.step ?_ | refine HCode.step ?_)
      refine HCall.mk ⟨Try.f23, Try.func23, by rfl, by rfl⟩ ?_
      refine product_t ?_
      rw [mulP_pow, ← shn_add]
      (repeat first | refine HReg.step ?_ | refine HCode.step ?_)
      refine HReq.mk (by decide) ?_
      (repeat first | refine HReg.step ?_ | refine HCode.step ?_)
      rw [half (by omega)]
      refine Exists.intro (m / 2) ?_
      refine And.intro (by omega) ?_
      exact JoInv.mk ⟨k + k, _, rfl, by omega, shn_even hs (by omega), rfl⟩
  · have h := ltB_false.1 h
    (repeat first | refine HReg.step ?_ | refine HCode.step ?_)
    have hm : m = 0 := by omega
    subst hm
    rw [xor32]
    have e : a' ^^^ b = join a b n := by unfold join; rw [← hs]; rfl
    rw [e]
    exact hk
structure JnInv (a : W) (n : Int) (H0 : Heap) (m : Nat) (vs : List Value) (H' : Heap) : Prop where
  ex : vs = [u32 a, .int .i64 n, u32 (shn 8 e0)] ∧ H0 = H'
theorem joinNeg_t {a b : W} {n : Int} {H : Heap} {K : Value → Heap → Prop} (hn : n ≤ 0) (hk : K (u32 (a ^^^ b)) H) : HCalls Try.prog 13 [u32 a, u32 b, .int .i64 n] H K := by
  refine hcalls (fn := Try.f13) [] mixed Try.func13 rfl rfl (by decide +kernel) ?_
  (repeat first | refine HReg.step ?_ | refine HCode.step ?_)
  have e8 : Value.int .u32 8388608 = u32 (shn 8 e0) := by rw [pow_eight]; rfl
  rw [e8]
  refine hloopC [0, 2, 7, 8, 9, 10, 11, 12, 13, 14, 15, 16, 17, 18, 19, 20] [0, 2, 7] (JnInv a n H) rfl (by repeat' first | exact Resp.retD | exact Resp1.valuesK | refine Resp.blockD ?_ | refine Resp.thenD ?_ ?_ | refine Resp.hcode ?_) ?_ ?_
  · exact ⟨0, JnInv.mk ⟨rfl, rfl⟩⟩
  rintro m vs f H' ⟨rfl, rfl⟩
  (repeat first | refine HReg.step ?_ | refine HCode.step ?_)
  refine hif (fun h => absurd (ltB_true.1 h) (by omega)) (fun h => ?_)
  (repeat first | refine HReg.step ?_ | refine HCode.step ?_)
  rw [xor32]
  exact hk
theorem rjoin_t {a b : W} {n : Nat} {H : Heap} {K : Value → Heap → Prop} (hn : n ≤ 9223372036854775807) (hk : K (u32 (join a b n)) H) : HCalls Try.prog 14 [u32 a, u32 b, .int .i64 (n : Int)] H K := by
  refine hcalls (fn := Try.f14) [] mixed Try.func14 rfl rfl (by decide +kernel) ?_
  (repeat first | refine HReg.step ?_ | refine HCode.step ?_)
  have e8 : Value.int .u32 8388608 = u32 (shn 8 e0) := by rw [pow_eight]; rfl
  rw [e8]
  refine hloopC [0, 2, 7, 8, 9, 10, 11, 12, 13, 14, 15, 16, 17, 18, 19, 20] [0, 2, 7] (JoInv a n H) rfl (by repeat' first | exact Resp.retD | exact Resp1.valuesK | refine Resp.blockD ?_ | refine Resp.thenD ?_ ?_ | refine Resp.hcode ?_) ?_ ?_
  · exact ⟨n, JoInv.mk ⟨8, a, rfl, Nat.le_refl _, rfl, rfl⟩⟩
  rintro m vs f H' ⟨k, a', rfl, hmn, hs, rfl⟩
  (repeat first | refine HReg.step ?_ | refine HCode.step ?_)
  refine hif (fun h => ?_) (fun h => ?_)
  · have h := ltB_true.1 h
    have eq : wr .i64 ((m : Int).tdiv 2) = ((m / 2 : Nat) : Int) := by
      rw [Int.tdiv_eq_ediv_of_nonneg (by omega), wr_i64 (by omega) (by omega)]; omega
    have er : (m : Int).tmod 2 = ((m % 2 : Nat) : Int) := by rw [Int.tmod_eq_emod_of_nonneg (by omega)]; omega
    (repeat first | refine HReg.step ?_ | refine HCode.step ?_)
    refine HReq.mk (by decide) ?_
    (repeat first | refine HReg.step ?_ | refine HCode.step ?_)
    rw [er]
    refine hif (fun h1 => ?_) (fun h1 => ?_)
    · have h1 := eqB_true.1 h1
      (repeat first | refine HReg.step ?_ | refine HCode.step ?_)
      refine HCall.mk ⟨Try.f24, Try.func24, by rfl, by rfl⟩ ?_
      refine times_t ?_
      rw [pow_mulP]
      (repeat first | refine HReg.step ?_ | refine HCode.step ?_)
      refine HCall.mk ⟨Try.f24, Try.func24, by rfl, by rfl⟩ ?_
      refine times_t ?_
      rw [mulP_pow, ← shn_add]
      (repeat first | refine HReg.step ?_ | refine HCode.step ?_)
      refine HReq.mk (by decide) ?_
      (repeat first | refine HReg.step ?_ | refine HCode.step ?_)
      rw [eq]
      refine Exists.intro (m / 2) ?_
      refine And.intro (by omega) ?_
      exact JoInv.mk ⟨k + k, _, rfl, by omega, shn_odd hs (by omega), rfl⟩
    · have h1 := eqB_false.1 h1
      (repeat first | refine HReg.step ?_ | refine HCode.step ?_)
      refine HCall.mk ⟨Try.f24, Try.func24, by rfl, by rfl⟩ ?_
      refine times_t ?_
      rw [mulP_pow, ← shn_add]
      (repeat first | refine HReg.step ?_ | refine HCode.step ?_)
      refine HReq.mk (by decide) ?_
      (repeat first | refine HReg.step ?_ | refine HCode.step ?_)
      rw [eq]
      refine Exists.intro (m / 2) ?_
      refine And.intro (by omega) ?_
      exact JoInv.mk ⟨k + k, _, rfl, by omega, shn_even hs (by omega), rfl⟩
  · have h := ltB_false.1 h
    (repeat first | refine HReg.step ?_ | refine HCode.step ?_)
    have hm : m = 0 := by omega
    subst hm
    rw [xor32]
    have e : a' ^^^ b = join a b n := by unfold join; rw [← hs]; rfl
    rw [e]
    exact hk
theorem rjoinNeg_t {a b : W} {n : Int} {H : Heap} {K : Value → Heap → Prop} (hn : n ≤ 0) (hk : K (u32 (a ^^^ b)) H) : HCalls Try.prog 14 [u32 a, u32 b, .int .i64 n] H K := by
  refine hcalls (fn := Try.f14) [] mixed Try.func14 rfl rfl (by decide +kernel) ?_
  (repeat first | refine HReg.step ?_ | refine HCode.step ?_)
  have e8 : Value.int .u32 8388608 = u32 (shn 8 e0) := by rw [pow_eight]; rfl
  rw [e8]
  refine hloopC [0, 2, 7, 8, 9, 10, 11, 12, 13, 14, 15, 16, 17, 18, 19, 20] [0, 2, 7] (JnInv a n H) rfl (by repeat' first | exact Resp.retD | exact Resp1.valuesK | refine Resp.blockD ?_ | refine Resp.thenD ?_ ?_ | refine Resp.hcode ?_) ?_ ?_
  · exact ⟨0, JnInv.mk ⟨rfl, rfl⟩⟩
  rintro m vs f H' ⟨rfl, rfl⟩
  (repeat first | refine HReg.step ?_ | refine HCode.step ?_)
  refine hif (fun h => absurd (ltB_true.1 h) (by omega)) (fun h => ?_)
  (repeat first | refine HReg.step ?_ | refine HCode.step ?_)
  rw [xor32]
  exact hk
end Go.Proofs.Ytmcadbaejedfnaa
