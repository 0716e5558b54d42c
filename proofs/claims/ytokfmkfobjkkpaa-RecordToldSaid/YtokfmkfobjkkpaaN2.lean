import Derived.Test.YtokfmkfobjkkpaaQ2
import Derived.Test.YtokfmkfobjkkpaaL5
namespace Go.Proofs.Ytokfmkfobjkkpaa
open Go Hv
set_option linter.unusedVariables false
set_option linter.unusedSimpArgs false
set_option maxRecDepth 10000
set_option maxHeartbeats 4000000
/-! RecordTold -/
open Crc in
theorem xor8 (a b : UInt8) : bitsS .xor .u8 (a.toNat : Int) (b.toNat : Int) = ((a ^^^ b).toNat : Int) := by
  rw [bitsS_eq]
  have ofi : ∀ a : UInt8, BitVec.ofInt 8 (a.toNat : Int) = a.toBitVec := fun a => by
    rw [BitVec.ofInt_natCast]; apply BitVec.eq_of_toNat_eq; rw [BitVec.toNat_ofNat]; have := a.toNat_lt; exact Nat.mod_eq_of_lt this
  show IntKind.u8.wrap ((BitVec.ofInt 8 (a.toNat : Int) ^^^ BitVec.ofInt 8 (b.toNat : Int)).toNat : Int) = _
  rw [ofi, ofi, ← UInt8.toBitVec_xor]
  show IntKind.u8.wrap ((a ^^^ b).toNat : Int) = _
  rw [IntKind.wrap_u8]; have := (a ^^^ b).toNat_lt; omega
theorem shl8 {j : Nat} (h : j < 8) : shlS .u8 1 (j : Int) = ((UInt8.ofNat (2 ^ j)).toNat : Int) := by
  rw [shlS_eq]
  have : ∀ j : Fin 8, IntKind.u8.wrap (1 * 2 ^ (min ((j.val : Int).toNat) IntKind.u8.bits)) = ((UInt8.ofNat (2 ^ j.val)).toNat : Int) := by decide
  exact this ⟨j, h⟩
/-- Byte i of a mask. -/
def mb (M : Crc.W) (i : Nat) : UInt8 := UInt8.ofNat (M.toNat / 2 ^ (8 * i))
theorem conv_mb (M : Crc.W) (i : Nat) (hi : i < 4) : wr .u8 (shrS .u32 (M.toNat : Int) ((8 * i : Nat) : Int)) = ((mb M i).toNat : Int) := by
  rw [Sum.shr32 M (8 * i) (by omega)]
  rw [BitVec.toNat_ushiftRight, Nat.shiftRight_eq_div_pow]
  unfold mb
  rw [UInt8.toNat_ofNat', wr8]
theorem mb_zero {M : Crc.W} (h : ∀ i, i < 4 → mb M i = 0) : M = 0#32 := by
  have key : ∀ i, i < 4 → M.toNat / 2 ^ (8 * i) % 256 = 0 := fun i hi => by
    have := congrArg UInt8.toNat (h i hi)
    unfold mb at this
    rw [UInt8.toNat_ofNat'] at this
    exact this
  have h0 := key 0 (by decide)
  have h1 := key 1 (by decide)
  have h2 := key 2 (by decide)
  have h3 := key 3 (by decide)
  have := M.isLt
  apply BitVec.eq_of_toNat_eq
  simp only [Nat.mul_zero, Nat.mul_one, Nat.reduceMul, Nat.reducePow, Nat.pow_zero, Nat.div_one] at h0 h1 h2 h3
  show M.toNat = 0
  omega
structure TmJ (H1 : Heap) (vs : List Value) (H' : Heap) : Prop where
  ex : ∃ M : Crc.W, vs = [Sum.u32 M] ∧ M ≠ 0#32 ∧ H' = H1
structure TcInv (F : List UInt8) (M : Crc.W) (n : Nat) (a : Option Addr) (c : Nat) (H1 : Heap) (m : Nat) (vs : List Value) (H' : Heap) : Prop where
  ex : ∃ (i : Nat) (X : List UInt8), vs = [.int .i64 (i : Int)] ∧ m + i = 4 ∧ X.length = n ∧ OwnRow H' 5 1 a n c (u8s X) ∧ Upd (blk a) H1 H' ∧ ∀ k, X[k]? = if 4 ≤ k ∧ k < 4 + i then (F[k]?).map (· ^^^ mb M (k - 4)) else F[k]?
structure TcJ (F : List UInt8) (M : Crc.W) (n : Nat) (a : Option Addr) (c : Nat) (H1 : Heap) (vs : List Value) (H' : Heap) : Prop where
  ex : ∃ (X : List UInt8), vs = [] ∧ X.length = n ∧ OwnRow H' 5 1 a n c (u8s X) ∧ Upd (blk a) H1 H' ∧ ∀ k, X[k]? = if 4 ≤ k ∧ k < 8 then (F[k]?).map (· ^^^ mb M (k - 4)) else F[k]?
structure TpJ (n : Nat) (H1 : Heap) (vs : List Value) (H' : Heap) : Prop where
  ex : ∃ p : Nat, vs = [.int .i64 (p : Int)] ∧ p < 8 * n ∧ H' = H1
structure TbInv (hd b : List UInt8) (n p : Nat) (a : Option Addr) (c : Nat) (H0 : Heap) (m : Nat) (vs : List Value) (H' : Heap) : Prop where
  ex : ∃ (i : Nat) (C : List UInt8) (M : Crc.W), vs = [.bool (decide (M ≠ 0#32)), .int .i64 (i : Int)] ∧ m + i = 32 ∧ C.length = n ∧ OwnRow H' 5 1 a (8 + n) c (u8s (hd ++ C)) ∧ M.toNat < 2 ^ i ∧ Crc.upd (~~~0#32) C = Crc.upd (~~~0#32) b ^^^ Crc.shn (8 * n - p) M ∧ (M = 0#32 → C = b) ∧ Upd (blk a) H0 H'
structure TbJ (hd b : List UInt8) (n : Nat) (a : Option Addr) (c : Nat) (H0 : Heap) (vs : List Value) (H' : Heap) : Prop where
  ex : ∃ (C : List UInt8) (t : Bool), vs = [.bool t] ∧ C.length = n ∧ OwnRow H' 5 1 a (8 + n) c (u8s (hd ++ C)) ∧ (t = true → crcN C ≠ crcN b) ∧ (t = false → C = b) ∧ Upd (blk a) H0 H'
/-- The changed checksum. -/
theorem crc_bad {P X : List UInt8} {M : Crc.W} (hM : M ≠ 0#32) (hn : P.length ≤ 1048576) (hl : X.length = 8 + P.length) (hX : ∀ k, X[k]? = if 4 ≤ k ∧ k < 8 then ((frameR P)[k]?).map (· ^^^ mb M (k - 4)) else (frameR P)[k]?) : parseR X = (zeroRec, 0, 90) := by
  have h4 : X.take 4 = num P.length 4 := by
    have := frame_take4 P []
    rw [List.append_nil] at this
    rw [← this]
    apply List.ext_getElem?
    intro k
    rw [List.getElem?_take, List.getElem?_take, hX k]
    by_cases h : k < 4
    · rw [if_pos h, if_pos h, if_neg (by omega)]
    · rw [if_neg h, if_neg h]
  have h8 : X.drop 8 = P := by
    have := frame_drop8 P []
    rw [List.append_nil, List.append_nil] at this
    refine Eq.trans ?_ this
    apply List.ext_getElem?
    intro k
    rw [List.getElem?_drop, List.getElem?_drop, hX, if_neg (by omega)]
  refine parse_bad hl hn h4 h8 fun hc => hM ?_
  have hm := frame_mid P []
  rw [List.append_nil] at hm
  have hl1 : ((X.drop 4).take 4).length = 4 := by rw [List.length_take, List.length_drop]; omega
  have e : (X.drop 4).take 4 = num (crcN P) 4 := by
    refine val_inj ?_ (by rw [hl1, num_length])
    rw [← hc, val_num]; exact (Nat.mod_eq_of_lt (crcN_lt P)).symm
  refine mb_zero fun i hi => ?_
  have e1 : ((X.drop 4).take 4)[i]? = ((frameR P).drop 4 |>.take 4)[i]? := by rw [e, hm]
  rw [List.getElem?_take, List.getElem?_take, if_pos hi, if_pos hi, List.getElem?_drop, List.getElem?_drop, hX, if_pos (by omega)] at e1
  obtain ⟨x, hx⟩ : ∃ x, (frameR P)[4 + i]? = some x := ⟨(frameR P)[4 + i]'(by rw [frame_len]; omega), by simp⟩
  rw [hx] at e1
  have e2 : x ^^^ mb M (4 + i - 4) = x := Option.some.inj e1
  rw [Nat.add_sub_cancel_left] at e2
  have e3 : x ^^^ (x ^^^ mb M i) = x ^^^ x := by rw [e2]
  rw [← UInt8.xor_assoc, UInt8.xor_self, UInt8.zero_xor] at e3
  exact e3
theorem zero_in (H : Heap) : RecIn H zeroRec none none := ⟨fun i v h => by simp [zeroRec, pairsV] at h, fun i v h => by simp [zeroRec, txts] at h, Nat.zero_le _, Nat.zero_le _⟩
end Go.Proofs.Ytokfmkfobjkkpaa
