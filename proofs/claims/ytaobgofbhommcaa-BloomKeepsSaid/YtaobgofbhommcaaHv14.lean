import Derived.Test.YtaobgofbhommcaaHv13
import Derived.Laws.BitsLemmas
namespace Go.Proofs.Ytaobgofbhommcaa.Hv
open Go
set_option linter.unusedVariables false
set_option linter.unusedSimpArgs false
/-! More words: masks, max and min. -/
theorem and_mask (z : Int) (j : Nat) (hj : j ≤ 62) : bitsS .and .i64 z ((2 ^ j - 1 : Nat) : Int) = z % ((2 ^ j : Nat) : Int) := by
  rw [bitsS_eq]
  unfold bits
  dsimp only
  have hb : IntKind.i64.bits = 64 := rfl
  rw [hb]
  have hp : 2 ^ j ≤ 2 ^ 62 := Nat.pow_le_pow_right (by decide) hj
  have h1 : (BitVec.ofInt 64 z &&& BitVec.ofInt 64 ((2 ^ j - 1 : Nat) : Int)).toNat = (z % 18446744073709551616).toNat % 2 ^ j := by
    rw [BitVec.toNat_and, BitVec.toNat_ofInt, BitVec.toNat_ofInt]
    have e2 : (((2 ^ j - 1 : Nat) : Int) % ((2 ^ 64 : Nat) : Int)).toNat = 2 ^ j - 1 := by
      rw [Int.emod_eq_of_lt (by omega) (by omega)]; omega
    rw [e2, Nat.and_two_pow_sub_one_eq_mod]
    have e4 : ((2 ^ 64 : Nat) : Int) = 18446744073709551616 := by decide
    rw [e4]
  rw [h1]
  have hlt : (z % 18446744073709551616).toNat % 2 ^ j < 2 ^ j := Nat.mod_lt _ (Nat.two_pow_pos j)
  have e3 : (((z % 18446744073709551616).toNat % 2 ^ j : Nat) : Int) = z % ((2 ^ j : Nat) : Int) := by
    rw [Int.natCast_emod, Int.toNat_of_nonneg (Int.emod_nonneg _ (by decide))]
    refine Int.emod_emod_of_dvd z ?_
    have : (18446744073709551616 : Int) = ((2 ^ 64 : Nat) : Int) := by decide
    rw [this, Int.natCast_dvd_natCast]
    exact Nat.pow_dvd_pow 2 (by omega)
  rw [e3]
  have hm0 : 0 ≤ z % ((2 ^ j : Nat) : Int) := Int.emod_nonneg _ (by omega)
  have hm1 : z % ((2 ^ j : Nat) : Int) < ((2 ^ j : Nat) : Int) := Int.emod_lt_of_pos _ (by omega)
  exact IntWalk.i64_in _ ⟨by omega, by omega⟩
/-- Append onto a row that the call has made. -/
theorem append_madeG {P : Program} {t e ty : TypeId} {ie : TypeInfo} {z : Value} {a b : Option Addr} {n cap m c : Nat} {xs ys : List Value} {H0 H : Heap} {K : Value → Heap → Prop}
    (ht : P.underlying t = some (.slice e)) (hi : P.info? e = some ie) (hz : ie.zero = some z) (hzs : z.cells.size = ie.size) (hs0 : 0 < ie.size)
    (hm : Made H0 H e ie.size a n cap xs) (hy : RowAt H b ys) (hyl : ys.length = m * ie.size) (hyp : ∀ v ∈ ys, Value.plain v = true)
    (hlim : (n + m) * ie.bytes ≤ 140737488355328) (hmax : n + m ≤ 4611686018427387904)
    (h : ∀ a' cap' H', Made H0 H' e ie.size a' (n + m) cap' (xs ++ ys) → K (.slice a' (n + m) cap') H') :
    HSem P (Builtin.append_ #[t, t] ty [.slice a n cap, .slice b m c].toArray) H K := by
  refine append_rows ht hi hz hzs hs0 hm.own hy hyl hyp hlim hmax fun a' cap' H' o u f => h a' cap' H' ⟨o, ?_, ?_⟩
  · refine Upd.drop hm.upd u fun b hb => ?_
    obtain ⟨p, hp, rfl⟩ := blk_of hb
    exact hm.new p hp
  · intro p hp
    rcases f p hp with h | h
    · exact hm.new p h
    · exact Upd.none (S := []) hm.upd (by simp) h
end Go.Proofs.Ytaobgofbhommcaa.Hv
