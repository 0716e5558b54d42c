import Derived.Test.YtokfmkfobjkkpaaL4
import Derived.Test.YtokfmkfobjkkpaaT1
namespace Go.Proofs.Ytokfmkfobjkkpaa
open Go Hv
theorem okWide_u32 {P : Program} {w : World} {r : Reach} {base : Nat} {t : TypeId} {v : Value} (ht : P.underlying t = some (.int .u32)) (h : Value.okWide P w r base t v) : ∃ x : Crc.W, v = Sum.u32 x := by
  obtain ⟨n, rfl, h1, h2⟩ := okWide_num ht h
  have h1 : 0 ≤ n := h1
  have h2 : n ≤ 4294967295 := h2
  refine ⟨BitVec.ofNat 32 n.toNat, ?_⟩
  unfold Sum.u32
  rw [BitVec.toNat_ofNat]
  congr 1
  omega
end Go.Proofs.Ytokfmkfobjkkpaa
