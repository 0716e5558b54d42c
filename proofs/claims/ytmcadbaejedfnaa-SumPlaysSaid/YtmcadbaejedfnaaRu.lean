import Derived.Test.YtmcadbaejedfnaaRw3
import Derived.Test.YtmcadbaejedfnaaT1
namespace Go.Proofs.Ytmcadbaejedfnaa
open Go Hv Crc
theorem okWide_u32 {P : Program} {w : World} {r : Reach} {base : Nat} {t : TypeId} {v : Value} (ht : P.underlying t = some (.int .u32)) (h : Value.okWide P w r base t v) : ∃ x : W, v = u32 x := by
  obtain ⟨n, rfl, h1, h2⟩ := okWide_num ht h
  have h1 : 0 ≤ n := h1
  have h2 : n ≤ 4294967295 := h2
  refine ⟨BitVec.ofNat 32 n.toNat, ?_⟩
  unfold u32
  rw [BitVec.toNat_ofNat]
  congr 1
  omega
theorem u32_wf {n : Int} (h : (Lit.int .u32 n).wf = true) : ∃ x : W, n = (x.toNat : Int) := by
  have h' : 0 ≤ n ∧ n ≤ 4294967295 := by
    simp [Lit.wf, IntKind.min, IntKind.max, IntKind.signed, IntKind.bits] at h; omega
  refine ⟨BitVec.ofNat 32 n.toNat, ?_⟩
  rw [BitVec.toNat_ofNat]
  omega
theorem int_wf {n : Int} (h : (Lit.int .i64 n).wf = true) : -9223372036854775808 ≤ n ∧ n ≤ 9223372036854775807 := by
  simp [Lit.wf, IntKind.min, IntKind.max, IntKind.signed, IntKind.bits] at h; omega
end Go.Proofs.Ytmcadbaejedfnaa
