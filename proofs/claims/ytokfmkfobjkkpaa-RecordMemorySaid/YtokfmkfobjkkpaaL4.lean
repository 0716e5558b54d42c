import Derived.Test.YtokfmkfobjkkpaaRwA
import Derived.Test.YtokfmkfobjkkpaaL3
namespace Go.Proofs.Ytokfmkfobjkkpaa
open Go Go.ChangeShapes Go.WideShapes Go.ChangeAt Go.RowKit Hv
set_option linter.unusedVariables false
/-! Opening the law's values -/
theorem u64_wf {n : Int} (h : (Lit.int .u64 n).wf = true) : ∃ m : Nat, m < 18446744073709551616 ∧ n = (m : Int) := by
  have h : IntKind.u64.min ≤ n ∧ n ≤ IntKind.u64.max := by simpa [Lit.wf] using h
  have h1 : IntKind.u64.min = 0 := by decide
  have h2 : IntKind.u64.max = 18446744073709551615 := by decide
  exact ⟨n.toNat, by omega, by omega⟩
theorem open_stringU {H : Type} {enc : TypeId × Value → H} {P : Program} {w : World} {base : Nat} {spare : Nat → Bool} {held : Bool} {fuel : Nat} {t : TypeId} {v : Value} {x : DataW H × List MemPlace} (ht : P.underlying t = some .string)
    (h : DataW.trod enc P w base spare held fuel t [v] = some x) : ∃ l : List UInt8, v = .string (bs l) := by
  obtain ⟨s, hs, rfl, hm⟩ := DataW.trod_string ht h
  refine ⟨s.data.toList, ?_⟩
  cases hs
  show Value.string s = Value.string ⟨s.data.toList.toArray⟩
  rw [Array.toArray_toList]
end Go.Proofs.Ytokfmkfobjkkpaa
