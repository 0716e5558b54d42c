import Derived.Test.YtaobgofbhommcaaRw2
import Derived.SizedLaws
namespace Go.Proofs.Ytaobgofbhommcaa.Hv
open Go Go.ChangeShapes Go.WideShapes Go.ChangeAt Go.RowKit
set_option linter.unusedVariables false
set_option linter.unusedSimpArgs false
theorem okWide_num {P : Program} {w : World} {r : Reach} {base : Nat} {t : TypeId} {v : Value} {k : IntKind} (ht : P.underlying t = some (.int k)) (h : Value.okWide P w r base t v) : ∃ n, v = .int k n ∧ k.min ≤ n ∧ n ≤ k.max := by
  simp only [Value.okWide, ht, Cell.okWide] at h
  cases v <;> simp_all [Cell.ok, IntKind.has]
/-- An argument of bytes, sized. -/
theorem open_sized {T : Type} {enc : TypeId × Value → T} {P : Program} {w : World} {base : Nat} {spare : Nat → Bool} {held : Bool} {ts : List TypeId} {ds : List (DataW T)} {j : Nat} {t e : TypeId} {fuel : Nat} {a : Option Addr} {len cap : Nat} {x : DataW T} {pl : List MemPlace}
    (ht : P.underlying t = some (.slice e)) (he : P.underlying e = some (.int .u8)) (hc : P.cellsOf e = 1) (hb : P.bytesOf e = 1)
    (hz : (DataW.weightsEach P ts ds).all (· ≤ reachBytes) = true) (hts : ts[j]? = some t) (hds : ds[j]? = some x) (h : DataW.trod enc P w base spare held fuel t [.slice a len cap] = some (x, pl)) :
    ∃ ys : List UInt8, RowAt (heapOf w) a (u8s ys) ∧ ys.length = len ∧ len ≤ cap ∧ len ≤ 140737488351232 := by
  obtain ⟨ys, h1, h2, h3, _⟩ := open_bytes ht he hc h
  refine ⟨ys, h1, h2, h3, ?_⟩
  rcases DataW.trod_slice ht h with ⟨hcs, _⟩ | ⟨_, _, _, elems, rest, _, _, hcs, hx, _, _, _, hlen, _⟩
  · cases hcs; exact Nat.zero_le _
  · cases hcs
    obtain ⟨rfl, rfl⟩ := Prod.mk.inj hx
    have := sized_slice hz hts hds ht
    rw [hb, List.length_map, List.length_map, hlen] at this
    have hr : reachBytes = 140737488351232 := rfl
    omega
end Go.Proofs.Ytaobgofbhommcaa.Hv
