/-
  No cell of these rows narrows 'for every input' (looked for: loops, veiled, ifaces, maps, wideKeys, modest, calm, conditions, laid).
  DERIVED. THE GIVEN ROWS OF THIS SEAT. 4 by the template 'for every input the law returns true; each argument reads behind the call as it read before'; 0 by the template 'total and deterministic' (their statements: YtmcadbaejedfnaaTotals.lean).
  GIVEN WITH THE SEED: the statements are not yours to turn. If you find one false, say at which input.
  Laid BY PROGRAM, IN A SANDBOX (cutbox-rows.mjs): the forced cells as the released guide's own fill.sh prints them over the translation bfca5d430e160282… (all of the seat's roots in one cut). By AI agents, Wed Nov 11 2026. No macro, syntax, notation, axiom, sorry.
-/
import Derived.Test.YtmcadbaejedfnaaChecked
import GoSem.Claim
import GoSem.ClaimJoined
import GoSem.ClaimMapViews
import Derived.JoinedTies
import Derived.KernelRfl
namespace Go.Proofs.Ytmcadbaejedfnaa
/- THE CELL 'sum', in the pinned program and in every row, IS THE sha256 OF THE DUMP (.gsa) THAT YtmcadbaejedfnaaProg.lean LOADS. Nothing in Lean hashes anything: it is a label: what it is worth is what the hold of that sum in a sandbox is worth. -/
noncomputable def Try.pinned : Pinned := { name := "ytmcadbaejedfnaa", sum := "bfca5d430e16028224d156466ec6916db9fbacb1785932cd1305551d9c87aa15", checked := Try.checked }
namespace Rows
def none {H : Type} : Left H := { results := [], args := [] }

/-- 'rampartlaw01.SumPlays': WHATEVER THE INPUT: true; the input reads as it did. -/
def sumPlaysSpec : ChangeSpec := { name := "sumPlays", fn := fun _ => fun
  | [d] => { results := [.lit (.bool true)], args := [d] }
  | _ => none }
def sumPlaysRow : OpenClaim := { program := "ytmcadbaejedfnaa", sum := "bfca5d430e16028224d156466ec6916db9fbacb1785932cd1305551d9c87aa15", func := "rampart/rampartlaw01.SumPlays", spec := "sumPlays", apart := false }
def SumPlaysSaid : Prop := sumPlaysRow.holds Try.pinned (OpenSpec.ofChange sumPlaysSpec)

/-- ITS FALSE NEIGHBOUR: 'it returns false'. Refute it at one input. -/
def sumPlaysWrong : ChangeSpec := { name := "sumPlays", fn := fun _ => fun
  | [d] => { results := [.lit (.bool false)], args := [d] }
  | _ => none }
def SumPlaysWrongFalsely : Prop := sumPlaysRow.holds Try.pinned (OpenSpec.ofChange sumPlaysWrong)

/-- 'rampartlaw01.SumPieces': WHATEVER THE INPUT: true; the input reads as it did. -/
def sumPiecesSpec : ChangeSpec := { name := "sumPieces", fn := fun _ => fun
  | [d1, d2, d3] => { results := [.lit (.bool true)], args := [d1, d2, d3] }
  | _ => none }
def sumPiecesRow : OpenClaim := { program := "ytmcadbaejedfnaa", sum := "bfca5d430e16028224d156466ec6916db9fbacb1785932cd1305551d9c87aa15", func := "rampart/rampartlaw01.SumPieces", spec := "sumPieces", apart := false }
def SumPiecesSaid : Prop := sumPiecesRow.holds Try.pinned (OpenSpec.ofChange sumPiecesSpec)

/-- ITS FALSE NEIGHBOUR: 'it returns false'. Refute it at one input. -/
def sumPiecesWrong : ChangeSpec := { name := "sumPieces", fn := fun _ => fun
  | [d1, d2, d3] => { results := [.lit (.bool false)], args := [d1, d2, d3] }
  | _ => none }
def SumPiecesWrongFalsely : Prop := sumPiecesRow.holds Try.pinned (OpenSpec.ofChange sumPiecesWrong)

/-- 'rampartlaw01.SumFar': WHATEVER THE INPUT: true; the input reads as it did. -/
def sumFarSpec : ChangeSpec := { name := "sumFar", fn := fun _ => fun
  | [d1, d2, d3, d4, d5] => { results := [.lit (.bool true)], args := [d1, d2, d3, d4, d5] }
  | _ => none }
def sumFarRow : OpenClaim := { program := "ytmcadbaejedfnaa", sum := "bfca5d430e16028224d156466ec6916db9fbacb1785932cd1305551d9c87aa15", func := "rampart/rampartlaw01.SumFar", spec := "sumFar", apart := false }
def SumFarSaid : Prop := sumFarRow.holds Try.pinned (OpenSpec.ofChange sumFarSpec)

/-- ITS FALSE NEIGHBOUR: 'it returns false'. Refute it at one input. -/
def sumFarWrong : ChangeSpec := { name := "sumFar", fn := fun _ => fun
  | [d1, d2, d3, d4, d5] => { results := [.lit (.bool false)], args := [d1, d2, d3, d4, d5] }
  | _ => none }
def SumFarWrongFalsely : Prop := sumFarRow.holds Try.pinned (OpenSpec.ofChange sumFarWrong)

/-- 'rampartlaw01.SumBursts': WHATEVER THE INPUT: true; the input reads as it did. -/
def sumBurstsSpec : ChangeSpec := { name := "sumBursts", fn := fun _ => fun
  | [d1, d2, d3, d4] => { results := [.lit (.bool true)], args := [d1, d2, d3, d4] }
  | _ => none }
def sumBurstsRow : OpenClaim := { program := "ytmcadbaejedfnaa", sum := "bfca5d430e16028224d156466ec6916db9fbacb1785932cd1305551d9c87aa15", func := "rampart/rampartlaw01.SumBursts", spec := "sumBursts", apart := false }
def SumBurstsSaid : Prop := sumBurstsRow.holds Try.pinned (OpenSpec.ofChange sumBurstsSpec)

/-- ITS FALSE NEIGHBOUR: 'it returns false'. Refute it at one input. -/
def sumBurstsWrong : ChangeSpec := { name := "sumBursts", fn := fun _ => fun
  | [d1, d2, d3, d4] => { results := [.lit (.bool false)], args := [d1, d2, d3, d4] }
  | _ => none }
def SumBurstsWrongFalsely : Prop := sumBurstsRow.holds Try.pinned (OpenSpec.ofChange sumBurstsWrong)

/- THE SECOND FORM. 'bulk': how many values and letters a reading holds, each counted each time it is reached (what is shared counts as often as it is met; a slice's spare places count too). A statement '..UptoSaid' is the law's where the arguments, and the package variables that the reading takes, are together of bulk at most 1048576: NARROWER than '..Said'. Prove '..Said' where nothing that the law and all that it calls make is longer than what came in: it says more and counts as full. Else prove '..UptoSaid'. A law counts once. -/
mutual
def uptoBulk {H : Type} : DataW H → Nat
  | .lit (.string bytes) => bytes.length + 1
  | .lit _ => 1
  | .nil => 1
  | .ptr d => uptoBulk d + 1
  | .slice elems spare => uptoBulkAll elems + uptoBulkAll spare + 1
  | .agg parts => uptoBulkAll parts + 1
  | .iface _ d => uptoBulk d + 1
  | .map entries => uptoBulkEntries entries + 1
  | .held _ => 1
def uptoBulkAll {H : Type} : List (DataW H) → Nat
  | [] => 0
  | d :: r => uptoBulk d + uptoBulkAll r
def uptoBulkEntries {H : Type} : List (Lit × DataW H) → Nat
  | [] => 0
  | x :: r => uptoBulkEntry x + uptoBulkEntries r
def uptoBulkEntry {H : Type} : Lit × DataW H → Nat
  | (.string bytes, d) => bytes.length + uptoBulk d + 1
  | (_, d) => uptoBulk d + 1
 end
def uptoSmall : (H : Type) → List (DataW H) → Bool := fun _ ds => decide (uptoBulkAll ds ≤ 1048576)
def OpenSpec.upto (s : _root_.Go.ChangeSpec) : _root_.Go.OpenSpec := { _root_.Go.OpenSpec.ofChange s with cond := some uptoSmall }

/-- 'rampartlaw01.SumPlays', WHERE WHAT IT READS IS OF BULK AT MOST 1048576: true; the input reads as it did. -/
def sumPlaysUptoRow : OpenClaim := { program := "ytmcadbaejedfnaa", sum := "bfca5d430e16028224d156466ec6916db9fbacb1785932cd1305551d9c87aa15", func := "rampart/rampartlaw01.SumPlays", spec := "sumPlays", apart := false, narrowed := true }
def SumPlaysUptoSaid : Prop := sumPlaysUptoRow.holds Try.pinned (OpenSpec.upto sumPlaysSpec)

/-- 'rampartlaw01.SumPieces', WHERE WHAT IT READS IS OF BULK AT MOST 1048576: true; the input reads as it did. -/
def sumPiecesUptoRow : OpenClaim := { program := "ytmcadbaejedfnaa", sum := "bfca5d430e16028224d156466ec6916db9fbacb1785932cd1305551d9c87aa15", func := "rampart/rampartlaw01.SumPieces", spec := "sumPieces", apart := false, narrowed := true }
def SumPiecesUptoSaid : Prop := sumPiecesUptoRow.holds Try.pinned (OpenSpec.upto sumPiecesSpec)

/-- 'rampartlaw01.SumFar', WHERE WHAT IT READS IS OF BULK AT MOST 1048576: true; the input reads as it did. -/
def sumFarUptoRow : OpenClaim := { program := "ytmcadbaejedfnaa", sum := "bfca5d430e16028224d156466ec6916db9fbacb1785932cd1305551d9c87aa15", func := "rampart/rampartlaw01.SumFar", spec := "sumFar", apart := false, narrowed := true }
def SumFarUptoSaid : Prop := sumFarUptoRow.holds Try.pinned (OpenSpec.upto sumFarSpec)

/-- 'rampartlaw01.SumBursts', WHERE WHAT IT READS IS OF BULK AT MOST 1048576: true; the input reads as it did. -/
def sumBurstsUptoRow : OpenClaim := { program := "ytmcadbaejedfnaa", sum := "bfca5d430e16028224d156466ec6916db9fbacb1785932cd1305551d9c87aa15", func := "rampart/rampartlaw01.SumBursts", spec := "sumBursts", apart := false, narrowed := true }
def SumBurstsUptoSaid : Prop := sumBurstsUptoRow.holds Try.pinned (OpenSpec.upto sumBurstsSpec)

end Rows
end Go.Proofs.Ytmcadbaejedfnaa
