/-
  No cell of these rows narrows 'for every input' (looked for: loops, veiled, ifaces, maps, wideKeys, modest, calm, conditions, laid).
  DERIVED. THE GIVEN ROWS OF THIS SEAT. 6 by the template 'for every input the law returns true; each argument reads behind the call as it read before'; 0 by the template 'total and deterministic' (their statements: YtocejipjnklieaaTotals.lean).
  GIVEN WITH THE SEED: the statements are not yours to turn. If you find one false, say at which input.
  Laid BY PROGRAM, IN A SANDBOX (cutbox-rows.mjs): the forced cells as the released guide's own fill.sh prints them over the translation a96fd40f0e652d25… (all of the seat's roots in one cut). By AI agents, Wed Nov 11 2026. No macro, syntax, notation, axiom, sorry.
-/
import Derived.Test.YtocejipjnklieaaChecked
import GoSem.Claim
import GoSem.ClaimJoined
import GoSem.ClaimMapViews
import Derived.JoinedTies
import Derived.KernelRfl
namespace Go.Proofs.Ytocejipjnklieaa
/- THE CELL 'sum', in the pinned program and in every row, IS THE sha256 OF THE DUMP (.gsa) THAT YtocejipjnklieaaProg.lean LOADS. Nothing in Lean hashes anything: it is a label: what it is worth is what the hold of that sum in a sandbox is worth. -/
noncomputable def Try.pinned : Pinned := { name := "ytocejipjnklieaa", sum := "a96fd40f0e652d2513ecc966542f01fb4e366587c516bc65cd6c0511df03c3e6", checked := Try.checked }
namespace Rows
def none {H : Type} : Left H := { results := [], args := [] }

/-- 'rampartlaw06.DiskSwaps': WHATEVER THE INPUT: true; the input reads as it did. -/
def diskSwapsSpec : ChangeSpec := { name := "diskSwaps", fn := fun _ => fun
  | [d1, d2, d3, d4, d5] => { results := [.lit (.bool true)], args := [d1, d2, d3, d4, d5] }
  | _ => none }
def diskSwapsRow : OpenClaim := { program := "ytocejipjnklieaa", sum := "a96fd40f0e652d2513ecc966542f01fb4e366587c516bc65cd6c0511df03c3e6", func := "rampart/rampartlaw06.DiskSwaps", spec := "diskSwaps", apart := false }
def DiskSwapsSaid : Prop := diskSwapsRow.holds Try.pinned (OpenSpec.ofChange diskSwapsSpec)

/-- ITS FALSE NEIGHBOUR: 'it returns false'. Refute it at one input. -/
def diskSwapsWrong : ChangeSpec := { name := "diskSwaps", fn := fun _ => fun
  | [d1, d2, d3, d4, d5] => { results := [.lit (.bool false)], args := [d1, d2, d3, d4, d5] }
  | _ => none }
def DiskSwapsWrongFalsely : Prop := diskSwapsRow.holds Try.pinned (OpenSpec.ofChange diskSwapsWrong)

/-- 'rampartlaw06.DiskMemory': WHATEVER THE INPUT: true; the input reads as it did. -/
def diskMemorySpec : ChangeSpec := { name := "diskMemory", fn := fun _ => fun
  | [d1, d2] => { results := [.lit (.bool true)], args := [d1, d2] }
  | _ => none }
def diskMemoryRow : OpenClaim := { program := "ytocejipjnklieaa", sum := "a96fd40f0e652d2513ecc966542f01fb4e366587c516bc65cd6c0511df03c3e6", func := "rampart/rampartlaw06.DiskMemory", spec := "diskMemory", unfollowed := true, recurses := true, apart := false }
def DiskMemorySaid : Prop := diskMemoryRow.holds Try.pinned (OpenSpec.ofChange diskMemorySpec)

/-- ITS FALSE NEIGHBOUR: 'it returns false'. Refute it at one input. -/
def diskMemoryWrong : ChangeSpec := { name := "diskMemory", fn := fun _ => fun
  | [d1, d2] => { results := [.lit (.bool false)], args := [d1, d2] }
  | _ => none }
def DiskMemoryWrongFalsely : Prop := diskMemoryRow.holds Try.pinned (OpenSpec.ofChange diskMemoryWrong)

/-- 'rampartlaw06.DiskPlays': WHATEVER THE INPUT: true; the input reads as it did. -/
def diskPlaysSpec : ChangeSpec := { name := "diskPlays", fn := fun _ => fun
  | [d] => { results := [.lit (.bool true)], args := [d] }
  | _ => none }
def diskPlaysRow : OpenClaim := { program := "ytocejipjnklieaa", sum := "a96fd40f0e652d2513ecc966542f01fb4e366587c516bc65cd6c0511df03c3e6", func := "rampart/rampartlaw06.DiskPlays", spec := "diskPlays", unfollowed := true, recurses := true, apart := false }
def DiskPlaysSaid : Prop := diskPlaysRow.holds Try.pinned (OpenSpec.ofChange diskPlaysSpec)

/-- ITS FALSE NEIGHBOUR: 'it returns false'. Refute it at one input. -/
def diskPlaysWrong : ChangeSpec := { name := "diskPlays", fn := fun _ => fun
  | [d] => { results := [.lit (.bool false)], args := [d] }
  | _ => none }
def DiskPlaysWrongFalsely : Prop := diskPlaysRow.holds Try.pinned (OpenSpec.ofChange diskPlaysWrong)

/-- 'rampartlaw06.DiskLasts': WHATEVER THE INPUT: true; the input reads as it did. -/
def diskLastsSpec : ChangeSpec := { name := "diskLasts", fn := fun _ => fun
  | [d1, d2, d3] => { results := [.lit (.bool true)], args := [d1, d2, d3] }
  | _ => none }
def diskLastsRow : OpenClaim := { program := "ytocejipjnklieaa", sum := "a96fd40f0e652d2513ecc966542f01fb4e366587c516bc65cd6c0511df03c3e6", func := "rampart/rampartlaw06.DiskLasts", spec := "diskLasts", unfollowed := true, recurses := true, apart := false }
def DiskLastsSaid : Prop := diskLastsRow.holds Try.pinned (OpenSpec.ofChange diskLastsSpec)

/-- ITS FALSE NEIGHBOUR: 'it returns false'. Refute it at one input. -/
def diskLastsWrong : ChangeSpec := { name := "diskLasts", fn := fun _ => fun
  | [d1, d2, d3] => { results := [.lit (.bool false)], args := [d1, d2, d3] }
  | _ => none }
def DiskLastsWrongFalsely : Prop := diskLastsRow.holds Try.pinned (OpenSpec.ofChange diskLastsWrong)

/-- 'rampartlaw06.DiskArms': WHATEVER THE INPUT: true; the input reads as it did. -/
def diskArmsSpec : ChangeSpec := { name := "diskArms", fn := fun _ => fun
  | [d1, d2, d3, d4] => { results := [.lit (.bool true)], args := [d1, d2, d3, d4] }
  | _ => none }
def diskArmsRow : OpenClaim := { program := "ytocejipjnklieaa", sum := "a96fd40f0e652d2513ecc966542f01fb4e366587c516bc65cd6c0511df03c3e6", func := "rampart/rampartlaw06.DiskArms", spec := "diskArms", unfollowed := true, recurses := true, apart := false }
def DiskArmsSaid : Prop := diskArmsRow.holds Try.pinned (OpenSpec.ofChange diskArmsSpec)

/-- ITS FALSE NEIGHBOUR: 'it returns false'. Refute it at one input. -/
def diskArmsWrong : ChangeSpec := { name := "diskArms", fn := fun _ => fun
  | [d1, d2, d3, d4] => { results := [.lit (.bool false)], args := [d1, d2, d3, d4] }
  | _ => none }
def DiskArmsWrongFalsely : Prop := diskArmsRow.holds Try.pinned (OpenSpec.ofChange diskArmsWrong)

/-- 'rampartlaw06.DiskRefused': WHATEVER THE INPUT: true; the input reads as it did. -/
def diskRefusedSpec : ChangeSpec := { name := "diskRefused", fn := fun _ => fun
  | [d1, d2] => { results := [.lit (.bool true)], args := [d1, d2] }
  | _ => none }
def diskRefusedRow : OpenClaim := { program := "ytocejipjnklieaa", sum := "a96fd40f0e652d2513ecc966542f01fb4e366587c516bc65cd6c0511df03c3e6", func := "rampart/rampartlaw06.DiskRefused", spec := "diskRefused", unfollowed := true, recurses := true, apart := false }
def DiskRefusedSaid : Prop := diskRefusedRow.holds Try.pinned (OpenSpec.ofChange diskRefusedSpec)

/-- ITS FALSE NEIGHBOUR: 'it returns false'. Refute it at one input. -/
def diskRefusedWrong : ChangeSpec := { name := "diskRefused", fn := fun _ => fun
  | [d1, d2] => { results := [.lit (.bool false)], args := [d1, d2] }
  | _ => none }
def DiskRefusedWrongFalsely : Prop := diskRefusedRow.holds Try.pinned (OpenSpec.ofChange diskRefusedWrong)

/- THE SECOND FORM. 'bulk': how many values and letters a reading holds, each counted each time it is reached (what is shared counts as often as it is met; a slice's spare places count too). A statement '..UptoSaid' is the law's where the arguments, and the package variables that the reading takes, are together of bulk at most 1048576: NARROWER than '..Said'. Prove '..Said' where nothing that the law and all that it calls make is longer than what came in: it says more and counts as full. Else prove '..UptoSaid'. A law counts once. -/
mutual
def uptoBulk {H : Type} : DataW H → Nat
  | .lit (.string bytes) => bytes.length + 1
  | .lit _ => 1
  | .nil => 1
  | .ptr d => uptoBulk d + 1
  | .slice elems spare => uptoBulkAll elems + uptoBulkAll spare + 1
  | .agg parts => uptoBulkAll parts + 1
  | .iface _ d => uptoBulk d + 1
  | .map entries => uptoBulkEntries entries + 1
  | .held _ => 1
def uptoBulkAll {H : Type} : List (DataW H) → Nat
  | [] => 0
  | d :: r => uptoBulk d + uptoBulkAll r
def uptoBulkEntries {H : Type} : List (Lit × DataW H) → Nat
  | [] => 0
  | x :: r => uptoBulkEntry x + uptoBulkEntries r
def uptoBulkEntry {H : Type} : Lit × DataW H → Nat
  | (.string bytes, d) => bytes.length + uptoBulk d + 1
  | (_, d) => uptoBulk d + 1
 end
def uptoSmall : (H : Type) → List (DataW H) → Bool := fun _ ds => decide (uptoBulkAll ds ≤ 1048576)
def OpenSpec.upto (s : _root_.Go.ChangeSpec) : _root_.Go.OpenSpec := { _root_.Go.OpenSpec.ofChange s with cond := some uptoSmall }

/-- 'rampartlaw06.DiskSwaps', WHERE WHAT IT READS IS OF BULK AT MOST 1048576: true; the input reads as it did. -/
def diskSwapsUptoRow : OpenClaim := { program := "ytocejipjnklieaa", sum := "a96fd40f0e652d2513ecc966542f01fb4e366587c516bc65cd6c0511df03c3e6", func := "rampart/rampartlaw06.DiskSwaps", spec := "diskSwaps", apart := false, narrowed := true }
def DiskSwapsUptoSaid : Prop := diskSwapsUptoRow.holds Try.pinned (OpenSpec.upto diskSwapsSpec)

/-- 'rampartlaw06.DiskMemory', WHERE WHAT IT READS IS OF BULK AT MOST 1048576: true; the input reads as it did. -/
def diskMemoryUptoRow : OpenClaim := { program := "ytocejipjnklieaa", sum := "a96fd40f0e652d2513ecc966542f01fb4e366587c516bc65cd6c0511df03c3e6", func := "rampart/rampartlaw06.DiskMemory", spec := "diskMemory", unfollowed := true, recurses := true, apart := false, narrowed := true }
def DiskMemoryUptoSaid : Prop := diskMemoryUptoRow.holds Try.pinned (OpenSpec.upto diskMemorySpec)

/-- 'rampartlaw06.DiskPlays', WHERE WHAT IT READS IS OF BULK AT MOST 1048576: true; the input reads as it did. -/
def diskPlaysUptoRow : OpenClaim := { program := "ytocejipjnklieaa", sum := "a96fd40f0e652d2513ecc966542f01fb4e366587c516bc65cd6c0511df03c3e6", func := "rampart/rampartlaw06.DiskPlays", spec := "diskPlays", unfollowed := true, recurses := true, apart := false, narrowed := true }
def DiskPlaysUptoSaid : Prop := diskPlaysUptoRow.holds Try.pinned (OpenSpec.upto diskPlaysSpec)

/-- 'rampartlaw06.DiskLasts', WHERE WHAT IT READS IS OF BULK AT MOST 1048576: true; the input reads as it did. -/
def diskLastsUptoRow : OpenClaim := { program := "ytocejipjnklieaa", sum := "a96fd40f0e652d2513ecc966542f01fb4e366587c516bc65cd6c0511df03c3e6", func := "rampart/rampartlaw06.DiskLasts", spec := "diskLasts", unfollowed := true, recurses := true, apart := false, narrowed := true }
def DiskLastsUptoSaid : Prop := diskLastsUptoRow.holds Try.pinned (OpenSpec.upto diskLastsSpec)

/-- 'rampartlaw06.DiskArms', WHERE WHAT IT READS IS OF BULK AT MOST 1048576: true; the input reads as it did. -/
def diskArmsUptoRow : OpenClaim := { program := "ytocejipjnklieaa", sum := "a96fd40f0e652d2513ecc966542f01fb4e366587c516bc65cd6c0511df03c3e6", func := "rampart/rampartlaw06.DiskArms", spec := "diskArms", unfollowed := true, recurses := true, apart := false, narrowed := true }
def DiskArmsUptoSaid : Prop := diskArmsUptoRow.holds Try.pinned (OpenSpec.upto diskArmsSpec)

/-- 'rampartlaw06.DiskRefused', WHERE WHAT IT READS IS OF BULK AT MOST 1048576: true; the input reads as it did. -/
def diskRefusedUptoRow : OpenClaim := { program := "ytocejipjnklieaa", sum := "a96fd40f0e652d2513ecc966542f01fb4e366587c516bc65cd6c0511df03c3e6", func := "rampart/rampartlaw06.DiskRefused", spec := "diskRefused", unfollowed := true, recurses := true, apart := false, narrowed := true }
def DiskRefusedUptoSaid : Prop := diskRefusedUptoRow.holds Try.pinned (OpenSpec.upto diskRefusedSpec)

end Rows
end Go.Proofs.Ytocejipjnklieaa
