/-
  No cell of these rows narrows 'for every input' (looked for: loops, veiled, ifaces, maps, wideKeys, modest, calm, conditions, laid).
  DERIVED. THE GIVEN ROWS OF THIS SEAT. 4 by the template 'for every input the law returns true; each argument reads behind the call as it read before'; 0 by the template 'total and deterministic' (their statements: YtfcmjomnpahllaaTotals.lean).
  GIVEN WITH THE SEED: the statements are not yours to turn. If you find one false, say at which input.
  Laid BY PROGRAM, IN A SANDBOX (cutbox-rows.mjs): the forced cells as the released guide's own fill.sh prints them over the translation fc127f99f276e584… (all of the seat's roots in one cut). By AI agents, Wed Nov 11 2026. No macro, syntax, notation, axiom, sorry.
-/
import Derived.Test.YtfcmjomnpahllaaChecked
import GoSem.Claim
import GoSem.ClaimJoined
import GoSem.ClaimMapViews
import Derived.JoinedTies
import Derived.KernelRfl
namespace Go.Proofs.Ytfcmjomnpahllaa
/- THE CELL 'sum', in the pinned program and in every row, IS THE sha256 OF THE DUMP (.gsa) THAT YtfcmjomnpahllaaProg.lean LOADS. Nothing in Lean hashes anything: it is a label: what it is worth is what the hold of that sum in a sandbox is worth. -/
noncomputable def Try.pinned : Pinned := { name := "ytfcmjomnpahllaa", sum := "fc127f99f276e5841a6c05c2747988d5cfc789106fca3d065fbe777092c42008", checked := Try.checked }
namespace Rows
def none {H : Type} : Left H := { results := [], args := [] }

/-- 'rampartlaw10.WalTorn': WHATEVER THE INPUT: true; the input reads as it did. -/
def walTornSpec : ChangeSpec := { name := "walTorn", fn := fun _ => fun
  | [d1, d2, d3] => { results := [.lit (.bool true)], args := [d1, d2, d3] }
  | _ => none }
def walTornRow : OpenClaim := { program := "ytfcmjomnpahllaa", sum := "fc127f99f276e5841a6c05c2747988d5cfc789106fca3d065fbe777092c42008", func := "rampart/rampartlaw10.WalTorn", spec := "walTorn", unfollowed := true, recurses := true, apart := false }
def WalTornSaid : Prop := walTornRow.holds Try.pinned (OpenSpec.ofChange walTornSpec)

/-- ITS FALSE NEIGHBOUR: 'it returns false'. Refute it at one input. -/
def walTornWrong : ChangeSpec := { name := "walTorn", fn := fun _ => fun
  | [d1, d2, d3] => { results := [.lit (.bool false)], args := [d1, d2, d3] }
  | _ => none }
def WalTornWrongFalsely : Prop := walTornRow.holds Try.pinned (OpenSpec.ofChange walTornWrong)

/-- 'rampartlaw10.WalMemory': WHATEVER THE INPUT: true; the input reads as it did. -/
def walMemorySpec : ChangeSpec := { name := "walMemory", fn := fun _ => fun
  | [d] => { results := [.lit (.bool true)], args := [d] }
  | _ => none }
def walMemoryRow : OpenClaim := { program := "ytfcmjomnpahllaa", sum := "fc127f99f276e5841a6c05c2747988d5cfc789106fca3d065fbe777092c42008", func := "rampart/rampartlaw10.WalMemory", spec := "walMemory", unfollowed := true, recurses := true, apart := false }
def WalMemorySaid : Prop := walMemoryRow.holds Try.pinned (OpenSpec.ofChange walMemorySpec)

/-- ITS FALSE NEIGHBOUR: 'it returns false'. Refute it at one input. -/
def walMemoryWrong : ChangeSpec := { name := "walMemory", fn := fun _ => fun
  | [d] => { results := [.lit (.bool false)], args := [d] }
  | _ => none }
def WalMemoryWrongFalsely : Prop := walMemoryRow.holds Try.pinned (OpenSpec.ofChange walMemoryWrong)

/-- 'rampartlaw10.WalKeeps': WHATEVER THE INPUT: true; the input reads as it did. -/
def walKeepsSpec : ChangeSpec := { name := "walKeeps", fn := fun _ => fun
  | [d] => { results := [.lit (.bool true)], args := [d] }
  | _ => none }
def walKeepsRow : OpenClaim := { program := "ytfcmjomnpahllaa", sum := "fc127f99f276e5841a6c05c2747988d5cfc789106fca3d065fbe777092c42008", func := "rampart/rampartlaw10.WalKeeps", spec := "walKeeps", unfollowed := true, recurses := true, apart := false }
def WalKeepsSaid : Prop := walKeepsRow.holds Try.pinned (OpenSpec.ofChange walKeepsSpec)

/-- ITS FALSE NEIGHBOUR: 'it returns false'. Refute it at one input. -/
def walKeepsWrong : ChangeSpec := { name := "walKeeps", fn := fun _ => fun
  | [d] => { results := [.lit (.bool false)], args := [d] }
  | _ => none }
def WalKeepsWrongFalsely : Prop := walKeepsRow.holds Try.pinned (OpenSpec.ofChange walKeepsWrong)

/-- 'rampartlaw10.WalRefused': WHATEVER THE INPUT: true; the input reads as it did. -/
def walRefusedSpec : ChangeSpec := { name := "walRefused", fn := fun _ => fun
  | [d1, d2] => { results := [.lit (.bool true)], args := [d1, d2] }
  | _ => none }
def walRefusedRow : OpenClaim := { program := "ytfcmjomnpahllaa", sum := "fc127f99f276e5841a6c05c2747988d5cfc789106fca3d065fbe777092c42008", func := "rampart/rampartlaw10.WalRefused", spec := "walRefused", unfollowed := true, recurses := true, apart := false }
def WalRefusedSaid : Prop := walRefusedRow.holds Try.pinned (OpenSpec.ofChange walRefusedSpec)

/-- ITS FALSE NEIGHBOUR: 'it returns false'. Refute it at one input. -/
def walRefusedWrong : ChangeSpec := { name := "walRefused", fn := fun _ => fun
  | [d1, d2] => { results := [.lit (.bool false)], args := [d1, d2] }
  | _ => none }
def WalRefusedWrongFalsely : Prop := walRefusedRow.holds Try.pinned (OpenSpec.ofChange walRefusedWrong)

/- THE SECOND FORM. 'bulk': how many values and letters a reading holds, each counted each time it is reached (what is shared counts as often as it is met; a slice's spare places count too). A statement '..UptoSaid' is the law's where the arguments, and the package variables that the reading takes, are together of bulk at most 1048576: NARROWER than '..Said'. Prove '..Said' where nothing that the law and all that it calls make is longer than what came in: it says more and counts as full. Else prove '..UptoSaid'. A law counts once. -/
mutual
def uptoBulk {H : Type} : DataW H → Nat
  | .lit (.string bytes) => bytes.length + 1
  | .lit _ => 1
  | .nil => 1
  | .ptr d => uptoBulk d + 1
  | .slice elems spare => uptoBulkAll elems + uptoBulkAll spare + 1
  | .agg parts => uptoBulkAll parts + 1
  | .iface _ d => uptoBulk d + 1
  | .map entries => uptoBulkEntries entries + 1
  | .held _ => 1
def uptoBulkAll {H : Type} : List (DataW H) → Nat
  | [] => 0
  | d :: r => uptoBulk d + uptoBulkAll r
def uptoBulkEntries {H : Type} : List (Lit × DataW H) → Nat
  | [] => 0
  | x :: r => uptoBulkEntry x + uptoBulkEntries r
def uptoBulkEntry {H : Type} : Lit × DataW H → Nat
  | (.string bytes, d) => bytes.length + uptoBulk d + 1
  | (_, d) => uptoBulk d + 1
 end
def uptoSmall : (H : Type) → List (DataW H) → Bool := fun _ ds => decide (uptoBulkAll ds ≤ 1048576)
def OpenSpec.upto (s : _root_.Go.ChangeSpec) : _root_.Go.OpenSpec := { _root_.Go.OpenSpec.ofChange s with cond := some uptoSmall }

/-- 'rampartlaw10.WalTorn', WHERE WHAT IT READS IS OF BULK AT MOST 1048576: true; the input reads as it did. -/
def walTornUptoRow : OpenClaim := { program := "ytfcmjomnpahllaa", sum := "fc127f99f276e5841a6c05c2747988d5cfc789106fca3d065fbe777092c42008", func := "rampart/rampartlaw10.WalTorn", spec := "walTorn", unfollowed := true, recurses := true, apart := false, narrowed := true }
def WalTornUptoSaid : Prop := walTornUptoRow.holds Try.pinned (OpenSpec.upto walTornSpec)

/-- 'rampartlaw10.WalMemory', WHERE WHAT IT READS IS OF BULK AT MOST 1048576: true; the input reads as it did. -/
def walMemoryUptoRow : OpenClaim := { program := "ytfcmjomnpahllaa", sum := "fc127f99f276e5841a6c05c2747988d5cfc789106fca3d065fbe777092c42008", func := "rampart/rampartlaw10.WalMemory", spec := "walMemory", unfollowed := true, recurses := true, apart := false, narrowed := true }
def WalMemoryUptoSaid : Prop := walMemoryUptoRow.holds Try.pinned (OpenSpec.upto walMemorySpec)

/-- 'rampartlaw10.WalKeeps', WHERE WHAT IT READS IS OF BULK AT MOST 1048576: true; the input reads as it did. -/
def walKeepsUptoRow : OpenClaim := { program := "ytfcmjomnpahllaa", sum := "fc127f99f276e5841a6c05c2747988d5cfc789106fca3d065fbe777092c42008", func := "rampart/rampartlaw10.WalKeeps", spec := "walKeeps", unfollowed := true, recurses := true, apart := false, narrowed := true }
def WalKeepsUptoSaid : Prop := walKeepsUptoRow.holds Try.pinned (OpenSpec.upto walKeepsSpec)

/-- 'rampartlaw10.WalRefused', WHERE WHAT IT READS IS OF BULK AT MOST 1048576: true; the input reads as it did. -/
def walRefusedUptoRow : OpenClaim := { program := "ytfcmjomnpahllaa", sum := "fc127f99f276e5841a6c05c2747988d5cfc789106fca3d065fbe777092c42008", func := "rampart/rampartlaw10.WalRefused", spec := "walRefused", unfollowed := true, recurses := true, apart := false, narrowed := true }
def WalRefusedUptoSaid : Prop := walRefusedUptoRow.holds Try.pinned (OpenSpec.upto walRefusedSpec)

end Rows
end Go.Proofs.Ytfcmjomnpahllaa
