/-
  No cell of these rows narrows 'for every input' (looked for: loops, veiled, ifaces, maps, wideKeys, modest, calm, conditions, laid).
  DERIVED. THE GIVEN ROWS OF THIS SEAT. 7 by the template 'for every input the law returns true; each argument reads behind the call as it read before'; 0 by the template 'total and deterministic' (their statements: YtokfmkfobjkkpaaTotals.lean).
  GIVEN WITH THE SEED: the statements are not yours to turn. If you find one false, say at which input.
  Laid BY PROGRAM, IN A SANDBOX (cutbox-rows.mjs): the forced cells as the released guide's own fill.sh prints them over the translation 98482b4709814c2e… (all of the seat's roots in one cut). By AI agents, Wed Nov 11 2026. No macro, syntax, notation, axiom, sorry.
-/
import Derived.Test.YtokfmkfobjkkpaaChecked
import GoSem.Claim
import GoSem.ClaimJoined
import GoSem.ClaimMapViews
import Derived.JoinedTies
import Derived.KernelRfl
namespace Go.Proofs.Ytokfmkfobjkkpaa
/- THE CELL 'sum', in the pinned program and in every row, IS THE sha256 OF THE DUMP (.gsa) THAT YtokfmkfobjkkpaaProg.lean LOADS. Nothing in Lean hashes anything: it is a label: what it is worth is what the hold of that sum in a sandbox is worth. -/
noncomputable def Try.pinned : Pinned := { name := "ytokfmkfobjkkpaa", sum := "98482b4709814c2e5abb0e979f184095c865b4a9f8ecbf060755f90a2d00601d", checked := Try.checked }
namespace Rows
def none {H : Type} : Left H := { results := [], args := [] }

/-- 'rampartlaw09.RecordBuilds': WHATEVER THE INPUT: true; the input reads as it did. -/
def recordBuildsSpec : ChangeSpec := { name := "recordBuilds", fn := fun _ => fun
  | [d] => { results := [.lit (.bool true)], args := [d] }
  | _ => none }
def recordBuildsRow : OpenClaim := { program := "ytokfmkfobjkkpaa", sum := "98482b4709814c2e5abb0e979f184095c865b4a9f8ecbf060755f90a2d00601d", func := "rampart/rampartlaw09.RecordBuilds", spec := "recordBuilds", unfollowed := true, recurses := true, apart := false }
def RecordBuildsSaid : Prop := recordBuildsRow.holds Try.pinned (OpenSpec.ofChange recordBuildsSpec)

/-- ITS FALSE NEIGHBOUR: 'it returns false'. Refute it at one input. -/
def recordBuildsWrong : ChangeSpec := { name := "recordBuilds", fn := fun _ => fun
  | [d] => { results := [.lit (.bool false)], args := [d] }
  | _ => none }
def RecordBuildsWrongFalsely : Prop := recordBuildsRow.holds Try.pinned (OpenSpec.ofChange recordBuildsWrong)

/-- 'rampartlaw09.RecordBack': WHATEVER THE INPUT: true; the input reads as it did. -/
def recordBackSpec : ChangeSpec := { name := "recordBack", fn := fun _ => fun
  | [d1, d2, d3] => { results := [.lit (.bool true)], args := [d1, d2, d3] }
  | _ => none }
def recordBackRow : OpenClaim := { program := "ytokfmkfobjkkpaa", sum := "98482b4709814c2e5abb0e979f184095c865b4a9f8ecbf060755f90a2d00601d", func := "rampart/rampartlaw09.RecordBack", spec := "recordBack", unfollowed := true, recurses := true, apart := false }
def RecordBackSaid : Prop := recordBackRow.holds Try.pinned (OpenSpec.ofChange recordBackSpec)

/-- ITS FALSE NEIGHBOUR: 'it returns false'. Refute it at one input. -/
def recordBackWrong : ChangeSpec := { name := "recordBack", fn := fun _ => fun
  | [d1, d2, d3] => { results := [.lit (.bool false)], args := [d1, d2, d3] }
  | _ => none }
def RecordBackWrongFalsely : Prop := recordBackRow.holds Try.pinned (OpenSpec.ofChange recordBackWrong)

/-- 'rampartlaw09.RecordTold': WHATEVER THE INPUT: true; the input reads as it did. -/
def recordToldSpec : ChangeSpec := { name := "recordTold", fn := fun _ => fun
  | [d1, d2, d3] => { results := [.lit (.bool true)], args := [d1, d2, d3] }
  | _ => none }
def recordToldRow : OpenClaim := { program := "ytokfmkfobjkkpaa", sum := "98482b4709814c2e5abb0e979f184095c865b4a9f8ecbf060755f90a2d00601d", func := "rampart/rampartlaw09.RecordTold", spec := "recordTold", unfollowed := true, recurses := true, apart := false }
def RecordToldSaid : Prop := recordToldRow.holds Try.pinned (OpenSpec.ofChange recordToldSpec)

/-- ITS FALSE NEIGHBOUR: 'it returns false'. Refute it at one input. -/
def recordToldWrong : ChangeSpec := { name := "recordTold", fn := fun _ => fun
  | [d1, d2, d3] => { results := [.lit (.bool false)], args := [d1, d2, d3] }
  | _ => none }
def RecordToldWrongFalsely : Prop := recordToldRow.holds Try.pinned (OpenSpec.ofChange recordToldWrong)

/-- 'rampartlaw09.RecordNone': WHATEVER THE INPUT: true; the input reads as it did. -/
def recordNoneSpec : ChangeSpec := { name := "recordNone", fn := fun _ => fun
  | [d1, d2] => { results := [.lit (.bool true)], args := [d1, d2] }
  | _ => none }
def recordNoneRow : OpenClaim := { program := "ytokfmkfobjkkpaa", sum := "98482b4709814c2e5abb0e979f184095c865b4a9f8ecbf060755f90a2d00601d", func := "rampart/rampartlaw09.RecordNone", spec := "recordNone", unfollowed := true, recurses := true, apart := false }
def RecordNoneSaid : Prop := recordNoneRow.holds Try.pinned (OpenSpec.ofChange recordNoneSpec)

/-- ITS FALSE NEIGHBOUR: 'it returns false'. Refute it at one input. -/
def recordNoneWrong : ChangeSpec := { name := "recordNone", fn := fun _ => fun
  | [d1, d2] => { results := [.lit (.bool false)], args := [d1, d2] }
  | _ => none }
def RecordNoneWrongFalsely : Prop := recordNoneRow.holds Try.pinned (OpenSpec.ofChange recordNoneWrong)

/-- 'rampartlaw09.RecordParses': WHATEVER THE INPUT: true; the input reads as it did. -/
def recordParsesSpec : ChangeSpec := { name := "recordParses", fn := fun _ => fun
  | [d] => { results := [.lit (.bool true)], args := [d] }
  | _ => none }
def recordParsesRow : OpenClaim := { program := "ytokfmkfobjkkpaa", sum := "98482b4709814c2e5abb0e979f184095c865b4a9f8ecbf060755f90a2d00601d", func := "rampart/rampartlaw09.RecordParses", spec := "recordParses", unfollowed := true, recurses := true, apart := false }
def RecordParsesSaid : Prop := recordParsesRow.holds Try.pinned (OpenSpec.ofChange recordParsesSpec)

/-- ITS FALSE NEIGHBOUR: 'it returns false'. Refute it at one input. -/
def recordParsesWrong : ChangeSpec := { name := "recordParses", fn := fun _ => fun
  | [d] => { results := [.lit (.bool false)], args := [d] }
  | _ => none }
def RecordParsesWrongFalsely : Prop := recordParsesRow.holds Try.pinned (OpenSpec.ofChange recordParsesWrong)

/-- 'rampartlaw09.RecordTails': WHATEVER THE INPUT: true; the input reads as it did. -/
def recordTailsSpec : ChangeSpec := { name := "recordTails", fn := fun _ => fun
  | [d1, d2] => { results := [.lit (.bool true)], args := [d1, d2] }
  | _ => none }
def recordTailsRow : OpenClaim := { program := "ytokfmkfobjkkpaa", sum := "98482b4709814c2e5abb0e979f184095c865b4a9f8ecbf060755f90a2d00601d", func := "rampart/rampartlaw09.RecordTails", spec := "recordTails", unfollowed := true, recurses := true, apart := false }
def RecordTailsSaid : Prop := recordTailsRow.holds Try.pinned (OpenSpec.ofChange recordTailsSpec)

/-- ITS FALSE NEIGHBOUR: 'it returns false'. Refute it at one input. -/
def recordTailsWrong : ChangeSpec := { name := "recordTails", fn := fun _ => fun
  | [d1, d2] => { results := [.lit (.bool false)], args := [d1, d2] }
  | _ => none }
def RecordTailsWrongFalsely : Prop := recordTailsRow.holds Try.pinned (OpenSpec.ofChange recordTailsWrong)

/-- 'rampartlaw09.RecordMemory': WHATEVER THE INPUT: true; the input reads as it did. -/
def recordMemorySpec : ChangeSpec := { name := "recordMemory", fn := fun _ => fun
  | [d1, d2] => { results := [.lit (.bool true)], args := [d1, d2] }
  | _ => none }
def recordMemoryRow : OpenClaim := { program := "ytokfmkfobjkkpaa", sum := "98482b4709814c2e5abb0e979f184095c865b4a9f8ecbf060755f90a2d00601d", func := "rampart/rampartlaw09.RecordMemory", spec := "recordMemory", unfollowed := true, recurses := true, apart := false }
def RecordMemorySaid : Prop := recordMemoryRow.holds Try.pinned (OpenSpec.ofChange recordMemorySpec)

/-- ITS FALSE NEIGHBOUR: 'it returns false'. Refute it at one input. -/
def recordMemoryWrong : ChangeSpec := { name := "recordMemory", fn := fun _ => fun
  | [d1, d2] => { results := [.lit (.bool false)], args := [d1, d2] }
  | _ => none }
def RecordMemoryWrongFalsely : Prop := recordMemoryRow.holds Try.pinned (OpenSpec.ofChange recordMemoryWrong)

/- THE SECOND FORM. 'bulk': how many values and letters a reading holds, each counted each time it is reached (what is shared counts as often as it is met; a slice's spare places count too). A statement '..UptoSaid' is the law's where the arguments, and the package variables that the reading takes, are together of bulk at most 1048576: NARROWER than '..Said'. Prove '..Said' where nothing that the law and all that it calls make is longer than what came in: it says more and counts as full. Else prove '..UptoSaid'. A law counts once. -/
mutual
def uptoBulk {H : Type} : DataW H → Nat
  | .lit (.string bytes) => bytes.length + 1
  | .lit _ => 1
  | .nil => 1
  | .ptr d => uptoBulk d + 1
  | .slice elems spare => uptoBulkAll elems + uptoBulkAll spare + 1
  | .agg parts => uptoBulkAll parts + 1
  | .iface _ d => uptoBulk d + 1
  | .map entries => uptoBulkEntries entries + 1
  | .held _ => 1
def uptoBulkAll {H : Type} : List (DataW H) → Nat
  | [] => 0
  | d :: r => uptoBulk d + uptoBulkAll r
def uptoBulkEntries {H : Type} : List (Lit × DataW H) → Nat
  | [] => 0
  | x :: r => uptoBulkEntry x + uptoBulkEntries r
def uptoBulkEntry {H : Type} : Lit × DataW H → Nat
  | (.string bytes, d) => bytes.length + uptoBulk d + 1
  | (_, d) => uptoBulk d + 1
 end
def uptoSmall : (H : Type) → List (DataW H) → Bool := fun _ ds => decide (uptoBulkAll ds ≤ 1048576)
def OpenSpec.upto (s : _root_.Go.ChangeSpec) : _root_.Go.OpenSpec := { _root_.Go.OpenSpec.ofChange s with cond := some uptoSmall }

/-- 'rampartlaw09.RecordBuilds', WHERE WHAT IT READS IS OF BULK AT MOST 1048576: true; the input reads as it did. -/
def recordBuildsUptoRow : OpenClaim := { program := "ytokfmkfobjkkpaa", sum := "98482b4709814c2e5abb0e979f184095c865b4a9f8ecbf060755f90a2d00601d", func := "rampart/rampartlaw09.RecordBuilds", spec := "recordBuilds", unfollowed := true, recurses := true, apart := false, narrowed := true }
def RecordBuildsUptoSaid : Prop := recordBuildsUptoRow.holds Try.pinned (OpenSpec.upto recordBuildsSpec)

/-- 'rampartlaw09.RecordBack', WHERE WHAT IT READS IS OF BULK AT MOST 1048576: true; the input reads as it did. -/
def recordBackUptoRow : OpenClaim := { program := "ytokfmkfobjkkpaa", sum := "98482b4709814c2e5abb0e979f184095c865b4a9f8ecbf060755f90a2d00601d", func := "rampart/rampartlaw09.RecordBack", spec := "recordBack", unfollowed := true, recurses := true, apart := false, narrowed := true }
def RecordBackUptoSaid : Prop := recordBackUptoRow.holds Try.pinned (OpenSpec.upto recordBackSpec)

/-- 'rampartlaw09.RecordTold', WHERE WHAT IT READS IS OF BULK AT MOST 1048576: true; the input reads as it did. -/
def recordToldUptoRow : OpenClaim := { program := "ytokfmkfobjkkpaa", sum := "98482b4709814c2e5abb0e979f184095c865b4a9f8ecbf060755f90a2d00601d", func := "rampart/rampartlaw09.RecordTold", spec := "recordTold", unfollowed := true, recurses := true, apart := false, narrowed := true }
def RecordToldUptoSaid : Prop := recordToldUptoRow.holds Try.pinned (OpenSpec.upto recordToldSpec)

/-- 'rampartlaw09.RecordNone', WHERE WHAT IT READS IS OF BULK AT MOST 1048576: true; the input reads as it did. -/
def recordNoneUptoRow : OpenClaim := { program := "ytokfmkfobjkkpaa", sum := "98482b4709814c2e5abb0e979f184095c865b4a9f8ecbf060755f90a2d00601d", func := "rampart/rampartlaw09.RecordNone", spec := "recordNone", unfollowed := true, recurses := true, apart := false, narrowed := true }
def RecordNoneUptoSaid : Prop := recordNoneUptoRow.holds Try.pinned (OpenSpec.upto recordNoneSpec)

/-- 'rampartlaw09.RecordParses', WHERE WHAT IT READS IS OF BULK AT MOST 1048576: true; the input reads as it did. -/
def recordParsesUptoRow : OpenClaim := { program := "ytokfmkfobjkkpaa", sum := "98482b4709814c2e5abb0e979f184095c865b4a9f8ecbf060755f90a2d00601d", func := "rampart/rampartlaw09.RecordParses", spec := "recordParses", unfollowed := true, recurses := true, apart := false, narrowed := true }
def RecordParsesUptoSaid : Prop := recordParsesUptoRow.holds Try.pinned (OpenSpec.upto recordParsesSpec)

/-- 'rampartlaw09.RecordTails', WHERE WHAT IT READS IS OF BULK AT MOST 1048576: true; the input reads as it did. -/
def recordTailsUptoRow : OpenClaim := { program := "ytokfmkfobjkkpaa", sum := "98482b4709814c2e5abb0e979f184095c865b4a9f8ecbf060755f90a2d00601d", func := "rampart/rampartlaw09.RecordTails", spec := "recordTails", unfollowed := true, recurses := true, apart := false, narrowed := true }
def RecordTailsUptoSaid : Prop := recordTailsUptoRow.holds Try.pinned (OpenSpec.upto recordTailsSpec)

/-- 'rampartlaw09.RecordMemory', WHERE WHAT IT READS IS OF BULK AT MOST 1048576: true; the input reads as it did. -/
def recordMemoryUptoRow : OpenClaim := { program := "ytokfmkfobjkkpaa", sum := "98482b4709814c2e5abb0e979f184095c865b4a9f8ecbf060755f90a2d00601d", func := "rampart/rampartlaw09.RecordMemory", spec := "recordMemory", unfollowed := true, recurses := true, apart := false, narrowed := true }
def RecordMemoryUptoSaid : Prop := recordMemoryUptoRow.holds Try.pinned (OpenSpec.upto recordMemorySpec)

end Rows
end Go.Proofs.Ytokfmkfobjkkpaa
