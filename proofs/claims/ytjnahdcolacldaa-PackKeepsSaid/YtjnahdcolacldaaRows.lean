/-
  No cell of these rows narrows 'for every input' (looked for: loops, veiled, ifaces, maps, wideKeys, modest, calm, conditions, laid).
  DERIVED. THE GIVEN ROWS OF THIS SEAT. 5 by the template 'for every input the law returns true; each argument reads behind the call as it read before'; 0 by the template 'total and deterministic' (their statements: YtjnahdcolacldaaTotals.lean).
  GIVEN WITH THE SEED: the statements are not yours to turn. If you find one false, say at which input.
  Laid BY PROGRAM, IN A SANDBOX (cutbox-rows.mjs): the forced cells as the released guide's own fill.sh prints them over the translation 9ac31c7cb55cc350… (all of the seat's roots in one cut). By AI agents, Wed Nov 11 2026. No macro, syntax, notation, axiom, sorry.
-/
import Derived.Test.YtjnahdcolacldaaChecked
import GoSem.Claim
import GoSem.ClaimJoined
import GoSem.ClaimMapViews
import Derived.JoinedTies
import Derived.KernelRfl
namespace Go.Proofs.Ytjnahdcolacldaa
/- THE CELL 'sum', in the pinned program and in every row, IS THE sha256 OF THE DUMP (.gsa) THAT YtjnahdcolacldaaProg.lean LOADS. Nothing in Lean hashes anything: it is a label: what it is worth is what the hold of that sum in a sandbox is worth. -/
noncomputable def Try.pinned : Pinned := { name := "ytjnahdcolacldaa", sum := "9ac31c7cb55cc35007fbb934aba4148429c2822f8e2dcbfee1a22103619945b2", checked := Try.checked }
namespace Rows
def none {H : Type} : Left H := { results := [], args := [] }

/-- 'rampartlaw02.PackKeeps': WHATEVER THE INPUT: true; the input reads as it did. -/
def packKeepsSpec : ChangeSpec := { name := "packKeeps", fn := fun _ => fun
  | [d1, d2] => { results := [.lit (.bool true)], args := [d1, d2] }
  | _ => none }
def packKeepsRow : OpenClaim := { program := "ytjnahdcolacldaa", sum := "9ac31c7cb55cc35007fbb934aba4148429c2822f8e2dcbfee1a22103619945b2", func := "rampart/rampartlaw02.PackKeeps", spec := "packKeeps", apart := false }
def PackKeepsSaid : Prop := packKeepsRow.holds Try.pinned (OpenSpec.ofChange packKeepsSpec)

/-- ITS FALSE NEIGHBOUR: 'it returns false'. Refute it at one input. -/
def packKeepsWrong : ChangeSpec := { name := "packKeeps", fn := fun _ => fun
  | [d1, d2] => { results := [.lit (.bool false)], args := [d1, d2] }
  | _ => none }
def PackKeepsWrongFalsely : Prop := packKeepsRow.holds Try.pinned (OpenSpec.ofChange packKeepsWrong)

/-- 'rampartlaw02.PackWrites': WHATEVER THE INPUT: true; the input reads as it did. -/
def packWritesSpec : ChangeSpec := { name := "packWrites", fn := fun _ => fun
  | [d1, d2] => { results := [.lit (.bool true)], args := [d1, d2] }
  | _ => none }
def packWritesRow : OpenClaim := { program := "ytjnahdcolacldaa", sum := "9ac31c7cb55cc35007fbb934aba4148429c2822f8e2dcbfee1a22103619945b2", func := "rampart/rampartlaw02.PackWrites", spec := "packWrites", apart := false }
def PackWritesSaid : Prop := packWritesRow.holds Try.pinned (OpenSpec.ofChange packWritesSpec)

/-- ITS FALSE NEIGHBOUR: 'it returns false'. Refute it at one input. -/
def packWritesWrong : ChangeSpec := { name := "packWrites", fn := fun _ => fun
  | [d1, d2] => { results := [.lit (.bool false)], args := [d1, d2] }
  | _ => none }
def PackWritesWrongFalsely : Prop := packWritesRow.holds Try.pinned (OpenSpec.ofChange packWritesWrong)

/-- 'rampartlaw02.PackReads': WHATEVER THE INPUT: true; the input reads as it did. -/
def packReadsSpec : ChangeSpec := { name := "packReads", fn := fun _ => fun
  | [d1, d2] => { results := [.lit (.bool true)], args := [d1, d2] }
  | _ => none }
def packReadsRow : OpenClaim := { program := "ytjnahdcolacldaa", sum := "9ac31c7cb55cc35007fbb934aba4148429c2822f8e2dcbfee1a22103619945b2", func := "rampart/rampartlaw02.PackReads", spec := "packReads", apart := false }
def PackReadsSaid : Prop := packReadsRow.holds Try.pinned (OpenSpec.ofChange packReadsSpec)

/-- ITS FALSE NEIGHBOUR: 'it returns false'. Refute it at one input. -/
def packReadsWrong : ChangeSpec := { name := "packReads", fn := fun _ => fun
  | [d1, d2] => { results := [.lit (.bool false)], args := [d1, d2] }
  | _ => none }
def PackReadsWrongFalsely : Prop := packReadsRow.holds Try.pinned (OpenSpec.ofChange packReadsWrong)

/-- 'rampartlaw02.PackBack': WHATEVER THE INPUT: true; the input reads as it did. -/
def packBackSpec : ChangeSpec := { name := "packBack", fn := fun _ => fun
  | [d1, d2] => { results := [.lit (.bool true)], args := [d1, d2] }
  | _ => none }
def packBackRow : OpenClaim := { program := "ytjnahdcolacldaa", sum := "9ac31c7cb55cc35007fbb934aba4148429c2822f8e2dcbfee1a22103619945b2", func := "rampart/rampartlaw02.PackBack", spec := "packBack", apart := false }
def PackBackSaid : Prop := packBackRow.holds Try.pinned (OpenSpec.ofChange packBackSpec)

/-- ITS FALSE NEIGHBOUR: 'it returns false'. Refute it at one input. -/
def packBackWrong : ChangeSpec := { name := "packBack", fn := fun _ => fun
  | [d1, d2] => { results := [.lit (.bool false)], args := [d1, d2] }
  | _ => none }
def PackBackWrongFalsely : Prop := packBackRow.holds Try.pinned (OpenSpec.ofChange packBackWrong)

/-- 'rampartlaw02.PackStays': WHATEVER THE INPUT: true; the input reads as it did. -/
def packStaysSpec : ChangeSpec := { name := "packStays", fn := fun _ => fun
  | [d1, d2, d3, d4] => { results := [.lit (.bool true)], args := [d1, d2, d3, d4] }
  | _ => none }
def packStaysRow : OpenClaim := { program := "ytjnahdcolacldaa", sum := "9ac31c7cb55cc35007fbb934aba4148429c2822f8e2dcbfee1a22103619945b2", func := "rampart/rampartlaw02.PackStays", spec := "packStays", apart := false }
def PackStaysSaid : Prop := packStaysRow.holds Try.pinned (OpenSpec.ofChange packStaysSpec)

/-- ITS FALSE NEIGHBOUR: 'it returns false'. Refute it at one input. -/
def packStaysWrong : ChangeSpec := { name := "packStays", fn := fun _ => fun
  | [d1, d2, d3, d4] => { results := [.lit (.bool false)], args := [d1, d2, d3, d4] }
  | _ => none }
def PackStaysWrongFalsely : Prop := packStaysRow.holds Try.pinned (OpenSpec.ofChange packStaysWrong)

/- THE SECOND FORM. 'bulk': how many values and letters a reading holds, each counted each time it is reached (what is shared counts as often as it is met; a slice's spare places count too). A statement '..UptoSaid' is the law's where the arguments, and the package variables that the reading takes, are together of bulk at most 1048576: NARROWER than '..Said'. Prove '..Said' where nothing that the law and all that it calls make is longer than what came in: it says more and counts as full. Else prove '..UptoSaid'. A law counts once. -/
mutual
def uptoBulk {H : Type} : DataW H → Nat
  | .lit (.string bytes) => bytes.length + 1
  | .lit _ => 1
  | .nil => 1
  | .ptr d => uptoBulk d + 1
  | .slice elems spare => uptoBulkAll elems + uptoBulkAll spare + 1
  | .agg parts => uptoBulkAll parts + 1
  | .iface _ d => uptoBulk d + 1
  | .map entries => uptoBulkEntries entries + 1
  | .held _ => 1
def uptoBulkAll {H : Type} : List (DataW H) → Nat
  | [] => 0
  | d :: r => uptoBulk d + uptoBulkAll r
def uptoBulkEntries {H : Type} : List (Lit × DataW H) → Nat
  | [] => 0
  | x :: r => uptoBulkEntry x + uptoBulkEntries r
def uptoBulkEntry {H : Type} : Lit × DataW H → Nat
  | (.string bytes, d) => bytes.length + uptoBulk d + 1
  | (_, d) => uptoBulk d + 1
 end
def uptoSmall : (H : Type) → List (DataW H) → Bool := fun _ ds => decide (uptoBulkAll ds ≤ 1048576)
def OpenSpec.upto (s : _root_.Go.ChangeSpec) : _root_.Go.OpenSpec := { _root_.Go.OpenSpec.ofChange s with cond := some uptoSmall }

/-- 'rampartlaw02.PackKeeps', WHERE WHAT IT READS IS OF BULK AT MOST 1048576: true; the input reads as it did. -/
def packKeepsUptoRow : OpenClaim := { program := "ytjnahdcolacldaa", sum := "9ac31c7cb55cc35007fbb934aba4148429c2822f8e2dcbfee1a22103619945b2", func := "rampart/rampartlaw02.PackKeeps", spec := "packKeeps", apart := false, narrowed := true }
def PackKeepsUptoSaid : Prop := packKeepsUptoRow.holds Try.pinned (OpenSpec.upto packKeepsSpec)

/-- 'rampartlaw02.PackWrites', WHERE WHAT IT READS IS OF BULK AT MOST 1048576: true; the input reads as it did. -/
def packWritesUptoRow : OpenClaim := { program := "ytjnahdcolacldaa", sum := "9ac31c7cb55cc35007fbb934aba4148429c2822f8e2dcbfee1a22103619945b2", func := "rampart/rampartlaw02.PackWrites", spec := "packWrites", apart := false, narrowed := true }
def PackWritesUptoSaid : Prop := packWritesUptoRow.holds Try.pinned (OpenSpec.upto packWritesSpec)

/-- 'rampartlaw02.PackReads', WHERE WHAT IT READS IS OF BULK AT MOST 1048576: true; the input reads as it did. -/
def packReadsUptoRow : OpenClaim := { program := "ytjnahdcolacldaa", sum := "9ac31c7cb55cc35007fbb934aba4148429c2822f8e2dcbfee1a22103619945b2", func := "rampart/rampartlaw02.PackReads", spec := "packReads", apart := false, narrowed := true }
def PackReadsUptoSaid : Prop := packReadsUptoRow.holds Try.pinned (OpenSpec.upto packReadsSpec)

/-- 'rampartlaw02.PackBack', WHERE WHAT IT READS IS OF BULK AT MOST 1048576: true; the input reads as it did. -/
def packBackUptoRow : OpenClaim := { program := "ytjnahdcolacldaa", sum := "9ac31c7cb55cc35007fbb934aba4148429c2822f8e2dcbfee1a22103619945b2", func := "rampart/rampartlaw02.PackBack", spec := "packBack", apart := false, narrowed := true }
def PackBackUptoSaid : Prop := packBackUptoRow.holds Try.pinned (OpenSpec.upto packBackSpec)

/-- 'rampartlaw02.PackStays', WHERE WHAT IT READS IS OF BULK AT MOST 1048576: true; the input reads as it did. -/
def packStaysUptoRow : OpenClaim := { program := "ytjnahdcolacldaa", sum := "9ac31c7cb55cc35007fbb934aba4148429c2822f8e2dcbfee1a22103619945b2", func := "rampart/rampartlaw02.PackStays", spec := "packStays", apart := false, narrowed := true }
def PackStaysUptoSaid : Prop := packStaysUptoRow.holds Try.pinned (OpenSpec.upto packStaysSpec)

end Rows
end Go.Proofs.Ytjnahdcolacldaa
