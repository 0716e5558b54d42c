/-
  No cell of these rows narrows 'for every input' (looked for: loops, veiled, ifaces, maps, wideKeys, modest, calm, conditions, laid).
  DERIVED. THE GIVEN ROWS OF THIS SEAT. 5 by the template 'for every input the law returns true; each argument reads behind the call as it read before'; 0 by the template 'total and deterministic' (their statements: YtlgncabjphokjaaTotals.lean).
  GIVEN WITH THE SEED: the statements are not yours to turn. If you find one false, say at which input.
  Laid BY PROGRAM, IN A SANDBOX (cutbox-rows.mjs): the forced cells as the released guide's own fill.sh prints them over the translation 6370e53108c75a26… (all of the seat's roots in one cut). By AI agents, Wed Nov 11 2026. No macro, syntax, notation, axiom, sorry.
-/
import Derived.Test.YtlgncabjphokjaaChecked
import GoSem.Claim
import GoSem.ClaimJoined
import GoSem.ClaimMapViews
import Derived.JoinedTies
import Derived.KernelRfl
namespace Go.Proofs.Ytlgncabjphokjaa
/- THE CELL 'sum', in the pinned program and in every row, IS THE sha256 OF THE DUMP (.gsa) THAT YtlgncabjphokjaaProg.lean LOADS. Nothing in Lean hashes anything: it is a label: what it is worth is what the hold of that sum in a sandbox is worth. -/
noncomputable def Try.pinned : Pinned := { name := "ytlgncabjphokjaa", sum := "6370e53108c75a2668adf1cafd663f2cefb33d00c782bf26d99057b3d075a3a2", checked := Try.checked }
namespace Rows
def none {H : Type} : Left H := { results := [], args := [] }

/-- 'rampartlaw08.MsgEncodes': WHATEVER THE INPUT: true; the input reads as it did. -/
def msgEncodesSpec : ChangeSpec := { name := "msgEncodes", fn := fun _ => fun
  | [d] => { results := [.lit (.bool true)], args := [d] }
  | _ => none }
def msgEncodesRow : OpenClaim := { program := "ytlgncabjphokjaa", sum := "6370e53108c75a2668adf1cafd663f2cefb33d00c782bf26d99057b3d075a3a2", func := "rampart/rampartlaw08.MsgEncodes", spec := "msgEncodes", unfollowed := true, recurses := true, apart := false }
def MsgEncodesSaid : Prop := msgEncodesRow.holds Try.pinned (OpenSpec.ofChange msgEncodesSpec)

/-- ITS FALSE NEIGHBOUR: 'it returns false'. Refute it at one input. -/
def msgEncodesWrong : ChangeSpec := { name := "msgEncodes", fn := fun _ => fun
  | [d] => { results := [.lit (.bool false)], args := [d] }
  | _ => none }
def MsgEncodesWrongFalsely : Prop := msgEncodesRow.holds Try.pinned (OpenSpec.ofChange msgEncodesWrong)

/-- 'rampartlaw08.MsgBack': WHATEVER THE INPUT: true; the input reads as it did. -/
def msgBackSpec : ChangeSpec := { name := "msgBack", fn := fun _ => fun
  | [d1, d2, d3] => { results := [.lit (.bool true)], args := [d1, d2, d3] }
  | _ => none }
def msgBackRow : OpenClaim := { program := "ytlgncabjphokjaa", sum := "6370e53108c75a2668adf1cafd663f2cefb33d00c782bf26d99057b3d075a3a2", func := "rampart/rampartlaw08.MsgBack", spec := "msgBack", unfollowed := true, recurses := true, apart := false }
def MsgBackSaid : Prop := msgBackRow.holds Try.pinned (OpenSpec.ofChange msgBackSpec)

/-- ITS FALSE NEIGHBOUR: 'it returns false'. Refute it at one input. -/
def msgBackWrong : ChangeSpec := { name := "msgBack", fn := fun _ => fun
  | [d1, d2, d3] => { results := [.lit (.bool false)], args := [d1, d2, d3] }
  | _ => none }
def MsgBackWrongFalsely : Prop := msgBackRow.holds Try.pinned (OpenSpec.ofChange msgBackWrong)

/-- 'rampartlaw08.MsgForms': WHATEVER THE INPUT: true; the input reads as it did. -/
def msgFormsSpec : ChangeSpec := { name := "msgForms", fn := fun _ => fun
  | [d1, d2, d3] => { results := [.lit (.bool true)], args := [d1, d2, d3] }
  | _ => none }
def msgFormsRow : OpenClaim := { program := "ytlgncabjphokjaa", sum := "6370e53108c75a2668adf1cafd663f2cefb33d00c782bf26d99057b3d075a3a2", func := "rampart/rampartlaw08.MsgForms", spec := "msgForms", unfollowed := true, recurses := true, apart := false }
def MsgFormsSaid : Prop := msgFormsRow.holds Try.pinned (OpenSpec.ofChange msgFormsSpec)

/-- ITS FALSE NEIGHBOUR: 'it returns false'. Refute it at one input. -/
def msgFormsWrong : ChangeSpec := { name := "msgForms", fn := fun _ => fun
  | [d1, d2, d3] => { results := [.lit (.bool false)], args := [d1, d2, d3] }
  | _ => none }
def MsgFormsWrongFalsely : Prop := msgFormsRow.holds Try.pinned (OpenSpec.ofChange msgFormsWrong)

/-- 'rampartlaw08.MsgFits': WHATEVER THE INPUT: true; the input reads as it did. -/
def msgFitsSpec : ChangeSpec := { name := "msgFits", fn := fun _ => fun
  | [d1, d2, d3, d4] => { results := [.lit (.bool true)], args := [d1, d2, d3, d4] }
  | _ => none }
def msgFitsRow : OpenClaim := { program := "ytlgncabjphokjaa", sum := "6370e53108c75a2668adf1cafd663f2cefb33d00c782bf26d99057b3d075a3a2", func := "rampart/rampartlaw08.MsgFits", spec := "msgFits", unfollowed := true, recurses := true, apart := false }
def MsgFitsSaid : Prop := msgFitsRow.holds Try.pinned (OpenSpec.ofChange msgFitsSpec)

/-- ITS FALSE NEIGHBOUR: 'it returns false'. Refute it at one input. -/
def msgFitsWrong : ChangeSpec := { name := "msgFits", fn := fun _ => fun
  | [d1, d2, d3, d4] => { results := [.lit (.bool false)], args := [d1, d2, d3, d4] }
  | _ => none }
def MsgFitsWrongFalsely : Prop := msgFitsRow.holds Try.pinned (OpenSpec.ofChange msgFitsWrong)

/-- 'rampartlaw08.MsgKeeps': WHATEVER THE INPUT: true; the input reads as it did. -/
def msgKeepsSpec : ChangeSpec := { name := "msgKeeps", fn := fun _ => fun
  | [d1, d2] => { results := [.lit (.bool true)], args := [d1, d2] }
  | _ => none }
def msgKeepsRow : OpenClaim := { program := "ytlgncabjphokjaa", sum := "6370e53108c75a2668adf1cafd663f2cefb33d00c782bf26d99057b3d075a3a2", func := "rampart/rampartlaw08.MsgKeeps", spec := "msgKeeps", unfollowed := true, recurses := true, apart := false }
def MsgKeepsSaid : Prop := msgKeepsRow.holds Try.pinned (OpenSpec.ofChange msgKeepsSpec)

/-- ITS FALSE NEIGHBOUR: 'it returns false'. Refute it at one input. -/
def msgKeepsWrong : ChangeSpec := { name := "msgKeeps", fn := fun _ => fun
  | [d1, d2] => { results := [.lit (.bool false)], args := [d1, d2] }
  | _ => none }
def MsgKeepsWrongFalsely : Prop := msgKeepsRow.holds Try.pinned (OpenSpec.ofChange msgKeepsWrong)

/- THE SECOND FORM. 'bulk': how many values and letters a reading holds, each counted each time it is reached (what is shared counts as often as it is met; a slice's spare places count too). A statement '..UptoSaid' is the law's where the arguments, and the package variables that the reading takes, are together of bulk at most 1048576: NARROWER than '..Said'. Prove '..Said' where nothing that the law and all that it calls make is longer than what came in: it says more and counts as full. Else prove '..UptoSaid'. A law counts once. -/
mutual
def uptoBulk {H : Type} : DataW H → Nat
  | .lit (.string bytes) => bytes.length + 1
  | .lit _ => 1
  | .nil => 1
  | .ptr d => uptoBulk d + 1
  | .slice elems spare => uptoBulkAll elems + uptoBulkAll spare + 1
  | .agg parts => uptoBulkAll parts + 1
  | .iface _ d => uptoBulk d + 1
  | .map entries => uptoBulkEntries entries + 1
  | .held _ => 1
def uptoBulkAll {H : Type} : List (DataW H) → Nat
  | [] => 0
  | d :: r => uptoBulk d + uptoBulkAll r
def uptoBulkEntries {H : Type} : List (Lit × DataW H) → Nat
  | [] => 0
  | x :: r => uptoBulkEntry x + uptoBulkEntries r
def uptoBulkEntry {H : Type} : Lit × DataW H → Nat
  | (.string bytes, d) => bytes.length + uptoBulk d + 1
  | (_, d) => uptoBulk d + 1
 end
def uptoSmall : (H : Type) → List (DataW H) → Bool := fun _ ds => decide (uptoBulkAll ds ≤ 1048576)
def OpenSpec.upto (s : _root_.Go.ChangeSpec) : _root_.Go.OpenSpec := { _root_.Go.OpenSpec.ofChange s with cond := some uptoSmall }

/-- 'rampartlaw08.MsgEncodes', WHERE WHAT IT READS IS OF BULK AT MOST 1048576: true; the input reads as it did. -/
def msgEncodesUptoRow : OpenClaim := { program := "ytlgncabjphokjaa", sum := "6370e53108c75a2668adf1cafd663f2cefb33d00c782bf26d99057b3d075a3a2", func := "rampart/rampartlaw08.MsgEncodes", spec := "msgEncodes", unfollowed := true, recurses := true, apart := false, narrowed := true }
def MsgEncodesUptoSaid : Prop := msgEncodesUptoRow.holds Try.pinned (OpenSpec.upto msgEncodesSpec)

/-- 'rampartlaw08.MsgBack', WHERE WHAT IT READS IS OF BULK AT MOST 1048576: true; the input reads as it did. -/
def msgBackUptoRow : OpenClaim := { program := "ytlgncabjphokjaa", sum := "6370e53108c75a2668adf1cafd663f2cefb33d00c782bf26d99057b3d075a3a2", func := "rampart/rampartlaw08.MsgBack", spec := "msgBack", unfollowed := true, recurses := true, apart := false, narrowed := true }
def MsgBackUptoSaid : Prop := msgBackUptoRow.holds Try.pinned (OpenSpec.upto msgBackSpec)

/-- 'rampartlaw08.MsgForms', WHERE WHAT IT READS IS OF BULK AT MOST 1048576: true; the input reads as it did. -/
def msgFormsUptoRow : OpenClaim := { program := "ytlgncabjphokjaa", sum := "6370e53108c75a2668adf1cafd663f2cefb33d00c782bf26d99057b3d075a3a2", func := "rampart/rampartlaw08.MsgForms", spec := "msgForms", unfollowed := true, recurses := true, apart := false, narrowed := true }
def MsgFormsUptoSaid : Prop := msgFormsUptoRow.holds Try.pinned (OpenSpec.upto msgFormsSpec)

/-- 'rampartlaw08.MsgFits', WHERE WHAT IT READS IS OF BULK AT MOST 1048576: true; the input reads as it did. -/
def msgFitsUptoRow : OpenClaim := { program := "ytlgncabjphokjaa", sum := "6370e53108c75a2668adf1cafd663f2cefb33d00c782bf26d99057b3d075a3a2", func := "rampart/rampartlaw08.MsgFits", spec := "msgFits", unfollowed := true, recurses := true, apart := false, narrowed := true }
def MsgFitsUptoSaid : Prop := msgFitsUptoRow.holds Try.pinned (OpenSpec.upto msgFitsSpec)

/-- 'rampartlaw08.MsgKeeps', WHERE WHAT IT READS IS OF BULK AT MOST 1048576: true; the input reads as it did. -/
def msgKeepsUptoRow : OpenClaim := { program := "ytlgncabjphokjaa", sum := "6370e53108c75a2668adf1cafd663f2cefb33d00c782bf26d99057b3d075a3a2", func := "rampart/rampartlaw08.MsgKeeps", spec := "msgKeeps", unfollowed := true, recurses := true, apart := false, narrowed := true }
def MsgKeepsUptoSaid : Prop := msgKeepsUptoRow.holds Try.pinned (OpenSpec.upto msgKeepsSpec)

end Rows
end Go.Proofs.Ytlgncabjphokjaa
