/-
  No cell of these rows narrows 'for every input' (looked for: loops, veiled, ifaces, maps, wideKeys, modest, calm, conditions, laid).
  DERIVED. THE GIVEN ROWS OF THIS SEAT. 4 by the template 'for every input the law returns true; each argument reads behind the call as it read before'; 0 by the template 'total and deterministic' (their statements: YtefmplilhbbiaaaTotals.lean).
  GIVEN WITH THE SEED: the statements are not yours to turn. If you find one false, say at which input.
  Laid BY PROGRAM, IN A SANDBOX (cutbox-rows.mjs): the forced cells as the released guide's own fill.sh prints them over the translation 19fb3ce4dfae3817… (all of the seat's roots in one cut). By AI agents, Wed Nov 11 2026. No macro, syntax, notation, axiom, sorry.
-/
import Derived.Test.YtefmplilhbbiaaaChecked
import GoSem.Claim
import GoSem.ClaimJoined
import GoSem.ClaimMapViews
import Derived.JoinedTies
import Derived.KernelRfl
namespace Go.Proofs.Ytefmplilhbbiaaa
/- THE CELL 'sum', in the pinned program and in every row, IS THE sha256 OF THE DUMP (.gsa) THAT YtefmplilhbbiaaaProg.lean LOADS. Nothing in Lean hashes anything: it is a label: what it is worth is what the hold of that sum in a sandbox is worth. -/
noncomputable def Try.pinned : Pinned := { name := "ytefmplilhbbiaaa", sum := "19fb3ce4dfae38172f6cff955093218e1956e90749fd40d3b65b06b5eff736eb", checked := Try.checked }
namespace Rows
def none {H : Type} : Left H := { results := [], args := [] }

/-- 'rampartlaw21.NetRefuses': WHATEVER THE INPUT: true; the input reads as it did. -/
def netRefusesSpec : ChangeSpec := { name := "netRefuses", fn := fun _ => fun
  | [d1, d2, d3, d4] => { results := [.lit (.bool true)], args := [d1, d2, d3, d4] }
  | _ => none }
def netRefusesRow : OpenClaim := { program := "ytefmplilhbbiaaa", sum := "19fb3ce4dfae38172f6cff955093218e1956e90749fd40d3b65b06b5eff736eb", func := "rampart/rampartlaw21.NetRefuses", spec := "netRefuses", apart := false }
def NetRefusesSaid : Prop := netRefusesRow.holds Try.pinned (OpenSpec.ofChange netRefusesSpec)

/-- ITS FALSE NEIGHBOUR: 'it returns false'. Refute it at one input. -/
def netRefusesWrong : ChangeSpec := { name := "netRefuses", fn := fun _ => fun
  | [d1, d2, d3, d4] => { results := [.lit (.bool false)], args := [d1, d2, d3, d4] }
  | _ => none }
def NetRefusesWrongFalsely : Prop := netRefusesRow.holds Try.pinned (OpenSpec.ofChange netRefusesWrong)

/-- 'rampartlaw21.NetMemory': WHATEVER THE INPUT: true; the input reads as it did. -/
def netMemorySpec : ChangeSpec := { name := "netMemory", fn := fun _ => fun
  | [d1, d2] => { results := [.lit (.bool true)], args := [d1, d2] }
  | _ => none }
def netMemoryRow : OpenClaim := { program := "ytefmplilhbbiaaa", sum := "19fb3ce4dfae38172f6cff955093218e1956e90749fd40d3b65b06b5eff736eb", func := "rampart/rampartlaw21.NetMemory", spec := "netMemory", apart := false }
def NetMemorySaid : Prop := netMemoryRow.holds Try.pinned (OpenSpec.ofChange netMemorySpec)

/-- ITS FALSE NEIGHBOUR: 'it returns false'. Refute it at one input. -/
def netMemoryWrong : ChangeSpec := { name := "netMemory", fn := fun _ => fun
  | [d1, d2] => { results := [.lit (.bool false)], args := [d1, d2] }
  | _ => none }
def NetMemoryWrongFalsely : Prop := netMemoryRow.holds Try.pinned (OpenSpec.ofChange netMemoryWrong)

/-- 'rampartlaw21.NetPlays': WHATEVER THE INPUT: true; the input reads as it did. -/
def netPlaysSpec : ChangeSpec := { name := "netPlays", fn := fun _ => fun
  | [d1, d2] => { results := [.lit (.bool true)], args := [d1, d2] }
  | _ => none }
def netPlaysRow : OpenClaim := { program := "ytefmplilhbbiaaa", sum := "19fb3ce4dfae38172f6cff955093218e1956e90749fd40d3b65b06b5eff736eb", func := "rampart/rampartlaw21.NetPlays", spec := "netPlays", apart := false }
def NetPlaysSaid : Prop := netPlaysRow.holds Try.pinned (OpenSpec.ofChange netPlaysSpec)

/-- ITS FALSE NEIGHBOUR: 'it returns false'. Refute it at one input. -/
def netPlaysWrong : ChangeSpec := { name := "netPlays", fn := fun _ => fun
  | [d1, d2] => { results := [.lit (.bool false)], args := [d1, d2] }
  | _ => none }
def NetPlaysWrongFalsely : Prop := netPlaysRow.holds Try.pinned (OpenSpec.ofChange netPlaysWrong)

/-- 'rampartlaw21.NetBooks': WHATEVER THE INPUT: true; the input reads as it did. -/
def netBooksSpec : ChangeSpec := { name := "netBooks", fn := fun _ => fun
  | [d] => { results := [.lit (.bool true)], args := [d] }
  | _ => none }
def netBooksRow : OpenClaim := { program := "ytefmplilhbbiaaa", sum := "19fb3ce4dfae38172f6cff955093218e1956e90749fd40d3b65b06b5eff736eb", func := "rampart/rampartlaw21.NetBooks", spec := "netBooks", apart := false }
def NetBooksSaid : Prop := netBooksRow.holds Try.pinned (OpenSpec.ofChange netBooksSpec)

/-- ITS FALSE NEIGHBOUR: 'it returns false'. Refute it at one input. -/
def netBooksWrong : ChangeSpec := { name := "netBooks", fn := fun _ => fun
  | [d] => { results := [.lit (.bool false)], args := [d] }
  | _ => none }
def NetBooksWrongFalsely : Prop := netBooksRow.holds Try.pinned (OpenSpec.ofChange netBooksWrong)

/- THE SECOND FORM. 'bulk': how many values and letters a reading holds, each counted each time it is reached (what is shared counts as often as it is met; a slice's spare places count too). A statement '..UptoSaid' is the law's where the arguments, and the package variables that the reading takes, are together of bulk at most 1048576: NARROWER than '..Said'. Prove '..Said' where nothing that the law and all that it calls make is longer than what came in: it says more and counts as full. Else prove '..UptoSaid'. A law counts once. -/
mutual
def uptoBulk {H : Type} : DataW H → Nat
  | .lit (.string bytes) => bytes.length + 1
  | .lit _ => 1
  | .nil => 1
  | .ptr d => uptoBulk d + 1
  | .slice elems spare => uptoBulkAll elems + uptoBulkAll spare + 1
  | .agg parts => uptoBulkAll parts + 1
  | .iface _ d => uptoBulk d + 1
  | .map entries => uptoBulkEntries entries + 1
  | .held _ => 1
def uptoBulkAll {H : Type} : List (DataW H) → Nat
  | [] => 0
  | d :: r => uptoBulk d + uptoBulkAll r
def uptoBulkEntries {H : Type} : List (Lit × DataW H) → Nat
  | [] => 0
  | x :: r => uptoBulkEntry x + uptoBulkEntries r
def uptoBulkEntry {H : Type} : Lit × DataW H → Nat
  | (.string bytes, d) => bytes.length + uptoBulk d + 1
  | (_, d) => uptoBulk d + 1
 end
def uptoSmall : (H : Type) → List (DataW H) → Bool := fun _ ds => decide (uptoBulkAll ds ≤ 1048576)
def OpenSpec.upto (s : _root_.Go.ChangeSpec) : _root_.Go.OpenSpec := { _root_.Go.OpenSpec.ofChange s with cond := some uptoSmall }

/-- 'rampartlaw21.NetRefuses', WHERE WHAT IT READS IS OF BULK AT MOST 1048576: true; the input reads as it did. -/
def netRefusesUptoRow : OpenClaim := { program := "ytefmplilhbbiaaa", sum := "19fb3ce4dfae38172f6cff955093218e1956e90749fd40d3b65b06b5eff736eb", func := "rampart/rampartlaw21.NetRefuses", spec := "netRefuses", apart := false, narrowed := true }
def NetRefusesUptoSaid : Prop := netRefusesUptoRow.holds Try.pinned (OpenSpec.upto netRefusesSpec)

/-- 'rampartlaw21.NetMemory', WHERE WHAT IT READS IS OF BULK AT MOST 1048576: true; the input reads as it did. -/
def netMemoryUptoRow : OpenClaim := { program := "ytefmplilhbbiaaa", sum := "19fb3ce4dfae38172f6cff955093218e1956e90749fd40d3b65b06b5eff736eb", func := "rampart/rampartlaw21.NetMemory", spec := "netMemory", apart := false, narrowed := true }
def NetMemoryUptoSaid : Prop := netMemoryUptoRow.holds Try.pinned (OpenSpec.upto netMemorySpec)

/-- 'rampartlaw21.NetPlays', WHERE WHAT IT READS IS OF BULK AT MOST 1048576: true; the input reads as it did. -/
def netPlaysUptoRow : OpenClaim := { program := "ytefmplilhbbiaaa", sum := "19fb3ce4dfae38172f6cff955093218e1956e90749fd40d3b65b06b5eff736eb", func := "rampart/rampartlaw21.NetPlays", spec := "netPlays", apart := false, narrowed := true }
def NetPlaysUptoSaid : Prop := netPlaysUptoRow.holds Try.pinned (OpenSpec.upto netPlaysSpec)

/-- 'rampartlaw21.NetBooks', WHERE WHAT IT READS IS OF BULK AT MOST 1048576: true; the input reads as it did. -/
def netBooksUptoRow : OpenClaim := { program := "ytefmplilhbbiaaa", sum := "19fb3ce4dfae38172f6cff955093218e1956e90749fd40d3b65b06b5eff736eb", func := "rampart/rampartlaw21.NetBooks", spec := "netBooks", apart := false, narrowed := true }
def NetBooksUptoSaid : Prop := netBooksUptoRow.holds Try.pinned (OpenSpec.upto netBooksSpec)

end Rows
end Go.Proofs.Ytefmplilhbbiaaa
