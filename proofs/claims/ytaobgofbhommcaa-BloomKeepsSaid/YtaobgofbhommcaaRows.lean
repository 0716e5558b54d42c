/-
  No cell of these rows narrows 'for every input' (looked for: loops, veiled, ifaces, maps, wideKeys, modest, calm, conditions, laid).
  DERIVED. THE GIVEN ROWS OF THIS SEAT. 7 by the template 'for every input the law returns true; each argument reads behind the call as it read before'; 0 by the template 'total and deterministic' (their statements: YtaobgofbhommcaaTotals.lean).
  GIVEN WITH THE SEED: the statements are not yours to turn. If you find one false, say at which input.
  Laid BY PROGRAM, IN A SANDBOX (cutbox-rows.mjs): the forced cells as the released guide's own fill.sh prints them over the translation 89950396d886c615… (all of the seat's roots in one cut). By AI agents, Wed Nov 11 2026. No macro, syntax, notation, axiom, sorry.
-/
import Derived.Test.YtaobgofbhommcaaChecked
import GoSem.Claim
import GoSem.ClaimJoined
import GoSem.ClaimMapViews
import Derived.JoinedTies
import Derived.KernelRfl
namespace Go.Proofs.Ytaobgofbhommcaa
/- THE CELL 'sum', in the pinned program and in every row, IS THE sha256 OF THE DUMP (.gsa) THAT YtaobgofbhommcaaProg.lean LOADS. Nothing in Lean hashes anything: it is a label: what it is worth is what the hold of that sum in a sandbox is worth. -/
noncomputable def Try.pinned : Pinned := { name := "ytaobgofbhommcaa", sum := "89950396d886c615c888cd7ab241a0b4595c82916414b46081955a17b1ce3699", checked := Try.checked }
namespace Rows
def none {H : Type} : Left H := { results := [], args := [] }

/-- 'rampartlaw27.BloomPlays': WHATEVER THE INPUT: true; the input reads as it did. -/
def bloomPlaysSpec : ChangeSpec := { name := "bloomPlays", fn := fun _ => fun
  | [d1, d2, d3, d4, d5] => { results := [.lit (.bool true)], args := [d1, d2, d3, d4, d5] }
  | _ => none }
def bloomPlaysRow : OpenClaim := { program := "ytaobgofbhommcaa", sum := "89950396d886c615c888cd7ab241a0b4595c82916414b46081955a17b1ce3699", func := "rampart/rampartlaw27.BloomPlays", spec := "bloomPlays", unfollowed := true, recurses := true, apart := false }
def BloomPlaysSaid : Prop := bloomPlaysRow.holds Try.pinned (OpenSpec.ofChange bloomPlaysSpec)

/-- ITS FALSE NEIGHBOUR: 'it returns false'. Refute it at one input. -/
def bloomPlaysWrong : ChangeSpec := { name := "bloomPlays", fn := fun _ => fun
  | [d1, d2, d3, d4, d5] => { results := [.lit (.bool false)], args := [d1, d2, d3, d4, d5] }
  | _ => none }
def BloomPlaysWrongFalsely : Prop := bloomPlaysRow.holds Try.pinned (OpenSpec.ofChange bloomPlaysWrong)

/-- 'rampartlaw27.BloomPlaces': WHATEVER THE INPUT: true; the input reads as it did. -/
def bloomPlacesSpec : ChangeSpec := { name := "bloomPlaces", fn := fun _ => fun
  | [d1, d2, d3] => { results := [.lit (.bool true)], args := [d1, d2, d3] }
  | _ => none }
def bloomPlacesRow : OpenClaim := { program := "ytaobgofbhommcaa", sum := "89950396d886c615c888cd7ab241a0b4595c82916414b46081955a17b1ce3699", func := "rampart/rampartlaw27.BloomPlaces", spec := "bloomPlaces", unfollowed := true, recurses := true, apart := false }
def BloomPlacesSaid : Prop := bloomPlacesRow.holds Try.pinned (OpenSpec.ofChange bloomPlacesSpec)

/-- ITS FALSE NEIGHBOUR: 'it returns false'. Refute it at one input. -/
def bloomPlacesWrong : ChangeSpec := { name := "bloomPlaces", fn := fun _ => fun
  | [d1, d2, d3] => { results := [.lit (.bool false)], args := [d1, d2, d3] }
  | _ => none }
def BloomPlacesWrongFalsely : Prop := bloomPlacesRow.holds Try.pinned (OpenSpec.ofChange bloomPlacesWrong)

/-- 'rampartlaw27.BloomReads': WHATEVER THE INPUT: true; the input reads as it did. -/
def bloomReadsSpec : ChangeSpec := { name := "bloomReads", fn := fun _ => fun
  | [d1, d2] => { results := [.lit (.bool true)], args := [d1, d2] }
  | _ => none }
def bloomReadsRow : OpenClaim := { program := "ytaobgofbhommcaa", sum := "89950396d886c615c888cd7ab241a0b4595c82916414b46081955a17b1ce3699", func := "rampart/rampartlaw27.BloomReads", spec := "bloomReads", unfollowed := true, recurses := true, apart := false }
def BloomReadsSaid : Prop := bloomReadsRow.holds Try.pinned (OpenSpec.ofChange bloomReadsSpec)

/-- ITS FALSE NEIGHBOUR: 'it returns false'. Refute it at one input. -/
def bloomReadsWrong : ChangeSpec := { name := "bloomReads", fn := fun _ => fun
  | [d1, d2] => { results := [.lit (.bool false)], args := [d1, d2] }
  | _ => none }
def BloomReadsWrongFalsely : Prop := bloomReadsRow.holds Try.pinned (OpenSpec.ofChange bloomReadsWrong)

/-- 'rampartlaw27.BloomEver': WHATEVER THE INPUT: true; the input reads as it did. -/
def bloomEverSpec : ChangeSpec := { name := "bloomEver", fn := fun _ => fun
  | [d1, d2, d3, d4] => { results := [.lit (.bool true)], args := [d1, d2, d3, d4] }
  | _ => none }
def bloomEverRow : OpenClaim := { program := "ytaobgofbhommcaa", sum := "89950396d886c615c888cd7ab241a0b4595c82916414b46081955a17b1ce3699", func := "rampart/rampartlaw27.BloomEver", spec := "bloomEver", unfollowed := true, recurses := true, apart := false }
def BloomEverSaid : Prop := bloomEverRow.holds Try.pinned (OpenSpec.ofChange bloomEverSpec)

/-- ITS FALSE NEIGHBOUR: 'it returns false'. Refute it at one input. -/
def bloomEverWrong : ChangeSpec := { name := "bloomEver", fn := fun _ => fun
  | [d1, d2, d3, d4] => { results := [.lit (.bool false)], args := [d1, d2, d3, d4] }
  | _ => none }
def BloomEverWrongFalsely : Prop := bloomEverRow.holds Try.pinned (OpenSpec.ofChange bloomEverWrong)

/-- 'rampartlaw27.BloomJust': WHATEVER THE INPUT: true; the input reads as it did. -/
def bloomJustSpec : ChangeSpec := { name := "bloomJust", fn := fun _ => fun
  | [d1, d2, d3, d4, d5, d6] => { results := [.lit (.bool true)], args := [d1, d2, d3, d4, d5, d6] }
  | _ => none }
def bloomJustRow : OpenClaim := { program := "ytaobgofbhommcaa", sum := "89950396d886c615c888cd7ab241a0b4595c82916414b46081955a17b1ce3699", func := "rampart/rampartlaw27.BloomJust", spec := "bloomJust", unfollowed := true, recurses := true, apart := false }
def BloomJustSaid : Prop := bloomJustRow.holds Try.pinned (OpenSpec.ofChange bloomJustSpec)

/-- ITS FALSE NEIGHBOUR: 'it returns false'. Refute it at one input. -/
def bloomJustWrong : ChangeSpec := { name := "bloomJust", fn := fun _ => fun
  | [d1, d2, d3, d4, d5, d6] => { results := [.lit (.bool false)], args := [d1, d2, d3, d4, d5, d6] }
  | _ => none }
def BloomJustWrongFalsely : Prop := bloomJustRow.holds Try.pinned (OpenSpec.ofChange bloomJustWrong)

/-- 'rampartlaw27.BloomBack': WHATEVER THE INPUT: true; the input reads as it did. -/
def bloomBackSpec : ChangeSpec := { name := "bloomBack", fn := fun _ => fun
  | [d1, d2, d3, d4, d5, d6] => { results := [.lit (.bool true)], args := [d1, d2, d3, d4, d5, d6] }
  | _ => none }
def bloomBackRow : OpenClaim := { program := "ytaobgofbhommcaa", sum := "89950396d886c615c888cd7ab241a0b4595c82916414b46081955a17b1ce3699", func := "rampart/rampartlaw27.BloomBack", spec := "bloomBack", unfollowed := true, recurses := true, apart := false }
def BloomBackSaid : Prop := bloomBackRow.holds Try.pinned (OpenSpec.ofChange bloomBackSpec)

/-- ITS FALSE NEIGHBOUR: 'it returns false'. Refute it at one input. -/
def bloomBackWrong : ChangeSpec := { name := "bloomBack", fn := fun _ => fun
  | [d1, d2, d3, d4, d5, d6] => { results := [.lit (.bool false)], args := [d1, d2, d3, d4, d5, d6] }
  | _ => none }
def BloomBackWrongFalsely : Prop := bloomBackRow.holds Try.pinned (OpenSpec.ofChange bloomBackWrong)

/-- 'rampartlaw27.BloomKeeps': WHATEVER THE INPUT: true; the input reads as it did. -/
def bloomKeepsSpec : ChangeSpec := { name := "bloomKeeps", fn := fun _ => fun
  | [d1, d2, d3] => { results := [.lit (.bool true)], args := [d1, d2, d3] }
  | _ => none }
def bloomKeepsRow : OpenClaim := { program := "ytaobgofbhommcaa", sum := "89950396d886c615c888cd7ab241a0b4595c82916414b46081955a17b1ce3699", func := "rampart/rampartlaw27.BloomKeeps", spec := "bloomKeeps", unfollowed := true, recurses := true, apart := false }
def BloomKeepsSaid : Prop := bloomKeepsRow.holds Try.pinned (OpenSpec.ofChange bloomKeepsSpec)

/-- ITS FALSE NEIGHBOUR: 'it returns false'. Refute it at one input. -/
def bloomKeepsWrong : ChangeSpec := { name := "bloomKeeps", fn := fun _ => fun
  | [d1, d2, d3] => { results := [.lit (.bool false)], args := [d1, d2, d3] }
  | _ => none }
def BloomKeepsWrongFalsely : Prop := bloomKeepsRow.holds Try.pinned (OpenSpec.ofChange bloomKeepsWrong)

/- THE SECOND FORM. 'bulk': how many values and letters a reading holds, each counted each time it is reached (what is shared counts as often as it is met; a slice's spare places count too). A statement '..UptoSaid' is the law's where the arguments, and the package variables that the reading takes, are together of bulk at most 1048576: NARROWER than '..Said'. Prove '..Said' where nothing that the law and all that it calls make is longer than what came in: it says more and counts as full. Else prove '..UptoSaid'. A law counts once. -/
mutual
def uptoBulk {H : Type} : DataW H → Nat
  | .lit (.string bytes) => bytes.length + 1
  | .lit _ => 1
  | .nil => 1
  | .ptr d => uptoBulk d + 1
  | .slice elems spare => uptoBulkAll elems + uptoBulkAll spare + 1
  | .agg parts => uptoBulkAll parts + 1
  | .iface _ d => uptoBulk d + 1
  | .map entries => uptoBulkEntries entries + 1
  | .held _ => 1
def uptoBulkAll {H : Type} : List (DataW H) → Nat
  | [] => 0
  | d :: r => uptoBulk d + uptoBulkAll r
def uptoBulkEntries {H : Type} : List (Lit × DataW H) → Nat
  | [] => 0
  | x :: r => uptoBulkEntry x + uptoBulkEntries r
def uptoBulkEntry {H : Type} : Lit × DataW H → Nat
  | (.string bytes, d) => bytes.length + uptoBulk d + 1
  | (_, d) => uptoBulk d + 1
 end
def uptoSmall : (H : Type) → List (DataW H) → Bool := fun _ ds => decide (uptoBulkAll ds ≤ 1048576)
def OpenSpec.upto (s : _root_.Go.ChangeSpec) : _root_.Go.OpenSpec := { _root_.Go.OpenSpec.ofChange s with cond := some uptoSmall }

/-- 'rampartlaw27.BloomPlays', WHERE WHAT IT READS IS OF BULK AT MOST 1048576: true; the input reads as it did. -/
def bloomPlaysUptoRow : OpenClaim := { program := "ytaobgofbhommcaa", sum := "89950396d886c615c888cd7ab241a0b4595c82916414b46081955a17b1ce3699", func := "rampart/rampartlaw27.BloomPlays", spec := "bloomPlays", unfollowed := true, recurses := true, apart := false, narrowed := true }
def BloomPlaysUptoSaid : Prop := bloomPlaysUptoRow.holds Try.pinned (OpenSpec.upto bloomPlaysSpec)

/-- 'rampartlaw27.BloomPlaces', WHERE WHAT IT READS IS OF BULK AT MOST 1048576: true; the input reads as it did. -/
def bloomPlacesUptoRow : OpenClaim := { program := "ytaobgofbhommcaa", sum := "89950396d886c615c888cd7ab241a0b4595c82916414b46081955a17b1ce3699", func := "rampart/rampartlaw27.BloomPlaces", spec := "bloomPlaces", unfollowed := true, recurses := true, apart := false, narrowed := true }
def BloomPlacesUptoSaid : Prop := bloomPlacesUptoRow.holds Try.pinned (OpenSpec.upto bloomPlacesSpec)

/-- 'rampartlaw27.BloomReads', WHERE WHAT IT READS IS OF BULK AT MOST 1048576: true; the input reads as it did. -/
def bloomReadsUptoRow : OpenClaim := { program := "ytaobgofbhommcaa", sum := "89950396d886c615c888cd7ab241a0b4595c82916414b46081955a17b1ce3699", func := "rampart/rampartlaw27.BloomReads", spec := "bloomReads", unfollowed := true, recurses := true, apart := false, narrowed := true }
def BloomReadsUptoSaid : Prop := bloomReadsUptoRow.holds Try.pinned (OpenSpec.upto bloomReadsSpec)

/-- 'rampartlaw27.BloomEver', WHERE WHAT IT READS IS OF BULK AT MOST 1048576: true; the input reads as it did. -/
def bloomEverUptoRow : OpenClaim := { program := "ytaobgofbhommcaa", sum := "89950396d886c615c888cd7ab241a0b4595c82916414b46081955a17b1ce3699", func := "rampart/rampartlaw27.BloomEver", spec := "bloomEver", unfollowed := true, recurses := true, apart := false, narrowed := true }
def BloomEverUptoSaid : Prop := bloomEverUptoRow.holds Try.pinned (OpenSpec.upto bloomEverSpec)

/-- 'rampartlaw27.BloomJust', WHERE WHAT IT READS IS OF BULK AT MOST 1048576: true; the input reads as it did. -/
def bloomJustUptoRow : OpenClaim := { program := "ytaobgofbhommcaa", sum := "89950396d886c615c888cd7ab241a0b4595c82916414b46081955a17b1ce3699", func := "rampart/rampartlaw27.BloomJust", spec := "bloomJust", unfollowed := true, recurses := true, apart := false, narrowed := true }
def BloomJustUptoSaid : Prop := bloomJustUptoRow.holds Try.pinned (OpenSpec.upto bloomJustSpec)

/-- 'rampartlaw27.BloomBack', WHERE WHAT IT READS IS OF BULK AT MOST 1048576: true; the input reads as it did. -/
def bloomBackUptoRow : OpenClaim := { program := "ytaobgofbhommcaa", sum := "89950396d886c615c888cd7ab241a0b4595c82916414b46081955a17b1ce3699", func := "rampart/rampartlaw27.BloomBack", spec := "bloomBack", unfollowed := true, recurses := true, apart := false, narrowed := true }
def BloomBackUptoSaid : Prop := bloomBackUptoRow.holds Try.pinned (OpenSpec.upto bloomBackSpec)

/-- 'rampartlaw27.BloomKeeps', WHERE WHAT IT READS IS OF BULK AT MOST 1048576: true; the input reads as it did. -/
def bloomKeepsUptoRow : OpenClaim := { program := "ytaobgofbhommcaa", sum := "89950396d886c615c888cd7ab241a0b4595c82916414b46081955a17b1ce3699", func := "rampart/rampartlaw27.BloomKeeps", spec := "bloomKeeps", unfollowed := true, recurses := true, apart := false, narrowed := true }
def BloomKeepsUptoSaid : Prop := bloomKeepsUptoRow.holds Try.pinned (OpenSpec.upto bloomKeepsSpec)

end Rows
end Go.Proofs.Ytaobgofbhommcaa
