import Derived.Test.YtocejipjnklieaaD9
namespace Go.Proofs.Ytocejipjnklieaa
open Go Hv
set_option linter.unusedVariables false
set_option linter.unusedSimpArgs false
set_option maxRecDepth 10000
set_option maxHeartbeats 1000000
/-! The plain law of DiskSwaps. -/
def snapN : ByteArray := ⟨#[115, 110, 97, 112]⟩
def junkN : ByteArray := ⟨#[106, 117, 110, 107]⟩
def tmpN : ByteArray := ⟨#[116, 109, 112]⟩
theorem ne1 : (snapN = junkN) = False := by decide
theorem ne2 : (junkN = snapN) = False := by decide
theorem ne3 : (snapN = tmpN) = False := by decide
theorem ne4 : (tmpN = snapN) = False := by decide
theorem ne5 : (junkN = tmpN) = False := by decide
theorem ne6 : (tmpN = junkN) = False := by decide
theorem sz1 : snapN.size = 4 := by decide
theorem sz2 : junkN.size = 4 := by decide
theorem sz3 : tmpN.size = 3 := by decide
def St.readF (s : St) (n : ByteArray) : Int × List UInt8 :=
  if s.call.d.off then (62, []) else match s.call.fs n with
    | none => (61, [])
    | some (x, _) => (0, x)
def sw1 (old : List UInt8) : Int × St := St0.append snapN old
def sw2 (old : List UInt8) : Int × St := (sw1 old).2.sync snapN
def sw3 (old : List UInt8) : Int × St := (sw2 old).2.append junkN [106]
theorem sw1_eq (old : List UInt8) : sw1 old = (0, ⟨⟨false, false, 0, 0, 0⟩, fun k => if k = snapN then some (old, 0) else none, 1⟩) := by
  simp [sw1, St.append, St0, St.call, sz1, St.put]
theorem sw2_eq (old : List UInt8) : sw2 old = (0, ⟨⟨false, false, 0, 0, 0⟩, fun k => if k = snapN then some (old, old.length) else none, 1⟩) := by
  simp only [sw2, sw1_eq]
  simp [St.sync, St.has, St.call, St.put]
  funext k
  split <;> simp_all
theorem sw3_eq (old : List UInt8) : sw3 old = (0, ⟨⟨false, false, 0, 0, 0⟩, fun k => if k = junkN then some ([106], 0) else if k = snapN then some (old, old.length) else none, 2⟩) := by
  simp only [sw3, sw2_eq]
  simp [St.append, St.call, sz2, St.put, ne2]
def sw4 (old : List UInt8) (c keep : Int) : St := ⟨⟨false, true, 0, c, keep⟩, fun k => if k = junkN then some ([106], 0) else if k = snapN then some (old, old.length) else none, 2⟩
theorem sw4_eq (old : List UInt8) {c keep : Int} (h : 0 ≤ c) : (sw3 old).2.arms c keep = sw4 old c keep := by
  simp [sw3_eq, St.arms, sw4, h]
section
variable (old x1 x2 : List UInt8) (c keep : Int)
def swA : Int × St := (sw4 old c keep).append tmpN x1
def swB : Int × St := (swA old x1 c keep).2.append tmpN x2
def swC : Int × St := (swB old x1 x2 c keep).2.sync tmpN
def swE : Int × St := (swC old x1 x2 c keep).2.rename tmpN snapN
def swF : Int × St := (swE old x1 x2 c keep).2.delete junkN
def swU : St := (swF old x1 x2 c keep).2.upp
def swG : Int × List UInt8 := (swU old x1 x2 c keep).readF snapN
def swH : Int × List UInt8 := (swU old x1 x2 c keep).call.readF tmpN
theorem tail_full (keep : Int) (n : Nat) : tailOf keep n n = 0 := by unfold tailOf; omega
theorem crash_synced (keep : Int) (l : List UInt8) : crash1 keep (l, l.length) = (l, l.length) := by unfold crash1; simp [tail_full]
theorem crash_synced2 (keep : Int) (a b : List UInt8) : crash1 keep (a ++ b, a.length + b.length) = (a ++ b, a.length + b.length) := by
  rw [← List.length_append]; exact crash_synced keep _
theorem crash_pre (keep : Int) (l m : List UInt8) (s : Nat) (h : l <+: m) : (crash1 keep (l, s)).1 <+: m := (List.take_prefix _ _).trans h
/-- What the law says of the answers. -/
structure SwLaw : Prop where
  g : (swG old x1 x2 c keep).1 = 0
  ab : (swA old x1 c keep).1 = 62 → (swB old x1 x2 c keep).1 = 62
  ce : (swC old x1 x2 c keep).1 = 62 → (swE old x1 x2 c keep).1 = 62
  ef : (swE old x1 x2 c keep).1 = 62 → (swF old x1 x2 c keep).1 = 62
  yes : (swE old x1 x2 c keep).1 = 0 → (swG old x1 x2 c keep).2 = x1 ++ x2 ∧ (swH old x1 x2 c keep).1 = 61
  no : (swE old x1 x2 c keep).1 ≠ 0 → (swG old x1 x2 c keep).2 = old
  no0 : (swE old x1 x2 c keep).1 ≠ 0 → (swC old x1 x2 c keep).1 = 0 → (swH old x1 x2 c keep).1 = 0 ∧ (swH old x1 x2 c keep).2 = x1 ++ x2
  no1 : (swE old x1 x2 c keep).1 ≠ 0 → (swC old x1 x2 c keep).1 ≠ 0 → (swH old x1 x2 c keep).1 = 61 ∨ (swH old x1 x2 c keep).2 <+: x1 ++ x2
  roomA : (sw4 old c keep).call.fs tmpN = none
  roomB : ∀ x y, (swA old x1 c keep).2.call.fs tmpN = some (x, y) → x.length ≤ x1.length
theorem sw_law0 : SwLaw old x1 x2 0 keep := by
  constructor <;> simp [swG, swH, swU, swF, swE, swC, swB, swA, sw4, St.append, St.sync, St.has, St.rename, St.delete, St.readF, St.upp, St.call, St.crash, St.put, St.del, ne1, ne2, ne3, ne4, ne5, ne6, sz1, sz2, sz3, crash_synced, crash_synced2, crash_pre]
theorem sw_law1 : SwLaw old x1 x2 1 keep := by
  constructor <;> simp [swG, swH, swU, swF, swE, swC, swB, swA, sw4, St.append, St.sync, St.has, St.rename, St.delete, St.readF, St.upp, St.call, St.crash, St.put, St.del, ne1, ne2, ne3, ne4, ne5, ne6, sz1, sz2, sz3, crash_synced, crash_synced2, crash_pre]
  intro x y h
  unfold crash1 at h; cases h; simp; omega
theorem sw_law2 : SwLaw old x1 x2 2 keep := by
  constructor <;> simp [swG, swH, swU, swF, swE, swC, swB, swA, sw4, St.append, St.sync, St.has, St.rename, St.delete, St.readF, St.upp, St.call, St.crash, St.put, St.del, ne1, ne2, ne3, ne4, ne5, ne6, sz1, sz2, sz3, crash_synced, crash_synced2, crash_pre]
theorem sw_law3 : SwLaw old x1 x2 3 keep := by
  constructor <;> simp [swG, swH, swU, swF, swE, swC, swB, swA, sw4, St.append, St.sync, St.has, St.rename, St.delete, St.readF, St.upp, St.call, St.crash, St.put, St.del, ne1, ne2, ne3, ne4, ne5, ne6, sz1, sz2, sz3, crash_synced, crash_synced2, crash_pre]
theorem sw_law4 : SwLaw old x1 x2 4 keep := by
  constructor <;> simp [swG, swH, swU, swF, swE, swC, swB, swA, sw4, St.append, St.sync, St.has, St.rename, St.delete, St.readF, St.upp, St.call, St.crash, St.put, St.del, ne1, ne2, ne3, ne4, ne5, ne6, sz1, sz2, sz3, crash_synced, crash_synced2, crash_pre]
theorem sw_law5 (h : c = 5 ∨ c = 6 ∨ c = 7) : SwLaw old x1 x2 c keep := by
  rcases h with rfl | rfl | rfl <;> constructor <;> simp [swG, swH, swU, swF, swE, swC, swB, swA, sw4, St.append, St.sync, St.has, St.rename, St.delete, St.readF, St.upp, St.call, St.crash, St.put, St.del, ne1, ne2, ne3, ne4, ne5, ne6, sz1, sz2, sz3, crash_synced, crash_synced2, crash_pre]
theorem sw_law (h0 : 0 ≤ c) (h7 : c ≤ 7) : SwLaw old x1 x2 c keep := by
  have : c = 0 ∨ c = 1 ∨ c = 2 ∨ c = 3 ∨ c = 4 ∨ (c = 5 ∨ c = 6 ∨ c = 7) := by omega
  rcases this with rfl | rfl | rfl | rfl | rfl | h
  · exact sw_law0 ..
  · exact sw_law1 ..
  · exact sw_law2 ..
  · exact sw_law3 ..
  · exact sw_law4 ..
  · exact sw_law5 _ _ _ _ _ h
end
end Go.Proofs.Ytocejipjnklieaa
