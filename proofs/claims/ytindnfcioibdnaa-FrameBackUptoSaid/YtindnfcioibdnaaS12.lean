import Derived.Test.YtindnfcioibdnaaS11
import Derived.Test.YtindnfcioibdnaaS8
namespace Go.Proofs.Ytindnfcioibdnaa
open Go Hv
set_option linter.unusedVariables false
set_option maxRecDepth 10000
/-- A list of slices of bytes that is read. -/
def Lists (H : Heap) (a : Option Addr) (vs : List Value) (ls : List (List UInt8)) : Prop := RowAt H a vs ∧ All2 (Slr H) vs ls
theorem slr_upd {S : List Nat} {H H' : Heap} {v : Value} {l : List UInt8} (h : Slr H v l) (hu : Upd [] H H') : Slr H' v l := by
  obtain ⟨a, c, rfl, hr⟩ := h
  exact ⟨a, c, rfl, hr.upd hu (.inr (Off.nil _))⟩
structure FbInv (vs0 : List Value) (ls : List (List UInt8)) (H0 : Heap) (m : Nat) (vs : List Value) (H' : Heap) : Prop where
  ex : ∃ (i : Nat) (aa : Option Addr) (ca : Nat) (aw : Option Addr) (cw : Nat), vs = [.slice aa (frames (ls.take i)).length ca, .slice aw i cw, .int .i64 (i : Int)] ∧ m + i = ls.length ∧ i ≤ ls.length ∧ OwnRow H' 5 1 aa (frames (ls.take i)).length ca (u8s (frames (ls.take i))) ∧ OwnRow H' 22 1 aw i cw (vs0.take i) ∧
    Upd [] H0 H' ∧ (∀ p, aa = some p → H0 p.block = none) ∧ (∀ p, aw = some p → H0 p.block = none)
theorem frames_length : ∀ l : List (List UInt8), (frames l).length = 4 * l.length + (l.map List.length).sum
  | [] => rfl
  | b :: l => by simp only [frames, List.length_append, hd_length, frames_length l, List.length_cons, List.map_cons, List.sum_cons]; omega
theorem sum_take_le : ∀ (l : List (List UInt8)) (i : Nat), ((l.take i).map List.length).sum ≤ (l.map List.length).sum
  | [], i => by simp
  | b :: l, 0 => by simp
  | b :: l, i + 1 => by have := sum_take_le l i; simp only [List.take_succ_cons, List.map_cons, List.sum_cons]; omega
theorem sum_get_le : ∀ (l : List (List UInt8)) (i : Nat) (b : List UInt8), l[i]? = some b → b.length ≤ (l.map List.length).sum
  | x :: l, 0, b, h => by simp at h; subst h; simp
  | x :: l, i + 1, b, h => by have := sum_get_le l i b (by simpa using h); simp only [List.map_cons, List.sum_cons]; omega
end Go.Proofs.Ytindnfcioibdnaa
