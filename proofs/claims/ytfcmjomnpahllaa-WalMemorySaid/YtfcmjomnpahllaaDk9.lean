import Derived.Test.YtfcmjomnpahllaaDk8
namespace Go.Proofs.Ytfcmjomnpahllaa
open Go Hv
set_option linter.unusedVariables false
set_option linter.unusedSimpArgs false
set_option maxRecDepth 10000
set_option maxHeartbeats 4000000
def St.readF (s : St) (n : ByteArray) : Int × List UInt8 :=
  if s.call.d.off then (62, []) else match s.call.fs n with
    | none => (61, [])
    | some (x, _) => (0, x)
section
variable {H1 H : Heap} {g r : Nat} {s : St} {fl : List Fl} {K : Value → Heap → Prop}
theorem DiskAt.base (D : DiskAt H1 H g r s fl) : Upd [] H1 H := D.phys.grp.upd
theorem keep_row {a : Option Addr} {xs : List Value} (D : DiskAt H1 H g r s fl) (h : RowAt H1 a xs) : RowAt H a xs := h.upd (S := []) D.base (.inr (Off.nil _))
theorem read_f {n : ByteArray} (D : DiskAt H1 H g r s fl)
    (hk : ∀ a c fl' H2 H', DiskAt H1 H2 g r s.call fl' → Stp H H2 g r fl fl' → Made H2 H' 5 1 a (s.readF n).2.length c (u8s (s.readF n).2) → K (.tuple #[.slice a (s.readF n).2.length c, .int .i64 (s.readF n).1]) H') :
    HCalls Try.prog 27 [.pointer (some ⟨g, 0, none⟩), .string n] H K := by
  refine dread_t D (fun e fl' H' D' st h => ?_) (fun x y a c fl' H2 H' ho hget D' st m => ?_)
  · have : s.readF n = (e, []) := by
      unfold St.readF
      rcases h with ⟨h, rfl⟩ | ⟨h, hn, rfl⟩
      · rw [if_pos h]
      · rw [if_neg (by rw [h]; simp), hn]
    rw [this] at hk
    exact hk none 0 fl' H' H' D' st ⟨OwnRow.nil _ _ _, Upd.refl _ _, fun p hp => by cases hp⟩
  · have : s.readF n = (0, x) := by
      unfold St.readF
      rw [if_neg (by rw [ho]; simp), hget]
    rw [this] at hk
    exact hk a c fl' H2 H' D' st m
end
end Go.Proofs.Ytfcmjomnpahllaa
