import Derived.Test.YtocejipjnklieaaE8
import Derived.Test.YtocejipjnklieaaP3
namespace Go.Proofs.Ytocejipjnklieaa
open Go Hv
set_option linter.unusedVariables false
set_option linter.unusedSimpArgs false
set_option maxRecDepth 10000
set_option maxHeartbeats 4000000
/-! Shots of several disks, kept while the disks go on. -/
theorem Many.offT {H1 H : Heap} {ds : List Dsk} {e size n c : Nat} {a : Option Addr} {xs : List Value} (M : Many H1 H ds) (o : OwnRow H e size a n c xs) (h1 : e ≠ 68) (h2 : e ≠ 74) (h3 : e ≠ 5) : Off (dskB ds) a := off_notin fun b hb hm => by
  obtain ⟨d, hd, hb'⟩ := List.mem_flatMap.1 hm
  obtain ⟨i, hi⟩ := List.getElem?_of_mem hd
  exact (M.each i d hi).offT o h1 h2 h3 b hb hb'
theorem Many.keepO {H1 H : Heap} {ds : List Dsk} {e size n c : Nat} {a : Option Addr} {xs : List Value} (M : Many H1 H ds) (o : OwnRow H e size a n c xs) (h1 : e ≠ 68) (h2 : e ≠ 74) (h3 : e ≠ 5) : OwnRow (lessH H (dskB ds)) e size a n c xs :=
  o.upd (upd_less H _) (M.offT o h1 h2 h3)
theorem Many.rest {H1 H : Heap} {ds : List Dsk} {d : Dsk} {i : Nat} (M : Many H1 H ds) (h : ds[i]? = some d) : Upd [] H1 (lessH H (dskB ds)) := upd_less0 (M.base h) M.old
section
variable {H1 H : Heap} {ds : List Dsk} {d : Dsk} {i N : Nat} {K : Value → Heap → Prop}
/-- A shot of one of several disks; the new base holds the shot. -/
theorem many_shot (M : Many H1 H ds) (hi : ds[i]? = some d) (ok : d.s.Ok N) (hN : N ≤ 140737488355328)
    (hk : ∀ aN aB cN cB ns fl' H' H1', Many H1' H' (ds.set i ⟨d.g, d.r, d.s.upp, fl'⟩) → Upd [] H1 H1' → ShV H1' (.agg [.slice aN ns.length cN, .slice aB ns.length cB].toArray) ns (ns.map (bytesAt d.s)) → Nms d.s ns → ns.length ≤ 16 →
      K (.tuple #[.agg [.slice aN ns.length cN, .slice aB ns.length cB].toArray, .bool true]) H') : HCalls Try.prog 30 [.pointer (some ⟨d.g, 0, none⟩)] H K := by
  have D := M.each i d hi
  have hil := (List.getElem?_eq_some_iff.1 hi).1
  refine shot_t D ok hN fun v ns fl' H' D' S' nm h16 sh => ?_
  obtain ⟨aN, aB, cN, cB, vs, rfl, _⟩ := sh.ex
  have M' := M.step hi D' S'
  have hi' : (ds.set i ⟨d.g, d.r, d.s.upp, fl'⟩)[i]? = some ⟨d.g, d.r, d.s.upp, fl'⟩ := List.getElem?_set_self hil
  refine hk aN aB cN cB ns fl' H' _ M'.less (M'.rest hi') (sh.shv (upd_less H' _) fun b hz hl hb hm => ?_) nm h16
  obtain ⟨e, he, hb'⟩ := List.mem_flatMap.1 hm
  obtain ⟨j, hj⟩ := List.getElem?_of_mem he
  rw [List.getElem?_set] at hj
  split at hj
  · cases hj; exact hb hb'
  · rename_i hij
    rcases hz with h | h
    · exact M.apart i j _ _ hij hi hj b h hb'
    · exact (M.each j e hj).phys.live b hb' h
end
end Go.Proofs.Ytocejipjnklieaa
