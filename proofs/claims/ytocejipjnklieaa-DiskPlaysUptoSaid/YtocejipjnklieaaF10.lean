import Derived.Test.YtocejipjnklieaaF9
namespace Go.Proofs.Ytocejipjnklieaa
open Go Hv
set_option linter.unusedVariables false
set_option linter.unusedSimpArgs false
set_option maxRecDepth 10000
set_option maxHeartbeats 4000000
/-! The document's disk: new slices of files. CUT2 -/
theorem append_rf {a b : Option Addr} {n cap m c : Nat} {xs ys : List RFl} {H : Heap} {K : Value → Heap → Prop} (ho : OwnRow H 96 3 a n cap (rfV xs)) (hy : RowAt H b (rfV ys)) (hm : ys.length = m) (hlim : n + m ≤ 1000)
    (hk : ∀ a' cap' H', OwnRow H' 96 3 a' (n + m) cap' (rfV (xs ++ ys)) → Upd (blk a) H H' → (∀ p, a' = some p → a = some p ∨ H p.block = none) → K (.slice a' (n + m) cap') H') :
    HSem Try.prog (Builtin.append_ #[79, 79] 79 [.slice a n cap, .slice b m c].toArray) H K := by
  refine append_rows (ie := Try.t96) (z := .agg #[.string ⟨#[]⟩, .slice none 0 0, .int .i64 0]) (ys := rfV ys) (xs := rfV xs) Try.underlying79 rfl rfl rfl (by decide) ho hy (by rw [rfV_length, hm]; rfl) (plain_rf _) (by show (n + m) * 48 ≤ _; omega) (by omega) fun a' cap' H' o u f => ?_
  rw [← rfV_append] at o
  exact hk a' cap' H' o u f
theorem RPh.redo {H1 H H' : Heap} {g : Nat} {fs fs' : List RFl} {aF aF' : Option Addr} {cF cF' : Nat} {off : Bool} {rf cl st : Int} (R : RPh H1 H g fs aF cF off rf cl st) (u : Upd [g] H H') (o : OwnRow H' 81 1 (some ⟨g, 0, none⟩) 5 5 (rdcells aF' fs'.length cF' off rf cl st))
    (row : OwnRow H' 96 3 aF' fs'.length cF' (rfV fs')) (na : ∀ b ∈ blk aF', H b = none) (byt : ∀ f ∈ fs', WRow H 5 1 f.a f.bytes.length f.c (u8s f.bytes)) (ap : ∀ (i j : Nat) f f', i ≠ j → fs'[i]? = some f → fs'[j]? = some f' → ∀ b ∈ f.bl, b ∉ f'.bl)
    (sub : ∀ f ∈ fs', ∀ b ∈ f.bl, b ∈ rblk g aF fs) : RPh H1 H' g fs' aF' cF' off rf cl st ∧ Stq H H' (rblk g aF fs) (rblk g aF' fs') := by
  have hgb : ∀ f ∈ fs', ∀ b ∈ f.bl, b ∉ [g] := fun f hf b hb hm => by
    rw [List.mem_singleton.1 hm] at hb
    obtain ⟨c, z, e⟩ := own_live R.obj
    obtain ⟨c', z', e'⟩ := (byt f hf).live g hb
    rw [e] at e'; cases e'
  refine ⟨⟨o, row, fun f hf => (byt f hf).upd u (off_notin (hgb f hf)), ap, fun b hb => ?_, Upd.drop R.base u (fun b hb => by rw [List.mem_singleton.1 hb]; exact R.new g (mem_rblk.2 (.inl rfl)))⟩, ⟨u.mono (fun k hk => by rw [List.mem_singleton.1 hk]; exact mem_rblk.2 (.inl rfl)), fun b hb => ?_⟩⟩
  · rcases mem_rblk.1 hb with h | h | ⟨f, hf, h⟩
    · exact R.new b (mem_rblk.2 (.inl h))
    · exact Classical.byContradiction fun hn => hn (by rw [← R.base b (by simp) hn]; exact na b h)
    · exact R.new b (sub f hf b h)
  · rcases mem_rblk.1 hb with h | h | ⟨f, hf, h⟩
    · exact .inl (mem_rblk.2 (.inl h))
    · exact .inr (na b h)
    · exact .inl (sub f hf b h)
end Go.Proofs.Ytocejipjnklieaa
