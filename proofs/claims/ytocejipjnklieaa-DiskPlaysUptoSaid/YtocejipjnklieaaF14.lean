import Derived.Test.YtocejipjnklieaaF13
namespace Go.Proofs.Ytocejipjnklieaa
open Go Hv
set_option linter.unusedVariables false
set_option linter.unusedSimpArgs false
set_option maxRecDepth 10000
set_option maxHeartbeats 4000000
/-! The document's disk: a file is added or taken in the place of one of its name. CUT2 -/
theorem RPh.redo2 {H1 H H' : Heap} {g : Nat} {fs fs' : List RFl} {aF aF' : Option Addr} {cF cF' : Nat} {off : Bool} {rf cl st : Int} {X : List Nat} (R : RPh H1 H g fs aF cF off rf cl st) (u : Upd [g] H H') (o : OwnRow H' 81 1 (some ⟨g, 0, none⟩) 5 5 (rdcells aF' fs'.length cF' off rf cl st))
    (row : OwnRow H' 96 3 aF' fs'.length cF' (rfV fs')) (na : ∀ b ∈ blk aF', H b = none) (byt : ∀ f ∈ fs', WRow H 5 1 f.a f.bytes.length f.c (u8s f.bytes)) (ap : ∀ (i j : Nat) f f', i ≠ j → fs'[i]? = some f → fs'[j]? = some f' → ∀ b ∈ f.bl, b ∉ f'.bl)
    (sub : ∀ f ∈ fs', ∀ b ∈ f.bl, b ∈ rblk g aF fs ∨ b ∈ X) (hX : ∀ b ∈ X, H1 b = none) : RPh H1 H' g fs' aF' cF' off rf cl st ∧ Stq H H' (rblk g aF fs ++ X) (rblk g aF' fs') := by
  have hgb : ∀ f ∈ fs', ∀ b ∈ f.bl, b ∉ [g] := fun f hf b hb hm => by
    rw [List.mem_singleton.1 hm] at hb
    obtain ⟨c, z, e⟩ := own_live R.obj
    obtain ⟨c', z', e'⟩ := (byt f hf).live g hb
    rw [e] at e'; cases e'
  refine ⟨⟨o, row, fun f hf => (byt f hf).upd u (off_notin (hgb f hf)), ap, fun b hb => ?_, Upd.drop R.base u (fun b hb => by rw [List.mem_singleton.1 hb]; exact R.new g (mem_rblk.2 (.inl rfl)))⟩, ⟨u.mono (fun k hk => by rw [List.mem_singleton.1 hk]; exact List.mem_append_left _ (mem_rblk.2 (.inl rfl))), fun b hb => ?_⟩⟩
  · rcases mem_rblk.1 hb with h | h | ⟨f, hf, h⟩
    · exact R.new b (mem_rblk.2 (.inl h))
    · exact Classical.byContradiction fun hn => hn (by rw [← R.base b (by simp) hn]; exact na b h)
    · rcases sub f hf b h with h | h
      · exact R.new b h
      · exact hX b h
  · rcases mem_rblk.1 hb with h | h | ⟨f, hf, h⟩
    · exact .inl (List.mem_append_left _ (mem_rblk.2 (.inl h)))
    · exact .inr (na b h)
    · rcases sub f hf b h with h | h
      · exact .inl (List.mem_append_left _ h)
      · exact .inl (List.mem_append_right _ h)
theorem ins_get {fs : List RFl} {i : Nat} {f : RFl} (hi : i ≤ fs.length) : ∀ (j : Nat) x, (fs.take i ++ f :: fs.drop i)[j]? = some x → (j = i ∧ x = f) ∨ (j ≠ i ∧ fs[if j < i then j else j - 1]? = some x) := fun j x h => by
  have hl : (fs.take i).length = i := by rw [List.length_take]; omega
  by_cases q : j < i
  · rw [List.getElem?_append_left (by omega), List.getElem?_take, if_pos q] at h
    exact .inr ⟨by omega, by rw [if_pos q]; exact h⟩
  · rw [List.getElem?_append_right (by omega), hl] at h
    by_cases e : j = i
    · subst e; rw [Nat.sub_self] at h; exact .inl ⟨rfl, by cases h; rfl⟩
    · obtain ⟨d, rfl⟩ : ∃ d, j = i + 1 + d := ⟨j - i - 1, by omega⟩
      have e2 : i + 1 + d - i = d + 1 := by omega
      rw [e2, List.getElem?_cons_succ, List.getElem?_drop] at h
      exact .inr ⟨e, by rw [if_neg q]; have : i + 1 + d - 1 = i + d := by omega
                        rw [this]; exact h⟩
end Go.Proofs.Ytocejipjnklieaa
