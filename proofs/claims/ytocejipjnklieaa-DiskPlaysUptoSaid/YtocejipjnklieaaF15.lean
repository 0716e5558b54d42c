import Derived.Test.YtocejipjnklieaaF14
namespace Go.Proofs.Ytocejipjnklieaa
open Go Hv
set_option linter.unusedVariables false
set_option linter.unusedSimpArgs false
set_option maxRecDepth 10000
set_option maxHeartbeats 4000000
/-! The document's disk: put. CUT2 -/
theorem mem_ins {fs : List RFl} {i : Nat} {f x : RFl} (h : x ∈ fs.take i ++ f :: fs.drop i) : x = f ∨ x ∈ fs := by
  rcases List.mem_append.1 h with h | h
  · exact .inr (List.mem_of_mem_take h)
  · rcases List.mem_cons.1 h with h | h
    · exact .inl h
    · exact .inr (List.mem_of_mem_drop h)
theorem mem_ins' {fs : List RFl} {i : Nat} {f x : RFl} (h : x = f ∨ x ∈ fs) : x ∈ fs.take i ++ f :: fs.drop i := by
  rcases h with h | h
  · rw [h]; simp
  · rw [← List.take_append_drop i fs] at h
    rcases List.mem_append.1 h with h | h
    · exact List.mem_append_left _ h
    · exact List.mem_append_right _ (List.mem_cons_of_mem _ h)
theorem RIn.ins {H1 H H' : Heap} {g : Nat} {s : St} {fs : List RFl} {aF aF' : Option Addr} {cF cF' i : Nat} {cl st : Int} {f : RFl} (r : RIn H1 H g s fs aF cF cl st) (hi : i ≤ fs.length)
    (h1 : ∀ (j : Nat) x, j < i → fs[j]? = some x → x.name < f.name) (h2 : ∀ (j : Nat) x, i ≤ j → fs[j]? = some x → f.name < x.name)
    (ph : RPh H1 H' g (fs.take i ++ f :: fs.drop i) aF' cF' s.d.off s.d.refuses cl st) (hs : f.synced ≤ f.bytes.length) : RIn H1 H' g (s.put (bs f.name) (f.bytes, f.synced)) (fs.take i ++ f :: fs.drop i) aF' cF' cl st := by
  have hnn := r.none h1 h2
  have hne : ∀ x ∈ fs, ¬ bs x.name = bs f.name := fun x hx h => by
    have := r.get x hx; rw [h, hnn] at this; cases this
  refine ⟨ph.obj, ph.row, ph.byt, ph.ap, ph.new, ph.base, ?_, fun x hx => ?_, fun k y hy => ?_, fun x hx => ?_, ?_, r.arm, r.hi, r.rhi⟩
  · have tk : ∀ a ∈ (fs.take i).map RFl.name, a < f.name := fun a ha => by
      obtain ⟨x, hx, rfl⟩ := List.mem_map.1 ha
      obtain ⟨j, hj⟩ := List.getElem?_of_mem hx
      rw [List.getElem?_take] at hj
      split at hj
      · exact h1 j x (by assumption) hj
      · cases hj
    have dr : ∀ a ∈ (fs.drop i).map RFl.name, f.name < a := fun a ha => by
      obtain ⟨x, hx, rfl⟩ := List.mem_map.1 ha
      obtain ⟨j, hj⟩ := List.getElem?_of_mem hx
      rw [List.getElem?_drop] at hj
      exact h2 (i + j) x (by omega) hj
    rw [List.map_append, List.map_cons]
    refine List.pairwise_append.2 ⟨r.ri.sublist ((List.take_sublist i fs).map _), List.pairwise_cons.2 ⟨dr, r.ri.sublist ((List.drop_sublist i fs).map _)⟩, fun a ha b hb => ?_⟩
    rcases List.mem_cons.1 hb with h | h
    · rw [h]; exact tk a ha
    · exact List.lt_trans (tk a ha) (dr b h)
  · show (if bs x.name = bs f.name then some (f.bytes, f.synced) else s.fs (bs x.name)) = _
    rcases mem_ins hx with rfl | h
    · rw [if_pos rfl]
    · rw [if_neg (hne x h)]; exact r.get x h
  · have hy : (if k = bs f.name then some (f.bytes, f.synced) else s.fs k) = some y := hy
    split at hy
    · rename_i e; exact ⟨f, mem_ins' (.inl rfl), e.symm⟩
    · obtain ⟨x, hx, hxn⟩ := r.all k y hy
      exact ⟨x, mem_ins' (.inr hx), hxn⟩
  · rcases mem_ins hx with rfl | h
    · exact hs
    · exact r.syn x h
  · have := r.cnt
    show (if (s.fs (bs f.name)).isSome then s.cnt else s.cnt + 1) = _
    rw [hnn, List.length_append, List.length_cons, List.length_take, List.length_drop]
    show s.cnt + 1 = _
    omega
end Go.Proofs.Ytocejipjnklieaa
