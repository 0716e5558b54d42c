import Derived.Test.YtocejipjnklieaaF11
namespace Go.Proofs.Ytocejipjnklieaa
open Go Hv
set_option linter.unusedVariables false
set_option linter.unusedSimpArgs false
set_option maxRecDepth 10000
set_option maxHeartbeats 4000000
/-! The document's disk: Delete. CUT2 -/
theorem erase_get {fs : List RFl} {i : Nat} : ∀ (j : Nat) f, (fs.take i ++ fs.drop (i + 1))[j]? = some f → fs[if j < i then j else j + 1]? = some f := fun j f h => by
  rw [← List.eraseIdx_eq_take_drop_succ, List.getElem?_eraseIdx] at h
  split at h <;> rename_i q
  · rw [if_pos q]; exact h
  · rw [if_neg q]; exact h
theorem RIn.del {H1 H H' : Heap} {g : Nat} {s : St} {fs : List RFl} {aF aF' : Option Addr} {cF cF' i : Nat} {cl st : Int} {f : RFl} (r : RIn H1 H g s fs aF cF cl st) (hi : fs[i]? = some f)
    (ph : RPh H1 H' g (fs.take i ++ fs.drop (i + 1)) aF' cF' s.d.off s.d.refuses cl st) : RIn H1 H' g (s.del (bs f.name)) (fs.take i ++ fs.drop (i + 1)) aF' cF' cl st := by
  have hil := (List.getElem?_eq_some_iff.1 hi).1
  have hmem : ∀ x ∈ fs.take i ++ fs.drop (i + 1), ∃ j, j ≠ i ∧ fs[j]? = some x := fun x hx => by
    obtain ⟨j, hj⟩ := List.getElem?_of_mem hx
    exact ⟨_, by split <;> omega, erase_get j x hj⟩
  have hne : ∀ x ∈ fs.take i ++ fs.drop (i + 1), ¬ bs x.name = bs f.name := fun x hx h => by
    obtain ⟨j, hj, hjx⟩ := hmem x hx
    exact names_ne r.ri hjx hi hj (bs_inj h)
  refine ⟨ph.obj, ph.row, ph.byt, ph.ap, ph.new, ph.base, ?_, fun x hx => ?_, fun k y hy => ?_, fun x hx => ?_, ?_, r.arm, r.hi, r.rhi⟩
  · rw [← List.eraseIdx_eq_take_drop_succ]
    exact r.ri.sublist ((List.eraseIdx_sublist fs i).map _)
  · show (if bs x.name = bs f.name then Option.none else s.fs (bs x.name)) = _
    rw [if_neg (hne x hx)]
    obtain ⟨j, hj, hjx⟩ := hmem x hx
    exact r.get x (List.mem_of_getElem? hjx)
  · have hy : (if k = bs f.name then Option.none else s.fs k) = some y := hy
    split at hy
    · cases hy
    · rename_i e
      obtain ⟨x, hx, hxn⟩ := r.all k y hy
      obtain ⟨j, hj⟩ := List.getElem?_of_mem hx
      have hji : j ≠ i := fun h => by subst h; rw [hi] at hj; cases hj; exact e hxn.symm
      refine ⟨x, ?_, hxn⟩
      rw [← List.eraseIdx_eq_take_drop_succ]
      by_cases q : j < i
      · exact List.mem_of_getElem? (i := j) (by rw [List.getElem?_eraseIdx, if_pos q]; exact hj)
      · exact List.mem_of_getElem? (i := j - 1) (by rw [List.getElem?_eraseIdx, if_neg (by omega), Nat.sub_add_cancel (by omega)]; exact hj)
  · obtain ⟨j, hj, hjx⟩ := hmem x hx
    exact r.syn x (List.mem_of_getElem? hjx)
  · have := r.cnt
    show (if (s.fs (bs f.name)).isSome then s.cnt - 1 else s.cnt) = _
    rw [r.get f (List.mem_of_getElem? hi)]
    show s.cnt - 1 = _
    rw [List.length_append, List.length_take, List.length_drop]; omega
end Go.Proofs.Ytocejipjnklieaa
