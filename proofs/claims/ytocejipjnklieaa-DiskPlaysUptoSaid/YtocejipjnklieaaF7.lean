import Derived.Test.YtocejipjnklieaaF6
namespace Go.Proofs.Ytocejipjnklieaa
open Go Hv
set_option linter.unusedVariables false
set_option linter.unusedSimpArgs false
set_option maxRecDepth 10000
set_option maxHeartbeats 4000000
/-! The document's disk: a file is changed; Sync. CUT2 -/
theorem names_ne {fs : List RFl} (ri : (fs.map RFl.name).Pairwise (· < ·)) {i j : Nat} {f f' : RFl} (hi : fs[i]? = some f) (hj : fs[j]? = some f') (h : i ≠ j) : f.name ≠ f'.name := by
  have key : ∀ {i j : Nat} {f f' : RFl}, fs[i]? = some f → fs[j]? = some f' → i < j → f.name < f'.name := fun {i j f f'} hi hj hij => by
    obtain ⟨q1, q2⟩ := List.getElem?_eq_some_iff.1 hi
    obtain ⟨q3, q4⟩ := List.getElem?_eq_some_iff.1 hj
    have hp := List.pairwise_iff_getElem.1 ri i j (by rw [List.length_map]; exact q1) (by rw [List.length_map]; exact q3) hij
    rw [List.getElem_map, List.getElem_map, q2, q4] at hp
    exact hp
  intro e
  rcases Nat.lt_or_gt_of_ne h with h' | h'
  · have := key hi hj h'; rw [e] at this; exact List.lt_irrefl _ this
  · have := key hj hi h'; rw [e] at this; exact List.lt_irrefl _ this
theorem bs_inj {a b : Txt} (h : bs a = bs b) : a = b := by
  have := congrArg (fun z : ByteArray => z.data.toList) h; exact this
theorem RIn.setf {H1 H H' : Heap} {g : Nat} {s : St} {fs : List RFl} {aF : Option Addr} {cF i : Nat} {cl st : Int} {f f' : RFl} (r : RIn H1 H g s fs aF cF cl st) (hi : fs[i]? = some f) (hn : f'.name = f.name)
    (ph : RPh H1 H' g (fs.set i f') aF cF s.d.off s.d.refuses cl st) (hs : f'.synced ≤ f'.bytes.length) : RIn H1 H' g (s.put (bs f.name) (f'.bytes, f'.synced)) (fs.set i f') aF cF cl st := by
  have hil := (List.getElem?_eq_some_iff.1 hi).1
  have hmap : (fs.set i f').map RFl.name = fs.map RFl.name := by
    rw [List.map_set, hn]
    exact set_slf (by rw [List.getElem?_map, hi]; rfl)
  have hmem : ∀ x ∈ fs.set i f', x = f' ∨ ∃ j, j ≠ i ∧ fs[j]? = some x := fun x hx => by
    obtain ⟨j, hj⟩ := List.getElem?_of_mem hx
    rw [List.getElem?_set] at hj
    split at hj
    · cases hj; exact .inl rfl
    · rename_i e; exact .inr ⟨j, fun h => e h.symm, hj⟩
  refine ⟨ph.obj, ph.row, ph.byt, ph.ap, ph.new, ph.base, by rw [hmap]; exact r.ri, fun x hx => ?_, fun k y hy => ?_, fun x hx => ?_, ?_, r.arm, r.hi, r.rhi⟩
  · show (if bs x.name = bs f.name then some (f'.bytes, f'.synced) else s.fs (bs x.name)) = _
    rcases hmem x hx with rfl | ⟨j, hj, hjx⟩
    · rw [if_pos (by rw [hn])]
    · rw [if_neg (fun h => names_ne r.ri hjx hi hj (bs_inj h))]
      exact r.get x (List.mem_of_getElem? hjx)
  · have hy : (if k = bs f.name then some (f'.bytes, f'.synced) else s.fs k) = some y := hy
    have hf' : f' ∈ fs.set i f' := List.mem_of_getElem? (List.getElem?_set_self hil)
    split at hy
    · rename_i e
      exact ⟨f', hf', by rw [hn, e]⟩
    · rename_i e
      obtain ⟨x, hx, hxn⟩ := r.all k y hy
      obtain ⟨j, hj⟩ := List.getElem?_of_mem hx
      have hji : j ≠ i := fun h => by subst h; rw [hi] at hj; cases hj; exact e hxn.symm
      exact ⟨x, List.mem_of_getElem? (i := j) (by rw [List.getElem?_set_ne (fun h => hji h.symm)]; exact hj), hxn⟩
  · rcases hmem x hx with rfl | ⟨j, hj, hjx⟩
    · exact hs
    · exact r.syn x (List.mem_of_getElem? hjx)
  · show (if (s.fs (bs f.name)).isSome then s.cnt else s.cnt + 1) = _
    rw [r.get f (List.mem_of_getElem? hi), List.length_set]
    exact r.cnt
theorem rblk_set {g : Nat} {aF : Option Addr} {fs : List RFl} {i : Nat} {f f' : RFl} (hi : fs[i]? = some f) (ha : f'.a = f.a) : rblk g aF (fs.set i f') = rblk g aF fs := by
  unfold rblk
  congr 2
  rw [List.flatMap_def, List.flatMap_def, List.map_set]
  congr 1
  exact set_slf (by rw [List.getElem?_map, hi]; unfold RFl.bl; rw [ha]; rfl)
theorem RIn.none {H1 H : Heap} {g : Nat} {s : St} {fs : List RFl} {aF : Option Addr} {cF i : Nat} {cl st : Int} {t : Txt} (r : RIn H1 H g s fs aF cF cl st) (h1 : ∀ (j : Nat) f, j < i → fs[j]? = some f → f.name < t) (h2 : ∀ (j : Nat) f, i ≤ j → fs[j]? = some f → t < f.name) : s.fs (bs t) = none := by
  cases e : s.fs (bs t) with
  | none => rfl
  | some x =>
    obtain ⟨f, hf, hn⟩ := r.all _ _ e
    obtain ⟨j, hj⟩ := List.getElem?_of_mem hf
    have hn := bs_inj hn
    by_cases h : j < i
    · have := h1 j f h hj; rw [hn] at this; exact absurd this (List.lt_irrefl _)
    · have := h2 j f (by omega) hj; rw [hn] at this; exact absurd this (List.lt_irrefl _)
end Go.Proofs.Ytocejipjnklieaa
