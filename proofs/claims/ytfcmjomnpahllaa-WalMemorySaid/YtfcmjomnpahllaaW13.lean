import Derived.Test.YtfcmjomnpahllaaW8
namespace Go.Proofs.Ytfcmjomnpahllaa
open Go Hv
set_option linter.unusedVariables false
set_option linter.unusedSimpArgs false
set_option maxRecDepth 10000
set_option maxHeartbeats 4000000
/-! Slots: rows in blocks of their own, beside the blocks B; written in place and lengthened. -/
theorem Hv.OwnRow.flat {H : Heap} {e : TypeId} {size n cap : Nat} {a : Option Addr} {xs : List Value} (h : OwnRow H e size a n cap xs) : OwnRow H e 1 a (n * size) (cap * size) xs := by
  refine ⟨by rw [h.len, Nat.mul_one], ?_⟩
  rcases h.ok with ⟨h1, h2, h3⟩ | ⟨g, cur, ha, hg, h1, h2, h3⟩
  · exact .inl ⟨h1, by rw [h2, Nat.zero_mul], by rw [h3, Nat.zero_mul]⟩
  · exact .inr ⟨g, cur, ha, hg, by rw [h1, Nat.mul_one], Nat.mul_le_mul_right _ h2, h3⟩
structure Slot where
  e : TypeId
  z : Nat
  a : Option Addr
  n : Nat
  c : Nat
  xs : List Value
def Slot.row (H : Heap) (s : Slot) : Prop := OwnRow H s.e s.z s.a s.n s.c s.xs
structure Slots (L : Heap) (B : List Nat) (H : Heap) (ss : List Slot) : Prop where
  own : ∀ s ∈ ss, s.row H
  off : ∀ s ∈ ss, ∀ b ∈ blk s.a, b ∉ B
  new : ∀ s ∈ ss, ∀ b ∈ blk s.a, L b = none
  apart : ss.Pairwise fun s t => ∀ b ∈ blk s.a, b ∉ blk t.a
  u : Upd [] L (lessH H B)
section
variable {L H H' H'' : Heap} {B B' : List Nat} {ss : List Slot} {s s' : Slot} {i : Nat}
theorem Slots.nil (h : Upd [] L (lessH H B)) : Slots L B H [] := ⟨fun s h => by simp at h, fun s h => by simp at h, fun s h => by simp at h, List.Pairwise.nil, h⟩
theorem Slots.live (S : Slots L B H ss) (hs : s ∈ ss) {b : Nat} (hb : b ∈ blk s.a) : H b ≠ none := by
  obtain ⟨p, hp, rfl⟩ := blk_of hb
  exact OwnRow.there (S.own s hs) hp
theorem Slots.less (S : Slots L B H ss) (hs : s ∈ ss) : s.row (lessH H B) := OwnRow.less (S.own s hs) (S.off s hs)
/-- What happens beside them. -/
theorem Slots.step (S : Slots L B H ss) (u : Upd [] (lessH H B) (lessH H' B')) : Slots L B' H' ss :=
  ⟨fun s hs => ownrow_up ((S.less hs).upd u (Off.nil _)), fun s hs b hb => by
    obtain ⟨p, hp, rfl⟩ := blk_of hb
    exact (less_ne (((S.less hs).upd u (Off.nil _)).there hp)).1, S.new, S.apart, S.u.trans u⟩
theorem Slots.upd0 (S : Slots L B H ss) (u : Upd [] H H') : Slots L B H' ss := S.step (less0 u)
theorem Slots.get (S : Slots L B H ss) (hs : ss[i]? = some s) : OwnRow H s.e s.z s.a s.n s.c s.xs := S.own s (List.mem_of_getElem? hs)
theorem Slots.apart' (S : Slots L B H ss) {j : Nat} {t : Slot} (hij : i ≠ j) (hs : ss[i]? = some s) (ht : ss[j]? = some t) : ∀ b ∈ blk s.a, b ∉ blk t.a := by
  have key : ∀ {i j : Nat} {s t : Slot}, i < j → ss[i]? = some s → ss[j]? = some t → ∀ b ∈ blk s.a, b ∉ blk t.a := fun h hs ht => by
    obtain ⟨h1, rfl⟩ := List.getElem?_eq_some_iff.1 hs
    obtain ⟨h2, rfl⟩ := List.getElem?_eq_some_iff.1 ht
    exact List.pairwise_iff_getElem.1 S.apart _ _ h1 h2 h
  rcases Nat.lt_or_gt_of_ne hij with h | h
  · exact key h hs ht
  · intro b hb hb'
    exact key h ht hs b hb' hb
/-- More of them. -/
theorem Slots.adds {tt : List Slot} (S : Slots L B H ss) (u : Upd [] (lessH H B) (lessH H' B')) (ow : ∀ s ∈ tt, s.row (lessH H' B')) (nw : ∀ s ∈ tt, ∀ b ∈ blk s.a, lessH H B b = none) (ap : tt.Pairwise fun s t => ∀ b ∈ blk s.a, b ∉ blk t.a) : Slots L B' H' (ss ++ tt) := by
  have S' := S.step u
  refine ⟨fun s hs => ?_, fun s hs => ?_, fun s hs => ?_, ?_, S'.u⟩
  · rcases List.mem_append.1 hs with h | h
    · exact S'.own s h
    · exact ownrow_up (ow s h)
  · rcases List.mem_append.1 hs with h | h
    · exact S'.off s h
    · intro b hb
      obtain ⟨p, hp, rfl⟩ := blk_of hb
      exact (less_ne ((ow s h).there hp)).1
  · rcases List.mem_append.1 hs with h | h
    · exact S.new s h
    · intro b hb
      exact Upd.none (S := []) S.u (by simp) (nw s h b hb)
  · refine List.pairwise_append.2 ⟨S.apart, ap, fun s hs t ht b hb hb' => ?_⟩
    obtain ⟨p, hp, rfl⟩ := blk_of hb
    exact (S.less hs).there hp (nw t ht _ hb')
theorem Slots.add {e : TypeId} {z n c : Nat} {a : Option Addr} {xs : List Value} (S : Slots L B H ss) (m : Made H H' e z a n c xs) (hB : ∀ b ∈ B, H b ≠ none) : Slots L B H' (ss ++ [⟨e, z, a, n, c, xs⟩]) := by
  have hf : ∀ b ∈ blk a, H b = none := fun b hb => by
    obtain ⟨p, hp, rfl⟩ := blk_of hb
    exact m.new p hp
  refine S.adds (less0 m.upd) (fun s hs => ?_) (fun s hs b hb => ?_) (List.pairwise_singleton _ _)
  · rw [List.mem_singleton.1 hs]
    exact m.own.less fun b hb hB' => hB b hB' (hf b hb)
  · rw [List.mem_singleton.1 hs] at hb
    exact less_nn (hf b hb)
/-- One of them anew: in its place, or in a new block. -/
theorem Slots.change (S : Slots L B H ss) (hs : ss[i]? = some s) (u : Upd (blk s.a) H H') (ow : s'.row H') (nw : ∀ b ∈ blk s'.a, b ∈ blk s.a ∨ (H b = none ∧ b ∉ B)) : Slots L B H' (ss.set i s') := by
  have hil := (List.getElem?_eq_some_iff.1 hs).1
  have hm := List.mem_of_getElem? hs
  have key : ∀ t ∈ ss.set i s', t = s' ∨ (t ∈ ss ∧ ∀ b ∈ blk s.a, b ∉ blk t.a) := fun t ht => by
    obtain ⟨j, hj⟩ := List.getElem?_of_mem ht
    rw [List.getElem?_set] at hj
    split at hj
    · cases hj; exact .inl rfl
    · rename_i hij
      exact .inr ⟨List.mem_of_getElem? hj, S.apart' hij hs hj⟩
  refine ⟨fun t ht => ?_, fun t ht => ?_, fun t ht => ?_, ?_, ?_⟩
  · rcases key t ht with rfl | ⟨h, o⟩
    · exact ow
    · exact OwnRow.upd (S.own t h) u (off_notin fun b hb hb' => o b hb' hb)
  · rcases key t ht with rfl | ⟨h, o⟩
    · intro b hb
      rcases nw b hb with h | h
      · exact S.off s hm b h
      · exact h.2
    · exact S.off t h
  · rcases key t ht with rfl | ⟨h, o⟩
    · intro b hb
      rcases nw b hb with h | h
      · exact S.new s hm b h
      · exact Upd.none (S := []) S.u (by simp) (less_nn h.1)
    · exact S.new t h
  · have old : ∀ (j : Nat) (t : Slot), j ≠ i → ss[j]? = some t → ∀ b ∈ blk s'.a, b ∉ blk t.a := fun j t hj ht b hb hb' => by
      rcases nw b hb with h | h
      · exact S.apart' (Ne.symm hj) hs ht b h hb'
      · exact S.live (List.mem_of_getElem? ht) hb' h.1
    rw [List.pairwise_iff_getElem]
    intro j k hj hk hjk
    have gj : (ss.set i s')[j]? = some (ss.set i s')[j] := List.getElem?_eq_getElem hj
    have gk : (ss.set i s')[k]? = some (ss.set i s')[k] := List.getElem?_eq_getElem hk
    generalize (ss.set i s')[j] = x at gj
    generalize (ss.set i s')[k] = y at gk
    rw [List.getElem?_set] at gj gk
    intro b hb hb'
    split at gj
    · rename_i e1
      split at gk
      · omega
      · cases gj
        exact old k y (by omega) gk b hb hb'
    · split at gk
      · cases gk
        exact old j x (by omega) gj b hb' hb
      · exact S.apart' (by omega) gj gk b hb hb'
  · exact Upd.drop S.u (less0 u) (S.new s hm)
theorem Slots.store {K : Heap → Prop} {b j k : Nat} {v : Value} (S : Slots L B H ss) (hs : ss[i]? = some s) (ha : s.a = some ⟨b, 0, none⟩) (hv : Value.plain v = true) (hk : k < s.xs.length) (hj : j = k)
    (hK : ∀ H', Slots L B H' (ss.set i { s with xs := s.xs.set k v }) → Upd [b] H H' → b ∉ B → L b = none → K H') : HStore H ⟨b, j, none⟩ v K := by
  have hm := List.mem_of_getElem? hs
  have o0 : OwnRow H s.e s.z s.a s.n s.c s.xs := S.own s hm
  have o := o0.flat
  rw [ha] at o
  have hl := o0.len
  refine store_row o hv (i := k) (by omega) hj fun H' o' u => ?_
  refine hK H' (S.change (s' := { s with xs := s.xs.set k v }) hs (by rw [ha]; exact u) ?_ fun b' hb' => .inl hb') u (S.off s hm b (by rw [ha]; simp [blk])) (S.new s hm b (by rw [ha]; simp [blk]))
  show OwnRow H' s.e s.z s.a s.n s.c (s.xs.set k v)
  refine ⟨by rw [List.length_set]; exact hl, ?_⟩
  rw [ha]
  rcases o'.ok with ⟨h1, _⟩ | ⟨g, cur, ha', hg, h1, h2, h3⟩
  · cases h1
  · exact .inr ⟨g, cur, ha', hg, by rw [h1, Nat.mul_one], o0.le, h3⟩
end
section
variable {P : Program} {L H : Heap} {B : List Nat} {ss : List Slot} {i : Nat}
/-- append to one of them. -/
theorem Slots.append {t e : TypeId} {ie : TypeInfo} {z : Value} {a b : Option Addr} {n cap m c : Nat} {xs ys : List Value} {K : Value → Heap → Prop} {ty : TypeId} (hB : ∀ b ∈ B, H b ≠ none)
    (ht : P.underlying t = some (.slice e)) (hi : P.info? e = some ie) (hz : ie.zero = some z) (hzs : z.cells.size = ie.size) (hs0 : 0 < ie.size)
    (S : Slots L B H ss) (hs : ss[i]? = some ⟨e, ie.size, a, n, cap, xs⟩) (hy : RowAt H b ys) (hyl : ys.length = m * ie.size) (hyp : ∀ v ∈ ys, Value.plain v = true)
    (hlim : (n + m) * ie.bytes ≤ 140737488355328) (hmax : n + m ≤ 4611686018427387904)
    (hk : ∀ a' cap' H', Slots L B H' (ss.set i ⟨e, ie.size, a', n + m, cap', xs ++ ys⟩) → Upd (blk a) H H' → (∀ b ∈ blk a, b ∉ B ∧ L b = none) → K (.slice a' (n + m) cap') H') :
    HSem P (Builtin.append_ #[t, t] ty [.slice a n cap, .slice b m c].toArray) H K := by
  have hm := List.mem_of_getElem? hs
  have o : OwnRow H e ie.size a n cap xs := S.own _ hm
  refine append_rows (ie := ie) (z := z) (xs := xs) (ys := ys) ht hi hz hzs hs0 o hy hyl hyp hlim hmax fun a' c' H' o' u f => ?_
  refine hk a' c' H' (S.change hs u o' fun b' hb' => ?_) u fun b' hb' => ⟨S.off _ hm b' hb', S.new _ hm b' hb'⟩
  obtain ⟨p, hp, rfl⟩ := blk_of hb'
  rcases f p hp with h | h
  · exact .inl (by show p.block ∈ blk a; rw [h]; simp [blk])
  · exact .inr ⟨h, fun hb => hB _ hb h⟩
end
end Go.Proofs.Ytfcmjomnpahllaa
