import Derived.Test.YtfcmjomnpahllaaE1
namespace Go.Proofs.Ytfcmjomnpahllaa
open Go Hv
set_option linter.unusedVariables false
set_option linter.unusedSimpArgs false
set_option maxRecDepth 10000
set_option maxHeartbeats 1000000
/-! The names of a state's files; what is kept by every call. -/
structure Nms (s : St) (ns : List Txt) : Prop where
  ri : ns.Pairwise (· < ·)
  mem : ∀ t, t ∈ ns ↔ s.fs (bs t) ≠ none
theorem bs_data (k : ByteArray) : bs k.data.toList = k := rfl
theorem lt_of_le {a b : Txt} (h : a ≤ b) (hn : a ≠ b) : a < b := by
  by_cases h' : a < b
  · exact h'
  · exact absurd (List.le_antisymm h (List.not_lt.1 h')) hn
theorem Nms.of {H1 H : Heap} {g r : Nat} {s : St} {fl : List Fl} {ns : List Txt} (D : DiskAt H1 H g r s fl) (hp : ns.Perm (namesOf fl)) : Nms s (sortT ns) := by
  have hps : (sortT ns).Perm ns := List.mergeSort_perm ns _
  have hnd : (sortT ns).Nodup := by
    refine (hps.trans hp).nodup_iff.2 ?_
    unfold namesOf
    have := D.phys.nn
    rw [List.nodup_iff_pairwise_ne, List.pairwise_map] at this
    rw [List.nodup_iff_pairwise_ne, List.pairwise_map]
    exact this.imp fun h e => h (by rw [← bs_data (Fl.name _), e, bs_data])
  refine ⟨?_, fun t => ?_⟩
  · have hs : (sortT ns).Pairwise fun x y => decide (x ≤ y) = true := List.pairwise_mergeSort (fun a b c h1 h2 => by
      simp only [decide_eq_true_eq] at h1 h2 ⊢; exact List.le_trans h1 h2) (fun a b => by
      simp only [Bool.or_eq_true, decide_eq_true_eq]; exact List.le_total a b) ns
    exact (hs.and (List.nodup_iff_pairwise_ne.1 hnd)).imp fun h => lt_of_le (by simpa using h.1) h.2
  · rw [(hps.trans hp).mem_iff]
    unfold namesOf
    rw [List.mem_map]
    constructor
    · rintro ⟨f, hf, rfl⟩
      rw [bs_data, D.get f hf]; simp
    · intro h
      cases e : s.fs (bs t) with
      | none => exact absurd e h
      | some x =>
        obtain ⟨f, hf, hn⟩ := D.all _ _ e
        exact ⟨f, hf, by rw [hn]; exact bs_list t⟩
theorem sorted_uniq : ∀ {a b : List Txt}, a.Pairwise (· < ·) → b.Pairwise (· < ·) → (∀ t, t ∈ a ↔ t ∈ b) → a = b
  | [], [], _, _, _ => rfl
  | [], y :: b, _, _, h => absurd ((h y).2 List.mem_cons_self) (by simp)
  | x :: a, [], _, _, h => absurd ((h x).1 List.mem_cons_self) (by simp)
  | x :: a, y :: b, ha, hb, h => by
    rw [List.pairwise_cons] at ha hb
    have hxy : x = y := by
      rcases List.mem_cons.1 ((h x).1 List.mem_cons_self) with e | e
      · exact e
      · rcases List.mem_cons.1 ((h y).2 List.mem_cons_self) with e' | e'
        · exact e'.symm
        · exact absurd (List.lt_trans (hb.1 x e) (ha.1 y e')) (List.lt_irrefl y)
    subst hxy
    have : a = b := sorted_uniq ha.2 hb.2 fun t => by
      constructor
      · intro ht
        rcases List.mem_cons.1 ((h t).1 (List.mem_cons_of_mem _ ht)) with e | e
        · subst e; exact absurd (ha.1 t ht) (List.lt_irrefl t)
        · exact e
      · intro ht
        rcases List.mem_cons.1 ((h t).2 (List.mem_cons_of_mem _ ht)) with e | e
        · subst e; exact absurd (hb.1 t ht) (List.lt_irrefl t)
        · exact e
    rw [this]
theorem Nms.uniq {s s' : St} {a b : List Txt} (ha : Nms s a) (hb : Nms s' b) (h : ∀ k, s.fs k = none ↔ s'.fs k = none) : a = b :=
  sorted_uniq ha.ri hb.ri fun t => by rw [ha.mem, hb.mem]; exact not_congr (h _)
/-- What every call keeps: names of 1 to 32 bytes, at most 16 files, each of at most N bytes. -/
structure St.Ok (N : Nat) (s : St) : Prop where
  nm : ∀ k x, s.fs k = some x → 1 ≤ k.size ∧ k.size ≤ 32
  few : s.cnt ≤ 16
  le : ∀ k x, s.fs k = some x → x.1.length ≤ N ∧ x.2 ≤ x.1.length
theorem St.Ok.mono {N M : Nat} {s : St} (h : s.Ok N) (hn : N ≤ M) : s.Ok M := ⟨h.nm, h.few, fun k x hx => ⟨Nat.le_trans (h.le k x hx).1 hn, (h.le k x hx).2⟩⟩
theorem St.Ok.same {N : Nat} {s s' : St} (h : s.Ok N) (e : s'.fs = s.fs) (c : s'.cnt = s.cnt) : s'.Ok N := ⟨fun k x hx => h.nm k x (by rw [← e]; exact hx), by rw [c]; exact h.few, fun k x hx => h.le k x (by rw [← e]; exact hx)⟩
theorem ok0 (N : Nat) : St0.Ok N := ⟨fun k x h => by simp [St0] at h, by decide, fun k x h => by simp [St0] at h⟩
theorem crash1_le (keep : Int) {x : List UInt8 × Nat} (h : x.2 ≤ x.1.length) : (crash1 keep x).1.length = (crash1 keep x).2 ∧ (crash1 keep x).2 ≤ x.1.length := by
  have := (tail_le (keep := keep) h).1
  unfold crash1
  refine ⟨?_, this⟩
  show (x.1.take _).length = _
  rw [List.length_take]; omega
theorem St.Ok.crash {N : Nat} {s : St} (h : s.Ok N) (keep : Int) : (s.crash keep).Ok N := by
  unfold St.crash
  split
  · exact h
  · refine ⟨fun k x hx => ?_, h.few, fun k x hx => ?_⟩
    · obtain ⟨y, hy, rfl⟩ := Option.map_eq_some_iff.1 hx
      exact h.nm k y hy
    · obtain ⟨y, hy, rfl⟩ := Option.map_eq_some_iff.1 hx
      obtain ⟨h1, h2⟩ := h.le k y hy
      obtain ⟨h3, h4⟩ := crash1_le keep h2
      exact ⟨by omega, by omega⟩
theorem St.Ok.call {N : Nat} {s : St} (h : s.Ok N) : s.call.Ok N := by
  unfold St.call
  split
  · split
    · exact h.crash _
    · exact h.same rfl rfl
  · exact h
theorem St.Ok.put {N : Nat} {s : St} (h : s.Ok N) {n : ByteArray} {x : List UInt8 × Nat} (h1 : 1 ≤ n.size ∧ n.size ≤ 32) (h2 : s.fs n = none → s.cnt < 16) (h3 : x.1.length ≤ N ∧ x.2 ≤ x.1.length) : (s.put n x).Ok N := by
  refine ⟨fun k y hy => ?_, ?_, fun k y hy => ?_⟩
  · have hy : (if k = n then some x else s.fs k) = some y := hy
    split at hy
    · rename_i e; subst e; exact h1
    · exact h.nm k y hy
  · show (if (s.fs n).isSome then s.cnt else s.cnt + 1) ≤ 16
    have := h.few
    split
    · exact this
    · rename_i e
      have : s.fs n = none := by simpa using e
      exact h2 this
  · have hy : (if k = n then some x else s.fs k) = some y := hy
    split at hy
    · cases hy; exact h3
    · exact h.le k y hy
theorem St.Ok.del {N : Nat} {s : St} (h : s.Ok N) (n : ByteArray) : (s.del n).Ok N := by
  refine ⟨fun k y hy => ?_, ?_, fun k y hy => ?_⟩
  · have hy : (if k = n then none else s.fs k) = some y := hy
    split at hy
    · cases hy
    · exact h.nm k y hy
  · show (if (s.fs n).isSome then s.cnt - 1 else s.cnt) ≤ 16
    have := h.few
    split <;> omega
  · have hy : (if k = n then none else s.fs k) = some y := hy
    split at hy
    · cases hy
    · exact h.le k y hy
theorem St.Ok.append {N : Nat} {s : St} (h : s.Ok N) (n : ByteArray) (b : List UInt8) : (s.append n b).2.Ok (N + b.length) := by
  have hc := h.call.mono (Nat.le_add_right N b.length)
  unfold St.append
  simp only
  split
  · exact hc
  · split
    · exact hc
    · rename_i h1
      split
      · exact hc
      · rename_i h2
        split
        · exact hc.same rfl rfl
        · refine hc.put (Classical.not_not.1 h1) (fun e => ?_) ?_
          · exact Nat.lt_of_not_le fun h16 => h2 ⟨e, h16⟩
          · cases e : s.call.fs n with
            | none => simp
            | some x =>
              obtain ⟨h3, h4⟩ := h.call.le n x e
              simp only [Option.getD_some, List.length_append]
              omega
theorem St.Ok.has {N : Nat} {s : St} (h : s.Ok N) (n : ByteArray) {k : St → List UInt8 → Nat → Int × St} (hk : ∀ x y, s.call.fs n = some (x, y) → (k s.call x y).2.Ok N) : (s.has n k).2.Ok N := by
  unfold St.has
  simp only
  split
  · exact h.call
  · split
    · exact h.call
    · rename_i x y e
      exact hk x y e
theorem St.Ok.sync {N : Nat} {s : St} (h : s.Ok N) (n : ByteArray) : (s.sync n).2.Ok N :=
  h.has n fun x y e => h.call.put (h.call.nm n _ e) (fun h' => by rw [e] at h'; cases h') ⟨(h.call.le n _ e).1, Nat.le_refl _⟩
theorem St.Ok.cut {N : Nat} {s : St} (h : s.Ok N) (n : ByteArray) (k : Int) : (s.cut n k).2.Ok N :=
  h.has n fun x y e => by
    have hl := h.call.le n _ e
    simp only at hl
    split
    · refine h.call.put (h.call.nm n _ e) (fun h' => by rw [e] at h'; cases h') ?_
      simp only [List.length_take]
      omega
    · exact h.call
theorem St.Ok.delete {N : Nat} {s : St} (h : s.Ok N) (n : ByteArray) : (s.delete n).2.Ok N := h.has n fun x y e => h.call.del n
theorem St.Ok.size {N : Nat} {s : St} (h : s.Ok N) (n : ByteArray) : (s.size n).2.Ok N := h.has n fun x y e => h.call
theorem St.Ok.rename {N : Nat} {s : St} (h : s.Ok N) (a b : ByteArray) : (s.rename a b).2.Ok N := by
  unfold St.rename
  simp only
  split
  · exact h.call
  · split
    · exact h.call
    · rename_i h1
      split
      · exact h.call
      · rename_i x e
        refine (h.call.del a).put (Classical.not_not.1 h1) (fun _ => ?_) (h.call.le a _ e)
        show (if (s.call.fs a).isSome then s.call.cnt - 1 else s.call.cnt) < 16
        rw [e]
        have := h.call.few
        simp only [Option.isSome_some, if_true]
        omega
theorem St.Ok.upp {N : Nat} {s : St} (h : s.Ok N) : s.upp.Ok N := h.same rfl rfl
theorem St.Ok.full {N : Nat} {s : St} (h : s.Ok N) (n : Int) : (s.full n).Ok N := h.same rfl rfl
theorem St.Ok.arms {N : Nat} {s : St} (h : s.Ok N) (n k : Int) : (s.arms n k).Ok N := h.same rfl rfl
section
variable {H1 H : Heap} {g r N : Nat} {s : St} {fl : List Fl} {K : Value → Heap → Prop}
theorem list_f (D : DiskAt H1 H g r s fl) (ok : s.Ok N) (hno : s.call.d.off = true → ∀ fl' H', DiskAt H1 H' g r s.call fl' → Stp H H' g r fl fl' → K (.tuple #[.slice none 0 0, .int .i64 62]) H')
    (hyes : s.call.d.off = false → ∀ a c ns fl' H2 H', DiskAt H1 H2 g r s.call fl' → Stp H H2 g r fl fl' → Nms s.call ns → ns.length ≤ 16 → Made H2 H' 9 1 a ns.length c (txts ns) → K (.tuple #[.slice a ns.length c, .int .i64 0]) H') :
    HCalls Try.prog 25 [.pointer (some ⟨g, 0, none⟩)] H K := by
  refine list_t D (fun k x hx => (ok.call.nm k x hx).2) ok.call.few hno fun ho a c ns fl' H2 H' D' S' hp m => ?_
  have hl : (sortT ns).length = fl'.length := by
    have := (List.mergeSort_perm ns fun x y => decide (x ≤ y)).length_eq
    unfold sortT
    rw [this, hp.length_eq]; unfold namesOf; rw [List.length_map]
  rw [← hl] at m ⊢
  exact hyes ho a c _ fl' H2 H' D' S' (Nms.of D' hp) (by rw [hl, ← D'.cnt]; exact ok.call.few) m
end
end Go.Proofs.Ytfcmjomnpahllaa
