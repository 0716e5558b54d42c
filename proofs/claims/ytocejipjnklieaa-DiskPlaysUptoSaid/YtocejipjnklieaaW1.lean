import Derived.Test.YtocejipjnklieaaE14
namespace Go.Proofs.Ytocejipjnklieaa.Hv
open Go
set_option linter.unusedVariables false
set_option linter.unusedSimpArgs false
/-! Rows whose block may be longer than their capacity (b[:n:n]). -/
structure WRow (H : Heap) (e : TypeId) (size : Nat) (a : Option Addr) (n cap : Nat) (xs : List Value) : Prop where
  len : xs.length = n * size
  ok : (a = none ∧ n = 0 ∧ cap = 0) ∨ ∃ (g : Nat) (cur : Array Value), a = some ⟨g, 0, none⟩ ∧ H g = some (.cells cur e (0, 0)) ∧ cap * size ≤ cur.size ∧ n ≤ cap ∧ ∀ (i : Nat) (v : Value), xs[i]? = some v → cur[i]? = some v
theorem WRow.made {H : Heap} {b : Nat} {cur : Array Value} {e : TypeId} {size cap n : Nat} {xs : List Value} (h : H b = some (.cells cur e (0, 0))) (hs : cap * size ≤ cur.size) (hn : n ≤ cap) (hl : xs.length = n * size) (hx : ∀ (i : Nat) (v : Value), xs[i]? = some v → cur[i]? = some v) : WRow H e size (some ⟨b, 0, none⟩) n cap xs :=
  ⟨hl, .inr ⟨b, cur, rfl, h, hs, hn, hx⟩⟩
theorem WRow.nil (H : Heap) (e : TypeId) (size : Nat) : WRow H e size none 0 0 [] := ⟨by simp, .inl ⟨rfl, rfl, rfl⟩⟩
theorem OwnRow.wide {H : Heap} {e : TypeId} {size n cap : Nat} {a : Option Addr} {xs : List Value} (h : OwnRow H e size a n cap xs) : WRow H e size a n cap xs := by
  refine ⟨h.len, ?_⟩
  rcases h.ok with h' | ⟨g, cur, ha, hg, h1, h2, h3⟩
  · exact .inl h'
  · exact .inr ⟨g, cur, ha, hg, Nat.le_of_eq h1.symm, h2, h3⟩
theorem WRow.rows {H : Heap} {e : TypeId} {size : Nat} {a : Option Addr} {n cap : Nat} {xs : List Value} (h : WRow H e size a n cap xs) : RowAt H a xs := fun i v hi => by
  rcases h.ok with ⟨ha, hn, _⟩ | ⟨g, cur, ha, hg, _, _, h3⟩
  · have hl := h.len
    rw [hn, Nat.zero_mul] at hl
    rw [List.length_eq_zero_iff.1 hl] at hi
    cases hi
  · exact ⟨g, 0, ha, by rw [cell_of hg, Nat.zero_add]; exact h3 i v hi⟩
theorem WRow.upd {S : List Nat} {H H' : Heap} {e : TypeId} {size : Nat} {a : Option Addr} {n cap : Nat} {xs : List Value} (h : WRow H e size a n cap xs) (hu : Upd S H H') (ho : Off S a) : WRow H' e size a n cap xs := by
  refine ⟨h.len, ?_⟩
  rcases h.ok with h' | ⟨g, cur, ha, hg, h1, h2, h3⟩
  · exact .inl h'
  · refine .inr ⟨g, cur, ha, ?_, h1, h2, h3⟩
    rw [hu g (ho _ ha) (by simp [hg])]; exact hg
theorem WRow.le {H : Heap} {e : TypeId} {size : Nat} {a : Option Addr} {n cap : Nat} {xs : List Value} (h : WRow H e size a n cap xs) : n ≤ cap := by
  rcases h.ok with ⟨_, h1, h2⟩ | ⟨_, _, _, _, _, h2, _⟩
  · omega
  · exact h2
theorem WRow.live {H : Heap} {e : TypeId} {size : Nat} {a : Option Addr} {n cap : Nat} {xs : List Value} (h : WRow H e size a n cap xs) : ∀ b ∈ blk a, ∃ c f, H b = some (.cells c e f) := fun b hb => by
  obtain ⟨p, hp, rfl⟩ := blk_of hb
  rcases h.ok with ⟨ha, _⟩ | ⟨g, cur, ha, hg, _⟩
  · rw [ha] at hp; cases hp
  · rw [ha] at hp; cases hp; exact ⟨_, _, hg⟩
/-- b[:m:m] -/
theorem WRow.cut {H : Heap} {e : TypeId} {size n cap m : Nat} {a : Option Addr} {xs : List Value} (h : WRow H e size a n cap xs) (hm : m ≤ n) : WRow H e size a m m (xs.take (m * size)) := by
  have hl := h.len
  have h1 := Nat.mul_le_mul_right size hm
  refine ⟨by rw [List.length_take]; omega, ?_⟩
  rcases h.ok with ⟨ha, hn, _⟩ | ⟨g, cur, ha, hg, h2, h3, h4⟩
  · exact .inl ⟨ha, by omega, by omega⟩
  · refine .inr ⟨g, cur, ha, hg, Nat.le_trans (Nat.mul_le_mul_right _ (Nat.le_trans hm h3)) h2, Nat.le_refl _, fun i v hi => ?_⟩
    rw [List.getElem?_take] at hi
    split at hi
    · exact h4 i v hi
    · cases hi
section
variable {P : Program}
theorem swp_appendW {t e ty : TypeId} {ie : TypeInfo} {z : Value} {xt : TypeId} {xd : TypeDesc} {a : Option Addr} {n cap m : Nat} {x : Value} {xs ys : List Value} {H : Heap} {K : Value → Heap → Prop}
    (ht : P.underlying t = some (.slice e)) (hi : P.info? e = some ie) (hz : ie.zero = some z) (hzs : z.cells.size = ie.size) (hs0 : 0 < ie.size)
    (hxt : P.underlying xt = some xd) (hxd : ∀ k, xd ≠ .int k)
    (hlen : ∀ K H, K m H → swp P (Builtin.lenOf x) K H) (hload : ∀ (K : Array Value → Heap → Prop), K ys.toArray H → swp P (Builtin.firstCells ie.size m x) K H)
    (ho : WRow H e ie.size a n cap xs) (hyl : ys.length = m * ie.size) (hyp : ∀ v ∈ ys, Value.plain v = true)
    (hlim : (n + m) * ie.bytes ≤ 140737488355328) (hmax : n + m ≤ 4611686018427387904)
    (h : ∀ a' cap' H', WRow H' e ie.size a' (n + m) cap' (xs ++ ys) → Upd (blk a) H H' → (∀ p, a' = some p → a = some p ∨ H p.block = none) → (n + m ≤ cap → a' = a ∧ cap' = cap) ∧ (¬ n + m ≤ cap → Upd [] H H' ∧ ∀ p, a' = some p → H p.block = none) → K (.slice a' (n + m) cap') H') :
    swp P (Builtin.append_ #[t, xt] ty #[.slice a n cap, x]) K H := by
  unfold Builtin.append_
  simp only [List.getElem?_toArray, List.getElem?_cons_zero, List.getElem?_cons_succ]
  rw [swp_bind, swp_underlying ht]
  dsimp only
  rw [swp_bind, swp_sizeOf hi]
  rw [swp_bind, swp_underlying hxt, swp_bind]
  refine swp_pure_at (y := false) (by cases xd <;> first | rfl | exact absurd rfl (hxd _)) ?_
  simp only [Bool.false_eq_true, if_false, Bool.not_false, if_true]
  rw [swp_bind]
  refine hlen _ _ ?_
  by_cases hroom : n + m ≤ cap
  · rw [if_pos hroom, swp_bind]
    refine hload _ ?_
    rcases ho.ok with ⟨ha, hn, hc⟩ | ⟨g, cur, ha, hg, h1, h2, h3⟩
    · subst ha
      have hm : m = 0 := by omega
      subst hm
      have hys : ys = [] := List.length_eq_zero_iff.1 (by simpa using hyl)
      subst hys
      refine h none cap H ?_ (Upd.refl _ _) (fun p hp => by cases hp) ⟨fun _ => ⟨rfl, rfl⟩, fun hf => absurd hroom hf⟩
      simpa using ho
    · subst ha
      show swp P (do storeCells ((⟨g, 0, none⟩ : Addr).add (n * ie.size)) ys.toArray.toList; pure (Value.slice (some ⟨g, 0, none⟩) (n + m) cap)) K H
      rw [swp_bind, Addr.add_lit, Nat.zero_add]
      have hfit : n * ie.size + ys.length ≤ cur.size := by
        rw [hyl, ← Nat.add_mul]; exact Nat.le_trans (Nat.mul_le_mul_right _ hroom) h1
      refine swp_storeCells_own ys 0 cur H hg (by simpa using hfit) hyp ?_
      refine h _ cap _ (WRow.made (upd_same _ _ _) (by rw [writeAt_size]; exact h1) hroom ?_ ?_) (Upd.upd (by simp [blk]) _) (fun p hp => .inl hp) ⟨fun _ => ⟨rfl, rfl⟩, fun hf => absurd hroom hf⟩
      · rw [List.length_append, ho.len, hyl, Nat.add_mul]
      · intro i v hi
        rw [Nat.add_zero, writeAt_get _ _ _ _ hfit]
        have hxl := ho.len
        by_cases hlt : i < xs.length
        · rw [List.getElem?_append_left hlt] at hi
          rw [if_neg (by omega)]; exact h3 i v hi
        · rw [List.getElem?_append_right (by omega), hxl] at hi
          have := (List.getElem?_eq_some_iff.1 hi).1
          rw [if_pos (by omega)]; exact hi
  · rw [if_neg hroom]
    rw [swp_bind, swp_typeInfo hi]
    have hneed : cap < n + m := by omega
    have c1 : ¬ (((n + m : Nat) : Int) > IntKind.i64.max ∧ (False ∨ ie.bytes = 0)) := by
      rintro ⟨h1, _⟩; rw [IntKind.max_i64] at h1; omega
    rw [if_neg c1, swp_bind, swp_typeInfo hi]
    have hg := growslice_fits (bytes := ie.bytes) hneed hlim
    have c2 : ¬ (Builtin.nextslicecap (n + m) cap * ie.bytes > 2 ^ 48) := by omega
    rw [if_neg c2, swp_bind]
    have ask : ∀ (n : Nat) (K : Unit → Heap → Prop), K () H → swp P (askRoom n) K H := fun n K hk => by unfold askRoom; split <;> exact hk
    show swp P (choose (.appendCap (n + m) cap e)) _ H
    unfold choose
    show (if (Question.appendCap (n + m) cap e).forced then _ else ∀ t, _)
    rw [if_neg (by simp [Question.forced])]
    intro tt
    show swp P _ K H
    obtain ⟨newCap, hnc, hle⟩ : ∃ c, (Question.appendCap (n + m) cap e).cut tt = c ∧ n + m ≤ c := ⟨_, rfl, by simp [Question.cut]⟩
    rw [hnc, swp_bind, swp_typeInfo hi, swp_bind]
    refine ask _ _ ?_
    rw [swp_bind]
    have hold : ∀ K : Array Value → Heap → Prop, K xs.toArray H → swp P (Builtin.firstCells ie.size n (.slice a n cap)) K H := fun K hk => by
      cases ha : a with
      | none =>
        rcases ho.ok with ⟨_, hn, _⟩ | ⟨g, cur, ha', _⟩
        · have hl := ho.len
          rw [hn, Nat.zero_mul] at hl
          have := List.length_eq_zero_iff.1 hl
          subst this; exact hk
        · rw [ha] at ha'; cases ha'
      | some p =>
        show swp P (loadCells p (n * ie.size)) K H
        rw [← ho.len]
        exact swp_loadCells rfl (ha ▸ ho.rows) hk
    refine hold _ ?_
    rw [swp_bind]
    refine hload _ ?_
    rw [swp_bind, swp_zeroValue hi hz, swp_bind]
    refine swp_newRow fun b hb => ?_
    have hzc : (Builtin.zeroCells z.cells (newCap - (n + m))).size = (newCap - (n + m)) * ie.size := by simp [Builtin.zeroCells, hzs]
    refine h _ newCap _ (WRow.made (upd_same _ _ _) ?_ hle ?_ ?_) (Upd.new hb _) (fun p hp => .inr (by cases hp; exact hb)) ⟨fun hf => absurd hf hroom, fun _ => ⟨Upd.new hb _, fun p hp => by cases hp; exact hb⟩⟩
    · apply Nat.le_of_eq
      simp only [Array.size_append, List.size_toArray, hzc, ho.len, hyl]
      rw [← Nat.add_mul, ← Nat.add_mul]; congr 1; omega
    · rw [List.length_append, ho.len, hyl, Nat.add_mul]
    · intro i v hi
      rw [Array.getElem?_append_left (by simp [(List.getElem?_eq_some_iff.1 hi).1]; have := (List.getElem?_eq_some_iff.1 hi).1; simpa using this)]
      simpa using hi
theorem append_rowsW {t e ty : TypeId} {ie : TypeInfo} {z : Value} {a b : Option Addr} {n cap m c : Nat} {xs ys : List Value} {H : Heap} {K : Value → Heap → Prop}
    (ht : P.underlying t = some (.slice e)) (hi : P.info? e = some ie) (hz : ie.zero = some z) (hzs : z.cells.size = ie.size) (hs0 : 0 < ie.size)
    (ho : WRow H e ie.size a n cap xs) (hy : RowAt H b ys) (hyl : ys.length = m * ie.size) (hyp : ∀ v ∈ ys, Value.plain v = true)
    (hlim : (n + m) * ie.bytes ≤ 140737488355328) (hmax : n + m ≤ 4611686018427387904)
    (h : ∀ a' cap' H', WRow H' e ie.size a' (n + m) cap' (xs ++ ys) → Upd (blk a) H H' → (∀ p, a' = some p → a = some p ∨ H p.block = none) → (n + m ≤ cap → a' = a ∧ cap' = cap) ∧ (¬ n + m ≤ cap → Upd [] H H' ∧ ∀ p, a' = some p → H p.block = none) → K (.slice a' (n + m) cap') H') :
    HSem P (Builtin.append_ #[t, t] ty [.slice a n cap, .slice b m c].toArray) H K := by
  refine HSem.of_swp (swp_appendW (x := .slice b m c) ht hi hz hzs hs0 ht (by simp) (fun K H hk => hk) (fun K hk => ?_) ho hyl hyp hlim hmax h)
  cases hb : b with
  | none =>
    have hys : ys = [] := by
      cases ys with
      | nil => rfl
      | cons y ys => obtain ⟨_, _, hh, _⟩ := hy 0 y rfl; rw [hb] at hh; cases hh
    subst hys; exact hk
  | some p =>
    show swp P (loadCells p (m * ie.size)) K H
    rw [← hyl]
    exact swp_loadCells rfl (hb ▸ hy) hk
end
end Go.Proofs.Ytocejipjnklieaa.Hv
