import Derived.Test.YtaobgofbhommcaaHv8
import Derived.Laws.Append
namespace Go.Proofs.Ytaobgofbhommcaa.Hv
open Go
set_option linter.unusedVariables false
set_option linter.unusedSimpArgs false

/-! ## Facts about heaps -/
/-- What stood outside S stands as it did. -/
def Upd (S : List Nat) (H H' : Heap) : Prop := ∀ k, k ∉ S → H k ≠ none → H' k = H k
theorem Upd.refl (S : List Nat) (H : Heap) : Upd S H H := fun _ _ _ => rfl
theorem Upd.trans {S : List Nat} {H H1 H2 : Heap} (h : Upd S H H1) (k : Upd S H1 H2) : Upd S H H2 := fun b hb hn => by
  have := h b hb hn
  rw [k b hb (by rw [this]; exact hn), this]
theorem Upd.mono {S T : List Nat} {H H' : Heap} (h : Upd S H H') (hst : ∀ k ∈ S, k ∈ T) : Upd T H H' := fun k hk hn => h k (fun hs => hk (hst k hs)) hn
theorem Upd.new {S : List Nat} {H : Heap} {b : Nat} (hb : H b = none) (o : Obj) : Upd S H (H.upd b o) := fun k _ hn => by
  unfold Heap.upd; rw [if_neg (fun e => by subst e; exact hn hb)]
theorem Upd.upd {S : List Nat} {H : Heap} {b : Nat} (hb : b ∈ S) (o : Obj) : Upd S H (H.upd b o) := fun k hk _ => by
  unfold Heap.upd; rw [if_neg (fun e => by subst e; exact hk hb)]
/-- In the end nothing that was there is lost, if what is written was not there at first. -/
theorem Upd.drop {S : List Nat} {H H1 H2 : Heap} (h : Upd [] H H1) (k : Upd S H1 H2) (hS : ∀ b ∈ S, H b = none) : Upd [] H H2 := fun b _ hn => by
  have h1 := h b (by simp) hn
  rw [k b (fun hb => hn (hS b hb)) (by rw [h1]; exact hn), h1]
theorem upd_same (H : Heap) (b : Nat) (o : Obj) : (H.upd b o) b = some o := by simp [Heap.upd]
theorem upd_ne (H : Heap) {b k : Nat} (o : Obj) (h : k ≠ b) : (H.upd b o) k = H k := by simp [Heap.upd, h]
theorem upd_upd (H : Heap) (b : Nat) (o o' : Obj) : (H.upd b o).upd b o' = H.upd b o' := by
  funext k; unfold Heap.upd; split <;> rfl
theorem cell_of {H : Heap} {b : Nat} {c : Array Value} {e : TypeId} {f : Nat × Nat} (h : H b = some (.cells c e f)) (i : Nat) : H.cell? ⟨b, i, none⟩ = c[i]? := by
  unfold Heap.cell?; rw [h]; rfl
theorem cell_upd {H : Heap} {S : List Nat} {H' : Heap} (h : Upd S H H') {a : Addr} (ha : a.block ∉ S) {v : Value} (hv : H.cell? a = some v) : H'.cell? a = some v := by
  unfold Heap.cell? at *
  have hn : H a.block ≠ none := by intro e; rw [e] at hv; cases hv
  rw [h _ ha hn]; exact hv

/-- A row of cells at an address. -/
def RowAt (H : Heap) (a : Option Addr) (cs : List Value) : Prop := ∀ i v, cs[i]? = some v → ∃ b off, a = some ⟨b, off, none⟩ ∧ H.cell? ⟨b, off + i, none⟩ = some v
theorem RowAt.nil (H : Heap) (a : Option Addr) : RowAt H a [] := fun i v h => by simp at h
/-- The block at which an address lies is none of S. -/
def Off (S : List Nat) (a : Option Addr) : Prop := ∀ p, a = some p → p.block ∉ S
theorem Off.nil (a : Option Addr) : Off [] a := fun _ _ => by simp
theorem RowAt.upd {S : List Nat} {H H' : Heap} {a : Option Addr} {cs : List Value} (h : RowAt H a cs) (hu : Upd S H H') (ho : cs = [] ∨ Off S a) : RowAt H' a cs := fun i v hi => by
  obtain ⟨b, off, ha, hc⟩ := h i v hi
  refine ⟨b, off, ha, cell_upd hu ?_ hc⟩
  rcases ho with rfl | ho
  · simp at hi
  · exact ho ⟨b, off, none⟩ ha
theorem RowAt.append {H : Heap} {b off : Nat} {xs ys : List Value} (h : RowAt H (some ⟨b, off, none⟩) (xs ++ ys)) : RowAt H (some ⟨b, off, none⟩) xs ∧ RowAt H (some ⟨b, off + xs.length, none⟩) ys := by
  refine ⟨fun i v hi => h i v (by rw [List.getElem?_append_left (List.getElem?_eq_some_iff.1 hi).1]; exact hi), fun i v hi => ?_⟩
  obtain ⟨b', off', ha, hc⟩ := h (xs.length + i) v (by rw [List.getElem?_append_right (by omega)]; simpa using hi)
  cases ha
  exact ⟨b, off + xs.length, rfl, by rw [Nat.add_assoc]; exact hc⟩
theorem RowAt.of_cells {H : Heap} {b : Nat} {c : Array Value} {e : TypeId} {f : Nat × Nat} (h : H b = some (.cells c e f)) : RowAt H (some ⟨b, 0, none⟩) c.toList := fun i v hi =>
  ⟨b, 0, rfl, by rw [cell_of h, Nat.zero_add, ← Array.getElem?_toList]; exact hi⟩
theorem RowAt.drop {H : Heap} {a : Option Addr} {cs : List Value} (h : RowAt H a cs) (k : Nat) : RowAt H (a.map (·.add k)) (cs.drop k) := fun i v hi => by
  rw [List.getElem?_drop] at hi
  obtain ⟨b, off, ha, hc⟩ := h (k + i) v hi
  subst ha
  exact ⟨b, off + k, by simp [Addr.add_lit], by rw [Nat.add_assoc]; exact hc⟩
theorem RowAt.take {H : Heap} {a : Option Addr} {cs : List Value} (h : RowAt H a cs) (k : Nat) : RowAt H a (cs.take k) := fun i v hi => by
  rw [List.getElem?_take] at hi
  split at hi
  · exact h i v hi
  · cases hi
theorem RowAt.get {H : Heap} {b off : Nat} {cs : List Value} (h : RowAt H (some ⟨b, off, none⟩) cs) {i : Nat} {v : Value} (hi : cs[i]? = some v) : H.cell? ⟨b, off + i, none⟩ = some v := by
  obtain ⟨b', off', ha, hc⟩ := h i v hi
  cases ha; exact hc

/-- A row of the call's own: nobody else has its block. -/
structure OwnRow (H : Heap) (e : TypeId) (size : Nat) (a : Option Addr) (n cap : Nat) (xs : List Value) : Prop where
  len : xs.length = n * size
  ok : (a = none ∧ n = 0 ∧ cap = 0) ∨ ∃ (g : Nat) (cur : Array Value), a = some ⟨g, 0, none⟩ ∧ H g = some (.cells cur e (0, 0)) ∧ cur.size = cap * size ∧ n ≤ cap ∧ ∀ (i : Nat) (v : Value), xs[i]? = some v → cur[i]? = some v
def blk : Option Addr → List Nat | none => [] | some a => [a.block]
theorem OwnRow.nil (H : Heap) (e : TypeId) (size : Nat) : OwnRow H e size none 0 0 [] := ⟨by simp, .inl ⟨rfl, rfl, rfl⟩⟩
theorem OwnRow.rows {H : Heap} {e : TypeId} {size : Nat} {a : Option Addr} {n cap : Nat} {xs : List Value} (h : OwnRow H e size a n cap xs) : RowAt H a xs := fun i v hi => by
  rcases h.ok with ⟨_, hn, _⟩ | ⟨g, cur, ha, hg, _, _, hc⟩
  · have := h.len; rw [hn, Nat.zero_mul] at this
    rw [List.length_eq_zero_iff.1 this] at hi; simp at hi
  · exact ⟨g, 0, ha, by rw [cell_of hg, Nat.zero_add]; exact hc i v hi⟩
theorem OwnRow.upd {S : List Nat} {H H' : Heap} {e : TypeId} {size : Nat} {a : Option Addr} {n cap : Nat} {xs : List Value} (h : OwnRow H e size a n cap xs) (hu : Upd S H H') (ho : Off S a) : OwnRow H' e size a n cap xs := by
  refine ⟨h.len, ?_⟩
  rcases h.ok with h' | ⟨g, cur, ha, hg, h1, h2, h3⟩
  · exact .inl h'
  · refine .inr ⟨g, cur, ha, ?_, h1, h2, h3⟩
    rw [hu g (ho _ ha) (by simp [hg])]; exact hg
theorem OwnRow.made {H : Heap} {b : Nat} {cur : Array Value} {e : TypeId} {size cap n : Nat} {xs : List Value} (h : H b = some (.cells cur e (0, 0))) (hs : cur.size = cap * size) (hn : n ≤ cap) (hl : xs.length = n * size) (hx : ∀ (i : Nat) (v : Value), xs[i]? = some v → cur[i]? = some v) : OwnRow H e size (some ⟨b, 0, none⟩) n cap xs :=
  ⟨hl, .inr ⟨b, cur, rfl, h, hs, hn, hx⟩⟩
theorem OwnRow.lit {H : Heap} {b : Nat} {l : List Value} {e : TypeId} {size cap : Nat} (h : H b = some (.cells l.toArray e (0, 0))) (hs : l.length = cap * size) : OwnRow H e size (some ⟨b, 0, none⟩) cap cap l :=
  .made h (by simpa using hs) (Nat.le_refl _) hs (fun i v hi => by simpa using hi)
theorem OwnRow.le {H : Heap} {e : TypeId} {size : Nat} {a : Option Addr} {n cap : Nat} {xs : List Value} (h : OwnRow H e size a n cap xs) : n ≤ cap := by
  rcases h.ok with ⟨_, rfl, rfl⟩ | ⟨g, cur, ha, hg, h1, h2, h3⟩
  · exact Nat.le_refl _
  · exact h2
theorem OwnRow.there {H : Heap} {e : TypeId} {size : Nat} {a : Option Addr} {n cap : Nat} {xs : List Value} (h : OwnRow H e size a n cap xs) {p : Addr} (hp : a = some p) : H p.block ≠ none := by
  rcases h.ok with ⟨ha, _⟩ | ⟨g, cur, ha, hg, _⟩
  · rw [ha] at hp; cases hp
  · rw [ha] at hp; cases hp; simp [hg]

section
variable {P : Program}
theorem swp_loadCellsFrom {a : Addr} {K : Array Value → Heap → Prop} {H : Heap} : ∀ (vs : List Value) (i : Nat) (acc : Array Value), (∀ j v, vs[j]? = some v → H.cell? (a.add (i + j)) = some v) → K (acc ++ vs.toArray) H → swp P (loadCellsFrom a i vs.length acc) K H
  | [], i, acc, _, hk => by
    have : acc ++ ([] : List Value).toArray = acc := by simp
    rw [this] at hk
    exact hk
  | v :: vs, i, acc, h, hk => by
    show swp P (do let v ← load (a.add i); loadCellsFrom a (i + 1) vs.length (acc.push v)) K H
    rw [swp_bind]
    refine ⟨v, by simpa using h 0 v rfl, ?_⟩
    refine swp_loadCellsFrom vs (i + 1) (acc.push v) (fun j u hj => ?_) ?_
    · have := h (j + 1) u (by simpa using hj)
      rwa [show i + 1 + j = i + (j + 1) by omega]
    · have : acc.push v ++ vs.toArray = acc ++ (v :: vs).toArray := by simp
      rw [this]; exact hk
theorem swp_loadCells {a : Option Addr} {p : Addr} (hp : a = some p) {K : Array Value → Heap → Prop} {H : Heap} {vs : List Value} (h : RowAt H a vs) (hk : K vs.toArray H) : swp P (loadCells p vs.length) K H := by
  unfold loadCells
  refine swp_loadCellsFrom vs 0 #[] (fun j v hj => ?_) (by simpa using hk)
  obtain ⟨b, off, ha, hc⟩ := h j v hj
  rw [hp] at ha; cases ha
  rw [Nat.zero_add, Addr.add_lit]; exact hc

def writeAt (cur : Array Value) (k : Nat) : List Value → Array Value
  | [] => cur
  | v :: vs => writeAt (cur.setIfInBounds k v) (k + 1) vs
theorem writeAt_size : ∀ (vs : List Value) (cur : Array Value) (k : Nat), (writeAt cur k vs).size = cur.size
  | [], _, _ => rfl
  | v :: vs, cur, k => by unfold writeAt; rw [writeAt_size vs]; simp
theorem writeAt_get : ∀ (vs : List Value) (cur : Array Value) (k i : Nat), k + vs.length ≤ cur.size → (writeAt cur k vs)[i]? = if k ≤ i ∧ i < k + vs.length then vs[i - k]? else cur[i]?
  | [], cur, k, i, _ => by
    unfold writeAt
    simp only [List.length_nil, Nat.add_zero]
    rw [if_neg (by omega)]
  | v :: vs, cur, k, i, h => by
    simp only [List.length_cons] at h
    unfold writeAt
    rw [writeAt_get vs _ _ i (by simp; omega)]
    simp only [List.length_cons]
    by_cases h1 : k + 1 ≤ i ∧ i < k + 1 + vs.length
    · rw [if_pos h1, if_pos (by omega)]
      have : i - k = (i - (k + 1)) + 1 := by omega
      rw [this]; simp
    · rw [if_neg h1]
      by_cases h2 : i = k
      · subst h2
        rw [if_pos (by omega), Array.getElem?_setIfInBounds_self_of_lt (by omega)]; simp
      · rw [if_neg (by omega), Array.getElem?_setIfInBounds_ne (Ne.symm h2)]
theorem setCell_own {H : Heap} {g : Nat} {cur : Array Value} {e : TypeId} {f : Nat × Nat} (hg : H g = some (.cells cur e f)) (i : Nat) (v : Value) : H.setCell ⟨g, i, none⟩ v = H.upd g (.cells (cur.setIfInBounds i v) e f) := by
  unfold Heap.setCell; rw [hg]; rfl
theorem swp_storeCells_own {g off : Nat} {e : TypeId} {K : Unit → Heap → Prop} : ∀ (vs : List Value) (i : Nat) (cur : Array Value) (H : Heap), H g = some (.cells cur e (0, 0)) → off + i + vs.length ≤ cur.size → (∀ v ∈ vs, Value.plain v = true) →
    K () (H.upd g (.cells (writeAt cur (off + i) vs) e (0, 0))) → swp P (storeCells ⟨g, off, none⟩ vs i) K H
  | [], i, cur, H, hg, _, _, hk => by
    have : H.upd g (.cells cur e (0, 0)) = H := by
      funext k; unfold Heap.upd; split
      · rename_i e; subst e; exact hg.symm
      · rfl
    unfold writeAt at hk
    rw [this] at hk
    exact hk
  | v :: vs, i, cur, H, hg, hl, hp, hk => by
    simp only [List.length_cons] at hl
    show swp P (do store ((⟨g, off, none⟩ : Addr).add i) v; storeCells ⟨g, off, none⟩ vs (i + 1)) K H
    rw [swp_bind, Addr.add_lit]
    refine ⟨hp v List.mem_cons_self, ⟨cur[off + i]'(by omega), ?_⟩, ?_, ?_⟩
    · rw [cell_of hg]; simp
    · unfold Heap.frozen?; rw [hg]; simp
    · show swp P (storeCells ⟨g, off, none⟩ vs (i + 1)) K (H.setCell ⟨g, off + i, none⟩ v)
      rw [setCell_own hg]
      refine swp_storeCells_own vs (i + 1) (cur.setIfInBounds (off + i) v) _ (upd_same _ _ _) (by simp; omega) (fun u hu => hp u (List.mem_cons_of_mem _ hu)) ?_
      rw [upd_upd]
      exact hk

theorem swp_pure_at {α : Type} {x y : α} {F : α → Heap → Prop} {H : Heap} (e : x = y) (h : F y H) : swp P (pure x) F H := by subst e; exact h
/-- append onto a row of the call's own: s a row of cells that is read, or a string. -/
theorem swp_append' {t e ty : TypeId} {ie : TypeInfo} {z : Value} {xt : TypeId} {xd : TypeDesc} {a : Option Addr} {n cap m : Nat} {x : Value} {xs ys : List Value} {H : Heap} {K : Value → Heap → Prop}
    (ht : P.underlying t = some (.slice e)) (hi : P.info? e = some ie) (hz : ie.zero = some z) (hzs : z.cells.size = ie.size) (hs0 : 0 < ie.size)
    (hxt : P.underlying xt = some xd) (hxd : ∀ k, xd ≠ .int k)
    (hlen : ∀ K H, K m H → swp P (Builtin.lenOf x) K H) (hload : ∀ (K : Array Value → Heap → Prop), K ys.toArray H → swp P (Builtin.firstCells ie.size m x) K H)
    (ho : OwnRow H e ie.size a n cap xs) (hyl : ys.length = m * ie.size) (hyp : ∀ v ∈ ys, Value.plain v = true)
    (hlim : (n + m) * ie.bytes ≤ 140737488355328) (hmax : n + m ≤ 4611686018427387904)
    (h : ∀ a' cap' H', OwnRow H' e ie.size a' (n + m) cap' (xs ++ ys) → Upd (blk a) H H' → (∀ p, a' = some p → a = some p ∨ H p.block = none) → (n + m ≤ cap → a' = a ∧ cap' = cap) ∧ (¬ n + m ≤ cap → Upd [] H H' ∧ ∀ p, a' = some p → H p.block = none) → K (.slice a' (n + m) cap') H') :
    swp P (Builtin.append_ #[t, xt] ty #[.slice a n cap, x]) K H := by
  unfold Builtin.append_
  simp only [List.getElem?_toArray, List.getElem?_cons_zero, List.getElem?_cons_succ]
  rw [swp_bind, swp_underlying ht]
  dsimp only
  rw [swp_bind, swp_sizeOf hi]
  rw [swp_bind, swp_underlying hxt, swp_bind]
  refine swp_pure_at (y := false) (by cases xd <;> first | rfl | exact absurd rfl (hxd _)) ?_
  simp only [Bool.false_eq_true, if_false, Bool.not_false, if_true]
  rw [swp_bind]
  refine hlen _ _ ?_
  by_cases hroom : n + m ≤ cap
  · rw [if_pos hroom, swp_bind]
    refine hload _ ?_
    rcases ho.ok with ⟨ha, hn, hc⟩ | ⟨g, cur, ha, hg, h1, h2, h3⟩
    · subst ha
      have hm : m = 0 := by omega
      subst hm
      have hys : ys = [] := List.length_eq_zero_iff.1 (by simpa using hyl)
      subst hys
      refine h none cap H ?_ (Upd.refl _ _) (fun p hp => by cases hp) ⟨fun _ => ⟨rfl, rfl⟩, fun hf => absurd hroom hf⟩
      simpa using ho
    · subst ha
      show swp P (do storeCells ((⟨g, 0, none⟩ : Addr).add (n * ie.size)) ys.toArray.toList; pure (Value.slice (some ⟨g, 0, none⟩) (n + m) cap)) K H
      rw [swp_bind, Addr.add_lit, Nat.zero_add]
      have hfit : n * ie.size + ys.length ≤ cur.size := by
        rw [hyl, h1, ← Nat.add_mul]; exact Nat.mul_le_mul_right _ hroom
      refine swp_storeCells_own ys 0 cur H hg (by simpa using hfit) hyp ?_
      refine h _ cap _ (OwnRow.made (upd_same _ _ _) (by rw [writeAt_size]; exact h1) hroom ?_ ?_) (Upd.upd (by simp [blk]) _) (fun p hp => .inl hp) ⟨fun _ => ⟨rfl, rfl⟩, fun hf => absurd hroom hf⟩
      · rw [List.length_append, ho.len, hyl, Nat.add_mul]
      · intro i v hi
        rw [Nat.add_zero, writeAt_get _ _ _ _ hfit]
        have hxl := ho.len
        by_cases hlt : i < xs.length
        · rw [List.getElem?_append_left hlt] at hi
          rw [if_neg (by omega)]; exact h3 i v hi
        · rw [List.getElem?_append_right (by omega), hxl] at hi
          have := (List.getElem?_eq_some_iff.1 hi).1
          rw [if_pos (by omega)]; exact hi
  · rw [if_neg hroom]
    rw [swp_bind, swp_typeInfo hi]
    have hneed : cap < n + m := by omega
    have c1 : ¬ (((n + m : Nat) : Int) > IntKind.i64.max ∧ (False ∨ ie.bytes = 0)) := by
      rintro ⟨h1, _⟩; rw [IntKind.max_i64] at h1; omega
    rw [if_neg c1, swp_bind, swp_typeInfo hi]
    have hg := growslice_fits (bytes := ie.bytes) hneed hlim
    have c2 : ¬ (Builtin.nextslicecap (n + m) cap * ie.bytes > 2 ^ 48) := by omega
    rw [if_neg c2, swp_bind]
    have ask : ∀ (n : Nat) (K : Unit → Heap → Prop), K () H → swp P (askRoom n) K H := fun n K hk => by unfold askRoom; split <;> exact hk
    show swp P (choose (.appendCap (n + m) cap e)) _ H
    unfold choose
    show (if (Question.appendCap (n + m) cap e).forced then _ else ∀ t, _)
    rw [if_neg (by simp [Question.forced])]
    intro tt
    show swp P _ K H
    obtain ⟨newCap, hnc, hle⟩ : ∃ c, (Question.appendCap (n + m) cap e).cut tt = c ∧ n + m ≤ c := ⟨_, rfl, by simp [Question.cut]⟩
    rw [hnc, swp_bind, swp_typeInfo hi, swp_bind]
    refine ask _ _ ?_
    rw [swp_bind]
    have hold : ∀ K : Array Value → Heap → Prop, K xs.toArray H → swp P (Builtin.firstCells ie.size n (.slice a n cap)) K H := fun K hk => by
      cases ha : a with
      | none =>
        rcases ho.ok with ⟨_, hn, _⟩ | ⟨g, cur, ha', _⟩
        · have hl := ho.len
          rw [hn, Nat.zero_mul] at hl
          have := List.length_eq_zero_iff.1 hl
          subst this; exact hk
        · rw [ha] at ha'; cases ha'
      | some p =>
        show swp P (loadCells p (n * ie.size)) K H
        rw [← ho.len]
        exact swp_loadCells rfl (ha ▸ ho.rows) hk
    refine hold _ ?_
    rw [swp_bind]
    refine hload _ ?_
    rw [swp_bind, swp_zeroValue hi hz, swp_bind]
    refine swp_newRow fun b hb => ?_
    have hzc : (Builtin.zeroCells z.cells (newCap - (n + m))).size = (newCap - (n + m)) * ie.size := by simp [Builtin.zeroCells, hzs]
    refine h _ newCap _ (OwnRow.made (upd_same _ _ _) ?_ hle ?_ ?_) (Upd.new hb _) (fun p hp => .inr (by cases hp; exact hb)) ⟨fun hf => absurd hf hroom, fun _ => ⟨Upd.new hb _, fun p hp => by cases hp; exact hb⟩⟩
    · simp only [Array.size_append, List.size_toArray, hzc, ho.len, hyl]
      rw [← Nat.add_mul, ← Nat.add_mul]; congr 1; omega
    · rw [List.length_append, ho.len, hyl, Nat.add_mul]
    · intro i v hi
      rw [Array.getElem?_append_left (by simp [(List.getElem?_eq_some_iff.1 hi).1]; have := (List.getElem?_eq_some_iff.1 hi).1; simpa using this)]
      simpa using hi

theorem swp_append {t e ty : TypeId} {ie : TypeInfo} {z : Value} {xt : TypeId} {xd : TypeDesc} {a : Option Addr} {n cap m : Nat} {x : Value} {xs ys : List Value} {H : Heap} {K : Value → Heap → Prop}
    (ht : P.underlying t = some (.slice e)) (hi : P.info? e = some ie) (hz : ie.zero = some z) (hzs : z.cells.size = ie.size) (hs0 : 0 < ie.size)
    (hxt : P.underlying xt = some xd) (hxd : ∀ k, xd ≠ .int k)
    (hlen : ∀ K H, K m H → swp P (Builtin.lenOf x) K H) (hload : ∀ (K : Array Value → Heap → Prop), K ys.toArray H → swp P (Builtin.firstCells ie.size m x) K H)
    (ho : OwnRow H e ie.size a n cap xs) (hyl : ys.length = m * ie.size) (hyp : ∀ v ∈ ys, Value.plain v = true)
    (hlim : (n + m) * ie.bytes ≤ 140737488355328) (hmax : n + m ≤ 4611686018427387904)
    (h : ∀ a' cap' H', OwnRow H' e ie.size a' (n + m) cap' (xs ++ ys) → Upd (blk a) H H' → (∀ p, a' = some p → a = some p ∨ H p.block = none) → K (.slice a' (n + m) cap') H') :
    swp P (Builtin.append_ #[t, xt] ty #[.slice a n cap, x]) K H :=
  swp_append' ht hi hz hzs hs0 hxt hxd hlen hload ho hyl hyp hlim hmax fun a' cap' H' h1 h2 h3 _ => h a' cap' H' h1 h2 h3

theorem append_rows {t e ty : TypeId} {ie : TypeInfo} {z : Value} {a b : Option Addr} {n cap m c : Nat} {xs ys : List Value} {H : Heap} {K : Value → Heap → Prop}
    (ht : P.underlying t = some (.slice e)) (hi : P.info? e = some ie) (hz : ie.zero = some z) (hzs : z.cells.size = ie.size) (hs0 : 0 < ie.size)
    (ho : OwnRow H e ie.size a n cap xs) (hy : RowAt H b ys) (hyl : ys.length = m * ie.size) (hyp : ∀ v ∈ ys, Value.plain v = true)
    (hlim : (n + m) * ie.bytes ≤ 140737488355328) (hmax : n + m ≤ 4611686018427387904)
    (h : ∀ a' cap' H', OwnRow H' e ie.size a' (n + m) cap' (xs ++ ys) → Upd (blk a) H H' → (∀ p, a' = some p → a = some p ∨ H p.block = none) → K (.slice a' (n + m) cap') H') :
    HSem P (Builtin.append_ #[t, t] ty [.slice a n cap, .slice b m c].toArray) H K := by
  refine HSem.of_swp (swp_append (x := .slice b m c) ht hi hz hzs hs0 ht (by simp) (fun K H hk => hk) (fun K hk => ?_) ho hyl hyp hlim hmax h)
  cases hb : b with
  | none =>
    have hys : ys = [] := by
      cases ys with
      | nil => rfl
      | cons y ys => obtain ⟨_, _, hh, _⟩ := hy 0 y rfl; rw [hb] at hh; cases hh
    subst hys; exact hk
  | some p =>
    show swp P (loadCells p (m * ie.size)) K H
    rw [← hyl]
    exact swp_loadCells rfl (hb ▸ hy) hk
theorem append_rows' {t e ty : TypeId} {ie : TypeInfo} {z : Value} {a b : Option Addr} {n cap m c : Nat} {xs ys : List Value} {H : Heap} {K : Value → Heap → Prop}
    (ht : P.underlying t = some (.slice e)) (hi : P.info? e = some ie) (hz : ie.zero = some z) (hzs : z.cells.size = ie.size) (hs0 : 0 < ie.size)
    (ho : OwnRow H e ie.size a n cap xs) (hy : RowAt H b ys) (hyl : ys.length = m * ie.size) (hyp : ∀ v ∈ ys, Value.plain v = true)
    (hlim : (n + m) * ie.bytes ≤ 140737488355328) (hmax : n + m ≤ 4611686018427387904)
    (h : ∀ a' cap' H', OwnRow H' e ie.size a' (n + m) cap' (xs ++ ys) → Upd (blk a) H H' → (∀ p, a' = some p → a = some p ∨ H p.block = none) → (n + m ≤ cap → a' = a ∧ cap' = cap) ∧ (¬ n + m ≤ cap → Upd [] H H' ∧ ∀ p, a' = some p → H p.block = none) → K (.slice a' (n + m) cap') H') :
    HSem P (Builtin.append_ #[t, t] ty [.slice a n cap, .slice b m c].toArray) H K := by
  refine HSem.of_swp (swp_append' (x := .slice b m c) ht hi hz hzs hs0 ht (by simp) (fun K H hk => hk) (fun K hk => ?_) ho hyl hyp hlim hmax h)
  cases hb : b with
  | none =>
    have hys : ys = [] := by
      cases ys with
      | nil => rfl
      | cons y ys => obtain ⟨_, _, hh, _⟩ := hy 0 y rfl; rw [hb] at hh; cases hh
    subst hys; exact hk
  | some p =>
    show swp P (loadCells p (m * ie.size)) K H
    rw [← hyl]
    exact swp_loadCells rfl (hb ▸ hy) hk
/-- clear of the cells behind a row of one's own. -/
theorem clear_own {t e ty : TypeId} {ie : TypeInfo} {z : Value} {a : Option Addr} {l n c cap : Nat} {xs : List Value} {H : Heap} {K : Value → Heap → Prop}
    (ht : P.underlying t = some (.slice e)) (hi : P.info? e = some ie) (hz : ie.zero = some z) (hzs : z.cells.size = ie.size) (hzp : ∀ v ∈ z.cells.toList, Value.plain v = true)
    (ho : OwnRow H e ie.size a l cap xs) (hn : l + n ≤ cap) (hk : ∀ H', OwnRow H' e ie.size a l cap xs → Upd (blk a) H H' → K (.tuple #[]) H') :
    HSem P (Builtin.clear_ #[t] ty [.slice (if cap = l then a else a.map (·.add (l * ie.size))) n c].toArray) H K := by
  refine HSem.of_swp ?_
  unfold Builtin.clear_
  simp only [List.getElem?_toArray, List.getElem?_cons_zero]
  rw [swp_bind, swp_underlying ht]
  by_cases h0 : n = 0
  · subst h0
    generalize (if cap = l then a else a.map (·.add (l * ie.size))) = a'
    cases a' with
    | none => exact hk H ho (Upd.refl _ _)
    | some p => exact hk H ho (Upd.refl _ _)
  · rcases ho.ok with ⟨ha, hl, hc⟩ | ⟨g, cur, ha, hg, h1, h2, h3⟩
    · omega
    · subst ha
      rw [if_neg (by omega)]
      obtain ⟨m, rfl⟩ : ∃ m, n = m + 1 := ⟨n - 1, by omega⟩
      show swp P (do
        let zv ← zeroValue e
        storeCells ((⟨g, 0, none⟩ : Addr).add (l * ie.size)) (Builtin.zeroCells zv.cells (m + 1)).toList
        pure (Value.tuple #[])) K H
      rw [swp_bind, swp_zeroValue hi hz, swp_bind, Addr.add_lit, Nat.zero_add]
      have hzl : (Builtin.zeroCells z.cells (m + 1)).toList.length = (m + 1) * ie.size := by
        rw [Array.length_toList]; simp [Builtin.zeroCells, hzs]
      have hfit : l * ie.size + (Builtin.zeroCells z.cells (m + 1)).toList.length ≤ cur.size := by
        rw [hzl, h1, ← Nat.add_mul]; exact Nat.mul_le_mul_right _ hn
      refine swp_storeCells_own _ 0 cur H hg (by simpa using hfit) ?_ ?_
      · intro v hv
        simp only [Builtin.zeroCells, Array.toList_map, List.mem_map] at hv
        obtain ⟨k, hk', rfl⟩ := hv
        by_cases hlt : k % z.cells.size < z.cells.size
        · rw [getElem!_pos z.cells _ hlt]
          exact hzp _ (by simp)
        · rw [getElem!_neg z.cells _ hlt]; rfl
      · refine hk _ (OwnRow.made (upd_same _ _ _) (by rw [writeAt_size]; exact h1) h2 ho.len ?_) (Upd.upd (by simp [blk]) _)
        intro i v hi'
        rw [Nat.add_zero, writeAt_get _ _ _ _ hfit]
        have hxl := ho.len
        have := (List.getElem?_eq_some_iff.1 hi').1
        rw [if_neg (by omega)]; exact h3 i v hi'
theorem append_str {t e ty xt : TypeId} {ie : TypeInfo} {z : Value} {a : Option Addr} {n cap : Nat} {s : ByteArray} {xs : List Value} {H : Heap} {K : Value → Heap → Prop}
    (ht : P.underlying t = some (.slice e)) (hi : P.info? e = some ie) (hz : ie.zero = some z) (hzs : z.cells.size = ie.size) (hs1 : ie.size = 1) (hxt : P.underlying xt = some .string)
    (ho : OwnRow H e ie.size a n cap xs)
    (hlim : (n + s.size) * ie.bytes ≤ 140737488355328) (hmax : n + s.size ≤ 4611686018427387904)
    (h : ∀ a' cap' H', OwnRow H' e ie.size a' (n + s.size) cap' (xs ++ s.data.toList.map fun b => .int .u8 b.toNat) → Upd (blk a) H H' → (∀ p, a' = some p → a = some p ∨ H p.block = none) → K (.slice a' (n + s.size) cap') H') :
    HSem P (Builtin.append_ #[t, xt] ty [.slice a n cap, .string s].toArray) H K := by
  refine HSem.of_swp (swp_append (x := .string s) ht hi hz hzs (by omega) hxt (by simp) (fun K H hk => hk) (fun K hk => ?_) ho ?_ ?_ hlim hmax h)
  · have : ((s.extract 0 s.size).data.map fun b => Value.int .u8 b.toNat) = (s.data.toList.map fun b => Value.int .u8 b.toNat).toArray := by
      rw [ByteArray.extract_zero_size, ← Array.toList_map, Array.toArray_toList]
    show K ((s.extract 0 s.size).data.map fun b => Value.int .u8 b.toNat) H
    rw [this]; exact hk
  · rw [hs1]; simp
  · intro v hv
    obtain ⟨b, _, rfl⟩ := List.mem_map.1 hv
    rfl
end
end Go.Proofs.Ytaobgofbhommcaa.Hv
