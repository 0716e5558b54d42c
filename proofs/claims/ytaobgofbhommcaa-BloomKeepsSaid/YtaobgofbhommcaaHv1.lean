import Derived.Calls
import Derived.Orders
import Derived.Control
namespace Go.Proofs.Ytaobgofbhommcaa.Hv
open Go
set_option linter.unusedVariables false

/-! ## Partial heaps -/
abbrev Heap := Nat → Option Obj

def Heap.cell? (H : Heap) (a : Addr) : Option Value :=
  match H a.block with
  | some (.cells c _ _) => if a.spot.isSome then none else c[a.off]?
  | _ => none
def Heap.shape? (H : Heap) (r : Nat) : Option (TypeId × Nat) :=
  match H r with
  | some (.cells c elem _) => some (elem, c.size)
  | _ => none
def Heap.frozen? (H : Heap) (a : Addr) : Bool :=
  match H a.block with
  | some (.cells _ _ (lo, hi)) => lo ≤ a.off && a.off < hi
  | _ => false
def Heap.upd (H : Heap) (b : Nat) (o : Obj) : Heap := fun k => if k = b then some o else H k
def Heap.setCell (H : Heap) (a : Addr) (v : Value) : Heap :=
  match H a.block with
  | some (.cells c e f) => H.upd a.block (.cells (if a.spot.isSome then c else c.setIfInBounds a.off v) e f)
  | _ => H
def Heap.freeze (H : Heap) (a : Addr) (n : Nat) : Heap :=
  if n = 0 then H else
  match H a.block with
  | some (.cells c e (lo, hi)) => H.upd a.block (.cells c e (if lo == hi then (a.off, a.off + n) else (min lo a.off, max hi (a.off + n))))
  | _ => H

def Sat (H : Heap) (w : World) : Prop := ∀ b o, H b = some o → w.heap[b]? = some o

/-- What a run leaves of the world: the streams; what H does not name and was there stays; what H' names besides H is new. -/
structure Fr (H H' : Heap) (w w' : World) : Prop where
  os : w'.os = w.os
  tape : w'.tape = w.tape
  output : w'.output = w.output
  size : w.heap.size ≤ w'.heap.size
  keep : ∀ b, b < w.heap.size → H b = none → w'.heap[b]? = w.heap[b]?
  dom : ∀ b, H b = none → H' b ≠ none → w.heap.size ≤ b

theorem Fr.refl (H : Heap) (w : World) : Fr H H w w := ⟨rfl, rfl, rfl, Nat.le_refl _, fun _ _ _ => rfl, fun _ h h' => absurd h h'⟩
theorem Fr.trans {H H1 H2 : Heap} {w w1 w2 : World} (h : Fr H H1 w w1) (k : Fr H1 H2 w1 w2) : Fr H H2 w w2 := by
  refine ⟨k.os.trans h.os, k.tape.trans h.tape, k.output.trans h.output, Nat.le_trans h.size k.size, fun b hb hn => ?_, fun b hn h2 => ?_⟩
  · have h1 : H1 b = none := by
      cases e : H1 b with
      | none => rfl
      | some o => exact absurd hb (Nat.not_lt.2 (h.dom b hn (by simp [e])))
    rw [k.keep b (Nat.lt_of_lt_of_le hb h.size) h1, h.keep b hb hn]
  · cases e : H1 b with
    | none => exact Nat.le_trans h.size (k.dom b e h2)
    | some o => exact h.dom b hn (by simp [e])

theorem Sat.lt {H : Heap} {w : World} (h : Sat H w) {b : Nat} (hb : H b ≠ none) : b < w.heap.size := by
  cases e : H b with
  | none => exact absurd e hb
  | some o => exact (Array.getElem?_eq_some_iff.1 (h b o e)).1
theorem Sat.cell {H : Heap} {w : World} (h : Sat H w) {a : Addr} {v : Value} (hv : H.cell? a = some v) : w.cell? a = some v := by
  unfold Heap.cell? at hv
  unfold World.cell?
  cases e : H a.block with
  | none => simp [e] at hv
  | some o => rw [h _ _ e]; rw [e] at hv; cases o <;> exact hv
theorem Sat.frozen {H : Heap} {w : World} (h : Sat H w) {a : Addr} (hn : H a.block ≠ none) : w.frozen? a = H.frozen? a := by
  unfold Heap.frozen? World.frozen?
  cases e : H a.block with
  | none => exact absurd e hn
  | some o => rw [h _ _ e]; cases o <;> rfl
theorem Sat.shape {H : Heap} {w : World} (h : Sat H w) {r : Nat} (hn : H r ≠ none) : w.shape? r = H.shape? r := by
  unfold Heap.shape? World.shape?
  cases e : H r with
  | none => exact absurd e hn
  | some o => rw [h _ _ e]; cases o <;> rfl
theorem Sat.upd_push {H : Heap} {w : World} (h : Sat H w) (o : Obj) : Sat (H.upd w.heap.size o) { w with heap := w.heap.push o } := by
  intro b o' hb
  unfold Heap.upd at hb
  show (w.heap.push o)[b]? = _
  by_cases e : b = w.heap.size
  · subst e; simp at hb; subst hb; simp
  · rw [if_neg e] at hb
    have := h b o' hb
    have hl := (Array.getElem?_eq_some_iff.1 this).1
    rw [Array.getElem?_push, if_neg (by omega)]; exact this
theorem Sat.upd_set {H : Heap} {w : World} (h : Sat H w) {r : Nat} (hr : H r ≠ none) (o : Obj) : Sat (H.upd r o) { w with heap := w.heap.setIfInBounds r o } := by
  have hl := h.lt hr
  intro b o' hb
  unfold Heap.upd at hb
  show (w.heap.setIfInBounds r o)[b]? = _
  by_cases e : b = r
  · subst e; simp at hb; subst hb; simp [hl]
  · rw [if_neg e] at hb
    rw [Array.getElem?_setIfInBounds_ne (Ne.symm e)]; exact h b o' hb
theorem Sat.none_size {H : Heap} {w : World} (h : Sat H w) : H w.heap.size = none := by
  cases e : H w.heap.size with
  | none => rfl
  | some o => have := h.lt (b := w.heap.size) (by simp [e]); omega

/-! ## A wp on the model's operations -/
def Value.plain : Value → Bool | .agg _ | .tuple _ => false | _ => true

def swp (P : Program) {α : Type} : Sem α → (α → Heap → Prop) → Heap → Prop
  | .pure a, K, H => K a H
  | .load _ a k, K, H => ∃ v, H.cell? a = some v ∧ swp P (k v) K H
  | .store _ a v k, K, H => Value.plain v = true ∧ (∃ u, H.cell? a = some u) ∧ H.frozen? a = false ∧ swp P k K (H.setCell a v)
  | .new o k, K, H => ∀ b, H b = none → swp P (k b) K (H.upd b o)
  | .shape r k, K, H => H r ≠ none ∧ swp P (k (H.shape? r)) K H
  | .freeze a n k, K, H => (∃ c e lo hi, H a.block = some (.cells c e (lo, hi))) ∧ swp P k K (H.freeze a n)
  | .frozen a k, K, H => H a.block ≠ none ∧ swp P (k (H.frozen? a)) K H
  | .getObj r k, K, H => ∃ o, H r = some o ∧ (∀ c e f, o ≠ .cells c e f) ∧ swp P (k o) K H
  | .setObj r o k, K, H => (∃ o', H r = some o' ∧ (∀ c e f, o' ≠ .cells c e f)) ∧ swp P k K (H.upd r o)
  | .choose q k, K, H => if q.forced then swp P (k 0) K H else ∀ t, swp P (k (q.cut t)) K H
  | .sys _ _, _, _ => False
  | .program k, K, H => swp P (k P) K H
  | .mark _ k, K, H => swp P k K H
  | .halt _, _, _ => False

theorem swp_bind (P : Program) {α β : Type} (s : Sem α) (f : α → Sem β) (K : β → Heap → Prop) (H : Heap) :
    swp P (s >>= f) K H ↔ swp P s (fun a H' => swp P (f a) K H') H := by
  show swp P (Sem.bind s f) K H ↔ _
  induction s generalizing H with
  | pure a => exact Iff.rfl
  | load m a k ih => simp only [Sem.bind, swp, ih]
  | store m a v k ih => simp only [Sem.bind, swp, ih]
  | new o k ih => simp only [Sem.bind, swp, ih]
  | shape r k ih => simp only [Sem.bind, swp, ih]
  | freeze a n k ih => simp only [Sem.bind, swp, ih]
  | frozen a k ih => simp only [Sem.bind, swp, ih]
  | getObj r k ih => simp only [Sem.bind, swp, ih]
  | setObj r o k ih => simp only [Sem.bind, swp, ih]
  | choose q k ih => simp only [Sem.bind, swp, ih]
  | sys c k ih => simp only [Sem.bind, swp]
  | program k ih => simp only [Sem.bind, swp, ih]
  | mark m k ih => simp only [Sem.bind, swp, ih]
  | halt h => simp only [Sem.bind, swp]

theorem swp_mono (P : Program) {α : Type} {K K' : α → Heap → Prop} (hk : ∀ a H, K a H → K' a H) (s : Sem α) (H : Heap) (h : swp P s K H) : swp P s K' H := by
  induction s generalizing H with
  | pure a => exact hk _ _ h
  | load m a k ih => obtain ⟨v, h1, h2⟩ := h; exact ⟨v, h1, ih _ _ h2⟩
  | store m a v k ih => obtain ⟨h0, h1, h2, h3⟩ := h; exact ⟨h0, h1, h2, ih _ h3⟩
  | new o k ih => exact fun b hb => ih _ _ (h b hb)
  | shape r k ih => exact ⟨h.1, ih _ _ h.2⟩
  | freeze a n k ih => exact ⟨h.1, ih _ h.2⟩
  | frozen a k ih => exact ⟨h.1, ih _ _ h.2⟩
  | getObj r k ih => obtain ⟨o, h1, h2, h3⟩ := h; exact ⟨o, h1, h2, ih _ _ h3⟩
  | setObj r o k ih => exact ⟨h.1, ih _ h.2⟩
  | choose q k ih =>
    unfold swp at h ⊢
    split
    · rename_i hq; rw [if_pos hq] at h; exact ih _ _ h
    · rename_i hq; rw [if_neg hq] at h; exact fun t => ih _ _ (h t)
  | sys c k ih => exact h
  | program k ih => exact ih _ _ h
  | mark m k ih => exact ih _ h
  | halt h' => exact h

theorem swp_pure (P : Program) {α : Type} (a : α) (K : α → Heap → Prop) (H : Heap) : swp P (pure a) K H ↔ K a H := Iff.rfl

theorem swp_run (P : Program) {α : Type} (K : α → Heap → Prop) (s : Sem α) : ∀ (H : Heap) (w : World), swp P s K H → Sat H w →
    ∃ x w' H', s.run P w = .ok x w' ∧ K x H' ∧ Sat H' w' ∧ Fr H H' w w' := by
  induction s with
  | pure a => intro H w h hs; exact ⟨a, w, H, rfl, h, hs, Fr.refl H w⟩
  | load m a k ih =>
    intro H w h hs
    obtain ⟨v, h1, h2⟩ := h
    obtain ⟨x, w', H', hr, hk, hs', hf⟩ := ih v H w h2 hs
    exact ⟨x, w', H', by simp only [Sem.run, hs.cell h1]; exact hr, hk, hs', hf⟩
  | store m a v k ih =>
    intro H w h hs
    obtain ⟨h0, ⟨u, h1⟩, h2, h3⟩ := h
    have hn : H a.block ≠ none := by
      intro e; unfold Heap.cell? at h1; simp [e] at h1
    obtain ⟨c, e, f, hb⟩ : ∃ c e f, H a.block = some (.cells c e f) := by
      unfold Heap.cell? at h1
      cases ho : H a.block with
      | none => exact absurd ho hn
      | some o => cases o <;> simp [ho] at h1 ⊢
    have hset : w.setCell a v = { w with heap := w.heap.setIfInBounds a.block (.cells (if a.spot.isSome then c else c.setIfInBounds a.off v) e f) } := by
      have hw := hs _ _ hb
      unfold World.setCell
      congr 1
      apply Array.ext_getElem?
      intro i
      rw [Array.getElem?_modify]
      by_cases hi : a.block = i
      · subst hi
        have hl := (Array.getElem?_eq_some_iff.1 hw).1
        rw [if_pos rfl, hw]
        simp [hl]
      · simp [hi, Array.getElem?_setIfInBounds_ne hi]
    have hH : H.setCell a v = H.upd a.block (.cells (if a.spot.isSome then c else c.setIfInBounds a.off v) e f) := by
      unfold Heap.setCell; rw [hb]
    have hs1 : Sat (H.setCell a v) (w.setCell a v) := by rw [hset, hH]; exact hs.upd_set hn _
    obtain ⟨x, w', H', hr, hk, hs', hf⟩ := ih (H.setCell a v) (w.setCell a v) h3 hs1
    refine ⟨x, w', H', ?_, hk, hs', Fr.trans ?_ hf⟩
    · have hfz : w.frozen? a = false := by rw [hs.frozen hn]; exact h2
      cases v <;> first | (simp [Value.plain] at h0; done) | (simp only [Sem.run, hs.cell h1, hfz]; exact hr)
    · rw [hset, hH]
      refine ⟨rfl, rfl, rfl, by simp, fun b hb' hnb => ?_, fun b hnb hb' => ?_⟩
      · have : a.block ≠ b := fun e' => by subst e'; exact hn hnb
        show (w.heap.setIfInBounds _ _)[b]? = _
        rw [Array.getElem?_setIfInBounds_ne this]
      · exfalso; unfold Heap.upd at hb'
        by_cases e' : b = a.block
        · subst e'; exact hn hnb
        · rw [if_neg e'] at hb'; exact hb' hnb
  | new o k ih =>
    intro H w h hs
    obtain ⟨x, w', H', hr, hk, hs', hf⟩ := ih w.heap.size (H.upd w.heap.size o) { w with heap := w.heap.push o } (h _ hs.none_size) (hs.upd_push o)
    have f1 : Fr H (H.upd w.heap.size o) w { w with heap := w.heap.push o } := by
      refine ⟨rfl, rfl, rfl, by simp, fun b hb hnb => ?_, fun b hnb hb => ?_⟩
      · show (w.heap.push o)[b]? = _
        rw [Array.getElem?_push, if_neg (by omega)]
      · unfold Heap.upd at hb
        by_cases e : b = w.heap.size
        · omega
        · rw [if_neg e] at hb; exact absurd hnb hb
    exact ⟨x, w', H', by simp only [Sem.run]; exact hr, hk, hs', f1.trans hf⟩
  | shape r k ih =>
    intro H w h hs
    obtain ⟨x, w', H', hr, hk, hs', hf⟩ := ih _ H w h.2 hs
    exact ⟨x, w', H', by simp only [Sem.run, hs.shape h.1]; exact hr, hk, hs', hf⟩
  | freeze a n k ih =>
    intro H w h hs
    obtain ⟨⟨c, e, lo, hi, ho⟩, h⟩ := h
    have hn : H a.block ≠ none := by simp [ho]
    have hs1 : Sat (H.freeze a n) (w.freeze a n) ∧ Fr H (H.freeze a n) w (w.freeze a n) := by
      unfold Heap.freeze World.freeze
      by_cases h0 : n = 0
      · simp only [h0, if_true]; exact ⟨hs, Fr.refl _ _⟩
      · simp only [h0, if_false]
        have hw := hs _ _ ho
        have hl := (Array.getElem?_eq_some_iff.1 hw).1
        have frup : ∀ o', Fr H (H.upd a.block o') w { w with heap := w.heap.setIfInBounds a.block o' } := fun o' => by
          refine ⟨rfl, rfl, rfl, by simp, fun b hb' hnb => ?_, fun b hnb hb' => ?_⟩
          · have : a.block ≠ b := fun e' => by subst e'; exact hn hnb
            show (w.heap.setIfInBounds _ _)[b]? = _
            rw [Array.getElem?_setIfInBounds_ne this]
          · exfalso; unfold Heap.upd at hb'
            by_cases e' : b = a.block
            · subst e'; exact hn hnb
            · rw [if_neg e'] at hb'; exact hb' hnb
        have key : ∀ g : Obj → Obj, w.heap.modify a.block g = w.heap.setIfInBounds a.block (g (.cells c e (lo, hi))) := fun g => by
          apply Array.ext_getElem?
          intro i
          rw [Array.getElem?_modify]
          by_cases hi : a.block = i
          · subst hi; rw [if_pos rfl, hw]; simp [hl]
          · simp [hi, Array.getElem?_setIfInBounds_ne hi]
        simp only [key, ho]
        exact ⟨hs.upd_set hn _, frup _⟩
    obtain ⟨x, w', H', hr, hk, hs', hf⟩ := ih (H.freeze a n) (w.freeze a n) h hs1.1
    exact ⟨x, w', H', by simp only [Sem.run]; exact hr, hk, hs', Fr.trans hs1.2 hf⟩
  | frozen a k ih =>
    intro H w h hs
    obtain ⟨x, w', H', hr, hk, hs', hf⟩ := ih _ H w h.2 hs
    exact ⟨x, w', H', by simp only [Sem.run, hs.frozen h.1]; exact hr, hk, hs', hf⟩
  | getObj r k ih =>
    intro H w h hs
    obtain ⟨o, h1, h2, h3⟩ := h
    obtain ⟨x, w', H', hr, hk, hs', hf⟩ := ih _ H w h3 hs
    refine ⟨x, w', H', ?_, hk, hs', hf⟩
    simp only [Sem.run, hs _ _ h1]
    cases o <;> first | exact absurd rfl (h2 _ _ _) | exact hr
  | setObj r o k ih =>
    intro H w h hs
    obtain ⟨⟨o', h1, h2⟩, h3⟩ := h
    have hn : H r ≠ none := by simp [h1]
    obtain ⟨x, w', H', hr, hk, hs', hf⟩ := ih _ { w with heap := w.heap.setIfInBounds r o } h3 (hs.upd_set hn o)
    refine ⟨x, w', H', ?_, hk, hs', Fr.trans ?_ hf⟩
    · simp only [Sem.run, hs _ _ h1]
      cases o' <;> first | exact absurd rfl (h2 _ _ _) | exact hr
    · refine ⟨rfl, rfl, rfl, by simp, fun b hb' hnb => ?_, fun b hnb hb' => ?_⟩
      · have : r ≠ b := fun e' => by subst e'; exact hn hnb
        show (w.heap.setIfInBounds _ _)[b]? = _
        rw [Array.getElem?_setIfInBounds_ne this]
      · exfalso; unfold Heap.upd at hb'
        by_cases e' : b = r
        · subst e'; exact hn hnb
        · rw [if_neg e'] at hb'; exact hb' hnb
  | choose q k ih =>
    intro H w h hs
    unfold swp at h
    by_cases hq : q.forced = true
    · rw [if_pos hq] at h
      obtain ⟨x, w', H', hr, hk, hs', hf⟩ := ih _ H w h hs
      exact ⟨x, w', H', by simp only [Sem.run, hq, if_true]; exact hr, hk, hs', hf⟩
    · rw [if_neg hq] at h
      obtain ⟨x, w', H', hr, hk, hs', hf⟩ := ih _ H { w with drawn := w.drawn + 1 } (h (w.tape w.drawn q)) hs
      exact ⟨x, w', H', by simp only [Sem.run, hq]; exact hr, hk, hs', ⟨hf.os, hf.tape, hf.output, hf.size, hf.keep, hf.dom⟩⟩
  | sys c k ih => intro H w h hs; exact h.elim
  | program k ih =>
    intro H w h hs
    obtain ⟨x, w', H', hr, hk, hs', hf⟩ := ih P H w h hs
    exact ⟨x, w', H', by simp only [Sem.run]; exact hr, hk, hs', hf⟩
  | mark m k ih =>
    intro H w h hs
    obtain ⟨x, w', H', hr, hk, hs', hf⟩ := ih H w h hs
    exact ⟨x, w', H', by simp only [Sem.run]; exact hr, hk, hs', hf⟩
  | halt h' => intro H w h hs; exact h.elim

/-! ## Calls -/
def HCalls (P : Program) (f : FuncId) (args : List Value) (H : Heap) (K : Value → Heap → Prop) : Prop :=
  ∀ w, Sat H w → Calls P f args.toArray w fun e w' => ∃ v H', e = .returned v ∧ K v H' ∧ Sat H' w' ∧ Fr H H' w w'

theorem HCalls.mono {P : Program} {f : FuncId} {args : List Value} {H : Heap} {K K' : Value → Heap → Prop} (h : HCalls P f args H K) (hk : ∀ v H', K v H' → K' v H') : HCalls P f args H K' :=
  fun w hs => (h w hs).mono fun e w' ⟨v, H', he, hK, hs', hf⟩ => ⟨v, H', he, hk _ _ hK, hs', hf⟩

/-! ## Code -/
def HWp (P : Program) (c : Code) (K : Exit → Act → Heap → Prop) (a : Act) (H : Heap) : Prop :=
  ∀ w, Sat H w → c.wp P (fun e a' w' => ∃ H', K e a' H' ∧ Sat H' w' ∧ Fr H H' w w') a w

section
variable {P : Program} {K : Exit → Act → Heap → Prop} {a : Act} {H : Heap}
theorem HWp.skip (h : K .normal a H) : HWp P .skip K a H := fun w hs => wp_skip ⟨H, h, hs, Fr.refl _ _⟩
theorem HWp.label {l : Nat} (h : K .normal a H) : HWp P (.label l) K a H := fun w hs => wp_label ⟨H, h, hs, Fr.refl _ _⟩
theorem HWp.exit {id : Nat} (h : K (.exit id) a H) : HWp P (.exit id) K a H := fun w hs => wp_exit ⟨H, h, hs, Fr.refl _ _⟩
theorem HWp.ret (h : K .ret a H) : HWp P .ret K a H := fun w hs => wp_ret ⟨H, h, hs, Fr.refl _ _⟩
def thenK (next : Act → Heap → Prop) (K : Exit → Act → Heap → Prop) : Exit → Act → Heap → Prop
  | .normal, a, H => next a H
  | e, a, H => K e a H
theorem HWp.seq {x y : Code} (h : HWp P x (thenK (HWp P y K) K) a H) : HWp P (.seq x y) K a H := fun w hs =>
  wp_seq (wp_mono (h w hs) fun e a1 w1 ⟨H1, hk, hs1, hf1⟩ => by
    cases e with
    | normal => exact wp_mono (hk w1 hs1) fun e a2 w2 ⟨H2, hk2, hs2, hf2⟩ => ⟨H2, hk2, hs2, hf1.trans hf2⟩
    | _ => exact ⟨H1, hk, hs1, hf1⟩)
theorem HWp.cond {c : Operand} {x y : Code} {t : Bool} (hc : a.eval c = .bool t) (ht : t = true → HWp P x K a H) (hf : t = false → HWp P y K a H) : HWp P (.cond c x y) K a H :=
  fun w hs => wp_cond_split hc (fun h => ht h w hs) (fun h => hf h w hs)
def blockK (id : Nat) (K : Exit → Act → Heap → Prop) : Exit → Act → Heap → Prop
  | .exit id', a, H => if id' = id then K .normal a H else K (.exit id') a H
  | e, a, H => K e a H
theorem HWp.block {id : Nat} {c : Code} (h : HWp P c (blockK id K) a H) : HWp P (.block id c) K a H := fun w hs =>
  wp_block (wp_mono (h w hs) fun e a1 w1 ⟨H1, hk, hs1, hf1⟩ => by
    cases e with
    | exit id' =>
      unfold Exit.inBlock blockK at *
      dsimp only at hk ⊢
      split
      · rename_i e'; rw [if_pos e'] at hk; exact ⟨H1, hk, hs1, hf1⟩
      · rename_i e'; rw [if_neg e'] at hk; exact ⟨H1, hk, hs1, hf1⟩
    | _ => exact ⟨H1, hk, hs1, hf1⟩)
theorem HWp.loop {c : Code} (I : Nat → Act → Heap → Prop) (h0 : ∃ n, I n a H)
    (round : ∀ n a H, I n a H → HWp P c (thenK (fun a' H' => ∃ m, m < n ∧ I m a' H') K) a H) : HWp P (.loop c) K a H := by
  intro w0 hs0 b k cs
  have key : ∀ n a H w, I n a H → Sat H w →
      ∃ e a' w', (∃ H', K e a' H' ∧ Sat H' w' ∧ Fr H H' w w') ∧ Arrives P (lone (b.at a (.code c :: .inLoop c :: k)) cs w) b k cs e a' w' := by
    intro n
    induction n using Nat.strongRecOn with
    | _ n ih =>
      intro a H w hI hs
      obtain ⟨e, a1, w1, ⟨H1, hk, hs1, hf1⟩, harr⟩ := round n a H hI w hs b (.inLoop c :: k) cs
      cases e with
      | normal =>
        obtain ⟨m, hm, hI1⟩ := hk
        obtain ⟨e2, a2, w2, ⟨H2, hk2, hs2, hf2⟩, harr2⟩ := ih m hm a1 H1 w1 hI1 hs1
        exact ⟨e2, a2, w2, ⟨H2, hk2, hs2, hf1.trans hf2⟩, .of_steps (Steps.trans harr (.one step_inLoop)) harr2⟩
      | exit id => exact ⟨_, a1, w1, ⟨H1, hk, hs1, hf1⟩, .pass (x := .inLoop c) rfl (fun _ _ => .inl (by simp)) harr⟩
      | goto l => exact ⟨_, a1, w1, ⟨H1, hk, hs1, hf1⟩, .pass (x := .inLoop c) rfl (fun _ _ => .inl (by simp)) harr⟩
      | ret => exact ⟨_, a1, w1, ⟨H1, hk, hs1, hf1⟩, .pass (x := .inLoop c) rfl (fun _ _ => .inl (by simp)) harr⟩
      | panic ch => exact ⟨_, a1, w1, ⟨H1, hk, hs1, hf1⟩, .pass (x := .inLoop c) rfl (fun _ _ => .inl (by simp)) harr⟩
      | outgrown => exact ⟨_, a1, w1, ⟨H1, hk, hs1, hf1⟩, .pass (x := .inLoop c) rfl (fun _ _ => .inl (by simp)) harr⟩
  obtain ⟨n, hI⟩ := h0
  obtain ⟨e, a', w', hq, harr⟩ := key n a H w0 hI hs0
  exact ⟨e, a', w', hq, .of_steps (.one step_loop) harr⟩
end

/-! ## One operation -/
/-- One operation that is carried out: its value is put, a call is met by its contract. -/
def HOp (P : Program) (o : Oper) (K : Act → Heap → Prop) (a : Act) (H : Heap) : Prop :=
  ∀ w, Sat H w → match (execOp a.eval o).run P w with
    | .ok (.value v) w' => ∃ H', K (a.put o.dst v) H' ∧ Sat H' w' ∧ Fr H H' w w'
    | .ok .skip w' => ∃ H', K (a.put o.dst undef) H' ∧ Sat H' w' ∧ Fr H H' w w'
    | .ok (.enter f args) w' => ∃ H', HCalls P f args.toList H' (fun v H2 => K (a.put o.dst v) H2) ∧ Sat H' w' ∧ Fr H H' w w'
    | _ => False

theorem HOp.of_swp {P : Program} {o : Oper} {K : Act → Heap → Prop} {a : Act} {H : Heap}
    (h : swp P (execOp a.eval o) (fun nx H1 => match nx with
      | .value v => K (a.put o.dst v) H1
      | .skip => K (a.put o.dst undef) H1
      | .enter f args => HCalls P f args.toList H1 (fun v H2 => K (a.put o.dst v) H2)
      | _ => False) H) : HOp P o K a H := by
  intro w hs
  obtain ⟨x, w1, H1, hr, hk, hs1, hf⟩ := swp_run P _ _ H w h hs
  rw [hr]
  cases x with
  | value v => exact ⟨H1, hk, hs1, hf⟩
  | skip => exact ⟨H1, hk, hs1, hf⟩
  | enter f args => exact ⟨H1, hk, hs1, hf⟩
  | _ => exact hk.elim

theorem HOp.wp {P : Program} {o : Oper} {K : Act → Heap → Prop} {a : Act} {H : Heap} {Q : Exit → Act → World → Prop} (h : HOp P o K a H) {w : World} (hs : Sat H w) :
    o.wp P a w (fun a' w' => ∃ H', K a' H' ∧ Sat H' w' ∧ Fr H H' w w') Q := by
  have h1 := h w hs
  unfold Oper.wp
  generalize (execOp a.eval o).run P w = r at *
  cases r with
  | halt x w' => exact h1.elim
  | ok x w1 =>
    cases x with
    | value v => exact h1
    | skip => exact h1
    | enter f args =>
      obtain ⟨H1, hc, hs1, hf⟩ := h1
      refine Calls.mono (hc w1 hs1) fun e w2 ⟨v, H2, he, hK, hs2, hf2⟩ => ?_
      subst he
      exact ⟨H2, hK, hs2, hf.trans hf2⟩
    | _ => exact h1.elim

/-- The operation only reads, and yields v. -/
def Rds (P : Program) {α : Type} (s : Sem α) (H : Heap) (x : α) : Prop := ∀ w, Sat H w → s.run P w = .ok x w
end Go.Proofs.Ytaobgofbhommcaa.Hv
