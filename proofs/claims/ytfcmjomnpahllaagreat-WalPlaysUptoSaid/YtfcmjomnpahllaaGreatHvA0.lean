import Derived.Calls
import Derived.Orders
import Derived.Control
import Derived.Laws.Tables
import Derived.Laws.Cells
import Derived.Laws.BytesString
import Derived.IntWalk
import Derived.Laws.Append
import Derived.KernelRfl
import Derived.Laws.Strings
import Derived.Laws.BitsLemmas
section
namespace Go.Proofs.YtfcmjomnpahllaaGreat.Hv
open Go
set_option linter.unusedVariables false

/-! ## Partial heaps -/
abbrev Heap := Nat → Option Obj

def Heap.cell? (H : Heap) (a : Addr) : Option Value :=
  match H a.block with
  | some (.cells c _ _) => if a.spot.isSome then none else c[a.off]?
  | _ => none
def Heap.shape? (H : Heap) (r : Nat) : Option (TypeId × Nat) :=
  match H r with
  | some (.cells c elem _) => some (elem, c.size)
  | _ => none
def Heap.frozen? (H : Heap) (a : Addr) : Bool :=
  match H a.block with
  | some (.cells _ _ (lo, hi)) => lo ≤ a.off && a.off < hi
  | _ => false
def Heap.upd (H : Heap) (b : Nat) (o : Obj) : Heap := fun k => if k = b then some o else H k
def Heap.setCell (H : Heap) (a : Addr) (v : Value) : Heap :=
  match H a.block with
  | some (.cells c e f) => H.upd a.block (.cells (if a.spot.isSome then c else c.setIfInBounds a.off v) e f)
  | _ => H
def Heap.freeze (H : Heap) (a : Addr) (n : Nat) : Heap :=
  if n = 0 then H else
  match H a.block with
  | some (.cells c e (lo, hi)) => H.upd a.block (.cells c e (if lo == hi then (a.off, a.off + n) else (min lo a.off, max hi (a.off + n))))
  | _ => H

def Sat (H : Heap) (w : World) : Prop := ∀ b o, H b = some o → w.heap[b]? = some o

/-- What a run leaves of the world: the streams; what H does not name and was there stays; what H' names besides H is new. -/
structure Fr (H H' : Heap) (w w' : World) : Prop where
  os : w'.os = w.os
  tape : w'.tape = w.tape
  output : w'.output = w.output
  size : w.heap.size ≤ w'.heap.size
  keep : ∀ b, b < w.heap.size → H b = none → w'.heap[b]? = w.heap[b]?
  dom : ∀ b, H b = none → H' b ≠ none → w.heap.size ≤ b

theorem Fr.refl (H : Heap) (w : World) : Fr H H w w := ⟨rfl, rfl, rfl, Nat.le_refl _, fun _ _ _ => rfl, fun _ h h' => absurd h h'⟩
theorem Fr.trans {H H1 H2 : Heap} {w w1 w2 : World} (h : Fr H H1 w w1) (k : Fr H1 H2 w1 w2) : Fr H H2 w w2 := by
  refine ⟨k.os.trans h.os, k.tape.trans h.tape, k.output.trans h.output, Nat.le_trans h.size k.size, fun b hb hn => ?_, fun b hn h2 => ?_⟩
  · have h1 : H1 b = none := by
      cases e : H1 b with
      | none => rfl
      | some o => exact absurd hb (Nat.not_lt.2 (h.dom b hn (by simp [e])))
    rw [k.keep b (Nat.lt_of_lt_of_le hb h.size) h1, h.keep b hb hn]
  · cases e : H1 b with
    | none => exact Nat.le_trans h.size (k.dom b e h2)
    | some o => exact h.dom b hn (by simp [e])

theorem Sat.lt {H : Heap} {w : World} (h : Sat H w) {b : Nat} (hb : H b ≠ none) : b < w.heap.size := by
  cases e : H b with
  | none => exact absurd e hb
  | some o => exact (Array.getElem?_eq_some_iff.1 (h b o e)).1
theorem Sat.cell {H : Heap} {w : World} (h : Sat H w) {a : Addr} {v : Value} (hv : H.cell? a = some v) : w.cell? a = some v := by
  unfold Heap.cell? at hv
  unfold World.cell?
  cases e : H a.block with
  | none => simp [e] at hv
  | some o => rw [h _ _ e]; rw [e] at hv; cases o <;> exact hv
theorem Sat.frozen {H : Heap} {w : World} (h : Sat H w) {a : Addr} (hn : H a.block ≠ none) : w.frozen? a = H.frozen? a := by
  unfold Heap.frozen? World.frozen?
  cases e : H a.block with
  | none => exact absurd e hn
  | some o => rw [h _ _ e]; cases o <;> rfl
theorem Sat.shape {H : Heap} {w : World} (h : Sat H w) {r : Nat} (hn : H r ≠ none) : w.shape? r = H.shape? r := by
  unfold Heap.shape? World.shape?
  cases e : H r with
  | none => exact absurd e hn
  | some o => rw [h _ _ e]; cases o <;> rfl
theorem Sat.upd_push {H : Heap} {w : World} (h : Sat H w) (o : Obj) : Sat (H.upd w.heap.size o) { w with heap := w.heap.push o } := by
  intro b o' hb
  unfold Heap.upd at hb
  show (w.heap.push o)[b]? = _
  by_cases e : b = w.heap.size
  · subst e; simp at hb; subst hb; simp
  · rw [if_neg e] at hb
    have := h b o' hb
    have hl := (Array.getElem?_eq_some_iff.1 this).1
    rw [Array.getElem?_push, if_neg (by omega)]; exact this
theorem Sat.upd_set {H : Heap} {w : World} (h : Sat H w) {r : Nat} (hr : H r ≠ none) (o : Obj) : Sat (H.upd r o) { w with heap := w.heap.setIfInBounds r o } := by
  have hl := h.lt hr
  intro b o' hb
  unfold Heap.upd at hb
  show (w.heap.setIfInBounds r o)[b]? = _
  by_cases e : b = r
  · subst e; simp at hb; subst hb; simp [hl]
  · rw [if_neg e] at hb
    rw [Array.getElem?_setIfInBounds_ne (Ne.symm e)]; exact h b o' hb
theorem Sat.none_size {H : Heap} {w : World} (h : Sat H w) : H w.heap.size = none := by
  cases e : H w.heap.size with
  | none => rfl
  | some o => have := h.lt (b := w.heap.size) (by simp [e]); omega

/-! ## A wp on the model's operations -/
def Value.plain : Value → Bool | .agg _ | .tuple _ => false | _ => true

def swp (P : Program) {α : Type} : Sem α → (α → Heap → Prop) → Heap → Prop
  | .pure a, K, H => K a H
  | .load _ a k, K, H => ∃ v, H.cell? a = some v ∧ swp P (k v) K H
  | .store _ a v k, K, H => Value.plain v = true ∧ (∃ u, H.cell? a = some u) ∧ H.frozen? a = false ∧ swp P k K (H.setCell a v)
  | .new o k, K, H => ∀ b, H b = none → swp P (k b) K (H.upd b o)
  | .shape r k, K, H => H r ≠ none ∧ swp P (k (H.shape? r)) K H
  | .freeze a n k, K, H => (∃ c e lo hi, H a.block = some (.cells c e (lo, hi))) ∧ swp P k K (H.freeze a n)
  | .frozen a k, K, H => H a.block ≠ none ∧ swp P (k (H.frozen? a)) K H
  | .getObj r k, K, H => ∃ o, H r = some o ∧ (∀ c e f, o ≠ .cells c e f) ∧ swp P (k o) K H
  | .setObj r o k, K, H => (∃ o', H r = some o' ∧ (∀ c e f, o' ≠ .cells c e f)) ∧ swp P k K (H.upd r o)
  | .choose q k, K, H => if q.forced then swp P (k 0) K H else ∀ t, swp P (k (q.cut t)) K H
  | .sys _ _, _, _ => False
  | .program k, K, H => swp P (k P) K H
  | .mark _ k, K, H => swp P k K H
  | .halt _, _, _ => False

theorem swp_bind (P : Program) {α β : Type} (s : Sem α) (f : α → Sem β) (K : β → Heap → Prop) (H : Heap) :
    swp P (s >>= f) K H ↔ swp P s (fun a H' => swp P (f a) K H') H := by
  show swp P (Sem.bind s f) K H ↔ _
  induction s generalizing H with
  | pure a => exact Iff.rfl
  | load m a k ih => simp only [Sem.bind, swp, ih]
  | store m a v k ih => simp only [Sem.bind, swp, ih]
  | new o k ih => simp only [Sem.bind, swp, ih]
  | shape r k ih => simp only [Sem.bind, swp, ih]
  | freeze a n k ih => simp only [Sem.bind, swp, ih]
  | frozen a k ih => simp only [Sem.bind, swp, ih]
  | getObj r k ih => simp only [Sem.bind, swp, ih]
  | setObj r o k ih => simp only [Sem.bind, swp, ih]
  | choose q k ih => simp only [Sem.bind, swp, ih]
  | sys c k ih => simp only [Sem.bind, swp]
  | program k ih => simp only [Sem.bind, swp, ih]
  | mark m k ih => simp only [Sem.bind, swp, ih]
  | halt h => simp only [Sem.bind, swp]

theorem swp_mono (P : Program) {α : Type} {K K' : α → Heap → Prop} (hk : ∀ a H, K a H → K' a H) (s : Sem α) (H : Heap) (h : swp P s K H) : swp P s K' H := by
  induction s generalizing H with
  | pure a => exact hk _ _ h
  | load m a k ih => obtain ⟨v, h1, h2⟩ := h; exact ⟨v, h1, ih _ _ h2⟩
  | store m a v k ih => obtain ⟨h0, h1, h2, h3⟩ := h; exact ⟨h0, h1, h2, ih _ h3⟩
  | new o k ih => exact fun b hb => ih _ _ (h b hb)
  | shape r k ih => exact ⟨h.1, ih _ _ h.2⟩
  | freeze a n k ih => exact ⟨h.1, ih _ h.2⟩
  | frozen a k ih => exact ⟨h.1, ih _ _ h.2⟩
  | getObj r k ih => obtain ⟨o, h1, h2, h3⟩ := h; exact ⟨o, h1, h2, ih _ _ h3⟩
  | setObj r o k ih => exact ⟨h.1, ih _ h.2⟩
  | choose q k ih =>
    unfold swp at h ⊢
    split
    · rename_i hq; rw [if_pos hq] at h; exact ih _ _ h
    · rename_i hq; rw [if_neg hq] at h; exact fun t => ih _ _ (h t)
  | sys c k ih => exact h
  | program k ih => exact ih _ _ h
  | mark m k ih => exact ih _ h
  | halt h' => exact h

theorem swp_pure (P : Program) {α : Type} (a : α) (K : α → Heap → Prop) (H : Heap) : swp P (pure a) K H ↔ K a H := Iff.rfl

theorem swp_run (P : Program) {α : Type} (K : α → Heap → Prop) (s : Sem α) : ∀ (H : Heap) (w : World), swp P s K H → Sat H w →
    ∃ x w' H', s.run P w = .ok x w' ∧ K x H' ∧ Sat H' w' ∧ Fr H H' w w' := by
  induction s with
  | pure a => intro H w h hs; exact ⟨a, w, H, rfl, h, hs, Fr.refl H w⟩
  | load m a k ih =>
    intro H w h hs
    obtain ⟨v, h1, h2⟩ := h
    obtain ⟨x, w', H', hr, hk, hs', hf⟩ := ih v H w h2 hs
    exact ⟨x, w', H', by simp only [Sem.run, hs.cell h1]; exact hr, hk, hs', hf⟩
  | store m a v k ih =>
    intro H w h hs
    obtain ⟨h0, ⟨u, h1⟩, h2, h3⟩ := h
    have hn : H a.block ≠ none := by
      intro e; unfold Heap.cell? at h1; simp [e] at h1
    obtain ⟨c, e, f, hb⟩ : ∃ c e f, H a.block = some (.cells c e f) := by
      unfold Heap.cell? at h1
      cases ho : H a.block with
      | none => exact absurd ho hn
      | some o => cases o <;> simp [ho] at h1 ⊢
    have hset : w.setCell a v = { w with heap := w.heap.setIfInBounds a.block (.cells (if a.spot.isSome then c else c.setIfInBounds a.off v) e f) } := by
      have hw := hs _ _ hb
      unfold World.setCell
      congr 1
      apply Array.ext_getElem?
      intro i
      rw [Array.getElem?_modify]
      by_cases hi : a.block = i
      · subst hi
        have hl := (Array.getElem?_eq_some_iff.1 hw).1
        rw [if_pos rfl, hw]
        simp [hl]
      · simp [hi, Array.getElem?_setIfInBounds_ne hi]
    have hH : H.setCell a v = H.upd a.block (.cells (if a.spot.isSome then c else c.setIfInBounds a.off v) e f) := by
      unfold Heap.setCell; rw [hb]
    have hs1 : Sat (H.setCell a v) (w.setCell a v) := by rw [hset, hH]; exact hs.upd_set hn _
    obtain ⟨x, w', H', hr, hk, hs', hf⟩ := ih (H.setCell a v) (w.setCell a v) h3 hs1
    refine ⟨x, w', H', ?_, hk, hs', Fr.trans ?_ hf⟩
    · have hfz : w.frozen? a = false := by rw [hs.frozen hn]; exact h2
      cases v <;> first | (simp [Value.plain] at h0; done) | (simp only [Sem.run, hs.cell h1, hfz]; exact hr)
    · rw [hset, hH]
      refine ⟨rfl, rfl, rfl, by simp, fun b hb' hnb => ?_, fun b hnb hb' => ?_⟩
      · have : a.block ≠ b := fun e' => by subst e'; exact hn hnb
        show (w.heap.setIfInBounds _ _)[b]? = _
        rw [Array.getElem?_setIfInBounds_ne this]
      · exfalso; unfold Heap.upd at hb'
        by_cases e' : b = a.block
        · subst e'; exact hn hnb
        · rw [if_neg e'] at hb'; exact hb' hnb
  | new o k ih =>
    intro H w h hs
    obtain ⟨x, w', H', hr, hk, hs', hf⟩ := ih w.heap.size (H.upd w.heap.size o) { w with heap := w.heap.push o } (h _ hs.none_size) (hs.upd_push o)
    have f1 : Fr H (H.upd w.heap.size o) w { w with heap := w.heap.push o } := by
      refine ⟨rfl, rfl, rfl, by simp, fun b hb hnb => ?_, fun b hnb hb => ?_⟩
      · show (w.heap.push o)[b]? = _
        rw [Array.getElem?_push, if_neg (by omega)]
      · unfold Heap.upd at hb
        by_cases e : b = w.heap.size
        · omega
        · rw [if_neg e] at hb; exact absurd hnb hb
    exact ⟨x, w', H', by simp only [Sem.run]; exact hr, hk, hs', f1.trans hf⟩
  | shape r k ih =>
    intro H w h hs
    obtain ⟨x, w', H', hr, hk, hs', hf⟩ := ih _ H w h.2 hs
    exact ⟨x, w', H', by simp only [Sem.run, hs.shape h.1]; exact hr, hk, hs', hf⟩
  | freeze a n k ih =>
    intro H w h hs
    obtain ⟨⟨c, e, lo, hi, ho⟩, h⟩ := h
    have hn : H a.block ≠ none := by simp [ho]
    have hs1 : Sat (H.freeze a n) (w.freeze a n) ∧ Fr H (H.freeze a n) w (w.freeze a n) := by
      unfold Heap.freeze World.freeze
      by_cases h0 : n = 0
      · simp only [h0, if_true]; exact ⟨hs, Fr.refl _ _⟩
      · simp only [h0, if_false]
        have hw := hs _ _ ho
        have hl := (Array.getElem?_eq_some_iff.1 hw).1
        have frup : ∀ o', Fr H (H.upd a.block o') w { w with heap := w.heap.setIfInBounds a.block o' } := fun o' => by
          refine ⟨rfl, rfl, rfl, by simp, fun b hb' hnb => ?_, fun b hnb hb' => ?_⟩
          · have : a.block ≠ b := fun e' => by subst e'; exact hn hnb
            show (w.heap.setIfInBounds _ _)[b]? = _
            rw [Array.getElem?_setIfInBounds_ne this]
          · exfalso; unfold Heap.upd at hb'
            by_cases e' : b = a.block
            · subst e'; exact hn hnb
            · rw [if_neg e'] at hb'; exact hb' hnb
        have key : ∀ g : Obj → Obj, w.heap.modify a.block g = w.heap.setIfInBounds a.block (g (.cells c e (lo, hi))) := fun g => by
          apply Array.ext_getElem?
          intro i
          rw [Array.getElem?_modify]
          by_cases hi : a.block = i
          · subst hi; rw [if_pos rfl, hw]; simp [hl]
          · simp [hi, Array.getElem?_setIfInBounds_ne hi]
        simp only [key, ho]
        exact ⟨hs.upd_set hn _, frup _⟩
    obtain ⟨x, w', H', hr, hk, hs', hf⟩ := ih (H.freeze a n) (w.freeze a n) h hs1.1
    exact ⟨x, w', H', by simp only [Sem.run]; exact hr, hk, hs', Fr.trans hs1.2 hf⟩
  | frozen a k ih =>
    intro H w h hs
    obtain ⟨x, w', H', hr, hk, hs', hf⟩ := ih _ H w h.2 hs
    exact ⟨x, w', H', by simp only [Sem.run, hs.frozen h.1]; exact hr, hk, hs', hf⟩
  | getObj r k ih =>
    intro H w h hs
    obtain ⟨o, h1, h2, h3⟩ := h
    obtain ⟨x, w', H', hr, hk, hs', hf⟩ := ih _ H w h3 hs
    refine ⟨x, w', H', ?_, hk, hs', hf⟩
    simp only [Sem.run, hs _ _ h1]
    cases o <;> first | exact absurd rfl (h2 _ _ _) | exact hr
  | setObj r o k ih =>
    intro H w h hs
    obtain ⟨⟨o', h1, h2⟩, h3⟩ := h
    have hn : H r ≠ none := by simp [h1]
    obtain ⟨x, w', H', hr, hk, hs', hf⟩ := ih _ { w with heap := w.heap.setIfInBounds r o } h3 (hs.upd_set hn o)
    refine ⟨x, w', H', ?_, hk, hs', Fr.trans ?_ hf⟩
    · simp only [Sem.run, hs _ _ h1]
      cases o' <;> first | exact absurd rfl (h2 _ _ _) | exact hr
    · refine ⟨rfl, rfl, rfl, by simp, fun b hb' hnb => ?_, fun b hnb hb' => ?_⟩
      · have : r ≠ b := fun e' => by subst e'; exact hn hnb
        show (w.heap.setIfInBounds _ _)[b]? = _
        rw [Array.getElem?_setIfInBounds_ne this]
      · exfalso; unfold Heap.upd at hb'
        by_cases e' : b = r
        · subst e'; exact hn hnb
        · rw [if_neg e'] at hb'; exact hb' hnb
  | choose q k ih =>
    intro H w h hs
    unfold swp at h
    by_cases hq : q.forced = true
    · rw [if_pos hq] at h
      obtain ⟨x, w', H', hr, hk, hs', hf⟩ := ih _ H w h hs
      exact ⟨x, w', H', by simp only [Sem.run, hq, if_true]; exact hr, hk, hs', hf⟩
    · rw [if_neg hq] at h
      obtain ⟨x, w', H', hr, hk, hs', hf⟩ := ih _ H { w with drawn := w.drawn + 1 } (h (w.tape w.drawn q)) hs
      exact ⟨x, w', H', by simp only [Sem.run, hq]; exact hr, hk, hs', ⟨hf.os, hf.tape, hf.output, hf.size, hf.keep, hf.dom⟩⟩
  | sys c k ih => intro H w h hs; exact h.elim
  | program k ih =>
    intro H w h hs
    obtain ⟨x, w', H', hr, hk, hs', hf⟩ := ih P H w h hs
    exact ⟨x, w', H', by simp only [Sem.run]; exact hr, hk, hs', hf⟩
  | mark m k ih =>
    intro H w h hs
    obtain ⟨x, w', H', hr, hk, hs', hf⟩ := ih H w h hs
    exact ⟨x, w', H', by simp only [Sem.run]; exact hr, hk, hs', hf⟩
  | halt h' => intro H w h hs; exact h.elim

/-! ## Calls -/
def HCalls (P : Program) (f : FuncId) (args : List Value) (H : Heap) (K : Value → Heap → Prop) : Prop :=
  ∀ w, Sat H w → Calls P f args.toArray w fun e w' => ∃ v H', e = .returned v ∧ K v H' ∧ Sat H' w' ∧ Fr H H' w w'

theorem HCalls.mono {P : Program} {f : FuncId} {args : List Value} {H : Heap} {K K' : Value → Heap → Prop} (h : HCalls P f args H K) (hk : ∀ v H', K v H' → K' v H') : HCalls P f args H K' :=
  fun w hs => (h w hs).mono fun e w' ⟨v, H', he, hK, hs', hf⟩ => ⟨v, H', he, hk _ _ hK, hs', hf⟩

/-! ## Code -/
def HWp (P : Program) (c : Code) (K : Exit → Act → Heap → Prop) (a : Act) (H : Heap) : Prop :=
  ∀ w, Sat H w → c.wp P (fun e a' w' => ∃ H', K e a' H' ∧ Sat H' w' ∧ Fr H H' w w') a w

section
variable {P : Program} {K : Exit → Act → Heap → Prop} {a : Act} {H : Heap}
theorem HWp.skip (h : K .normal a H) : HWp P .skip K a H := fun w hs => wp_skip ⟨H, h, hs, Fr.refl _ _⟩
theorem HWp.label {l : Nat} (h : K .normal a H) : HWp P (.label l) K a H := fun w hs => wp_label ⟨H, h, hs, Fr.refl _ _⟩
theorem HWp.exit {id : Nat} (h : K (.exit id) a H) : HWp P (.exit id) K a H := fun w hs => wp_exit ⟨H, h, hs, Fr.refl _ _⟩
theorem HWp.ret (h : K .ret a H) : HWp P .ret K a H := fun w hs => wp_ret ⟨H, h, hs, Fr.refl _ _⟩
def thenK (next : Act → Heap → Prop) (K : Exit → Act → Heap → Prop) : Exit → Act → Heap → Prop
  | .normal, a, H => next a H
  | e, a, H => K e a H
theorem HWp.seq {x y : Code} (h : HWp P x (thenK (HWp P y K) K) a H) : HWp P (.seq x y) K a H := fun w hs =>
  wp_seq (wp_mono (h w hs) fun e a1 w1 ⟨H1, hk, hs1, hf1⟩ => by
    cases e with
    | normal => exact wp_mono (hk w1 hs1) fun e a2 w2 ⟨H2, hk2, hs2, hf2⟩ => ⟨H2, hk2, hs2, hf1.trans hf2⟩
    | _ => exact ⟨H1, hk, hs1, hf1⟩)
theorem HWp.cond {c : Operand} {x y : Code} {t : Bool} (hc : a.eval c = .bool t) (ht : t = true → HWp P x K a H) (hf : t = false → HWp P y K a H) : HWp P (.cond c x y) K a H :=
  fun w hs => wp_cond_split hc (fun h => ht h w hs) (fun h => hf h w hs)
def blockK (id : Nat) (K : Exit → Act → Heap → Prop) : Exit → Act → Heap → Prop
  | .exit id', a, H => if id' = id then K .normal a H else K (.exit id') a H
  | e, a, H => K e a H
theorem HWp.block {id : Nat} {c : Code} (h : HWp P c (blockK id K) a H) : HWp P (.block id c) K a H := fun w hs =>
  wp_block (wp_mono (h w hs) fun e a1 w1 ⟨H1, hk, hs1, hf1⟩ => by
    cases e with
    | exit id' =>
      unfold Exit.inBlock blockK at *
      dsimp only at hk ⊢
      split
      · rename_i e'; rw [if_pos e'] at hk; exact ⟨H1, hk, hs1, hf1⟩
      · rename_i e'; rw [if_neg e'] at hk; exact ⟨H1, hk, hs1, hf1⟩
    | _ => exact ⟨H1, hk, hs1, hf1⟩)
theorem HWp.loop {c : Code} (I : Nat → Act → Heap → Prop) (h0 : ∃ n, I n a H)
    (round : ∀ n a H, I n a H → HWp P c (thenK (fun a' H' => ∃ m, m < n ∧ I m a' H') K) a H) : HWp P (.loop c) K a H := by
  intro w0 hs0 b k cs
  have key : ∀ n a H w, I n a H → Sat H w →
      ∃ e a' w', (∃ H', K e a' H' ∧ Sat H' w' ∧ Fr H H' w w') ∧ Arrives P (lone (b.at a (.code c :: .inLoop c :: k)) cs w) b k cs e a' w' := by
    intro n
    induction n using Nat.strongRecOn with
    | _ n ih =>
      intro a H w hI hs
      obtain ⟨e, a1, w1, ⟨H1, hk, hs1, hf1⟩, harr⟩ := round n a H hI w hs b (.inLoop c :: k) cs
      cases e with
      | normal =>
        obtain ⟨m, hm, hI1⟩ := hk
        obtain ⟨e2, a2, w2, ⟨H2, hk2, hs2, hf2⟩, harr2⟩ := ih m hm a1 H1 w1 hI1 hs1
        exact ⟨e2, a2, w2, ⟨H2, hk2, hs2, hf1.trans hf2⟩, .of_steps (Steps.trans harr (.one step_inLoop)) harr2⟩
      | exit id => exact ⟨_, a1, w1, ⟨H1, hk, hs1, hf1⟩, .pass (x := .inLoop c) rfl (fun _ _ => .inl (by simp)) harr⟩
      | goto l => exact ⟨_, a1, w1, ⟨H1, hk, hs1, hf1⟩, .pass (x := .inLoop c) rfl (fun _ _ => .inl (by simp)) harr⟩
      | ret => exact ⟨_, a1, w1, ⟨H1, hk, hs1, hf1⟩, .pass (x := .inLoop c) rfl (fun _ _ => .inl (by simp)) harr⟩
      | panic ch => exact ⟨_, a1, w1, ⟨H1, hk, hs1, hf1⟩, .pass (x := .inLoop c) rfl (fun _ _ => .inl (by simp)) harr⟩
      | outgrown => exact ⟨_, a1, w1, ⟨H1, hk, hs1, hf1⟩, .pass (x := .inLoop c) rfl (fun _ _ => .inl (by simp)) harr⟩
  obtain ⟨n, hI⟩ := h0
  obtain ⟨e, a', w', hq, harr⟩ := key n a H w0 hI hs0
  exact ⟨e, a', w', hq, .of_steps (.one step_loop) harr⟩
end

/-! ## One operation -/
/-- One operation that is carried out: its value is put, a call is met by its contract. -/
def HOp (P : Program) (o : Oper) (K : Act → Heap → Prop) (a : Act) (H : Heap) : Prop :=
  ∀ w, Sat H w → match (execOp a.eval o).run P w with
    | .ok (.value v) w' => ∃ H', K (a.put o.dst v) H' ∧ Sat H' w' ∧ Fr H H' w w'
    | .ok .skip w' => ∃ H', K (a.put o.dst undef) H' ∧ Sat H' w' ∧ Fr H H' w w'
    | .ok (.enter f args) w' => ∃ H', HCalls P f args.toList H' (fun v H2 => K (a.put o.dst v) H2) ∧ Sat H' w' ∧ Fr H H' w w'
    | _ => False

theorem HOp.of_swp {P : Program} {o : Oper} {K : Act → Heap → Prop} {a : Act} {H : Heap}
    (h : swp P (execOp a.eval o) (fun nx H1 => match nx with
      | .value v => K (a.put o.dst v) H1
      | .skip => K (a.put o.dst undef) H1
      | .enter f args => HCalls P f args.toList H1 (fun v H2 => K (a.put o.dst v) H2)
      | _ => False) H) : HOp P o K a H := by
  intro w hs
  obtain ⟨x, w1, H1, hr, hk, hs1, hf⟩ := swp_run P _ _ H w h hs
  rw [hr]
  cases x with
  | value v => exact ⟨H1, hk, hs1, hf⟩
  | skip => exact ⟨H1, hk, hs1, hf⟩
  | enter f args => exact ⟨H1, hk, hs1, hf⟩
  | _ => exact hk.elim

theorem HOp.wp {P : Program} {o : Oper} {K : Act → Heap → Prop} {a : Act} {H : Heap} {Q : Exit → Act → World → Prop} (h : HOp P o K a H) {w : World} (hs : Sat H w) :
    o.wp P a w (fun a' w' => ∃ H', K a' H' ∧ Sat H' w' ∧ Fr H H' w w') Q := by
  have h1 := h w hs
  unfold Oper.wp
  generalize (execOp a.eval o).run P w = r at *
  cases r with
  | halt x w' => exact h1.elim
  | ok x w1 =>
    cases x with
    | value v => exact h1
    | skip => exact h1
    | enter f args =>
      obtain ⟨H1, hc, hs1, hf⟩ := h1
      refine Calls.mono (hc w1 hs1) fun e w2 ⟨v, H2, he, hK, hs2, hf2⟩ => ?_
      subst he
      exact ⟨H2, hK, hs2, hf.trans hf2⟩
    | _ => exact h1.elim

/-- The operation only reads, and yields v. -/
def Rds (P : Program) {α : Type} (s : Sem α) (H : Heap) (x : α) : Prop := ∀ w, Sat H w → s.run P w = .ok x w
end Go.Proofs.YtfcmjomnpahllaaGreat.Hv
end
section
namespace Go.Proofs.YtfcmjomnpahllaaGreat.Hv
open Go
set_option linter.unusedVariables false
set_option linter.unusedSimpArgs false

/-! ## Reading alone -/
def rd (P : Program) {α : Type} : Sem α → Heap → Option α
  | .pure a, _ => some a
  | .load _ a k, H => match H.cell? a with | some v => rd P (k v) H | none => none
  | .shape r k, H => if (H r).isSome then rd P (k (H.shape? r)) H else none
  | .frozen a k, H => if (H a.block).isSome then rd P (k (H.frozen? a)) H else none
  | .getObj r k, H => match H r with | some (.cells ..) => none | some o => rd P (k o) H | none => none
  | .choose q k, H => if q.forced then rd P (k 0) H else none
  | .program k, H => rd P (k P) H
  | .mark _ k, H => rd P k H
  | _, _ => none

theorem rd_rds {P : Program} {α : Type} (s : Sem α) : ∀ {H : Heap} {x : α}, rd P s H = some x → Rds P s H x := by
  induction s with
  | pure a => intro H x h w hs; cases h; rfl
  | load m a k ih =>
    intro H x h w hs
    unfold rd at h
    cases e : H.cell? a with
    | none => simp [e] at h
    | some v => simp only [e] at h; simp only [Sem.run, hs.cell e]; exact ih _ h w hs
  | shape r k ih =>
    intro H x h w hs
    unfold rd at h
    split at h
    · rename_i hr
      have hn : H r ≠ none := by cases e : H r <;> simp_all
      simp only [Sem.run, hs.shape hn]; exact ih _ h w hs
    · cases h
  | frozen a k ih =>
    intro H x h w hs
    unfold rd at h
    split at h
    · rename_i hr
      have hn : H a.block ≠ none := by cases e : H a.block <;> simp_all
      simp only [Sem.run, hs.frozen hn]; exact ih _ h w hs
    · cases h
  | getObj r k ih =>
    intro H x h w hs
    unfold rd at h
    cases e : H r with
    | none => simp [e] at h
    | some o =>
      have hw := hs _ _ e
      cases o with
      | cells c t f => simp [e] at h
      | _ => simp only [e] at h; simp only [Sem.run, hw]; exact ih _ h w hs
  | choose q k ih =>
    intro H x h w hs
    unfold rd at h
    split at h
    · rename_i hq; simp only [Sem.run, hq, if_true]; exact ih _ h w hs
    · cases h
  | program k ih => intro H x h w hs; simp only [Sem.run]; exact ih _ h w hs
  | mark m k ih => intro H x h w hs; simp only [Sem.run]; exact ih h w hs
  | store m a v k ih => intro H x h; cases h
  | new o k ih => intro H x h; cases h
  | freeze a n k ih => intro H x h; cases h
  | setObj r o k ih => intro H x h; cases h
  | sys c k ih => intro H x h; cases h
  | halt h' => intro H x h; cases h
theorem rd_bind (P : Program) {α β : Type} (s : Sem α) (f : α → Sem β) (H : Heap) : rd P (s >>= f) H = (rd P s H).bind fun x => rd P (f x) H := by
  show rd P (Sem.bind s f) H = _
  induction s with
  | pure a => rfl
  | load m a k ih => simp only [Sem.bind, rd]; cases H.cell? a <;> simp [ih]
  | shape r k ih => simp only [Sem.bind, rd]; split <;> simp [ih]
  | frozen a k ih => simp only [Sem.bind, rd]; split <;> simp [ih]
  | getObj r k ih =>
    simp only [Sem.bind, rd]
    cases H r with
    | none => rfl
    | some o => cases o <;> simp [ih]
  | choose q k ih => simp only [Sem.bind, rd]; split <;> simp [ih]
  | program k ih => simp only [Sem.bind, rd]; exact ih _
  | mark m k ih => simp only [Sem.bind, rd]; exact ih
  | _ => rfl

/-- What may be carried out at any time: it only reads. -/
def isFloat (P : Program) (o : Oper) : Bool :=
  match o.op with
  | .move _ | .assign _ | .pick .. | .load .. | .nilCheck _ | .binOp .. | .unOp .. | .makeInterface .. | .makeFunc ..
  | .slice .. | .fieldAddr .. | .field .. | .indexAddr .. | .index .. | .lookup .. | .typeAssert .. | .extract .. | .build .. => true
  | .call { callee := .builtin .len, .. } | .call { callee := .builtin .cap, .. } | .call { callee := .builtin .min, .. } | .call { callee := .builtin .max, .. } => true
  | .convert _ dst _ => (match P.underlying dst with | some (.slice _) => false | _ => true)
  | _ => false

/-! ## Heaps that there are -/
def Heap.Ok (H : Heap) : Prop := ∃ w, Sat H w
theorem Heap.Ok.upd {H : Heap} (h : H.Ok) (b : Nat) (o : Obj) : (H.upd b o).Ok := by
  obtain ⟨w, hs⟩ := h
  refine ⟨{ w with heap := Array.ofFn (n := max w.heap.size (b + 1)) fun i => if i.1 = b then o else (w.heap[i.1]?).getD default }, fun k o' hk => ?_⟩
  unfold Heap.upd at hk
  show (Array.ofFn _)[k]? = _
  rw [Array.getElem?_ofFn]
  by_cases e : k = b
  · subst e; simp at hk; subst hk; simp; omega
  · rw [if_neg e] at hk
    have h1 := hs k o' hk
    have hl := (Array.getElem?_eq_some_iff.1 h1).1
    have : k < max w.heap.size (b + 1) := by omega
    simp [this, e, h1]
theorem Heap.Ok.setCell {H : Heap} (h : H.Ok) (a : Addr) (v : Value) : (H.setCell a v).Ok := by
  unfold Heap.setCell
  split
  · exact h.upd _ _
  · exact h
theorem Heap.Ok.freeze {H : Heap} (h : H.Ok) (a : Addr) (n : Nat) : (H.freeze a n).Ok := by
  unfold Heap.freeze
  split
  · exact h
  · split
    · exact h.upd _ _
    · exact h

theorem HCalls.mono_ok {P : Program} {f : FuncId} {args : List Value} {H : Heap} {K K' : Value → Heap → Prop} (h : HCalls P f args H K) (hk : ∀ v (H' : Heap), H'.Ok → K v H' → K' v H') : HCalls P f args H K' :=
  fun w hs => (h w hs).mono fun e w' ⟨v, H', he, hK, hs', hf⟩ => ⟨v, H', he, hk _ _ ⟨w', hs'⟩ hK, hs', hf⟩

theorem HCalls.some {P : Program} {f : FuncId} {args : List Value} {H : Heap} {K : Value → Heap → Prop} (h : HCalls P f args H K) (ok : H.Ok) : ∃ v H', K v H' ∧ Heap.Ok H' := by
  obtain ⟨w, hs⟩ := ok
  obtain ⟨e, w', fr, ⟨v, H', _, hk, hs', _⟩, _⟩ := h w hs []
  exact ⟨v, H', hk, w', hs'⟩

theorem HOp.mono_ok {P : Program} {o : Oper} {K K' : Act → Heap → Prop} {a : Act} {H : Heap} (hk : ∀ v (H : Heap), H.Ok → K (a.put o.dst v) H → K' (a.put o.dst v) H) (h : HOp P o K a H) : HOp P o K' a H := by
  intro w hs
  have h1 := h w hs
  generalize (execOp a.eval o).run P w = r at *
  cases r with
  | halt x w' => exact h1.elim
  | ok x w1 =>
    cases x with
    | value v => obtain ⟨H', k, s, f⟩ := h1; exact ⟨H', hk _ _ ⟨_, s⟩ k, s, f⟩
    | skip => obtain ⟨H', k, s, f⟩ := h1; exact ⟨H', hk _ _ ⟨_, s⟩ k, s, f⟩
    | enter f args => obtain ⟨H', k, s, f⟩ := h1; exact ⟨H', k.mono_ok fun v H2 ok2 h2 => hk _ _ ok2 h2, s, f⟩
    | _ => exact h1.elim

theorem HOp.some {P : Program} {o : Oper} {K : Act → Heap → Prop} {a : Act} {H : Heap} (ok : H.Ok) (h : HOp P o K a H) : ∃ v H', K (a.put o.dst v) H' ∧ Heap.Ok H' := by
  obtain ⟨w, hs⟩ := ok
  have h1 := h w hs
  generalize (execOp a.eval o).run P w = r at *
  cases r with
  | halt x w' => exact h1.elim
  | ok x w1 =>
    cases x with
    | value v => obtain ⟨H', k, s, f⟩ := h1; exact ⟨v, H', k, _, s⟩
    | skip => obtain ⟨H', k, s, f⟩ := h1; exact ⟨undef, H', k, _, s⟩
    | enter f args => obtain ⟨H', k, s, f⟩ := h1; obtain ⟨v, H2, h2, ok2⟩ := k.some ⟨_, s⟩; exact ⟨v, H2, h2, ok2⟩
    | _ => exact h1.elim

/-- Another operation's value in its temporary, that this one does not look at. -/
theorem HOp.put {P : Program} {oi oj : Oper} {K : Act → Heap → Prop} {a : Act} {H : Heap} {v : Value} (he : execOp (a.put oi.dst v).eval oj = execOp a.eval oj)
    (hpc : ∀ u, (a.put oj.dst u).put oi.dst v = (a.put oi.dst v).put oj.dst u) (h : HOp P oj (fun a' H' => K (a'.put oi.dst v) H') a H) : HOp P oj K (a.put oi.dst v) H := by
  intro w hs
  have h1 := h w hs
  rw [he]
  generalize (execOp a.eval oj).run P w = r at *
  cases r with
  | halt x w' => exact h1.elim
  | ok x w1 =>
    cases x with
    | value u => obtain ⟨H', k, s, f⟩ := h1; exact ⟨H', hpc u ▸ k, s, f⟩
    | skip => obtain ⟨H', k, s, f⟩ := h1; exact ⟨H', hpc undef ▸ k, s, f⟩
    | enter f args => obtain ⟨H', k, s, f⟩ := h1; exact ⟨H', k.mono fun u H2 h2 => hpc u ▸ h2, s, f⟩
    | _ => exact h1.elim

theorem Rds.uniq {P : Program} {α : Type} {s : Sem α} {H : Heap} {x y : α} (ok : H.Ok) (h : Rds P s H x) (k : Rds P s H y) : x = y := by
  obtain ⟨w, hs⟩ := ok
  have := (h w hs).symm.trans (k w hs)
  cases this; rfl

/-! ## A region in a canonical order; what only reads reads the same all through its window -/
def dwp (P : Program) (ops : Array Oper) (K : Act → Heap → Prop) : List (Nat × Nat) → List Heap → Act → Heap → Prop
  | [], _, a, H => K a H
  | (i, k) :: rest, hist, a, H => match ops[i]? with
    | none => dwp P ops K rest hist a H
    | some o =>
      if Region.wanted o (yielded ops a.tmps) = true then
        (if isFloat P o = true then ∃ v, (∀ H' ∈ H :: hist.take k, Rds P (execOp a.eval o) H' (.value v)) ∧ dwp P ops K rest hist (a.put o.dst v) H
         else HOp P o (fun a' H' => dwp P ops K rest (H :: hist) a' H') a H)
      else dwp P ops K rest hist (a.put o.dst undef) H

theorem dwp_wp {P : Program} {ops : Array Oper} {K : Exit → Act → Heap → Prop} {H0 : Heap} {w0 : World} : ∀ (c : List (Nat × Nat)) (hist : List Heap) (a : Act) (H : Heap) (w : World), dwp P ops (K .normal) c hist a H → Sat H w → Fr H0 H w0 w →
    wpOps P ops (fun e a' w' => ∃ H', K e a' H' ∧ Sat H' w' ∧ Fr H0 H' w0 w') (c.map (·.1)) a w
  | [], _, a, H, w, h, hs, hf => ⟨H, h, hs, hf⟩
  | (i, k) :: rest, hist, a, H, w, h, hs, hf => by
    simp only [List.map_cons]
    unfold dwp at h
    unfold wpOps
    cases ho : ops[i]? with
    | none => simp only [ho] at h ⊢; exact dwp_wp rest hist a H w h hs hf
    | some o =>
      simp only [ho] at h ⊢
      split
      · rename_i hw; rw [if_pos hw] at h
        split at h
        · obtain ⟨v, h1, h2⟩ := h
          left
          unfold Oper.wp
          rw [h1 H List.mem_cons_self w hs]
          exact dwp_wp rest hist _ H w h2 hs hf
        · exact .inl (Oper.wp_mono (fun a' w' ⟨H', hk, hs', hf'⟩ => dwp_wp rest _ a' H' w' hk hs' (hf.trans hf')) (h.wp hs))
      · rename_i hw; rw [if_neg hw] at h
        exact dwp_wp rest hist _ H w h hs hf
theorem HWp.region {P : Program} {id : Nat} {ops : Array Oper} {K : Exit → Act → Heap → Prop} {a : Act} {H : Heap} (h : dwp P ops (K .normal) ((List.range ops.size).map fun i => (i, 0)) [] a H) : HWp P (.region id ops false) K a H :=
  fun w hs => wp_region (by
    have := dwp_wp _ _ a H w h hs (Fr.refl _ _)
    rw [List.map_map] at this
    have e : List.map ((fun x : Nat × Nat => x.fst) ∘ fun i => (i, 0)) (List.range ops.size) = List.range ops.size := List.map_id _
    rw [e] at this; exact this)

def neff (P : Program) (ops : Array Oper) (c : List (Nat × Nat)) : Nat := (c.filter fun x => match ops[x.1]? with | some o => !isFloat P o | none => false).length

/-- A reading operation that nobody ahead of it in the list stands in the way of may be carried out first. -/
theorem dwp_pull {P : Program} {ops : Array Oper} {K : Act → Heap → Prop} {i k : Nat} {oi : Oper} {c2 : List (Nat × Nat)} (hoi : ops[i]? = some oi) (hfl : isFloat P oi = true)
    (hsel : ∀ (j : Nat) (o : Oper) cs b, ops[j]? = some o → o.op ≠ .select cs b) :
    ∀ (c1 : List (Nat × Nat)) (hist : List Heap) (a : Act) (H : Heap), H.Ok → (∀ x ∈ c1, ∀ oj, ops[x.1]? = some oj → oi.apart ops oj = true) → neff P ops c1 ≤ k →
      dwp P ops K (c1 ++ (i, k) :: c2) hist a H →
      (Region.wanted oi (yielded ops a.tmps) = true → ∃ v, (∀ H' ∈ H :: hist.take (k - neff P ops c1), Rds P (execOp a.eval oi) H' (.value v)) ∧ dwp P ops K (c1 ++ c2) hist (a.put oi.dst v) H) ∧
      (Region.wanted oi (yielded ops a.tmps) = false → dwp P ops K (c1 ++ c2) hist (a.put oi.dst undef) H) := by
  intro c1
  induction c1 with
  | nil =>
    intro hist a H ok _ _ h
    simp only [List.nil_append] at h ⊢
    unfold dwp at h
    simp only [hoi] at h
    refine ⟨fun hw => ?_, fun hw => ?_⟩
    · rw [if_pos hw, if_pos hfl] at h
      simpa [neff] using h
    · rw [if_neg (by simp [hw])] at h; exact h
  | cons x c1 ih =>
    obtain ⟨j, kj⟩ := x
    intro hist a H ok hap hn h
    simp only [List.cons_append] at h ⊢
    have hap' : ∀ x ∈ c1, ∀ oj, ops[x.1]? = some oj → oi.apart ops oj = true := fun x hx => hap x (List.mem_cons_of_mem _ hx)
    have hsub : neff P ops c1 ≤ neff P ops ((j, kj) :: c1) := by
      unfold neff; simp only [List.filter_cons]; split <;> simp
    have htake : ∀ (H' : Heap), H' ∈ hist.take (k - neff P ops ((j, kj) :: c1)) → H' ∈ hist.take (k - neff P ops c1) := fun H' hm =>
      (List.take_sublist_take_left (by omega)).subset hm
    cases hoj : ops[j]? with
    | none =>
      have h' : dwp P ops K (c1 ++ (i, k) :: c2) hist a H := by unfold dwp at h; simpa only [hoj] using h
      obtain ⟨r1, r2⟩ := ih hist a H ok hap' (by omega) h'
      refine ⟨fun hw => ?_, fun hw => ?_⟩
      · obtain ⟨v, hv, hd⟩ := r1 hw
        refine ⟨v, fun H' hm => hv H' ?_, by unfold dwp; simpa only [hoj] using hd⟩
        rcases List.mem_cons.1 hm with rfl | hm
        · exact List.mem_cons_self
        · exact List.mem_cons_of_mem _ (htake _ hm)
      · have hd := r2 hw
        unfold dwp; simpa only [hoj] using hd
    | some oj =>
      obtain ⟨p1, p2, p3⟩ := Oper.apart_spec (hap (j, kj) List.mem_cons_self oj hoj)
      have hwi : ∀ (a : Act) u, Region.wanted oi (yielded ops (a.put oj.dst u).tmps) = Region.wanted oi (yielded ops a.tmps) := fun a u => wanted_put oi a oj.dst u p3
      have hei : ∀ (a : Act) u, execOp (a.put oj.dst u).eval oi = execOp a.eval oi := fun a u => execOp_put oi (fun cs b => hsel i oi cs b hoi) a oj.dst u p3
      have hwj : ∀ (a : Act) u, Region.wanted oj (yielded ops (a.put oi.dst u).tmps) = Region.wanted oj (yielded ops a.tmps) := fun a u => wanted_put oj a oi.dst u p1
      have hej : ∀ (a : Act) u, execOp (a.put oi.dst u).eval oj = execOp a.eval oj := fun a u => execOp_put oj (fun cs b => hsel j oj cs b hoj) a oi.dst u p1
      have hpc : ∀ (a : Act) u v, (a.put oj.dst u).put oi.dst v = (a.put oi.dst v).put oj.dst u := fun a u v => (Act.put_comm a v u p2).symm
      unfold dwp at h
      simp only [hoj] at h
      by_cases hwant : Region.wanted oj (yielded ops a.tmps) = true
      · rw [if_pos hwant] at h
        by_cases hfj : isFloat P oj = true
        · rw [if_pos hfj] at h
          obtain ⟨vj, hvj, h⟩ := h
          obtain ⟨r1, r2⟩ := ih hist _ H ok hap' (by omega) h
          rw [hwi] at r1 r2
          refine ⟨fun hw => ?_, fun hw => ?_⟩
          · obtain ⟨v, hv, hd⟩ := r1 hw
            refine ⟨v, fun H' hm => ?_, ?_⟩
            · rw [← hei a vj]
              refine hv H' ?_
              rcases List.mem_cons.1 hm with rfl | hm
              · exact List.mem_cons_self
              · exact List.mem_cons_of_mem _ (htake _ hm)
            · unfold dwp; simp only [hoj]
              rw [hwj, if_pos hwant, if_pos hfj]
              exact ⟨vj, fun H' hm => by rw [hej]; exact hvj H' hm, by rw [← hpc]; exact hd⟩
          · have hd := r2 hw
            unfold dwp; simp only [hoj]
            rw [hwj, if_pos hwant, if_pos hfj]
            exact ⟨vj, fun H' hm => by rw [hej]; exact hvj H' hm, by rw [← hpc]; exact hd⟩
        · rw [if_neg hfj] at h
          have hne : neff P ops ((j, kj) :: c1) = neff P ops c1 + 1 := by
            unfold neff; simp [List.filter_cons, hoj, hfj]
          obtain ⟨u0, H1, h1, ok1⟩ := HOp.some ok h
          refine ⟨fun hw => ?_, fun hw => ?_⟩
          · obtain ⟨v, hv, _⟩ := (ih (H :: hist) _ H1 ok1 hap' (by omega) h1).1 (by rw [hwi]; exact hw)
            have hmem : ∀ H' : Heap, H' ∈ H :: hist.take (k - neff P ops ((j, kj) :: c1)) → H' ∈ (H :: hist).take (k - neff P ops c1) := fun H' hm => by
              have : k - neff P ops c1 = (k - neff P ops ((j, kj) :: c1)) + 1 := by omega
              rw [this, List.take_succ_cons]; exact hm
            have hvv : ∀ H' ∈ H :: hist.take (k - neff P ops ((j, kj) :: c1)), Rds P (execOp a.eval oi) H' (.value v) := fun H' hm => by
              rw [← hei a u0]; exact hv H' (List.mem_cons_of_mem _ (hmem H' hm))
            refine ⟨v, hvv, ?_⟩
            unfold dwp; simp only [hoj]
            rw [hwj, if_pos hwant, if_neg hfj]
            refine HOp.put (hej a v) (hpc a · v) (HOp.mono_ok (fun u H' ok' h' => ?_) h)
            obtain ⟨v', hv', hd⟩ := (ih (H :: hist) _ H' ok' hap' (by omega) h').1 (by rw [hwi]; exact hw)
            have e1 := hv' H (List.mem_cons_of_mem _ (hmem H List.mem_cons_self))
            rw [hei] at e1
            have e2 := Rds.uniq ok e1 (hvv H List.mem_cons_self)
            have : v' = v := by simpa using e2
            subst this; exact hd
          · unfold dwp; simp only [hoj]
            rw [hwj, if_pos hwant, if_neg hfj]
            exact HOp.put (hej a undef) (hpc a · undef) (HOp.mono_ok (fun u H' ok' h' => (ih (H :: hist) _ H' ok' hap' (by omega) h').2 (by rw [hwi]; exact hw)) h)
      · rw [if_neg hwant] at h
        obtain ⟨r1, r2⟩ := ih hist _ H ok hap' (by omega) h
        rw [hwi] at r1 r2
        refine ⟨fun hw => ?_, fun hw => ?_⟩
        · obtain ⟨v, hv, hd⟩ := r1 hw
          refine ⟨v, fun H' hm => ?_, ?_⟩
          · rw [← hei a undef]
            refine hv H' ?_
            rcases List.mem_cons.1 hm with rfl | hm
            · exact List.mem_cons_self
            · exact List.mem_cons_of_mem _ (htake _ hm)
          · unfold dwp; simp only [hoj]
            rw [hwj, if_neg hwant, ← hpc]; exact hd
        · have hd := r2 hw
          unfold dwp; simp only [hoj]
          rw [hwj, if_neg hwant, ← hpc]; exact hd
end Go.Proofs.YtfcmjomnpahllaaGreat.Hv
end
section
namespace Go.Proofs.YtfcmjomnpahllaaGreat.Hv
open Go
set_option linter.unusedVariables false
set_option linter.unusedSimpArgs false
section
variable {P : Program}

/-! ## Any order that a region's edges allow comes to the canonical one -/
def anc (M : Array Nat) (x i : Nat) : Bool := (M.getD i 0).testBit x
def ancClosed (ops : Array Oper) (M : Array Nat) : Bool :=
  (List.range ops.size).all fun i => (List.range ops.size).all fun x => !anc M x i || (match ops[i]? with
    | some o => o.after.any fun e => Region.binds .any e && (e.on == x || anc M x e.on)
    | none => false)
def isEff (P : Program) (ops : Array Oper) (i : Nat) : Bool := match ops[i]? with | some o => !isFloat P o | none => false
def canonFrom (P : Program) (ops : Array Oper) (M : Array Nat) : List Nat → List (Nat × Nat) → Bool
  | _, [] => true
  | pre, (i, k) :: rest => (match ops[i]? with
    | none => false
    | some o => (o.after.all fun e => !Region.binds .any e || pre.contains e.on) &&
      (if isFloat P o then decide ((pre.filter fun x => isEff P ops x && !anc M x i).length ≤ k) && (pre.all fun x => anc M x i || (match ops[x]? with | some ox => o.apart ops ox | none => false))
       else pre.all fun x => anc M x i)) && !pre.contains i && canonFrom P ops M (pre ++ [i]) rest
def canonOk (P : Program) (ops : Array Oper) (M : Array Nat) (c : List (Nat × Nat)) : Bool :=
  ancClosed ops M && canonFrom P ops M [] c && ((List.range ops.size).all fun j => (c.map (·.1)).contains j) && (c.all fun x => decide (x.1 < ops.size)) && Region.noSelect ops && decide (c.length ≤ ops.size)

structure Good (P : Program) (ops : Array Oper) (M : Array Nat) (L : Nat → Prop) (c : List (Nat × Nat)) : Prop where
  good : ∀ c1 i k c2, c = c1 ++ (i, k) :: c2 → ∃ o, ops[i]? = some o ∧ (∀ e ∈ o.after, Region.binds .any e = true → L e.on ∨ e.on ∈ c1.map (·.1)) ∧
    (isFloat P o = true → (c1.filter fun x => isEff P ops x.1 && !anc M x.1 i).length ≤ k ∧ ∀ x ∈ c1, anc M x.1 i = true ∨ ∀ ox, ops[x.1]? = some ox → o.apart ops ox = true) ∧
    (isFloat P o = false → ∀ x ∈ c1, anc M x.1 i = true) ∧ i ∉ c1.map (·.1)

theorem Good.drop {ops : Array Oper} {M : Array Nat} {L L' : Nat → Prop} {a b : List (Nat × Nat)} {j kj : Nat} (h : Good P ops M L (a ++ (j, kj) :: b)) (hL : ∀ x, L x → L' x) (hj : L' j) : Good P ops M L' (a ++ b) := by
  constructor
  intro c1 i k c2 he
  rcases List.append_eq_append_iff.1 he with ⟨b1, rfl, hb⟩ | ⟨a2, rfl, ha⟩
  · -- c1 = a ++ b1
    obtain ⟨o, ho, h1, h2, h3, h4⟩ := h.good (a ++ (j, kj) :: b1) i k c2 (by rw [hb]; simp)
    refine ⟨o, ho, fun e he hb' => ?_, fun hf => ⟨?_, fun x hx => (h2 hf).2 x ?_⟩, fun hf x hx => h3 hf x ?_, fun hm => h4 ?_⟩
    · rcases h1 e he hb' with h | h
      · exact .inl (hL _ h)
      · simp only [List.map_append, List.map_cons, List.mem_append, List.mem_cons] at h ⊢
        rcases h with h | rfl | h
        · exact .inr (.inl h)
        · exact .inl hj
        · exact .inr (.inr h)
    · refine Nat.le_trans ?_ (h2 hf).1
      refine List.Sublist.length_le (List.Sublist.filter _ ?_)
      exact List.Sublist.append (List.Sublist.refl _) (List.sublist_cons_self _ _)
    · rcases List.mem_append.1 hx with h | h
      · exact List.mem_append_left _ h
      · exact List.mem_append_right _ (List.mem_cons_of_mem _ h)
    · rcases List.mem_append.1 hx with h | h
      · exact List.mem_append_left _ h
      · exact List.mem_append_right _ (List.mem_cons_of_mem _ h)
    · simp only [List.map_append, List.map_cons, List.mem_append, List.mem_cons] at hm ⊢
      rcases hm with h | h
      · exact .inl h
      · exact .inr (.inr h)
  · -- a = c1 ++ a2
    cases a2 with
    | nil =>
      simp only [List.nil_append] at ha
      obtain ⟨o, ho, h1, h2, h3, h4⟩ := h.good (c1 ++ [] ++ [(j, kj)]) i k c2 (by rw [← ha]; simp)
      simp only [List.append_nil] at h1 h2 h3 h4
      refine ⟨o, ho, fun e he hb' => ?_, fun hf => ⟨?_, fun x hx => (h2 hf).2 x (List.mem_append_left _ hx)⟩, fun hf x hx => h3 hf x (List.mem_append_left _ hx), fun hm => h4 ?_⟩
      · rcases h1 e he hb' with h | h
        · exact .inl (hL _ h)
        · simp only [List.map_append, List.map_cons, List.mem_append, List.map_nil, List.mem_singleton] at h
          rcases h with h | rfl
          · exact .inr h
          · exact .inl hj
      · refine Nat.le_trans ?_ (h2 hf).1
        exact List.Sublist.length_le (List.Sublist.filter _ (List.sublist_append_left _ _))
      · simp only [List.map_append, List.mem_append]; exact .inl hm
    | cons y a2 =>
      simp only [List.cons_append, List.cons.injEq] at ha
      obtain ⟨rfl, rfl⟩ := ha
      obtain ⟨o, ho, h1, h2, h3, h4⟩ := h.good c1 i k (a2 ++ (j, kj) :: b) (by simp)
      exact ⟨o, ho, fun e he hb' => (h1 e he hb').imp (hL _) id, h2, h3, h4⟩

theorem good_of_check {ops : Array Oper} {M : Array Nat} : ∀ (c : List (Nat × Nat)) (pre : List Nat), canonFrom P ops M pre c = true →
    ∀ c1 i k c2, c = c1 ++ (i, k) :: c2 → ∃ o, ops[i]? = some o ∧ (∀ e ∈ o.after, Region.binds .any e = true → e.on ∈ pre ++ c1.map (·.1)) ∧
    (isFloat P o = true → ((pre ++ c1.map (·.1)).filter fun x => isEff P ops x && !anc M x i).length ≤ k ∧ ∀ x ∈ pre ++ c1.map (·.1), anc M x i = true ∨ ∀ ox, ops[x]? = some ox → o.apart ops ox = true) ∧
    (isFloat P o = false → ∀ x ∈ pre ++ c1.map (·.1), anc M x i = true) ∧ i ∉ pre ++ c1.map (·.1) := by
  intro c
  induction c with
  | nil => intro pre _ c1 i k c2 he; simp at he
  | cons x c ih =>
    obtain ⟨j, kj⟩ := x
    intro pre h c1 i k c2 he
    unfold canonFrom at h
    simp only [Bool.and_eq_true] at h
    obtain ⟨⟨h1, hnc⟩, h2⟩ := h
    cases c1 with
    | nil =>
      simp only [List.nil_append, List.cons.injEq, Prod.mk.injEq] at he
      obtain ⟨⟨rfl, rfl⟩, rfl⟩ := he
      cases ho : ops[j]? with
      | none => simp [ho] at h1
      | some o =>
        simp only [ho, Bool.and_eq_true] at h1
        refine ⟨o, rfl, fun e he hb => ?_, fun hf => ?_, fun hf => ?_, by simpa using hnc⟩
        · have := Array.all_eq_true_iff_forall_mem.1 h1.1 e he
          simpa [hb] using this
        · have h1' := h1.2
          rw [if_pos hf] at h1'
          simp only [Bool.and_eq_true, decide_eq_true_eq, List.all_eq_true, Bool.or_eq_true] at h1'
          refine ⟨by simpa using h1'.1, fun x hx => ?_⟩
          rcases h1'.2 x (by simpa using hx) with h | h
          · exact .inl h
          · refine .inr fun ox hox => ?_
            simpa [hox] using h
        · have h1' := h1.2
          rw [if_neg (by simp [hf])] at h1'
          simp only [List.all_eq_true] at h1'
          exact fun x hx => h1' x (by simpa using hx)
    | cons y c1 =>
      simp only [List.cons_append, List.cons.injEq] at he
      obtain ⟨rfl, rfl⟩ := he
      have := ih (pre ++ [j]) h2 c1 i k c2 rfl
      simpa [List.append_assoc] using this

def canonFromX (P : Program) (ops : Array Oper) (M : Array Nat) (ex : Nat → Nat → Bool) : List Nat → List (Nat × Nat) → Bool
  | _, [] => true
  | pre, (i, k) :: rest => (match ops[i]? with
    | none => false
    | some o => (o.after.all fun e => !Region.binds .any e || pre.contains e.on) &&
      (if isFloat P o then decide ((pre.filter fun x => isEff P ops x && !anc M x i).length ≤ k) && (pre.all fun x => anc M x i || (match ops[x]? with | some ox => o.apart ops ox | none => false))
       else pre.all fun x => anc M x i || ex x i)) && !pre.contains i && canonFromX P ops M ex (pre ++ [i]) rest
structure GoodX (P : Program) (ops : Array Oper) (M : Array Nat) (ex : Nat → Nat → Bool) (L : Nat → Prop) (c : List (Nat × Nat)) : Prop where
  good : ∀ c1 i k c2, c = c1 ++ (i, k) :: c2 → ∃ o, ops[i]? = some o ∧ (∀ e ∈ o.after, Region.binds .any e = true → L e.on ∨ e.on ∈ c1.map (·.1)) ∧
    (isFloat P o = true → (c1.filter fun x => isEff P ops x.1 && !anc M x.1 i).length ≤ k ∧ ∀ x ∈ c1, anc M x.1 i = true ∨ ∀ ox, ops[x.1]? = some ox → o.apart ops ox = true) ∧
    (isFloat P o = false → ∀ x ∈ c1, anc M x.1 i = true ∨ ex x.1 i = true) ∧ i ∉ c1.map (·.1)

theorem GoodX.drop {ops : Array Oper} {M : Array Nat} {ex : Nat → Nat → Bool} {L L' : Nat → Prop} {a b : List (Nat × Nat)} {j kj : Nat} (h : GoodX P ops M ex L (a ++ (j, kj) :: b)) (hL : ∀ x, L x → L' x) (hj : L' j) : GoodX P ops M ex L' (a ++ b) := by
  constructor
  intro c1 i k c2 he
  rcases List.append_eq_append_iff.1 he with ⟨b1, rfl, hb⟩ | ⟨a2, rfl, ha⟩
  · -- c1 = a ++ b1
    obtain ⟨o, ho, h1, h2, h3, h4⟩ := h.good (a ++ (j, kj) :: b1) i k c2 (by rw [hb]; simp)
    refine ⟨o, ho, fun e he hb' => ?_, fun hf => ⟨?_, fun x hx => (h2 hf).2 x ?_⟩, fun hf x hx => h3 hf x ?_, fun hm => h4 ?_⟩
    · rcases h1 e he hb' with h | h
      · exact .inl (hL _ h)
      · simp only [List.map_append, List.map_cons, List.mem_append, List.mem_cons] at h ⊢
        rcases h with h | rfl | h
        · exact .inr (.inl h)
        · exact .inl hj
        · exact .inr (.inr h)
    · refine Nat.le_trans ?_ (h2 hf).1
      refine List.Sublist.length_le (List.Sublist.filter _ ?_)
      exact List.Sublist.append (List.Sublist.refl _) (List.sublist_cons_self _ _)
    · rcases List.mem_append.1 hx with h | h
      · exact List.mem_append_left _ h
      · exact List.mem_append_right _ (List.mem_cons_of_mem _ h)
    · rcases List.mem_append.1 hx with h | h
      · exact List.mem_append_left _ h
      · exact List.mem_append_right _ (List.mem_cons_of_mem _ h)
    · simp only [List.map_append, List.map_cons, List.mem_append, List.mem_cons] at hm ⊢
      rcases hm with h | h
      · exact .inl h
      · exact .inr (.inr h)
  · -- a = c1 ++ a2
    cases a2 with
    | nil =>
      simp only [List.nil_append] at ha
      obtain ⟨o, ho, h1, h2, h3, h4⟩ := h.good (c1 ++ [] ++ [(j, kj)]) i k c2 (by rw [← ha]; simp)
      simp only [List.append_nil] at h1 h2 h3 h4
      refine ⟨o, ho, fun e he hb' => ?_, fun hf => ⟨?_, fun x hx => (h2 hf).2 x (List.mem_append_left _ hx)⟩, fun hf x hx => h3 hf x (List.mem_append_left _ hx), fun hm => h4 ?_⟩
      · rcases h1 e he hb' with h | h
        · exact .inl (hL _ h)
        · simp only [List.map_append, List.map_cons, List.mem_append, List.map_nil, List.mem_singleton] at h
          rcases h with h | rfl
          · exact .inr h
          · exact .inl hj
      · refine Nat.le_trans ?_ (h2 hf).1
        exact List.Sublist.length_le (List.Sublist.filter _ (List.sublist_append_left _ _))
      · simp only [List.map_append, List.mem_append]; exact .inl hm
    | cons y a2 =>
      simp only [List.cons_append, List.cons.injEq] at ha
      obtain ⟨rfl, rfl⟩ := ha
      obtain ⟨o, ho, h1, h2, h3, h4⟩ := h.good c1 i k (a2 ++ (j, kj) :: b) (by simp)
      exact ⟨o, ho, fun e he hb' => (h1 e he hb').imp (hL _) id, h2, h3, h4⟩

theorem good_of_checkX {ops : Array Oper} {M : Array Nat} {ex : Nat → Nat → Bool} : ∀ (c : List (Nat × Nat)) (pre : List Nat), canonFromX P ops M ex pre c = true →
    ∀ c1 i k c2, c = c1 ++ (i, k) :: c2 → ∃ o, ops[i]? = some o ∧ (∀ e ∈ o.after, Region.binds .any e = true → e.on ∈ pre ++ c1.map (·.1)) ∧
    (isFloat P o = true → ((pre ++ c1.map (·.1)).filter fun x => isEff P ops x && !anc M x i).length ≤ k ∧ ∀ x ∈ pre ++ c1.map (·.1), anc M x i = true ∨ ∀ ox, ops[x]? = some ox → o.apart ops ox = true) ∧
    (isFloat P o = false → ∀ x ∈ pre ++ c1.map (·.1), anc M x i = true ∨ ex x i = true) ∧ i ∉ pre ++ c1.map (·.1) := by
  intro c
  induction c with
  | nil => intro pre _ c1 i k c2 he; simp at he
  | cons x c ih =>
    obtain ⟨j, kj⟩ := x
    intro pre h c1 i k c2 he
    unfold canonFromX at h
    simp only [Bool.and_eq_true] at h
    obtain ⟨⟨h1, hnc⟩, h2⟩ := h
    cases c1 with
    | nil =>
      simp only [List.nil_append, List.cons.injEq, Prod.mk.injEq] at he
      obtain ⟨⟨rfl, rfl⟩, rfl⟩ := he
      cases ho : ops[j]? with
      | none => simp [ho] at h1
      | some o =>
        simp only [ho, Bool.and_eq_true] at h1
        refine ⟨o, rfl, fun e he hb => ?_, fun hf => ?_, fun hf => ?_, by simpa using hnc⟩
        · have := Array.all_eq_true_iff_forall_mem.1 h1.1 e he
          simpa [hb] using this
        · have h1' := h1.2
          rw [if_pos hf] at h1'
          simp only [Bool.and_eq_true, decide_eq_true_eq, List.all_eq_true, Bool.or_eq_true] at h1'
          refine ⟨by simpa using h1'.1, fun x hx => ?_⟩
          rcases h1'.2 x (by simpa using hx) with h | h
          · exact .inl h
          · refine .inr fun ox hox => ?_
            simpa [hox] using h
        · have h1' := h1.2
          rw [if_neg (by simp [hf])] at h1'
          simp only [List.all_eq_true, Bool.or_eq_true] at h1'
          exact fun x hx => h1' x (by simpa using hx)
    | cons y c1 =>
      simp only [List.cons_append, List.cons.injEq] at he
      obtain ⟨rfl, rfl⟩ := he
      have := ih (pre ++ [j]) h2 c1 i k c2 rfl
      simpa [List.append_assoc] using this

end
section
variable {P : Program} {ops : Array Oper} {K : Exit → Act → Heap → Prop} {M : Array Nat} {H0 : Heap} {w0 : World}
theorem drawn_any (hcl : ancClosed ops M = true) (hsel : Region.noSelect ops = true) :
    ∀ (fuel : Nat) (listed : Array Bool) (c : List (Nat × Nat)) (hist : List Heap) (a : Act) (H : Heap) (w : World),
      Good P ops M (fun i => listed.getD i false = true) c → (∀ j, listed.getD j true = false ↔ j ∈ c.map (·.1)) → (c.map (·.1)).Nodup → listed.size = ops.size →
      (∀ i, listed.getD i false = true → ∀ x, x < ops.size → anc M x i = true → listed.getD x false = true) →
      c.length ≤ fuel → dwp P ops (K .normal) c hist a H → Sat H w → Fr H0 H w0 w →
      wpAny P .any ops (fun e a' w' => ∃ H', K e a' H' ∧ Sat H' w' ∧ Fr H0 H' w0 w') fuel listed a w := by
  intro fuel
  induction fuel with
  | zero =>
    intro listed c hist a H w hg hm hnd hsz hinv hlen hd hs hf
    have : c = [] := List.length_eq_zero_iff.1 (by omega)
    subst this
    refine ⟨?_, H, hd, hs, hf⟩
    unfold Region.ready
    rw [List.filter_eq_nil_iff]
    intro j hj
    have h1 : ¬ listed.getD j true = false := fun h => by have := (hm j).1 h; simp at this
    simp only [Bool.not_eq_false] at h1
    simp [h1]
  | succ fuel ih =>
    intro listed c hist a H w hg hm hnd hsz hinv hlen hd hs hf
    refine ⟨fun hr => ?_, fun i hi => ?_⟩
    · cases c with
      | nil => exact ⟨H, hd, hs, hf⟩
      | cons x c =>
        exfalso
        obtain ⟨i, k⟩ := x
        obtain ⟨o, ho, h1, _⟩ := hg.good [] i k c rfl
        have : i ∈ Region.ready .any ops listed := mem_ready.2 ⟨(hm i).2 (by simp), o, ho, fun e he hb => by
          rcases h1 e he hb with h | h
          · exact h
          · simp at h⟩
        rw [hr] at this; cases this
    · obtain ⟨hun, oi, hoi, hpre⟩ := mem_ready.1 hi
      have hic := (hm i).1 hun
      obtain ⟨⟨i', k⟩, hmem, rfl⟩ := List.mem_map.1 hic
      obtain ⟨c1, c2, rfl⟩ := List.append_of_mem hmem
      dsimp only at hun hoi hi hic
      have hlt : i' < ops.size := (Array.getElem?_eq_some_iff.1 hoi).1
      -- nobody ahead of i' in the list is its ancestor
      have hna : ∀ x ∈ c1, anc M x.1 i' = false := by
        intro x hx
        cases hanc : anc M x.1 i' with
        | false => rfl
        | true =>
          exfalso
          have hxc : listed.getD x.1 true = false := (hm x.1).2 (List.mem_map.2 ⟨x, by simp [hx], rfl⟩)
          have hxl : x.1 < ops.size := by
            rw [← hsz]
            rcases Nat.lt_or_ge x.1 listed.size with h | h
            · exact h
            · simp [Array.getElem?_eq_none h] at hxc
          have h1 := (List.all_eq_true.1 hcl i' (by simpa using hlt))
          have h2 := List.all_eq_true.1 h1 x.1 (by simpa using hxl)
          simp only [hanc, Bool.not_true, Bool.false_or, hoi] at h2
          obtain ⟨e, he, hb⟩ := Array.any_eq_true'.1 h2
          simp only [Bool.and_eq_true, Bool.or_eq_true, beq_iff_eq] at hb
          have hl := hpre e he hb.1
          have : listed.getD x.1 false = true := by
            rcases hb.2 with h | h
            · rw [← h]; exact hl
            · exact hinv e.on hl x.1 hxl h
          have hxs : x.1 < listed.size := by omega
          simp [hxs] at this hxc
          rw [this] at hxc; cases hxc
      have hset : ∀ j, (listed.setIfInBounds i' true).getD j true = false ↔ j ∈ (c1 ++ c2).map (·.1) := by
        intro j
        by_cases hj : j = i'
        · subst hj
          have hjs : j < listed.size := by omega
          simp only [Array.getD_eq_getD_getElem?, Array.getElem?_setIfInBounds_self_of_lt hjs, Option.getD_some, Bool.true_eq_false, false_iff]
          intro hmm
          rw [List.map_append, List.map_cons] at hnd
          obtain ⟨_, n2, n3⟩ := List.nodup_append.1 hnd
          rw [List.map_append, List.mem_append] at hmm
          rcases hmm with h | h
          · exact n3 _ h _ List.mem_cons_self rfl
          · exact (List.nodup_cons.1 n2).1 h
        · rw [getD_set_ne true (Ne.symm hj), hm j]
          simp only [List.map_append, List.map_cons, List.mem_append, List.mem_cons]
          constructor
          · rintro (h | h | h)
            · exact .inl h
            · exact absurd h hj
            · exact .inr h
          · rintro (h | h)
            · exact .inl h
            · exact .inr (.inr h)
      have hself : (listed.setIfInBounds i' true).getD i' false = true := by
        have : i' < listed.size := by omega
        simp [this]
      have hgood : Good P ops M (fun i => (listed.setIfInBounds i' true).getD i false = true) (c1 ++ c2) :=
        hg.drop (fun x hx => getD_set_true hx) hself
      have hnd' : ((c1 ++ c2).map (·.1)).Nodup := by
        refine List.Nodup.sublist (List.Sublist.map _ ?_) hnd
        exact List.Sublist.append (List.Sublist.refl _) (List.sublist_cons_self _ _)
      have hsz' : (listed.setIfInBounds i' true).size = ops.size := by simpa using hsz
      have hinv' : ∀ j, (listed.setIfInBounds i' true).getD j false = true → ∀ x, x < ops.size → anc M x j = true → (listed.setIfInBounds i' true).getD x false = true := by
        intro j hj x hx hax
        by_cases hji : j = i'
        · subst hji
          have h1 := (List.all_eq_true.1 hcl j (by simpa using hlt))
          have h2 := List.all_eq_true.1 h1 x (by simpa using hx)
          simp only [hax, Bool.not_true, Bool.false_or, hoi] at h2
          obtain ⟨e, he, hb⟩ := Array.any_eq_true'.1 h2
          simp only [Bool.and_eq_true, Bool.or_eq_true, beq_iff_eq] at hb
          have hl := hpre e he hb.1
          rcases hb.2 with h | h
          · rw [← h]; exact getD_set_true hl
          · exact getD_set_true (hinv e.on hl x hx h)
        · rw [getD_set_ne false (Ne.symm hji)] at hj
          exact getD_set_true (hinv j hj x hx hax)
      have hlen' : (c1 ++ c2).length ≤ fuel := by simp at hlen ⊢; omega
      obtain ⟨o', ho', _, hfl, hef, _⟩ := hg.good c1 i' k c2 rfl
      rw [hoi] at ho'; cases ho'
      unfold wpOp
      simp only [hoi]
      by_cases hfi : isFloat P oi = true
      · have hn : neff P ops c1 ≤ k := by
          refine Nat.le_trans (Nat.le_of_eq ?_) (hfl hfi).1
          unfold neff
          congr 1
          apply List.filter_congr
          intro x hx
          simp only [isEff, hna x hx, Bool.not_false, Bool.and_true]
          all_goals (cases ops[x.1]? <;> rfl)
        have hap : ∀ x ∈ c1, ∀ oj, ops[x.1]? = some oj → oi.apart ops oj = true := fun x hx oj hoj => by
          rcases (hfl hfi).2 x hx with h | h
          · rw [hna x hx] at h; cases h
          · exact h oj hoj
        obtain ⟨r1, r2⟩ := dwp_pull hoi hfi (Region.noSelect_spec hsel) c1 hist a H ⟨w, hs⟩ hap hn hd
        by_cases hw : Region.wanted oi (yielded ops a.tmps) = true
        · rw [if_pos hw]
          obtain ⟨v, hv, hd'⟩ := r1 hw
          left
          unfold Oper.wp
          rw [hv H List.mem_cons_self w hs]
          exact ih _ (c1 ++ c2) hist _ _ w hgood hset hnd' hsz' hinv' hlen' hd' hs hf
        · rw [if_neg hw]
          have hd' := r2 (by simpa using hw)
          exact ih _ (c1 ++ c2) hist _ _ w hgood hset hnd' hsz' hinv' hlen' hd' hs hf
      · have hc1 : c1 = [] := by
          cases c1 with
          | nil => rfl
          | cons x c1 =>
            have h1 := hef (by simpa using hfi) x List.mem_cons_self
            rw [hna x List.mem_cons_self] at h1; cases h1
        subst hc1
        simp only [List.nil_append] at hd hgood hset hnd' hlen'
        unfold dwp at hd
        simp only [hoi] at hd
        by_cases hw : Region.wanted oi (yielded ops a.tmps) = true
        · rw [if_pos hw] at hd ⊢
          rw [if_neg hfi] at hd
          left
          refine Oper.wp_mono ?_ (hd.wp hs)
          rintro a' w' ⟨H', hd', hs', hf'⟩
          exact ih _ c2 _ a' H' w' hgood hset hnd' hsz' hinv' hlen' hd' hs' (hf.trans hf')
        · rw [if_neg hw] at hd ⊢
          exact ih _ c2 _ _ H w hgood hset hnd' hsz' hinv' hlen' hd hs hf

theorem HWp.drawn {id : Nat} {c : List (Nat × Nat)} {a : Act} {H : Heap} (hm : P.follows .mixedOrders = true) (hc : canonOk P ops M c = true) (h : dwp P ops (K .normal) c [] a H) : HWp P (.region id ops true) K a H := by
  intro w hs
  unfold canonOk at hc
  simp only [Bool.and_eq_true] at hc
  obtain ⟨⟨⟨⟨⟨h1, h2⟩, h3⟩, h4⟩, h5⟩, h6⟩ := hc
  refine wp_region_any hm ?_
  have hrep : ∀ j d, (Array.replicate ops.size false).getD j d = if j < ops.size then false else d := fun j d => by
    by_cases e : j < ops.size <;> simp [e]
  have hgd := good_of_check c [] h2
  have hmem : ∀ j, j < ops.size ↔ j ∈ c.map (·.1) := fun j => by
    constructor
    · intro hj
      have := List.all_eq_true.1 h3 j (by simpa using hj)
      simpa using this
    · intro hj
      obtain ⟨x, hx, rfl⟩ := List.mem_map.1 hj
      have := List.all_eq_true.1 h4 x hx
      simpa using this
  have hnd : (c.map (·.1)).Nodup := by
    have : ∀ (c : List (Nat × Nat)) (pre : List Nat), canonFrom P ops M pre c = true → (c.map (·.1)).Nodup ∧ ∀ x ∈ c.map (·.1), x ∉ pre := by
      intro c
      induction c with
      | nil => intro pre _; simp
      | cons x c ih =>
        obtain ⟨j, kj⟩ := x
        intro pre h
        unfold canonFrom at h
        simp only [Bool.and_eq_true] at h
        obtain ⟨⟨_, hnc⟩, h2⟩ := h
        obtain ⟨i1, i2⟩ := ih _ h2
        refine ⟨?_, ?_⟩
        · simp only [List.map_cons, List.nodup_cons]
          exact ⟨fun hm => by have := i2 _ hm; simp at this, i1⟩
        · intro x hx
          simp only [List.map_cons, List.mem_cons] at hx
          rcases hx with rfl | hx
          · simpa using hnc
          · have := i2 _ hx; simp at this; exact this.1
    exact (this c [] h2).1
  have hlen : c.length ≤ ops.size := of_decide_eq_true h6
  refine drawn_any h1 h5 ops.size _ c [] a H _ ?_ ?_ hnd (by simp) ?_ hlen h hs ?_
  · constructor
    intro c1 i k c2 he
    obtain ⟨o, ho, g1, g2, g3, g4⟩ := hgd c1 i k c2 he
    simp only [List.nil_append] at g1 g2 g3 g4
    refine ⟨o, ho, fun e he hb => .inr (g1 e he hb), fun hf => ⟨?_, fun x hx => ?_⟩, fun hf x hx => g3 hf _ (List.mem_map.2 ⟨x, hx, rfl⟩), g4⟩
    · have := (g2 hf).1
      rw [List.filter_map, List.length_map] at this
      exact this
    · exact (g2 hf).2 _ (List.mem_map.2 ⟨x, hx, rfl⟩)
  · intro j
    rw [hrep, ← hmem]
    by_cases e : j < ops.size <;> simp [e]
  · intro i hi
    rw [hrep] at hi
    by_cases e : i < ops.size <;> simp [e] at hi
  · exact ⟨rfl, rfl, rfl, Nat.le_refl _, fun _ _ _ => rfl, fun _ h h' => absurd h h'⟩
end
section
variable {P : Program} {ops : Array Oper} {K : Exit → Act → Heap → Prop} {M : Array Nat} {H0 : Heap} {w0 : World}
/-- An operation that may be next, in a list of what is left. -/
theorem drawn_pick {listed : Array Bool} {i' : Nat} {c : List (Nat × Nat)} (hcl : ancClosed ops M = true) (hm : ∀ j, listed.getD j true = false ↔ j ∈ c.map (·.1)) (hnd : (c.map (·.1)).Nodup) (hsz : listed.size = ops.size)
    (hinv : ∀ i, listed.getD i false = true → ∀ x, x < ops.size → anc M x i = true → listed.getD x false = true) (hi : i' ∈ Region.ready .any ops listed) :
    ∃ oi k c1 c2, c = c1 ++ (i', k) :: c2 ∧ ops[i']? = some oi ∧ (∀ x ∈ c1 ++ (i', k) :: c2, anc M x.1 i' = false) ∧ (∀ j, (listed.setIfInBounds i' true).getD j true = false ↔ j ∈ (c1 ++ c2).map (·.1)) ∧ ((c1 ++ c2).map (·.1)).Nodup := by
  obtain ⟨hun, oi, hoi, hpre⟩ := mem_ready.1 hi
  have hic := (hm i').1 hun
  obtain ⟨⟨i'', k⟩, hmem, hee⟩ := List.mem_map.1 hic
  have hee : i'' = i' := hee
  have hmem : (i', k) ∈ c := by rw [← hee]; exact hmem
  obtain ⟨c1, c2, rfl⟩ := List.append_of_mem hmem
  have hlt : i' < ops.size := (Array.getElem?_eq_some_iff.1 hoi).1
  -- nobody ahead of i' in the list is its ancestor
  have hna : ∀ x ∈ c1 ++ (i', k) :: c2, anc M x.1 i' = false := by
    intro x hx
    cases hanc : anc M x.1 i' with
    | false => rfl
    | true =>
      exfalso
      have hxc : listed.getD x.1 true = false := (hm x.1).2 (List.mem_map.2 ⟨x, hx, rfl⟩)
      have hxl : x.1 < ops.size := by
        rw [← hsz]
        rcases Nat.lt_or_ge x.1 listed.size with h | h
        · exact h
        · simp [Array.getElem?_eq_none h] at hxc
      have h1 := (List.all_eq_true.1 hcl i' (by simpa using hlt))
      have h2 := List.all_eq_true.1 h1 x.1 (by simpa using hxl)
      simp only [hanc, Bool.not_true, Bool.false_or, hoi] at h2
      obtain ⟨e, he, hb⟩ := Array.any_eq_true'.1 h2
      simp only [Bool.and_eq_true, Bool.or_eq_true, beq_iff_eq] at hb
      have hl := hpre e he hb.1
      have : listed.getD x.1 false = true := by
        rcases hb.2 with h | h
        · rw [← h]; exact hl
        · exact hinv e.on hl x.1 hxl h
      have hxs : x.1 < listed.size := by omega
      simp [hxs] at this hxc
      rw [this] at hxc; cases hxc
  have hset : ∀ j, (listed.setIfInBounds i' true).getD j true = false ↔ j ∈ (c1 ++ c2).map (·.1) := by
    intro j
    by_cases hj : j = i'
    · subst hj
      have hjs : j < listed.size := by omega
      simp only [Array.getD_eq_getD_getElem?, Array.getElem?_setIfInBounds_self_of_lt hjs, Option.getD_some, Bool.true_eq_false, false_iff]
      intro hmm
      rw [List.map_append, List.map_cons] at hnd
      obtain ⟨_, n2, n3⟩ := List.nodup_append.1 hnd
      rw [List.map_append, List.mem_append] at hmm
      rcases hmm with h | h
      · exact n3 _ h _ List.mem_cons_self rfl
      · exact (List.nodup_cons.1 n2).1 h
    · rw [getD_set_ne true (Ne.symm hj), hm j]
      simp only [List.map_append, List.map_cons, List.mem_append, List.mem_cons]
      constructor
      · rintro (h | h | h)
        · exact .inl h
        · exact absurd h hj
        · exact .inr h
      · rintro (h | h)
        · exact .inl h
        · exact .inr (.inr h)
  have hnd' : ((c1 ++ c2).map (·.1)).Nodup := by
    refine List.Nodup.sublist (List.Sublist.map _ ?_) hnd
    exact List.Sublist.append (List.Sublist.refl _) (List.sublist_cons_self _ _)
  exact ⟨oi, k, c1, c2, rfl, hoi, hna, hset, hnd'⟩
theorem drawn_inv {listed : Array Bool} {i' : Nat} (hcl : ancClosed ops M = true) (hsz : listed.size = ops.size)
    (hinv : ∀ i, listed.getD i false = true → ∀ x, x < ops.size → anc M x i = true → listed.getD x false = true) (hi : i' ∈ Region.ready .any ops listed) :
    (∀ j, (listed.setIfInBounds i' true).getD j false = true → ∀ x, x < ops.size → anc M x j = true → (listed.setIfInBounds i' true).getD x false = true) ∧ (listed.setIfInBounds i' true).getD i' false = true := by
  obtain ⟨hun, oi, hoi, hpre⟩ := mem_ready.1 hi
  have hlt : i' < ops.size := (Array.getElem?_eq_some_iff.1 hoi).1
  have hinv' : ∀ j, (listed.setIfInBounds i' true).getD j false = true → ∀ x, x < ops.size → anc M x j = true → (listed.setIfInBounds i' true).getD x false = true := by
    intro j hj x hx hax
    by_cases hji : j = i'
    · subst hji
      have h1 := (List.all_eq_true.1 hcl j (by simpa using hlt))
      have h2 := List.all_eq_true.1 h1 x (by simpa using hx)
      simp only [hax, Bool.not_true, Bool.false_or, hoi] at h2
      obtain ⟨e, he, hb⟩ := Array.any_eq_true'.1 h2
      simp only [Bool.and_eq_true, Bool.or_eq_true, beq_iff_eq] at hb
      have hl := hpre e he hb.1
      rcases hb.2 with h | h
      · rw [← h]; exact getD_set_true hl
      · exact getD_set_true (hinv e.on hl x hx h)
    · rw [getD_set_ne false (Ne.symm hji)] at hj
      exact getD_set_true (hinv j hj x hx hax)
  exact ⟨hinv', by have : i' < listed.size := by omega
                   simp [this]⟩
theorem GoodX.plain {ex : Nat → Nat → Bool} {L : Nat → Prop} {c : List (Nat × Nat)} (h : GoodX P ops M ex L c) (hex : ∀ x ∈ c, ∀ y, ex x.1 y = false) : Good P ops M L c :=
  ⟨fun c1 i k c2 he => by
    obtain ⟨o, h1, h2, h3, h4, h5⟩ := h.good c1 i k c2 he
    refine ⟨o, h1, h2, h3, fun hf x hx => ?_, h5⟩
    rcases h4 hf x hx with h | h
    · exact h
    · rw [hex x (by rw [he]; exact List.mem_append_left _ hx) i] at h; cases h⟩
/-- One order of two effects that may come in either order. -/
def exOf (M : Array Nat) (a b : Nat) (x i : Nat) : Bool := (x == a || anc M x a) && i == b
theorem drawn_first {e1 e2 : Nat} (hne : e1 ≠ e2) (hcl : ancClosed ops M = true) (hsel : Region.noSelect ops = true) {fuel : Nat} {listed : Array Bool} {c : List (Nat × Nat)} {hist : List Heap} {a : Act} {H : Heap} {w : World} {oi : Oper}
    (hg : GoodX P ops M (exOf M e1 e2) (fun i => listed.getD i false = true) c) (hm : ∀ j, listed.getD j true = false ↔ j ∈ c.map (·.1)) (hnd : (c.map (·.1)).Nodup) (hsz : listed.size = ops.size)
    (hinv : ∀ i, listed.getD i false = true → ∀ x, x < ops.size → anc M x i = true → listed.getD x false = true) (hlen : c.length ≤ fuel + 1) (hi : e1 ∈ Region.ready .any ops listed) (hoi : ops[e1]? = some oi) (hfi : isFloat P oi = false)
    (hd : dwp P ops (K .normal) c hist a H) (hs : Sat H w) (hf : Fr H0 H w0 w) :
    wpOp P ops (fun e a' w' => ∃ H', K e a' H' ∧ Sat H' w' ∧ Fr H0 H' w0 w') e1 (wpAny P .any ops (fun e a' w' => ∃ H', K e a' H' ∧ Sat H' w' ∧ Fr H0 H' w0 w') fuel (listed.setIfInBounds e1 true)) a w := by
  obtain ⟨oi', k, c1, c2, rfl, hoi', hna, hset, hnd'⟩ := drawn_pick hcl hm hnd hsz hinv hi
  rw [hoi] at hoi'; cases hoi'
  obtain ⟨hinv', hself⟩ := drawn_inv hcl hsz hinv hi
  have hsz' : (listed.setIfInBounds e1 true).size = ops.size := by simpa using hsz
  obtain ⟨o', ho', _, hfl, hef, hnin⟩ := hg.good c1 e1 k c2 rfl
  rw [hoi] at ho'; cases ho'
  have hc1 : c1 = [] := by
    cases c1 with
    | nil => rfl
    | cons x c1 =>
      have h1 := hef hfi x List.mem_cons_self
      rw [hna x (by simp)] at h1
      rcases h1 with h1 | h1
      · cases h1
      · unfold exOf at h1
        simp only [Bool.and_eq_true, beq_iff_eq] at h1
        exact absurd h1.2 hne
  subst hc1
  have hgood : Good P ops M (fun i => (listed.setIfInBounds e1 true).getD i false = true) ([] ++ c2) := by
    refine (hg.drop (fun x hx => getD_set_true hx) hself).plain fun x hx y => ?_
    unfold exOf
    have : ¬ x.1 = e1 := fun e => by
      rw [List.map_append, List.map_cons] at hnd
      obtain ⟨_, n2, _⟩ := List.nodup_append.1 hnd
      exact (List.nodup_cons.1 n2).1 (List.mem_map.2 ⟨x, by simpa using hx, e⟩)
    have h2 := hna x (by simp at hx ⊢; exact .inr hx)
    simp [this, h2]
  simp only [List.nil_append] at hd hgood hset hnd'
  have hlen' : c2.length ≤ fuel := by simp at hlen; omega
  unfold wpOp
  simp only [hoi]
  unfold dwp at hd
  simp only [hoi] at hd
  by_cases hw : Region.wanted oi (yielded ops a.tmps) = true
  · rw [if_pos hw] at hd ⊢
    rw [if_neg (by rw [hfi]; simp)] at hd
    left
    refine Oper.wp_mono ?_ (hd.wp hs)
    rintro a' w' ⟨H', hd', hs', hf'⟩
    exact drawn_any hcl hsel fuel _ c2 _ a' H' w' hgood hset hnd' hsz' hinv' hlen' hd' hs' (hf.trans hf')
  · rw [if_neg hw] at hd ⊢
    exact drawn_any hcl hsel fuel _ c2 _ _ H w hgood hset hnd' hsz' hinv' hlen' hd hs hf
theorem drawn_any2 {e1 e2 : Nat} (hne : e1 ≠ e2) (hf1 : ∀ o, ops[e1]? = some o → isFloat P o = false) (hf2 : ∀ o, ops[e2]? = some o → isFloat P o = false) (hoth : ∀ i o, ops[i]? = some o → isFloat P o = false → i = e1 ∨ i = e2 ∨ anc M e1 i = true ∨ anc M e2 i = true) (hl1 : e1 < ops.size) (hl2 : e2 < ops.size) (hcl : ancClosed ops M = true) (hsel : Region.noSelect ops = true) :
    ∀ (fuel : Nat) (listed : Array Bool) (c d : List (Nat × Nat)) (hist : List Heap) (a : Act) (H : Heap) (w : World),
      GoodX P ops M (exOf M e1 e2) (fun i => listed.getD i false = true) c → (∀ j, listed.getD j true = false ↔ j ∈ c.map (·.1)) → (c.map (·.1)).Nodup →
      GoodX P ops M (exOf M e2 e1) (fun i => listed.getD i false = true) d → (∀ j, listed.getD j true = false ↔ j ∈ d.map (·.1)) → (d.map (·.1)).Nodup → listed.size = ops.size →
      (∀ i, listed.getD i false = true → ∀ x, x < ops.size → anc M x i = true → listed.getD x false = true) →
      e1 ∈ c.map (·.1) → e2 ∈ c.map (·.1) → c.length ≤ fuel → d.length ≤ fuel → dwp P ops (K .normal) c hist a H → dwp P ops (K .normal) d hist a H → Sat H w → Fr H0 H w0 w →
      wpAny P .any ops (fun e a' w' => ∃ H', K e a' H' ∧ Sat H' w' ∧ Fr H0 H' w0 w') fuel listed a w := by
  intro fuel
  induction fuel with
  | zero =>
    intro listed c d hist a H w hg hm hnd hg2 hm2 hnd2 hsz hinv hin1 hin2 hlen hlen2 hd hd2 hs hf
    have : c = [] := List.length_eq_zero_iff.1 (by omega)
    subst this
    simp at hin1
  | succ fuel ih =>
    intro listed c d hist a H w hg hm hnd hg2 hm2 hnd2 hsz hinv hin1 hin2 hlen hlen2 hd hd2 hs hf
    refine ⟨fun hr => ?_, fun i hi => ?_⟩
    · cases c with
      | nil => simp at hin1
      | cons x c =>
        exfalso
        obtain ⟨i, k⟩ := x
        obtain ⟨o, ho, h1, _⟩ := hg.good [] i k c rfl
        have : i ∈ Region.ready .any ops listed := mem_ready.2 ⟨(hm i).2 (by simp), o, ho, fun e he hb => by
          rcases h1 e he hb with h | h
          · exact h
          · simp at h⟩
        rw [hr] at this; cases this
    · obtain ⟨hun, oi, hoi, hpre⟩ := mem_ready.1 hi
      by_cases hfi : isFloat P oi = true
      · obtain ⟨oi', k, c1, c2, rfl, hoi', hna, hset, hnd'⟩ := drawn_pick hcl hm hnd hsz hinv hi
        obtain ⟨oi'', k2, d1, d2, rfl, hoi'', hna2, hset2, hnd2'⟩ := drawn_pick hcl hm2 hnd2 hsz hinv hi
        rw [hoi] at hoi' hoi''; cases hoi'; cases hoi''
        obtain ⟨hinv', hself⟩ := drawn_inv hcl hsz hinv hi
        have hsz' : (listed.setIfInBounds i true).size = ops.size := by simpa using hsz
        obtain ⟨o', ho', _, hfl, _, _⟩ := hg.good c1 i k c2 rfl
        rw [hoi] at ho'; cases ho'
        obtain ⟨o', ho', _, hfl2, _, _⟩ := hg2.good d1 i k2 d2 rfl
        rw [hoi] at ho'; cases ho'
        have hi1 : i ≠ e1 := fun e => by rw [hf1 oi (by rw [← e]; exact hoi)] at hfi; cases hfi
        have hi2 : i ≠ e2 := fun e => by rw [hf2 oi (by rw [← e]; exact hoi)] at hfi; cases hfi
        have hin1' : e1 ∈ (c1 ++ c2).map (·.1) := by
          simp only [List.map_append, List.map_cons, List.mem_append, List.mem_cons] at hin1 ⊢
          rcases hin1 with h | h | h
          · exact .inl h
          · exact absurd h.symm hi1
          · exact .inr h
        have hin2' : e2 ∈ (c1 ++ c2).map (·.1) := by
          simp only [List.map_append, List.map_cons, List.mem_append, List.mem_cons] at hin2 ⊢
          rcases hin2 with h | h | h
          · exact .inl h
          · exact absurd h.symm hi2
          · exact .inr h
        have hgood := hg.drop (fun x hx => getD_set_true hx) hself
        have hgood2 := hg2.drop (fun x hx => getD_set_true hx) hself
        have hlen' : (c1 ++ c2).length ≤ fuel := by simp at hlen ⊢; omega
        have hlen2' : (d1 ++ d2).length ≤ fuel := by simp at hlen2 ⊢; omega
        have side : ∀ {b1 : List (Nat × Nat)} {kk : Nat}, (∀ x ∈ b1, anc M x.1 i = false) → ((b1.filter fun x => isEff P ops x.1 && !anc M x.1 i).length ≤ kk ∧ ∀ x ∈ b1, anc M x.1 i = true ∨ ∀ ox, ops[x.1]? = some ox → oi.apart ops ox = true) →
            neff P ops b1 ≤ kk ∧ ∀ x ∈ b1, ∀ oj, ops[x.1]? = some oj → oi.apart ops oj = true := fun {b1 kk} hna hfl => by
          refine ⟨?_, fun x hx oj hoj => ?_⟩
          · refine Nat.le_trans (Nat.le_of_eq ?_) hfl.1
            unfold neff
            congr 1
            apply List.filter_congr
            intro x hx
            simp only [isEff, hna x hx, Bool.not_false, Bool.and_true]
            all_goals (cases ops[x.1]? <;> rfl)
          · rcases hfl.2 x hx with h | h
            · rw [hna x hx] at h; cases h
            · exact h oj hoj
        obtain ⟨n1, p1⟩ := side (fun x hx => hna x (List.mem_append_left _ hx)) (hfl hfi)
        obtain ⟨n2, p2⟩ := side (fun x hx => hna2 x (List.mem_append_left _ hx)) (hfl2 hfi)
        obtain ⟨r1, r2⟩ := dwp_pull hoi hfi (Region.noSelect_spec hsel) c1 hist a H ⟨w, hs⟩ p1 n1 hd
        obtain ⟨s1, s2⟩ := dwp_pull hoi hfi (Region.noSelect_spec hsel) d1 hist a H ⟨w, hs⟩ p2 n2 hd2
        unfold wpOp
        simp only [hoi]
        by_cases hw : Region.wanted oi (yielded ops a.tmps) = true
        · rw [if_pos hw]
          obtain ⟨v, hv, hd'⟩ := r1 hw
          obtain ⟨v2, hv2, hd2'⟩ := s1 hw
          have ev : v2 = v := by
            have h1 := hv H List.mem_cons_self w hs
            have h2 := hv2 H List.mem_cons_self w hs
            rw [h1] at h2
            injection h2 with h2
            injection h2 with h2
            exact h2.symm
          rw [ev] at hd2'
          left
          unfold Oper.wp
          rw [hv H List.mem_cons_self w hs]
          exact ih _ (c1 ++ c2) (d1 ++ d2) hist _ _ w hgood hset hnd' hgood2 hset2 hnd2' hsz' hinv' hin1' hin2' hlen' hlen2' hd' hd2' hs hf
        · rw [if_neg hw]
          have hd' := r2 (by simpa using hw)
          have hd2' := s2 (by simpa using hw)
          exact ih _ (c1 ++ c2) (d1 ++ d2) hist _ _ w hgood hset hnd' hgood2 hset2 hnd2' hsz' hinv' hin1' hin2' hlen' hlen2' hd' hd2' hs hf
      · have hfi : isFloat P oi = false := by simpa using hfi
        have notin : ∀ e, e ∈ c.map (·.1) → e < ops.size → anc M e i = true → False := fun e he hlt h => by
          have hlt' : i < ops.size := (Array.getElem?_eq_some_iff.1 hoi).1
          obtain ⟨hinv', _⟩ := drawn_inv hcl hsz hinv hi
          have h1 := (List.all_eq_true.1 hcl i (by simpa using hlt'))
          have h2 := List.all_eq_true.1 h1 e (by simpa using hlt)
          simp only [h, Bool.not_true, Bool.false_or, hoi] at h2
          obtain ⟨ed, hed, hb⟩ := Array.any_eq_true'.1 h2
          simp only [Bool.and_eq_true, Bool.or_eq_true, beq_iff_eq] at hb
          have hl := hpre ed hed hb.1
          have hle : listed.getD e false = true := by
            rcases hb.2 with h | h
            · rw [← h]; exact hl
            · exact hinv ed.on hl e hlt h
          have hun := (hm e).2 he
          have hxs : e < listed.size := by omega
          simp [hxs] at hle hun
          rw [hle] at hun; cases hun
        rcases hoth i oi hoi hfi with e | e | e | e
        · subst e
          exact drawn_first hne hcl hsel hg hm hnd hsz hinv hlen hi hoi hfi hd hs hf
        · subst e
          exact drawn_first (fun h => hne h.symm) hcl hsel hg2 hm2 hnd2 hsz hinv hlen2 hi hoi hfi hd2 hs hf
        · exact (notin e1 hin1 hl1 e).elim
        · exact (notin e2 hin2 hl2 e).elim
/-- Two effects that come in either order, ahead of all others: one list for each order. -/
def canonOk2 (P : Program) (ops : Array Oper) (M : Array Nat) (c d : List (Nat × Nat)) (e1 e2 : Nat) : Bool :=
  ancClosed ops M && canonFromX P ops M (exOf M e1 e2) [] c && canonFromX P ops M (exOf M e2 e1) [] d && ((List.range ops.size).all fun j => (c.map (·.1)).contains j && (d.map (·.1)).contains j) && (c.all fun x => decide (x.1 < ops.size)) && (d.all fun x => decide (x.1 < ops.size)) && Region.noSelect ops && decide (c.length ≤ ops.size) && decide (d.length ≤ ops.size)
    && decide (e1 < ops.size) && decide (e2 < ops.size) && !(e1 == e2) && ((List.range ops.size).all fun i => (match ops[i]? with | some o => isFloat P o || i == e1 || i == e2 || anc M e1 i || anc M e2 i | none => true)) && isEff P ops e1 && isEff P ops e2
theorem eff_float {e : Nat} (h : isEff P ops e = true) : ∀ o, ops[e]? = some o → isFloat P o = false := fun o ho => by
  unfold isEff at h
  rw [ho] at h
  simpa using h
theorem HWp.drawn2 {id : Nat} {c d : List (Nat × Nat)} {e1 e2 : Nat} {a : Act} {H : Heap} (hm : P.follows .mixedOrders = true) (hc : canonOk2 P ops M c d e1 e2 = true) (h : dwp P ops (K .normal) c [] a H) (k : dwp P ops (K .normal) d [] a H) : HWp P (.region id ops true) K a H := by
  intro w hs
  unfold canonOk2 at hc
  simp only [Bool.and_eq_true] at hc
  obtain ⟨⟨⟨⟨⟨⟨⟨⟨⟨⟨⟨⟨⟨⟨h1, h2⟩, h2'⟩, h3⟩, h4⟩, h4'⟩, h5⟩, h6⟩, h6'⟩, h7⟩, h7'⟩, h8⟩, h9⟩, h10⟩, h10'⟩ := hc
  refine wp_region_any hm ?_
  have hrep : ∀ j d, (Array.replicate ops.size false).getD j d = if j < ops.size then false else d := fun j d => by
    by_cases e : j < ops.size <;> simp [e]
  have each : ∀ {ex : Nat → Nat → Bool} {c : List (Nat × Nat)}, canonFromX P ops M ex [] c = true → (∀ j, j < ops.size → j ∈ c.map (·.1)) → (∀ x ∈ c, x.1 < ops.size) →
      GoodX P ops M ex (fun i => (Array.replicate ops.size false).getD i false = true) c ∧ (∀ j, (Array.replicate ops.size false).getD j true = false ↔ j ∈ c.map (·.1)) ∧ (c.map (·.1)).Nodup := fun {ex c} h2 hin hlt => by
    have hgd := good_of_checkX c [] h2
    have hmem : ∀ j, j < ops.size ↔ j ∈ c.map (·.1) := fun j => by
      constructor
      · exact hin j
      · intro hj
        obtain ⟨x, hx, rfl⟩ := List.mem_map.1 hj
        exact hlt x hx
    have hnd : (c.map (·.1)).Nodup := by
      have : ∀ (c : List (Nat × Nat)) (pre : List Nat), canonFromX P ops M ex pre c = true → (c.map (·.1)).Nodup ∧ ∀ x ∈ c.map (·.1), x ∉ pre := by
        intro c
        induction c with
        | nil => intro pre _; simp
        | cons x c ih =>
          obtain ⟨j, kj⟩ := x
          intro pre h
          unfold canonFromX at h
          simp only [Bool.and_eq_true] at h
          obtain ⟨⟨_, hnc⟩, h2⟩ := h
          obtain ⟨i1, i2⟩ := ih _ h2
          refine ⟨?_, ?_⟩
          · simp only [List.map_cons, List.nodup_cons]
            exact ⟨fun hm => by have := i2 _ hm; simp at this, i1⟩
          · intro x hx
            simp only [List.map_cons, List.mem_cons] at hx
            rcases hx with rfl | hx
            · simpa using hnc
            · have := i2 _ hx; simp at this; exact this.1
      exact (this c [] h2).1
    refine ⟨?_, fun j => ?_, hnd⟩
    · constructor
      intro c1 i k c2 he
      obtain ⟨o, ho, g1, g2, g3, g4⟩ := hgd c1 i k c2 he
      simp only [List.nil_append] at g1 g2 g3 g4
      refine ⟨o, ho, fun e he hb => .inr (g1 e he hb), fun hf => ⟨?_, fun x hx => ?_⟩, fun hf x hx => g3 hf _ (List.mem_map.2 ⟨x, hx, rfl⟩), g4⟩
      · have := (g2 hf).1
        rw [List.filter_map, List.length_map] at this
        exact this
      · exact (g2 hf).2 _ (List.mem_map.2 ⟨x, hx, rfl⟩)
    · rw [hrep, ← hmem]
      by_cases e : j < ops.size <;> simp [e]
  have h3c : ∀ j, j < ops.size → j ∈ c.map (·.1) ∧ j ∈ d.map (·.1) := fun j hj => by
    have := List.all_eq_true.1 h3 j (by simpa using hj)
    simp only [Bool.and_eq_true] at this
    exact ⟨by simpa using this.1, by simpa using this.2⟩
  obtain ⟨g1, m1, n1⟩ := each h2 (fun j hj => (h3c j hj).1) (fun x hx => by simpa using List.all_eq_true.1 h4 x hx)
  obtain ⟨g2, m2, n2⟩ := each h2' (fun j hj => (h3c j hj).2) (fun x hx => by simpa using List.all_eq_true.1 h4' x hx)
  have l1 : e1 < ops.size := of_decide_eq_true h7
  have l2 : e2 < ops.size := of_decide_eq_true h7'
  refine drawn_any2 (e1 := e1) (e2 := e2) (by simpa using h8) (eff_float h10) (eff_float h10') (fun i o ho hf => ?_) l1 l2 h1 h5 ops.size _ c d [] a H _ g1 m1 n1 g2 m2 n2 (by simp) (fun i hi => ?_) (h3c e1 l1).1 (h3c e2 l2).1 (of_decide_eq_true h6) (of_decide_eq_true h6') h k hs ?_
  · have hl : i < ops.size := (Array.getElem?_eq_some_iff.1 ho).1
    have := List.all_eq_true.1 h9 i (by simpa using hl)
    rw [ho] at this
    simp only [hf, Bool.false_or, Bool.or_eq_true, beq_iff_eq] at this
    rcases this with ((h | h) | h) | h
    · exact .inl h
    · exact .inr (.inl h)
    · exact .inr (.inr (.inl h))
    · exact .inr (.inr (.inr h))
  · rw [hrep] at hi
    by_cases e : i < ops.size <;> simp [e] at hi
  · exact ⟨rfl, rfl, rfl, Nat.le_refl _, fun _ _ _ => rfl, fun _ h h' => absurd h h'⟩
/-! ## Several orders: one list for each, each proved by itself -/
/-- An operation that calls no function. -/
def plainEff (o : Oper) : Bool := match o.op with
  | .alloc _ | .box _ _ | .build _ _ | .buildSlice _ _ _ | .store _ _ _ | .makeSlice _ _ _ | .convert _ _ _ | .makeMap _ _ => true
  | _ => false
theorem plainEff_run {o : Oper} (h : plainEff o = true) (ρ : Operand → Value) (w : World) : (∃ v w', (execOp ρ o).run P w = .ok (.value v) w') ∨ (∃ w', (execOp ρ o).run P w = .ok .skip w') ∨ ∃ x w', (execOp ρ o).run P w = .halt x w' := by
  have kv : ∀ s : Sem Value, (∃ v w', (do pure (Next.value (← s)) : Sem Next).run P w = .ok (.value v) w') ∨ (∃ w', (do pure (Next.value (← s)) : Sem Next).run P w = .ok .skip w') ∨ ∃ x w', (do pure (Next.value (← s)) : Sem Next).run P w = .halt x w' := fun s => by
    rw [Sem.run_bind]
    cases s.run P w with
    | ok x w' => exact .inl ⟨x, w', rfl⟩
    | halt x w' => exact .inr (.inr ⟨x, w', rfl⟩)
  have ku : ∀ s : Sem Unit, (∃ v w', (do s; pure Next.skip : Sem Next).run P w = .ok (.value v) w') ∨ (∃ w', (do s; pure Next.skip : Sem Next).run P w = .ok .skip w') ∨ ∃ x w', (do s; pure Next.skip : Sem Next).run P w = .halt x w' := fun s => by
    rw [Sem.run_bind]
    cases s.run P w with
    | ok x w' => exact .inr (.inl ⟨w', rfl⟩)
    | halt x w' => exact .inr (.inr ⟨x, w', rfl⟩)
  unfold plainEff at h
  unfold execOp
  cases ho : o.op <;> rw [ho] at h <;> first | (cases h; done) | exact kv _ | exact ku _
/-- One order with the heaps that its proof has come to. -/
structure OrdS where
  c : List (Nat × Nat)
  hist : List Heap
  H : Heap
def effs (P : Program) (ops : Array Oper) (c : List (Nat × Nat)) : List Nat := (c.map (·.1)).filter fun i => isEff P ops i
/-- What stands ahead of an effect is needed for it, or is an effect, or is needed for one that stands ahead of it too. -/
def EffOk (P : Program) (ops : Array Oper) (M : Array Nat) (c : List (Nat × Nat)) : Prop :=
  ∀ c1 i k c2, c = c1 ++ (i, k) :: c2 → isEff P ops i = true → ∀ x ∈ c1, anc M x.1 i = true ∨ ∃ e ∈ c1, isEff P ops e.1 = true ∧ (x.1 = e.1 ∨ anc M x.1 e.1 = true)
def effOkB (P : Program) (ops : Array Oper) (M : Array Nat) : List Nat → List (Nat × Nat) → Bool
  | _, [] => true
  | pre, (i, _) :: rest => (!isEff P ops i || pre.all fun x => anc M x i || pre.any fun e => isEff P ops e && (x == e || anc M x e)) && effOkB P ops M (pre ++ [i]) rest
theorem effOk_of : ∀ (c : List (Nat × Nat)) (pre : List Nat), effOkB P ops M pre c = true → ∀ c1 i k c2, c = c1 ++ (i, k) :: c2 → isEff P ops i = true → ∀ x ∈ pre ++ c1.map (·.1), anc M x i = true ∨ ∃ e ∈ pre ++ c1.map (·.1), isEff P ops e = true ∧ (x = e ∨ anc M x e = true)
  | [], pre, _, c1, i, k, c2, he => by simp at he
  | (j, kj) :: c, pre, h, c1, i, k, c2, he => by
    unfold effOkB at h
    simp only [Bool.and_eq_true] at h
    cases c1 with
    | nil =>
      simp only [List.nil_append, List.cons.injEq, Prod.mk.injEq] at he
      obtain ⟨⟨rfl, rfl⟩, rfl⟩ := he
      intro hi x hx
      simp only [List.map_nil, List.append_nil] at hx ⊢
      have h1 := h.1
      rw [hi] at h1
      simp only [Bool.not_true, Bool.false_or] at h1
      have h2 := List.all_eq_true.1 h1 x hx
      simp only [Bool.or_eq_true] at h2
      rcases h2 with h2 | h2
      · exact .inl h2
      · obtain ⟨e, he, h3⟩ := List.any_eq_true.1 h2
        simp only [Bool.and_eq_true, Bool.or_eq_true, beq_iff_eq] at h3
        exact .inr ⟨e, he, h3.1, h3.2⟩
    | cons y c1 =>
      simp only [List.cons_append, List.cons.injEq] at he
      obtain ⟨rfl, rfl⟩ := he
      intro hi x hx
      have := effOk_of (c1 ++ (i, k) :: c2) (pre ++ [j]) h.2 c1 i k c2 rfl hi x (by simpa using hx)
      simpa using this
theorem EffOk.of (c : List (Nat × Nat)) (h : effOkB P ops M [] c = true) : EffOk P ops M c := fun c1 i k c2 he hi x hx => by
  have := effOk_of c [] h c1 i k c2 he hi x.1 (by rw [List.nil_append]; exact List.mem_map.2 ⟨x, hx, rfl⟩)
  rcases this with h | ⟨e, he, h⟩
  · exact .inl h
  · simp only [List.nil_append] at he
    obtain ⟨y, hy, rfl⟩ := List.mem_map.1 he
    exact .inr ⟨y, hy, h⟩
theorem EffOk.float {a b : List (Nat × Nat)} {j kj : Nat} (h : EffOk P ops M (a ++ (j, kj) :: b)) (hj : isEff P ops j = false) : EffOk P ops M (a ++ b) := by
  intro c1 i k c2 he hi x hx
  have key : ∀ c1' c2', a ++ (j, kj) :: b = c1' ++ (i, k) :: c2' → (∀ y ∈ c1, y ∈ c1') → (∀ y ∈ c1', y ∈ c1 ∨ y = (j, kj)) → anc M x.1 i = true ∨ ∃ e ∈ c1, isEff P ops e.1 = true ∧ (x.1 = e.1 ∨ anc M x.1 e.1 = true) := by
    intro c1' c2' he' h1 h2
    rcases h c1' i k c2' he' hi x (h1 x hx) with h3 | ⟨e, he, h3, h4⟩
    · exact .inl h3
    · rcases h2 e he with h5 | h5
      · exact .inr ⟨e, h5, h3, h4⟩
      · subst h5; rw [hj] at h3; cases h3
  rcases List.append_eq_append_iff.1 he with ⟨b1, rfl, hb⟩ | ⟨a2, rfl, ha⟩
  · refine key (a ++ (j, kj) :: b1) c2 (by rw [hb]; simp) (fun y hy => ?_) (fun y hy => ?_)
    · rcases List.mem_append.1 hy with h | h
      · exact List.mem_append_left _ h
      · exact List.mem_append_right _ (List.mem_cons_of_mem _ h)
    · rcases List.mem_append.1 hy with h | h
      · exact .inl (List.mem_append_left _ h)
      · rcases List.mem_cons.1 h with h | h
        · exact .inr h
        · exact .inl (List.mem_append_right _ h)
  · cases a2 with
    | nil =>
      simp only [List.nil_append] at ha
      refine key (c1 ++ [(j, kj)]) c2 (by rw [← ha]; simp) (fun y hy => List.mem_append_left _ hy) (fun y hy => ?_)
      rcases List.mem_append.1 hy with h | h
      · exact .inl h
      · exact .inr (List.mem_singleton.1 h)
    | cons z a2 =>
      simp only [List.cons_append, List.cons.injEq] at ha
      obtain ⟨rfl, rfl⟩ := ha
      exact key c1 (a2 ++ (j, kj) :: b) (by simp) (fun y hy => hy) (fun y hy => .inl hy)
theorem EffOk.front {b : List (Nat × Nat)} {j kj : Nat} (h : EffOk P ops M ((j, kj) :: b)) (hna : ∀ x ∈ b, x.1 ≠ j ∧ anc M x.1 j = false) : EffOk P ops M b := by
  intro c1 i k c2 he hi x hx
  rcases h ((j, kj) :: c1) i k c2 (by rw [he]; rfl) hi x (List.mem_cons_of_mem _ hx) with h3 | ⟨e, he', h3, h4⟩
  · exact .inl h3
  · rcases List.mem_cons.1 he' with h5 | h5
    · subst h5
      have := hna x (by rw [he]; exact List.mem_append_left _ hx)
      rcases h4 with h4 | h4
      · exact absurd h4 this.1
      · rw [this.2] at h4; cases h4
    · exact .inr ⟨e, h5, h3, h4⟩
/-- Whichever effect may come next, some of the orders have it next. -/
def cover (P : Program) (ops : Array Oper) (M : Array Nat) : Nat → List (List Nat) → Bool
  | 0, es => es.all fun e => e.isEmpty
  | n + 1, es => match es with
    | [] => false
    | e0 :: _ => e0.all fun x => (e0.any fun y => anc M y x) || (!(es.filter fun e => e.head? == some x).isEmpty && (plainEff (ops.getD x default) || decide ((es.filter fun e => e.head? == some x).length ≤ 1)) && cover P ops M n ((es.filter fun e => e.head? == some x).map List.tail))
theorem list_choose {α β : Type} {p : α → Prop} {f : α → β} : ∀ (S : List α) {g : α → β}, (∀ s ∈ S, ∃ s', f s' = g s ∧ p s') → ∃ S' : List α, S'.map f = S.map g ∧ ∀ s' ∈ S', p s'
  | [], g, _ => ⟨[], rfl, by simp⟩
  | s :: S, g, h => by
    obtain ⟨s', h1, h2⟩ := h s List.mem_cons_self
    obtain ⟨S', h3, h4⟩ := list_choose S (g := g) fun x hx => h x (List.mem_cons_of_mem _ hx)
    refine ⟨s' :: S', by simp [h1, h3], fun x hx => ?_⟩
    rcases List.mem_cons.1 hx with rfl | hx
    · exact h2
    · exact h4 x hx
theorem effs_cons_float {i k : Nat} {c1 c2 : List (Nat × Nat)} (h : isEff P ops i = false) : effs P ops (c1 ++ (i, k) :: c2) = effs P ops (c1 ++ c2) := by
  unfold effs
  rw [List.map_append, List.map_cons, List.map_append, List.filter_append, List.filter_append, List.filter_cons, if_neg (by rw [h]; simp)]
theorem effs_cons {i k : Nat} {c2 : List (Nat × Nat)} (h : isEff P ops i = true) : effs P ops ((i, k) :: c2) = i :: effs P ops c2 := by
  unfold effs
  rw [List.map_cons, List.filter_cons, if_pos h]
/-- What holds of each order on the way. -/
structure OrdOk (P : Program) (ops : Array Oper) (M : Array Nat) (K : Exit → Act → Heap → Prop) (H0 : Heap) (w0 : World) (listed : Array Bool) (fuel : Nat) (a : Act) (w : World) (s : OrdS) : Prop where
  good : GoodX P ops M (fun _ _ => true) (fun i => listed.getD i false = true) s.c
  eff : EffOk P ops M s.c
  mem : ∀ j, listed.getD j true = false ↔ j ∈ s.c.map (·.1)
  nd : (s.c.map (·.1)).Nodup
  len : s.c.length ≤ fuel
  run : dwp P ops (K .normal) s.c s.hist a s.H
  sat : Sat s.H w
  fr : Fr H0 s.H w0 w
theorem drawn_anyN (hcl : ancClosed ops M = true) (hsel : Region.noSelect ops = true) :
    ∀ (fuel : Nat) (listed : Array Bool) (S : List OrdS) (n : Nat) (a : Act) (w : World), S ≠ [] → (∀ s ∈ S, OrdOk P ops M K H0 w0 listed fuel a w s) → listed.size = ops.size →
      (∀ i, listed.getD i false = true → ∀ x, x < ops.size → anc M x i = true → listed.getD x false = true) → cover P ops M n (S.map fun s => effs P ops s.c) = true →
      wpAny P .any ops (fun e a' w' => ∃ H', K e a' H' ∧ Sat H' w' ∧ Fr H0 H' w0 w') fuel listed a w := by
  intro fuel
  induction fuel with
  | zero =>
    intro listed S n a w hS hok hsz hinv _
    obtain ⟨s, hs⟩ := List.exists_mem_of_ne_nil _ hS
    have o := hok s hs
    have hc : s.c = [] := List.length_eq_zero_iff.1 (by have := o.len; omega)
    have hr := o.run
    rw [hc] at hr
    refine ⟨List.eq_nil_iff_forall_not_mem.2 fun i hi => ?_, s.H, hr, o.sat, o.fr⟩
    have := (o.mem i).1 (mem_ready.1 hi).1
    rw [hc] at this; simp at this
  | succ fuel ih =>
    intro listed S n a w hS hok hsz hinv hcov
    refine ⟨fun hr => ?_, fun i hi => ?_⟩
    · obtain ⟨s, hs⟩ := List.exists_mem_of_ne_nil _ hS
      have o := hok s hs
      cases hc : s.c with
      | nil => have h := o.run; rw [hc] at h; exact ⟨s.H, h, o.sat, o.fr⟩
      | cons x c =>
        exfalso
        obtain ⟨i, k⟩ := x
        obtain ⟨oi, hoi, h1, _⟩ := o.good.good [] i k c hc
        have : i ∈ Region.ready .any ops listed := mem_ready.2 ⟨(o.mem i).2 (by rw [hc]; simp), oi, hoi, fun e he hb => by
          rcases h1 e he hb with h | h
          · exact h
          · simp at h⟩
        rw [hr] at this; cases this
    · obtain ⟨hun, oi, hoi, hpre⟩ := mem_ready.1 hi
      obtain ⟨hinv', hself⟩ := drawn_inv hcl hsz hinv hi
      have hsz' : (listed.setIfInBounds i true).size = ops.size := by simpa using hsz
      have side : ∀ {b1 : List (Nat × Nat)} {kk : Nat}, (∀ x ∈ b1, anc M x.1 i = false) → ((b1.filter fun x => isEff P ops x.1 && !anc M x.1 i).length ≤ kk ∧ ∀ x ∈ b1, anc M x.1 i = true ∨ ∀ ox, ops[x.1]? = some ox → oi.apart ops ox = true) →
          neff P ops b1 ≤ kk ∧ ∀ x ∈ b1, ∀ oj, ops[x.1]? = some oj → oi.apart ops oj = true := fun {b1 kk} hna hfl => by
        refine ⟨?_, fun x hx oj hoj => ?_⟩
        · refine Nat.le_trans (Nat.le_of_eq ?_) hfl.1
          unfold neff
          congr 1
          apply List.filter_congr
          intro x hx
          simp only [isEff, hna x hx, Bool.not_false, Bool.and_true]
          all_goals (cases ops[x.1]? <;> rfl)
        · rcases hfl.2 x hx with h | h
          · rw [hna x hx] at h; cases h
          · exact h oj hoj
      have he : isEff P ops i = !isFloat P oi := by unfold isEff; rw [hoi]
      unfold wpOp
      simp only [hoi]
      by_cases hfi : isFloat P oi = true
      · have hei : isEff P ops i = false := by rw [he, hfi]; rfl
        have step : ∀ s ∈ S, (Region.wanted oi (yielded ops a.tmps) = true → ∃ v, (execOp a.eval oi).run P w = .ok (.value v) w ∧ ∃ s', effs P ops s'.c = effs P ops s.c ∧ OrdOk P ops M K H0 w0 (listed.setIfInBounds i true) fuel (a.put oi.dst v) w s') ∧
            (Region.wanted oi (yielded ops a.tmps) = false → ∃ s', effs P ops s'.c = effs P ops s.c ∧ OrdOk P ops M K H0 w0 (listed.setIfInBounds i true) fuel (a.put oi.dst undef) w s') := by
          intro s hs
          have o := hok s hs
          obtain ⟨oi', k, c1, c2, hc, hoi', hna, hset, hnd'⟩ := drawn_pick hcl o.mem o.nd hsz hinv hi
          rw [hoi] at hoi'; cases hoi'
          obtain ⟨o', ho', _, hfl, _, _⟩ := o.good.good c1 i k c2 hc
          rw [hoi] at ho'; cases ho'
          obtain ⟨n1, p1⟩ := side (fun x hx => hna x (List.mem_append_left _ hx)) (hfl hfi)
          have hrun := o.run
          rw [hc] at hrun
          obtain ⟨r1, r2⟩ := dwp_pull hoi hfi (Region.noSelect_spec hsel) c1 s.hist a s.H ⟨w, o.sat⟩ p1 n1 hrun
          have hg := o.good
          rw [hc] at hg
          have hg' := hg.drop (fun x hx => getD_set_true hx) hself
          have hee := o.eff
          rw [hc] at hee
          have hl := o.len
          rw [hc] at hl
          have hl' : (c1 ++ c2).length ≤ fuel := by simp at hl ⊢; omega
          have hef : effs P ops (c1 ++ c2) = effs P ops s.c := by rw [hc, effs_cons_float hei]
          refine ⟨fun hw => ?_, fun hw => ?_⟩
          · obtain ⟨v, hv, hd⟩ := r1 hw
            exact ⟨v, hv s.H List.mem_cons_self w o.sat, ⟨c1 ++ c2, s.hist, s.H⟩, hef, hg', hee.float hei, hset, hnd', hl', hd, o.sat, o.fr⟩
          · exact ⟨⟨c1 ++ c2, s.hist, s.H⟩, hef, hg', hee.float hei, hset, hnd', hl', r2 hw, o.sat, o.fr⟩
        by_cases hw : Region.wanted oi (yielded ops a.tmps) = true
        · rw [if_pos hw]
          obtain ⟨s0, hs0⟩ := List.exists_mem_of_ne_nil _ hS
          obtain ⟨v, hv, _⟩ := (step s0 hs0).1 hw
          obtain ⟨S', hS', hok'⟩ := list_choose (f := fun s : OrdS => effs P ops s.c) (g := fun s : OrdS => effs P ops s.c) (p := OrdOk P ops M K H0 w0 (listed.setIfInBounds i true) fuel (a.put oi.dst v) w) S fun s hs => by
            obtain ⟨v', hv', s', h1, h2⟩ := (step s hs).1 hw
            rw [hv] at hv'
            injection hv' with hv'
            injection hv' with hv'
            subst hv'
            exact ⟨s', h1, h2⟩
          left
          unfold Oper.wp
          rw [hv]
          exact ih _ S' n _ w (fun e => hS (List.map_eq_nil_iff.1 (hS'.symm.trans (by rw [e]; rfl)))) hok' hsz' hinv' (by rw [hS']; exact hcov)
        · rw [if_neg hw]
          obtain ⟨S', hS', hok'⟩ := list_choose (f := fun s : OrdS => effs P ops s.c) (g := fun s : OrdS => effs P ops s.c) (p := OrdOk P ops M K H0 w0 (listed.setIfInBounds i true) fuel (a.put oi.dst undef) w) S fun s hs => (step s hs).2 (by simpa using hw)
          exact ih _ S' n _ w (fun e => hS (List.map_eq_nil_iff.1 (hS'.symm.trans (by rw [e]; rfl)))) hok' hsz' hinv' (by rw [hS']; exact hcov)
      · have hfi : isFloat P oi = false := by simpa using hfi
        have hei : isEff P ops i = true := by rw [he, hfi]; rfl
        -- the orders that have it next
        have hne : ∀ y, listed.getD y true = false → y < ops.size → anc M y i = true → False := fun y hy hlt h => by
          have hlt' : i < ops.size := (Array.getElem?_eq_some_iff.1 hoi).1
          have h1 := (List.all_eq_true.1 hcl i (by simpa using hlt'))
          have h2 := List.all_eq_true.1 h1 y (by simpa using hlt)
          simp only [h, Bool.not_true, Bool.false_or, hoi] at h2
          obtain ⟨ed, hed, hb⟩ := Array.any_eq_true'.1 h2
          simp only [Bool.and_eq_true, Bool.or_eq_true, beq_iff_eq] at hb
          have hl := hpre ed hed hb.1
          have hle : listed.getD y false = true := by
            rcases hb.2 with h | h
            · rw [← h]; exact hl
            · exact hinv ed.on hl y hlt h
          have hxs : y < listed.size := by omega
          simp [hxs] at hle hy
          rw [hle] at hy; cases hy
        obtain ⟨s0, S1, rfl⟩ : ∃ s0 S1, S = s0 :: S1 := by
          cases S with
          | nil => exact absurd rfl hS
          | cons s0 S1 => exact ⟨s0, S1, rfl⟩
        have o0 := hok s0 List.mem_cons_self
        have hi0 : i ∈ effs P ops s0.c := List.mem_filter.2 ⟨(o0.mem i).1 hun, hei⟩
        obtain ⟨n, rfl⟩ : ∃ m, n = m + 1 := by
          cases n with
          | zero =>
            exfalso
            have hcov : (((s0 :: S1).map fun s => effs P ops s.c).all fun e => e.isEmpty) = true := hcov
            have := List.all_eq_true.1 hcov _ (List.mem_map.2 ⟨s0, List.mem_cons_self, rfl⟩)
            rw [List.isEmpty_iff] at this
            rw [this] at hi0; simp at hi0
          | succ m => exact ⟨m, rfl⟩
        have hcov := List.all_eq_true.1 hcov i hi0
        simp only [Bool.or_eq_true, Bool.and_eq_true] at hcov
        have hcov := hcov.resolve_left fun h => by
          obtain ⟨y, hy, ha⟩ := List.any_eq_true.1 h
          have hyc := (List.mem_filter.1 hy).1
          have hyl : y < ops.size := by
            have h2 := (List.mem_filter.1 hy).2
            unfold isEff at h2
            rcases Nat.lt_or_ge y ops.size with h | h
            · exact h
            · rw [Array.getElem?_eq_none h] at h2; cases h2
          exact hne y ((o0.mem y).2 hyc) hyl ha
        obtain ⟨⟨hcne, hpl⟩, hct⟩ := hcov
        have hsp : ∀ s ∈ s0 :: S1, (effs P ops s.c).head? = some i → ∃ k c2, s.c = (i, k) :: c2 ∧ effs P ops s.c = i :: effs P ops c2 ∧ (Region.wanted oi (yielded ops a.tmps) = true → HOp P oi (fun a' H' => dwp P ops (K .normal) c2 (s.H :: s.hist) a' H') a s.H) ∧
            (Region.wanted oi (yielded ops a.tmps) = false → dwp P ops (K .normal) c2 s.hist (a.put oi.dst undef) s.H) ∧
            ∀ hist' a' H' w', dwp P ops (K .normal) c2 hist' a' H' → Sat H' w' → Fr H0 H' w0 w' → OrdOk P ops M K H0 w0 (listed.setIfInBounds i true) fuel a' w' ⟨c2, hist', H'⟩ := by
          intro s hs hh
          have o := hok s hs
          obtain ⟨oi', k, c1, c2, hc, hoi', hna, hset, hnd'⟩ := drawn_pick hcl o.mem o.nd hsz hinv hi
          rw [hoi] at hoi'; cases hoi'
          have hee := o.eff
          rw [hc] at hee
          have hno : ∀ x ∈ c1, isEff P ops x.1 = false := by
            intro x hx
            cases hxe : isEff P ops x.1 with
            | false => rfl
            | true =>
              exfalso
              have h1 : effs P ops s.c = effs P ops c1 ++ effs P ops ((i, k) :: c2) := by rw [hc]; unfold effs; rw [List.map_append, List.filter_append]
              have hx1 : x.1 ∈ effs P ops c1 := List.mem_filter.2 ⟨List.mem_map.2 ⟨x, hx, rfl⟩, hxe⟩
              cases hc1 : effs P ops c1 with
              | nil => rw [hc1] at hx1; simp at hx1
              | cons y l =>
                rw [h1, hc1] at hh
                simp only [List.cons_append, List.head?_cons, Option.some.injEq] at hh
                have hy' : y ∈ effs P ops c1 := by rw [hc1]; exact List.mem_cons_self
                have hy : y ∈ c1.map (·.1) := (List.mem_filter.1 hy').1
                have hnd := o.nd
                rw [hc, List.map_append, List.map_cons] at hnd
                obtain ⟨_, _, n3⟩ := List.nodup_append.1 hnd
                exact n3 _ hy _ List.mem_cons_self hh
          have hc1 : c1 = [] := by
            cases c1 with
            | nil => rfl
            | cons x c1 =>
              exfalso
              rcases hee (x :: c1) i k c2 rfl hei x List.mem_cons_self with h | ⟨e, h1, h2, _⟩
              · rw [hna x (by simp)] at h; cases h
              · rw [hno e h1] at h2; cases h2
          subst hc1
          simp only [List.nil_append] at hc hset hnd' hna
          have hrun := o.run
          rw [hc] at hrun
          simp only [List.nil_append] at hee
          unfold dwp at hrun
          simp only [hoi] at hrun
          have hg := o.good
          rw [hc] at hg
          have hg' := GoodX.drop (a := []) hg (fun x hx => getD_set_true hx) hself
          have hl := o.len
          rw [hc] at hl
          have hl' : c2.length ≤ fuel := by simp at hl; omega
          have hnn : ∀ x ∈ c2, x.1 ≠ i ∧ anc M x.1 i = false := fun x hx => ⟨fun e => by
            have hnd := o.nd
            rw [hc, List.map_cons, List.nodup_cons] at hnd
            exact hnd.1 (List.mem_map.2 ⟨x, hx, e⟩), hna x (List.mem_cons_of_mem _ hx)⟩
          refine ⟨k, c2, hc, by rw [hc, effs_cons hei], fun hw => ?_, fun hw => ?_, fun hist' a' H' w' hd hs' hf' => ⟨hg', EffOk.front hee hnn, hset, hnd', hl', hd, hs', hf'⟩⟩
          · rw [if_pos hw, if_neg (by rw [hfi]; simp)] at hrun
            exact hrun
          · rw [if_neg (by rw [hw]; simp)] at hrun
            exact hrun
        have hcm : ((List.map (fun s : OrdS => effs P ops s.c) (s0 :: S1)).filter fun e => e.head? == some i) = ((s0 :: S1).filter fun s : OrdS => (effs P ops s.c).head? == some i).map fun s : OrdS => effs P ops s.c := by
          rw [List.filter_map]; rfl
        have hcm' : ∀ l, l = (List.map (fun s : OrdS => effs P ops s.c) (s0 :: S1)) → (l.filter fun e => e.head? == some i) = ((s0 :: S1).filter fun s : OrdS => (effs P ops s.c).head? == some i).map fun s : OrdS => effs P ops s.c := fun l h => by rw [h]; exact hcm
        rw [hcm' _ rfl] at hcne hpl hct
        generalize hS2 : ((s0 :: S1).filter fun s : OrdS => (effs P ops s.c).head? == some i) = S2 at hcne hpl hct
        have hm2 : ∀ s ∈ S2, s ∈ s0 :: S1 ∧ (effs P ops s.c).head? = some i := fun s hs => by
          rw [← hS2] at hs
          obtain ⟨h1, h2⟩ := List.mem_filter.1 hs
          exact ⟨h1, by simpa using h2⟩
        have hS2n : S2 ≠ [] := fun e => by rw [e] at hcne; simp at hcne
        have hmt : ((S2.map fun s : OrdS => effs P ops s.c).map List.tail) = S2.map fun s : OrdS => (effs P ops s.c).tail := by rw [List.map_map]; rfl
        rw [hmt] at hct
        by_cases hw : Region.wanted oi (yielded ops a.tmps) = true
        · rw [if_pos hw]
          left
          rcases hpl with hp | h1
          · have hp : plainEff oi = true := by
              have : ops.getD i default = oi := by simp [hoi]
              rw [this] at hp; exact hp
            obtain ⟨s1, hs1⟩ := List.exists_mem_of_ne_nil _ hS2n
            obtain ⟨k1, d1, _, _, ho1, _⟩ := hsp s1 (hm2 s1 hs1).1 (hm2 s1 hs1).2
            have h1 := ho1 hw w (hok s1 (hm2 s1 hs1).1).sat
            unfold Oper.wp
            rcases plainEff_run (P := P) hp a.eval w with ⟨v, w', hr⟩ | ⟨w', hr⟩ | ⟨x, w', hr⟩
            · rw [hr]
              obtain ⟨S', hS', hok'⟩ := list_choose (f := fun s : OrdS => effs P ops s.c) (g := fun s : OrdS => (effs P ops s.c).tail) (p := OrdOk P ops M K H0 w0 (listed.setIfInBounds i true) fuel (a.put oi.dst v) w') S2 fun s hs => by
                obtain ⟨k2, d2, _, he2, ho2, _, hk2⟩ := hsp s (hm2 s hs).1 (hm2 s hs).2
                have o := hok s (hm2 s hs).1
                have h2 := ho2 hw w o.sat
                rw [hr] at h2
                obtain ⟨H', hd', hs', hf'⟩ := h2
                exact ⟨⟨d2, s.H :: s.hist, H'⟩, by rw [he2]; rfl, hk2 _ _ H' w' hd' hs' (o.fr.trans hf')⟩
              exact ih _ S' n _ w' (fun e => hS2n (List.map_eq_nil_iff.1 (hS'.symm.trans (by rw [e]; rfl)))) hok' hsz' hinv' (by rw [hS']; exact hct)
            · rw [hr]
              obtain ⟨S', hS', hok'⟩ := list_choose (f := fun s : OrdS => effs P ops s.c) (g := fun s : OrdS => (effs P ops s.c).tail) (p := OrdOk P ops M K H0 w0 (listed.setIfInBounds i true) fuel (a.put oi.dst undef) w') S2 fun s hs => by
                obtain ⟨k2, d2, _, he2, ho2, _, hk2⟩ := hsp s (hm2 s hs).1 (hm2 s hs).2
                have o := hok s (hm2 s hs).1
                have h2 := ho2 hw w o.sat
                rw [hr] at h2
                obtain ⟨H', hd', hs', hf'⟩ := h2
                exact ⟨⟨d2, s.H :: s.hist, H'⟩, by rw [he2]; rfl, hk2 _ _ H' w' hd' hs' (o.fr.trans hf')⟩
              exact ih _ S' n _ w' (fun e => hS2n (List.map_eq_nil_iff.1 (hS'.symm.trans (by rw [e]; rfl)))) hok' hsz' hinv' (by rw [hS']; exact hct)
            · rw [hr] at h1; exact h1.elim
          · obtain ⟨s1, rfl⟩ : ∃ s1, S2 = [s1] := by
              have h2 := of_decide_eq_true h1
              rw [List.length_map] at h2
              match S2, hS2n, h2 with
              | [s1], _, _ => exact ⟨s1, rfl⟩
              | _ :: _ :: _, _, h => simp at h
            obtain ⟨k2, d2, _, he2, ho2, _, hk2⟩ := hsp s1 (hm2 s1 (by simp)).1 (hm2 s1 (by simp)).2
            have o := hok s1 (hm2 s1 (by simp)).1
            refine Oper.wp_mono ?_ ((ho2 hw).wp o.sat)
            rintro a' w' ⟨H', hd', hs', hf'⟩
            refine ih _ [⟨d2, s1.H :: s1.hist, H'⟩] n a' w' (by simp) (fun s hs => ?_) hsz' hinv' ?_
            · rw [List.mem_singleton.1 hs]; exact hk2 _ _ H' w' hd' hs' (o.fr.trans hf')
            · have e : (effs P ops s1.c).tail = effs P ops d2 := by rw [he2]; rfl
              simp only [List.map_cons, List.map_nil, e] at hct ⊢
              exact hct
        · rw [if_neg hw]
          obtain ⟨S', hS', hok'⟩ := list_choose (f := fun s : OrdS => effs P ops s.c) (g := fun s : OrdS => (effs P ops s.c).tail) (p := OrdOk P ops M K H0 w0 (listed.setIfInBounds i true) fuel (a.put oi.dst undef) w) S2 fun s hs => by
            obtain ⟨k2, d2, _, he2, _, ho2, hk2⟩ := hsp s (hm2 s hs).1 (hm2 s hs).2
            have o := hok s (hm2 s hs).1
            exact ⟨⟨d2, s.hist, s.H⟩, by rw [he2]; rfl, hk2 _ _ s.H w (ho2 (by simpa using hw)) o.sat o.fr⟩
          exact ih _ S' n _ w (fun e => hS2n (List.map_eq_nil_iff.1 (hS'.symm.trans (by rw [e]; rfl)))) hok' hsz' hinv' (by rw [hS']; exact hct)
def canonOkN (P : Program) (ops : Array Oper) (M : Array Nat) (cs : List (List (Nat × Nat))) : Bool :=
  ancClosed ops M && !cs.isEmpty && (cs.all fun c => canonFromX P ops M (fun _ _ => true) [] c && ((List.range ops.size).all fun j => (c.map (·.1)).contains j) && (c.all fun x => decide (x.1 < ops.size)) && decide (c.length ≤ ops.size) && effOkB P ops M [] c) && Region.noSelect ops && cover P ops M ops.size (cs.map fun c => effs P ops c)
theorem HWp.drawnN {id : Nat} {cs : List (List (Nat × Nat))} {a : Act} {H : Heap} (hm : P.follows .mixedOrders = true) (hc : canonOkN P ops M cs = true) (h : ∀ c ∈ cs, dwp P ops (K .normal) c [] a H) : HWp P (.region id ops true) K a H := by
  intro w hs
  unfold canonOkN at hc
  simp only [Bool.and_eq_true] at hc
  obtain ⟨⟨⟨⟨h1, h2⟩, h3⟩, h5⟩, h6⟩ := hc
  refine wp_region_any hm ?_
  have hrep : ∀ j d, (Array.replicate ops.size false).getD j d = if j < ops.size then false else d := fun j d => by
    by_cases e : j < ops.size <;> simp [e]
  refine drawn_anyN (M := M) h1 h5 ops.size _ (cs.map fun c => (⟨c, [], H⟩ : OrdS)) ops.size a _ (fun e => ?_) (fun s hs' => ?_) (by simp) (fun i hi => ?_) ?_
  · rw [List.map_eq_nil_iff] at e
    rw [e] at h2; simp at h2
  · obtain ⟨c, hc, rfl⟩ := List.mem_map.1 hs'
    have hq := List.all_eq_true.1 h3 c hc
    simp only [Bool.and_eq_true] at hq
    obtain ⟨⟨⟨⟨q1, q2⟩, q3⟩, q4⟩, q5⟩ := hq
    have hgd := good_of_checkX c [] q1
    have hmem : ∀ j, j < ops.size ↔ j ∈ c.map (·.1) := fun j => by
      constructor
      · intro hj
        simpa using List.all_eq_true.1 q2 j (by simpa using hj)
      · intro hj
        obtain ⟨x, hx, rfl⟩ := List.mem_map.1 hj
        simpa using List.all_eq_true.1 q3 x hx
    have hnd : (c.map (·.1)).Nodup := by
      have : ∀ (c : List (Nat × Nat)) (pre : List Nat), canonFromX P ops M (fun _ _ => true) pre c = true → (c.map (·.1)).Nodup ∧ ∀ x ∈ c.map (·.1), x ∉ pre := by
        intro c
        induction c with
        | nil => intro pre _; simp
        | cons x c ih =>
          obtain ⟨j, kj⟩ := x
          intro pre h
          unfold canonFromX at h
          simp only [Bool.and_eq_true] at h
          obtain ⟨⟨_, hnc⟩, h2⟩ := h
          obtain ⟨i1, i2⟩ := ih _ h2
          refine ⟨?_, ?_⟩
          · simp only [List.map_cons, List.nodup_cons]
            exact ⟨fun hm => by have := i2 _ hm; simp at this, i1⟩
          · intro x hx
            simp only [List.map_cons, List.mem_cons] at hx
            rcases hx with rfl | hx
            · simpa using hnc
            · have := i2 _ hx; simp at this; exact this.1
      exact (this c [] q1).1
    refine ⟨?_, EffOk.of c q5, fun j => ?_, hnd, of_decide_eq_true q4, h c hc, hs, ⟨rfl, rfl, rfl, Nat.le_refl _, fun _ _ _ => rfl, fun _ h h' => absurd h h'⟩⟩
    · constructor
      intro c1 i k c2 he
      obtain ⟨o, ho, g1, g2, g3, g4⟩ := hgd c1 i k c2 he
      simp only [List.nil_append] at g1 g2 g3 g4
      refine ⟨o, ho, fun e he hb => .inr (g1 e he hb), fun hf => ⟨?_, fun x hx => ?_⟩, fun _ _ _ => .inr rfl, g4⟩
      · have := (g2 hf).1
        rw [List.filter_map, List.length_map] at this
        exact this
      · exact (g2 hf).2 _ (List.mem_map.2 ⟨x, hx, rfl⟩)
    · rw [hrep, ← hmem]
      by_cases e : j < ops.size <;> simp [e]
  · rw [hrep] at hi
    by_cases e : i < ops.size <;> simp [e] at hi
  · rw [List.map_map]
    exact h6
end
end Go.Proofs.YtfcmjomnpahllaaGreat.Hv
end
section
namespace Go.Proofs.YtfcmjomnpahllaaGreat.Hv
open Go
set_option linter.unusedVariables false
set_option linter.unusedSimpArgs false

/-! ## Words at which the evaluation of code stands -/
structure HReq (p : Prop) (K : Prop) : Prop where
  pre : p
  post : K
/-- A test. (By 'match': where the test is a literal the evaluation goes on by itself.) -/
def hcond (t : Bool) (K : Bool → Prop) : Prop := Bool.rec (motive := fun _ => Prop) (K false) (K true) t
theorem hif {t : Bool} {A B : Prop} (h1 : t = true → A) (h2 : t = false → B) : Bool.rec (motive := fun _ => Prop) B A t := by cases t <;> simp_all
theorem hcond_intro {t : Bool} {K : Bool → Prop} (h1 : t = true → K true) (h2 : t = false → K false) : hcond t K := by
  cases t <;> simp_all [hcond]
theorem hcond_t {t : Bool} {K : Bool → Prop} (h : t = true) (h1 : K true) : hcond t K := by subst h; exact h1
theorem hcond_f {t : Bool} {K : Bool → Prop} (h : t = false) (h1 : K false) : hcond t K := by subst h; exact h1
theorem hcond_elim {t : Bool} {K : Bool → Prop} (h : hcond t K) : K t := by cases t <;> exact h
/-- A cell is read: in every heap of the window it holds the same. -/
structure HLoad (Hs : List Heap) (a : Addr) (K : Value → Prop) : Prop where
  ex : ∃ v, (∀ H ∈ Hs, H.cell? a = some v) ∧ K v
structure HLoadN (Hs : List Heap) (b off n : Nat) (K : List Value → Prop) : Prop where
  ex : ∃ vs : List Value, (∀ H ∈ Hs, ∀ i v, vs[i]? = some v → H.cell? ⟨b, off + i, none⟩ = some v) ∧ vs.length = n ∧ K vs
/-- Bytes are read as a string. -/
structure HBytes (Hs : List Heap) (a : Option Addr) (len : Nat) (K : ByteArray → Prop) : Prop where
  ex : ∃ s : ByteArray, s.size = len ∧ (a = none → len = 0) ∧ (∀ H ∈ Hs, ∀ i v, s.data.toList[i]? = some v → ∀ p, a = some p → H.cell? (p.add i) = some (.int .u8 v.toNat)) ∧ K s

/-! Laying values into a row, on lists (so that it unfolds by itself). -/
def nth {α : Type} : List α → Nat → Option α
  | [], _ => none
  | x :: _, 0 => some x
  | _ :: l, i + 1 => nth l i
theorem nth_eq {α : Type} : ∀ (l : List α) (i : Nat), nth l i = l[i]?
  | [], i => by simp [nth]
  | x :: l, 0 => rfl
  | x :: l, i + 1 => by simp [nth, nth_eq l i]
def putL : List Value → Nat → List Value → List Value
  | cells, _, [] => cells
  | [], _, _ => []
  | c :: cells, off + 1, vs => c :: putL cells off vs
  | c :: cells, 0, v :: vs => v :: putL cells 0 vs
theorem putL_set : ∀ (cells : List Value) (off : Nat) (v : Value) (vs : List Value), putL cells off (v :: vs) = putL (cells.set off v) (off + 1) vs
  | [], off, v, vs => by cases off <;> cases vs <;> simp [putL]
  | c :: cells, 0, v, vs => by
    cases vs with
    | nil => cases cells <;> simp [putL]
    | cons u us => simp [putL]
  | c :: cells, off + 1, v, vs => by
    have := putL_set cells off v vs
    cases vs with
    | nil => simp only [putL, List.set_cons_succ] at this ⊢; rw [this]
    | cons u us => simp only [putL, List.set_cons_succ] at this ⊢; rw [this]
theorem fold_put : ∀ (vs : List Value) (k off : Nat) (cells : Array Value), (vs.zipIdx k).foldl (fun cs (c, j) => cs.setIfInBounds (off + j) c) cells = (putL cells.toList (off + k) vs).toArray
  | [], k, off, cells => by
    have : putL cells.toList (off + k) [] = cells.toList := by cases cells.toList <;> cases (off + k) <;> rfl
    simp [this]
  | v :: vs, k, off, cells => by
    rw [List.zipIdx_cons, List.foldl_cons, fold_put vs (k + 1) off, putL_set]
    simp [Nat.add_assoc]
theorem putL_length : ∀ (cells : List Value) (off : Nat) (vs : List Value), (putL cells off vs).length = cells.length
  | [], off, [] => by cases off <;> rfl
  | [], off, _ :: _ => by cases off <;> rfl
  | c :: cells, 0, [] => rfl
  | c :: cells, off + 1, [] => rfl
  | c :: cells, 0, v :: vs => by simp [putL, putL_length cells 0 vs]
  | c :: cells, off + 1, v :: vs => by simp [putL, putL_length cells off (v :: vs)]
def fillL (place : Nat → Option (Nat × Nat)) (cells : List Value) : List (Nat × Value) → Option (List Value)
  | [] => some cells
  | (i, v) :: rest => match place i with
    | none => none
    | some (off, size) => cond (Nat.beq v.cells.toList.length size) (cond (Nat.ble (off + v.cells.toList.length) cells.length) (fillL place (putL cells off v.cells.toList) rest) none) none
theorem fillL_eq (place : Nat → Option (Nat × Nat)) : ∀ (parts : List (Nat × Value)) (cells : Array Value), (Instr.fill place cells parts) = (fillL place cells.toList parts).map List.toArray
  | [], cells => by simp [fillL, Instr.fill]
  | (i, v) :: rest, cells => by
    unfold fillL Instr.fill
    cases place i with
    | none => rfl
    | some p =>
      obtain ⟨off, size⟩ := p
      dsimp only
      rw [Array.length_toList, Array.length_toList]
      by_cases h1 : v.cells.size = size
      · have e1 : Nat.beq v.cells.size size = true := by rw [h1]; exact Nat.beq_refl _
        rw [e1, cond_true]
        by_cases h2 : off + v.cells.size ≤ cells.size
        · have e2 : Nat.ble (off + v.cells.size) cells.size = true := Nat.ble_eq.mpr h2
          rw [e2, cond_true, if_neg (by simp [h1]; omega)]
          have f1 := fold_put v.cells.toList 0 off cells
          rw [Nat.add_zero] at f1
          have f2 : v.cells.zipIdx.foldl (fun cs (c, j) => cs.setIfInBounds (off + j) c) cells = (putL cells.toList off v.cells.toList).toArray := by
            rw [← f1, ← Array.toList_zipIdx, Array.foldl_toList]
          refine Eq.trans (congrArg (fun x => Instr.fill place x rest) f2) ?_
          rw [fillL_eq place rest]
        · have e2 : Nat.ble (off + v.cells.size) cells.size = false := Bool.eq_false_iff.2 fun e => h2 (Nat.le_of_ble_eq_true e)
          rw [e2, cond_false, if_pos (by simp; omega)]; rfl
      · have e1 : Nat.beq v.cells.size size = false := Bool.eq_false_iff.2 fun e => h1 (Nat.eq_of_beq_eq_true e)
        rw [e1, cond_false, if_pos (by simp [h1])]; rfl
def repL : Nat → List Value → List Value
  | 0, _ => []
  | n + 1, l => l ++ repL n l
theorem repL_length : ∀ (n : Nat) (l : List Value), (repL n l).length = n * l.length
  | 0, l => by simp [repL]
  | n + 1, l => by simp [repL, repL_length n l, Nat.add_mul, Nat.add_comm]
theorem repL_get : ∀ (n : Nat) (l : List Value) (i : Nat), i < n * l.length → (repL n l)[i]? = l[i % l.length]?
  | 0, l, i, h => by simp at h
  | n + 1, l, i, h => by
    unfold repL
    by_cases hi : i < l.length
    · rw [List.getElem?_append_left hi, Nat.mod_eq_of_lt hi]
    · rw [List.getElem?_append_right (by omega)]
      have hl : i - l.length < n * l.length := by rw [Nat.add_mul, Nat.one_mul] at h; omega
      rw [repL_get n l _ hl, ← Nat.mod_eq_sub_mod (by omega)]
theorem row_eq (n : Nat) (zero : Array Value) : (Array.range (n * zero.size)).map (zero[· % zero.size]!) = (repL n zero.toList).toArray := by
  apply Array.ext
  · simp [repL_length]
  · intro i h1 h2
    simp at h1
    have hz : 0 < zero.size := by
      rcases Nat.eq_zero_or_pos zero.size with h | h
      · rw [h, Nat.mul_zero] at h1; omega
      · exact h
    have hm : i % zero.size < zero.size := Nat.mod_lt _ hz
    have := repL_get n zero.toList i (by simpa using h1)
    rw [List.getElem?_eq_getElem (by simpa [repL_length] using h1)] at this
    simp only [Array.length_toList] at this
    rw [Array.getElem?_toList, Array.getElem?_eq_getElem hm] at this
    simp only [Option.some.injEq] at this
    simp [this, hm]
def builtL (P : Program) (t : TypeId) (parts : List (Nat × Value)) : Option (List Value) :=
  match P.info? t, P.underlying t with
  | some it, some (.array _ e) =>
    match it.zero, P.info? e with
    | some z, some ie => fillL (fun i => some (i * ie.size, ie.size)) z.cells.toList parts
    | _, _ => none
  | some it, some (.struct fields) =>
    match it.zero, fields.toList.mapM (fun f => (P.info? f.type).map fun i => (f.offset, i.size)) with
    | some z, some places => fillL (fun i => nth places i) z.cells.toList parts
    | _, _ => none
  | _, _ => none
theorem builtL_eq (P : Program) (t : TypeId) (parts : List (Nat × Value)) : P.built t parts = (builtL P t parts).map List.toArray := by
  unfold Program.built builtL
  cases h1 : P.info? t with
  | none => rfl
  | some it =>
    cases h2 : P.underlying t with
    | none => rfl
    | some td =>
      cases td with
      | array n e =>
        dsimp only
        cases h3 : it.zero with
        | none => rfl
        | some z =>
          cases h4 : P.info? e with
          | none => rfl
          | some ie => exact fillL_eq _ _ _
      | struct fields =>
        dsimp only
        cases h3 : it.zero with
        | none => rfl
        | some z =>
          cases h4 : fields.toList.mapM (fun f => (P.info? f.type).map fun i => (f.offset, i.size)) with
          | none => rfl
          | some places =>
            refine Eq.trans (congrArg (fun f => Instr.fill f z.cells parts) ?_) (fillL_eq _ _ _)
            funext i
            rw [nth_eq]; simp
      | _ => rfl

/-! Sealed words: no unfolding comes behind them ('whnf' at large numerals never ends); each has its equation. -/
noncomputable def wr (k : IntKind) (n : Int) : Int := (Classical.choose (⟨_, rfl⟩ : ∃ f : IntKind → Int → Int, f = IntKind.wrap)) k n
theorem wr_eq (k : IntKind) (n : Int) : wr k n = k.wrap n := congrFun (congrFun (Classical.choose_spec (⟨_, rfl⟩ : ∃ f : IntKind → Int → Int, f = IntKind.wrap)) k) n
noncomputable def bitsS (op : BinOp) (k : IntKind) (x y : Int) : Int := (Classical.choose (⟨_, rfl⟩ : ∃ f : BinOp → IntKind → Int → Int → Int, f = bits)) op k x y
theorem bitsS_eq (op : BinOp) (k : IntKind) (x y : Int) : bitsS op k x y = bits op k x y := congrFun (congrFun (congrFun (congrFun (Classical.choose_spec (⟨_, rfl⟩ : ∃ f : BinOp → IntKind → Int → Int → Int, f = bits)) op) k) x) y
noncomputable def ltB (a b : Int) : Bool := (Classical.choose (⟨_, rfl⟩ : ∃ f : Int → Int → Bool, f = fun a b => decide (a < b))) a b
theorem ltB_eq (a b : Int) : ltB a b = decide (a < b) := congrFun (congrFun (Classical.choose_spec (⟨_, rfl⟩ : ∃ f : Int → Int → Bool, f = fun a b => decide (a < b))) a) b
noncomputable def eqB (a b : Int) : Bool := (Classical.choose (⟨_, rfl⟩ : ∃ f : Int → Int → Bool, f = fun a b => a == b)) a b
theorem eqB_eq (a b : Int) : eqB a b = (a == b) := congrFun (congrFun (Classical.choose_spec (⟨_, rfl⟩ : ∃ f : Int → Int → Bool, f = fun a b => a == b)) a) b
noncomputable def seqB (a b : ByteArray) : Bool := (Classical.choose (⟨_, rfl⟩ : ∃ f : ByteArray → ByteArray → Bool, f = fun a b => a.toList == b.toList)) a b
theorem seqB_eq (a b : ByteArray) : seqB a b = (a.toList == b.toList) := congrFun (congrFun (Classical.choose_spec (⟨_, rfl⟩ : ∃ f : ByteArray → ByteArray → Bool, f = fun a b => a.toList == b.toList)) a) b
noncomputable def sltB (a b : ByteArray) : Bool := (Classical.choose (⟨_, rfl⟩ : ∃ f : ByteArray → ByteArray → Bool, f = fun a b => Op.bytesLess a.toList b.toList)) a b
theorem sltB_eq (a b : ByteArray) : sltB a b = Op.bytesLess a.toList b.toList := congrFun (congrFun (Classical.choose_spec (⟨_, rfl⟩ : ∃ f : ByteArray → ByteArray → Bool, f = fun a b => Op.bytesLess a.toList b.toList)) a) b
noncomputable def shlS (k : IntKind) (a b : Int) : Int := (Classical.choose (⟨_, rfl⟩ : ∃ f : IntKind → Int → Int → Int, f = fun k a b => k.wrap (a * 2 ^ (min b.toNat k.bits)))) k a b
theorem shlS_eq (k : IntKind) (a b : Int) : shlS k a b = k.wrap (a * 2 ^ (min b.toNat k.bits)) := congrFun (congrFun (congrFun (Classical.choose_spec (⟨_, rfl⟩ : ∃ f : IntKind → Int → Int → Int, f = fun k a b => k.wrap (a * 2 ^ (min b.toNat k.bits)))) k) a) b
noncomputable def shrS (k : IntKind) (a b : Int) : Int := (Classical.choose (⟨_, rfl⟩ : ∃ f : IntKind → Int → Int → Int, f = fun k a b => a.fdiv (2 ^ (min b.toNat k.bits)))) k a b
theorem shrS_eq (k : IntKind) (a b : Int) : shrS k a b = a.fdiv (2 ^ (min b.toNat k.bits)) := congrFun (congrFun (congrFun (Classical.choose_spec (⟨_, rfl⟩ : ∃ f : IntKind → Int → Int → Int, f = fun k a b => a.fdiv (2 ^ (min b.toNat k.bits)))) k) a) b
/-- A bound, sealed. -/
def cap48 : Int := 2 ^ 48
def cap63 : Int := 2 ^ 63
def cap24 : Nat := 2 ^ 24

/-- Read by the model's own program s: in every heap of the window it yields the same. -/
structure HRd (P : Program) (s : Sem Value) (Hs : List Heap) (K : Value → Prop) : Prop where
  ex : ∃ v, (∀ H ∈ Hs, Rds P s H v) ∧ K v

def forceL : List Value → (List Value → Prop) → Prop
  | [], k => k []
  | v :: l, k => forceL l fun l' => k (v :: l')
theorem forceL_iff (l : List Value) (k : List Value → Prop) : forceL l k ↔ k l := by
  induction l generalizing k with
  | nil => exact Iff.rfl
  | cons v l ih => exact ih _

def isAggB (P : Program) (t : TypeId) : Option Bool :=
  match P.underlying t with
  | some (.struct _) | some (.array _ _) => some true
  | some _ => some false
  | none => none
def offMul (i s : Nat) : Nat := match s with | 1 => i | s => i * s
theorem offMul_eq (i s : Nat) : offMul i s = i * s := by unfold offMul; split <;> simp
def slAddr (a : Option Addr) (l cap size : Nat) : Option Addr := if cap = l then a else a.map (·.add (l * size))
def byteAt (s : ByteArray) (i : Int) : Int := (s.data.toList.getD i.toNat 0).toNat

/-- Another comparison: what the model's own program yields. -/
structure HBin (P : Program) (op : BinOp) (t : TypeId) (x y : Operand) (u v : Value) (K : Value → Prop) : Prop where
  ex : ∃ r, K r ∧ ∀ w, (do eqGuard op t x y u v; binOp op t u v : Sem Value).run P w = .ok r w
def fbin (P : Program) (op : BinOp) (t : TypeId) (x y : Operand) (K : Value → Prop) : Value → Value → Prop
  | .int k a, .int k' b =>
    match op with
    | .shl => HReq (0 ≤ b) (K (.int k (shlS k a b)))
    | .shr => HReq (0 ≤ b) (K (.int k (shrS k a b)))
    | op => cond (decide (k = k')) (match op with
      | .add => K (.int k (wr k (a + b)))
      | .sub => K (.int k (wr k (a - b)))
      | .mul => K (.int k (wr k (a * b)))
      | .quo => HReq (b ≠ 0) (K (.int k (wr k (a.tdiv b))))
      | .rem => HReq (b ≠ 0) (K (.int k (a.tmod b)))
      | .and => K (.int k (bitsS .and k a b))
      | .or => K (.int k (bitsS .or k a b))
      | .xor => K (.int k (bitsS .xor k a b))
      | .andNot => K (.int k (bitsS .andNot k a b))
      | .eql => K (.bool (eqB a b))
      | .neq => K (.bool (!eqB a b))
      | .lss => K (.bool (ltB a b))
      | .leq => K (.bool (!ltB b a))
      | .gtr => K (.bool (ltB b a))
      | .geq => K (.bool (!ltB a b))
      | _ => False) False
  | .string a, .string b =>
    match op with
    | .add => HReq (((a.size + b.size : Nat) : Int) ≤ 9223372036854775807) (K (.string (a ++ b)))
    | .eql => K (.bool (seqB a b))
    | .neq => K (.bool (!seqB a b))
    | .lss => K (.bool (sltB a b))
    | .leq => K (.bool (sltB a b || seqB a b))
    | .gtr => K (.bool (!(sltB a b || seqB a b)))
    | .geq => K (.bool (!sltB a b))
    | _ => False
  | .bool a, .bool b =>
    match P.underlying t, op with
    | some .bool, .eql => K (.bool (a == b))
    | some .bool, .neq => K (.bool (!(a == b)))
    | _, _ => False
  | .pointer a, .pointer none =>
    match P.underlying t, op with
    | some (.pointer _), .eql => K (.bool a.isNone)
    | some (.pointer _), .neq => K (.bool (!a.isNone))
    | _, _ => False
  | .slice a _ _, .slice none _ _ =>
    match P.underlying t, op with
    | some (.slice _), .eql => K (.bool a.isNone)
    | some (.slice _), .neq => K (.bool (!a.isNone))
    | _, _ => False
  | u, v => HBin P op t x y u v K

def fconv (P : Program) (Hs : List Heap) (src dst : TypeId) (v : Value) (K : Value → Prop) : Prop :=
  match P.underlying src, P.underlying dst, v with
  | some _, some (.int k), .int _ n => K (.int k (wr k n))
  | some _, some .string, .string s => K (.string s)
  | some (.slice e), some .string, .slice a len _ =>
    match P.underlying e with
    | some (.int .u8) => HBytes Hs a len fun s => K (.string s)
    | _ => False
  | _, _, _ => False

def fslice (P : Program) (t : TypeId) (v : Value) (lo hi : Option Value) (K : Value → Prop) : Prop :=
  match P.underlying t, v with
  | some .string, .string s =>
    (match hi with
      | none => fun (k : Nat → Prop) => k s.size
      | some (.int _ h) => fun k => HReq (0 ≤ h ∧ h ≤ s.size) (k h.toNat)
      | _ => fun _ => False) fun h =>
    (match lo with
      | none => fun (k : Nat → Prop) => k 0
      | some (.int _ l) => fun k => HReq (0 ≤ l ∧ l ≤ h) (k l.toNat)
      | _ => fun _ => False) fun l => K (.string (s.extract l h))
  | some (.slice e), .slice a len cap =>
    match P.info? e with
    | none => False
    | some ie =>
      (match hi with
        | none => fun (k : Nat → Prop) => k len
        | some (.int _ h) => fun k => HReq (0 ≤ h ∧ h ≤ cap) (k h.toNat)
        | _ => fun _ => False) fun h =>
      (match lo with
        | none => K (.slice a h cap)
        | some (.int _ l) => HReq (0 ≤ l ∧ l ≤ h) (K (.slice (slAddr a l.toNat cap ie.size) (h - l.toNat) (cap - l.toNat)))
        | _ => False)
  | _, _ => False

/-- s[l:h:m] -/
def fslice3 (P : Program) (t : TypeId) (v : Value) (lo hi : Option Value) (mx : Value) (K : Value → Prop) : Prop :=
  match P.underlying t, v with
  | some (.slice e), .slice a _ cap =>
    match P.info? e, lo, hi, mx with
    | some ie, some (.int _ l), some (.int _ h), .int _ m => HReq ((0 ≤ m ∧ m ≤ cap) ∧ (0 ≤ h ∧ h ≤ m.toNat) ∧ (0 ≤ l ∧ l ≤ h.toNat)) (K (.slice (slAddr a l.toNat m.toNat ie.size) (h.toNat - l.toNat) (m.toNat - l.toNat)))
    | some ie, none, some (.int _ h), .int _ m => HReq ((0 ≤ m ∧ m ≤ cap) ∧ (0 ≤ h ∧ h ≤ m.toNat)) (K (.slice a h.toNat m.toNat))
    | _, _, _, _ => False
  | _, _ => False

def fpart (P : Program) (t : TypeId) (cs : List Value) (off : Nat) (K : Value → Prop) : Prop :=
  match isAggB P t, P.info? t with
  | some true, some i => forceL ((cs.drop off).take i.size) fun l => K (.agg l.toArray)
  | some false, _ => (match cs[off]? with | some v => K v | none => False)
  | _, _ => False

def findex (P : Program) (t : TypeId) (vx vi : Value) (K : Value → Prop) : Prop :=
  match P.underlying t, vx, vi with
  | some .string, .string s, .int _ i => HReq (0 ≤ i ∧ i < s.size) (K (.int .u8 (byteAt s i)))
  | some (.array n e), .agg cs, .int _ i =>
    (match isAggB P e with
      | some false => HReq (0 ≤ i ∧ i < n ∧ i < cs.size ∧ P.cellsOf e = 1 ∧ (P.info? e).isSome = true) (K (cs.toList.getD i.toNat undef))
      | _ => False)
  | _, _, _ => False

def findexAddr (P : Program) (t : TypeId) (vx vi : Value) (K : Value → Prop) : Prop :=
  match P.underlying t, vx, vi with
  | some (.slice e), .slice (some ⟨b, off, none⟩) len _, .int _ i =>
    (match P.info? e with
      | some ie => HReq (0 ≤ i ∧ i < len) (K (.pointer (some ⟨b, off + offMul i.toNat ie.size, none⟩)))
      | none => False)
  | some (.array n e), .pointer (some ⟨b, off, none⟩), .int _ i =>
    (match P.info? e with
      | some ie => HReq (0 ≤ i ∧ i < n) (K (.pointer (some ⟨b, off + offMul i.toNat ie.size, none⟩)))
      | none => False)
  | _, _, _ => False

def fmax (b : Builtin) (K : Value → Prop) : List Value → Prop
  | .int k x :: rest => (match rest with
    | [] => K (.int k x)
    | [.int k' y] => K (.int k (if b = .max then (if y > x then y else x) else (if y < x then y else x)))
    | _ => False)
  | _ => False

/-- What an operation that only reads comes to. -/
def fop (P : Program) (ρ : Operand → Value) (Hs : List Heap) (K : Value → Prop) : Op → Prop
  | .move x => K (ρ x)
  | .assign x => K (ρ x)
  | .pick c a b => (match ρ c with | .bool true => K (ρ a) | .bool false => K (ρ b) | _ => False)
  | .load t a => (match ρ a with
    | .pointer (some ⟨b, off, none⟩) => (match isAggB P t, P.info? t with
      | some true, some i => HLoadN Hs b off i.size fun vs => K (.agg vs.toArray)
      | some false, _ => HLoad Hs ⟨b, off, none⟩ K
      | _, _ => False)
    | _ => False)
  | .nilCheck x => (match ρ x with
    | .pointer (some a) => K (.pointer (some a))
    | .iface t v => K (.iface t v)
    | .func (.func f) u c => K (.func (.func f) u c)
    | _ => False)
  | .binOp op t x y _ => fbin P op t x y K (ρ x) (ρ y)
  | .unOp op _ x => (match op, ρ x with
    | .not, .bool b => K (.bool (!b))
    | .neg, .int k n => K (.int k (wr k (0 - n)))
    | .xor, .int k n => K (.int k (bitsS .xor k (if k.signed then -1 else k.max) n))
    | _, _ => False)
  | .convert src dst x => fconv P Hs src dst (ρ x) K
  | .makeInterface t x => (match P.underlying t with
    | some (.interface _) => False
    | some _ => K (.iface t (ρ x))
    | none => False)
  | .makeFunc fn first captured => K (.func fn (first.map ρ) (captured.map ρ))
  | .slice t x lo hi none => fslice P t (ρ x) (lo.map ρ) (hi.map ρ) K
  | .slice t x lo hi (some mx) => fslice3 P t (ρ x) (lo.map ρ) (hi.map ρ) (ρ mx) K
  | .fieldAddr s x f => (match P.underlying s, ρ x with
    | some (.struct fs), .pointer (some ⟨b, off, none⟩) => (match fs[f]? with
      | some fd => (match P.info? fd.type with
        | some i => cond (Nat.beq i.size 0) False (K (.pointer (some ⟨b, off + fd.offset, none⟩)))
        | none => False)
      | none => False)
    | _, _ => False)
  | .field t x f => (match P.underlying t, ρ x with
    | some (.struct fs), .agg cs => (match fs[f]? with
      | some fd => fpart P fd.type cs.toList fd.offset K
      | none => False)
    | _, _ => False)
  | .indexAddr t x i => findexAddr P t (ρ x) (ρ i) K
  | .index t x i => findex P t (ρ x) (ρ i) K
  | .extract x j => (match ρ x with
    | .tuple vs => (match vs.toList[j]? with | some v => K v | none => False)
    | _ => False)
  | .build t parts => (match builtL P t (parts.toList.map fun p => (p.1, ρ p.2)) with
    | some cells => forceL cells fun l => K (.agg l.toArray)
    | none => False)
  | .lookup t x i ok => HRd P (Instr.lookup t (ρ x) (ρ i) ok) Hs K
  | .typeAssert x xt at_ ok => HRd P (Instr.typeAssert (ρ x) xt at_ ok) Hs K
  | .call { callee := .builtin .len, args, argTypes } => (match args.toList.map ρ, argTypes.toList.map P.underlying with
    | [.slice _ n _], [some (.slice _)] => K (.int .i64 n)
    | [.string s], [some .string] => K (.int .i64 s.size)
    | [_], [some (.array n _)] => K (.int .i64 n)
    | [.map r], [some (.map _ _)] => HRd P (Builtin.len_ argTypes 0 #[.map r]) Hs K
    | _, _ => False)
  | .call { callee := .builtin .max, args, .. } => fmax .max K (args.toList.map ρ)
  | .call { callee := .builtin .min, args, .. } => fmax .min K (args.toList.map ρ)
  | _ => False

theorem Rds.pure_value {P : Program} {s : Sem Value} {H : Heap} {v : Value} (h : Rds P s H v) : Rds P (do pure (Next.value (← s))) H (.value v) := fun w hs => by
  simp [h w hs]
theorem Rds.pure {P : Program} {α : Type} {x : α} {H : Heap} : Rds P (Pure.pure x) H x := fun w hs => rfl

theorem rds_loadN {P : Program} {H : Heap} {b off : Nat} {vs : List Value} (h : ∀ i v, vs[i]? = some v → H.cell? ⟨b, off + i, none⟩ = some v) : Rds P (loadCells ⟨b, off, none⟩ vs.length) H vs.toArray := fun w hs =>
  run_loadCells_list w ⟨b, off, none⟩ vs fun j v hj => by
    have := hs.cell (h j v hj)
    rw [Addr.add_lit]; exact this

theorem isAgg_run {P : Program} {t : TypeId} {r : Bool} (h : isAggB P t = some r) (w : World) : (isAgg t).run P w = .ok r w := by
  unfold isAggB at h
  unfold isAgg
  cases hu : P.underlying t with
  | none => simp [hu] at h
  | some d =>
    rw [Sem.run_bind, run_underlying hu w]
    rw [hu] at h
    cases d <;> simp at h <;> subst h <;> rfl

theorem sizeOf_run {P : Program} {t : TypeId} {i : TypeInfo} (h : P.info? t = some i) (w : World) : (sizeOf t).run P w = .ok i.size w := by
  simp [sizeOf, typeInfo, h]

theorem run_equalIn_bool {P : Program} (d : Nat) {t : TypeId} (hu : P.underlying t = some .bool) (a b : Bool) (w : World) : (Op.equalIn (d + 1) t (.bool a) (.bool b)).run P w = .ok (a == b) w := by
  unfold Op.equalIn; simp [run_underlying hu]
theorem run_equalIn_pnil {P : Program} (d : Nat) {t e : TypeId} (hu : P.underlying t = some (.pointer e)) (a : Option Addr) (w : World) : (Op.equalIn (d + 1) t (.pointer a) (.pointer none)).run P w = .ok a.isNone w := by
  unfold Op.equalIn; cases a <;> simp [run_underlying hu]
theorem run_equalIn_snil {P : Program} (d : Nat) {t e : TypeId} (hu : P.underlying t = some (.slice e)) (a : Option Addr) (n c n' c' : Nat) (w : World) : (Op.equalIn (d + 1) t (.slice a n c) (.slice none n' c')).run P w = .ok a.isNone w := by
  unfold Op.equalIn; cases a <;> simp [run_underlying hu]
theorem binOp_eq_ (t : TypeId) (u v : Value) (h : ∀ k a k' b, ¬ (u = .int k a ∧ v = .int k' b)) (h2 : ∀ k a k' b, ¬ (u = .float k a ∧ v = .float k' b)) (h3 : ∀ k a b k' c d, ¬ (u = .complex k a b ∧ v = .complex k' c d)) (h4 : ∀ a b, ¬ (u = .string a ∧ v = .string b)) :
    binOp .eql t u v = (do pure (.bool (← Op.equalIn (9999 + 1) t u v))) ∧ binOp .neq t u v = (do pure (.bool (!(← Op.equalIn (9999 + 1) t u v)))) := by
  constructor <;> (cases u <;> cases v <;> first | rfl | exact absurd ⟨rfl, rfl⟩ (h _ _ _ _) | exact absurd ⟨rfl, rfl⟩ (h2 _ _ _ _) | exact absurd ⟨rfl, rfl⟩ (h3 _ _ _ _ _ _) | exact absurd ⟨rfl, rfl⟩ (h4 _ _))
theorem fbin_sound {P : Program} {op : BinOp} {t : TypeId} {x y : Operand} {K : Value → Prop} {u v : Value} (h : fbin P op t x y K u v) :
    ∃ r, K r ∧ ∀ w, (do eqGuard op t x y u v; binOp op t u v : Sem Value).run P w = .ok r w := by
  unfold fbin at h
  split at h
  · rename_i k a k' b
    have hg : ∀ w, (do eqGuard op t x y (.int k a) (.int k' b); binOp op t (.int k a) (.int k' b) : Sem Value).run P w = (binOp op t (.int k a) (.int k' b)).run P w := fun w => by
      rw [eqGuard_at_int]; rfl
    split at h
    · obtain ⟨h0, h⟩ := h
      refine ⟨_, h, fun w => ?_⟩
      rw [hg, binOp_shl]
      simp [Op.shift, Int.not_lt.2 h0, shlS_eq]
    · obtain ⟨h0, h⟩ := h
      refine ⟨_, h, fun w => ?_⟩
      rw [hg, binOp_shr]
      simp [Op.shift, Int.not_lt.2 h0, shrS_eq]
    · by_cases hk : k = k'
      · subst hk
        simp only [decide_true, cond_true] at h
        split at h <;> first
          | exact h.elim
          | (obtain ⟨h0, h⟩ := h; exact ⟨_, h, fun w => by rw [hg]; simp [binOp, Op.intDiv, h0, wr_eq]⟩)
          | (refine ⟨_, h, fun w => ?_⟩; rw [hg]; simp [binOp, Op.intArith, Op.intBits, Op.intCmp, wr_eq, bitsS_eq, eqB_eq, ltB_eq, bits]; done)
          | (refine ⟨_, h, fun w => ?_⟩; rw [hg]; simp [binOp, Op.intCmp, eqB_eq, bne]; done)
          | (refine ⟨_, h, fun w => ?_⟩; rw [hg]; simp only [binOp, Op.intCmp, ltB_eq, if_false, ne_eq, not_true_eq_false, Sem.run_pure, ← decide_not, Int.not_lt]; done)
          | (refine ⟨_, h, fun w => ?_⟩; rw [hg]; simp only [binOp, Op.intCmp, ltB_eq, if_false, ne_eq, not_true_eq_false, Sem.run_pure, ← decide_not, Int.not_lt]; rfl)
      · simp [hk] at h
  · rename_i a b
    have hg : ∀ w, (do eqGuard op t x y (.string a) (.string b); binOp op t (.string a) (.string b) : Sem Value).run P w = (binOp op t (.string a) (.string b)).run P w := fun w => by
      rw [eqGuard_at_string]; rfl
    split at h <;> first
      | exact h.elim
      | (obtain ⟨h0, h⟩ := h; exact ⟨_, h, fun w => by rw [hg]; simp only [binOp, Op.stringOp, IntKind.max_i64]; rw [if_neg (by omega)]; rfl⟩)
      | exact ⟨_, h, fun w => by rw [hg]; simp [binOp, Op.stringOp, seqB_eq, sltB_eq]⟩
  · rename_i a b
    have hg : ∀ w, (do eqGuard op t x y (.bool a) (.bool b); binOp op t (.bool a) (.bool b) : Sem Value).run P w = (binOp op t (.bool a) (.bool b)).run P w := fun w => by
      rw [eqGuard_at_bool]; rfl
    have he := binOp_eq_ t (.bool a) (.bool b) (by simp) (by simp) (by simp) (by simp)
    generalize hu : P.underlying t = d at h
    cases d with
    | none => exact h.elim
    | some d =>
      cases d <;> try exact h.elim
      cases op <;> first
        | exact h.elim
        | exact ⟨_, h, fun w => by rw [hg, he.1]; simp only [Sem.run_bind, run_equalIn_bool _ hu]; rfl⟩
        | exact ⟨_, h, fun w => by rw [hg, he.2]; simp only [Sem.run_bind, run_equalIn_bool _ hu]; rfl⟩
  · rename_i a
    have hg : ∀ w, (do eqGuard op t x y (.pointer a) (.pointer none); binOp op t (.pointer a) (.pointer none) : Sem Value).run P w = (binOp op t (.pointer a) (.pointer none)).run P w := fun w => by
      rw [eqGuard_at_pointer]; rfl
    have he := binOp_eq_ t (.pointer a) (.pointer none) (by simp) (by simp) (by simp) (by simp)
    generalize hu : P.underlying t = d at h
    cases d with
    | none => exact h.elim
    | some d =>
      cases d <;> try exact h.elim
      cases op <;> first
        | exact h.elim
        | exact ⟨_, h, fun w => by rw [hg, he.1]; simp only [Sem.run_bind, run_equalIn_pnil _ hu]; rfl⟩
        | exact ⟨_, h, fun w => by rw [hg, he.2]; simp only [Sem.run_bind, run_equalIn_pnil _ hu]; rfl⟩
  · rename_i a n c n' c'
    have hg : ∀ w, (do eqGuard op t x y (.slice a n c) (.slice none n' c'); binOp op t (.slice a n c) (.slice none n' c') : Sem Value).run P w = (binOp op t (.slice a n c) (.slice none n' c')).run P w := fun w => by
      rw [eqGuard_at_slice]; rfl
    have he := binOp_eq_ t (.slice a n c) (.slice none n' c') (by simp) (by simp) (by simp) (by simp)
    generalize hu : P.underlying t = d at h
    cases d with
    | none => exact h.elim
    | some d =>
      cases d <;> try exact h.elim
      cases op <;> first
        | exact h.elim
        | exact ⟨_, h, fun w => by rw [hg, he.1]; simp only [Sem.run_bind, run_equalIn_snil _ hu]; rfl⟩
        | exact ⟨_, h, fun w => by rw [hg, he.2]; simp only [Sem.run_bind, run_equalIn_snil _ hu]; rfl⟩
  · exact h.ex
end Go.Proofs.YtfcmjomnpahllaaGreat.Hv
end
section
namespace Go.Proofs.YtfcmjomnpahllaaGreat.Hv
open Go
set_option linter.unusedVariables false
set_option linter.unusedSimpArgs false

theorem fconv_sound {P : Program} {Hs : List Heap} {src dst : TypeId} {v : Value} {K : Value → Prop} (h : fconv P Hs src dst v K) :
    ∃ r, K r ∧ ∀ H ∈ Hs, Rds P (convert src dst v) H r := by
  unfold fconv at h
  split at h
  · rename_i hs hd
    exact ⟨_, h, fun H _ w _ => by simp [convert, run_underlying hs, run_underlying hd, Conv.intToInt, wr_eq]⟩
  · rename_i d hs hd
    exact ⟨_, h, fun H _ w _ => by simp only [convert, Sem.run_bind, run_underlying hs, run_underlying hd, Result.andThen_ok]; rfl⟩
  · rename_i e a len cap hs hd
    split at h
    · rename_i he
      obtain ⟨s, hlen, hnone, hr, h⟩ := h
      refine ⟨_, h, fun H hH w hsat => ?_⟩
      rw [run_convert_bytes_string w src dst e a len cap hs he hd]
      cases a with
      | none =>
        have h0 : len = 0 := hnone rfl
        have : s = ByteArray.empty := by
          cases s with
          | mk d => rw [h0] at hlen; simp [ByteArray.size] at hlen; subst hlen; rfl
        subst this; simp [Conv.bytesToString]
      | some a =>
        have hcells : (loadCells a len).run P w = .ok (((s.data.toList.map fun b => (b.toNat : Int)).map (Value.int .u8)).toArray) w := by
          have hl : ((s.data.toList.map fun b => (b.toNat : Int)).map (Value.int .u8)).length = len := by
            rw [List.length_map, List.length_map]; exact hlen
          rw [← hl]
          refine run_loadCells_list w a _ fun j v hj => ?_
          rw [List.getElem?_map, List.getElem?_map] at hj
          cases hb : s.data.toList[j]? with
          | none => simp [hb] at hj
          | some b =>
            simp only [hb, Option.map_some, Option.some.injEq] at hj
            subst hj
            exact hsat.cell (hr H hH j b hb a rfl)
        rw [run_bytesToString w a len cap _ hcells]
        have hpush : ∀ (l : List UInt8) (acc : ByteArray), (l.map fun b => (b.toNat : Int)).foldl (fun r n => r.push (UInt8.ofNat n.toNat)) acc = ⟨acc.data ++ l.toArray⟩ := by
          intro l
          induction l with
          | nil => intro acc; simp
          | cons b l ih => intro acc; rw [List.map_cons, List.foldl_cons, ih]; cases acc; simp [ByteArray.push]
        rw [hpush]
        cases s
        simp [ByteArray.empty, ByteArray.emptyWithCapacity]
        rfl
    · exact h.elim
  · exact h.elim

theorem fslice_sound {P : Program} {t : TypeId} {v : Value} {lo hi : Option Value} {K : Value → Prop} (h : fslice P t v lo hi K) :
    ∃ r, K r ∧ ∀ H, Rds P (Instr.sliceAt t v lo hi none) H r := by
  have bnd : ∀ (k : IntKind) (i : Int) (y : Nat) (code : BoundsCode) (w : World), 0 ≤ i ∧ i ≤ y → (Instr.sliceBound (.int k i) y code).run P w = .ok i.toNat w := fun k i y code w hi => by
    simp [Instr.sliceBound, asIntOf, hi]
  unfold fslice at h
  split at h
  · rename_i s hu
    cases hi with
    | none =>
      cases lo with
      | none =>
        exact ⟨_, h, fun H w _ => by simp [Instr.sliceAt, Instr.slice, run_underlying hu, Instr.sliceBounds]⟩
      | some l =>
        cases l <;> try exact h.elim
        obtain ⟨h0, h⟩ := h
        exact ⟨_, h, fun H w _ => by simp [Instr.sliceAt, Instr.slice, run_underlying hu, Instr.sliceBounds, bnd _ _ _ _ _ h0]⟩
    | some x =>
      cases x <;> try exact h.elim
      obtain ⟨h1, h⟩ := h
      cases lo with
      | none =>
        exact ⟨_, h, fun H w _ => by simp [Instr.sliceAt, Instr.slice, run_underlying hu, Instr.sliceBounds, bnd _ _ _ _ _ h1]⟩
      | some l =>
        cases l <;> try exact h.elim
        obtain ⟨h0, h⟩ := h
        exact ⟨_, h, fun H w _ => by simp [Instr.sliceAt, Instr.slice, run_underlying hu, Instr.sliceBounds, bnd _ _ _ _ _ h1, bnd _ _ _ _ _ h0]⟩
  · rename_i e a len cap hu
    split at h
    · exact h.elim
    · rename_i ie hie
      have hadd : ∀ (a : Option Addr), (if cap = 0 then a else a.map (·.add (0 * ie.size))) = a := fun a => by
        split
        · rfl
        · cases a <;> simp [Addr.add_zero']
      cases hi with
      | none =>
        cases lo with
        | none =>
          exact ⟨_, h, fun H w _ => by
            have := hadd a
            simp [Instr.sliceAt, Instr.slice, run_underlying hu, Instr.sliceBounds, sizeOf_run hie]
            cases a <;> simp [Addr.add_zero']⟩
        | some l =>
          cases l <;> try exact h.elim
          obtain ⟨h0, h⟩ := h
          exact ⟨_, h, fun H w _ => by simp [Instr.sliceAt, Instr.slice, run_underlying hu, Instr.sliceBounds, bnd _ _ _ _ _ h0, sizeOf_run hie, slAddr]⟩
      | some x =>
        cases x <;> try exact h.elim
        obtain ⟨h1, h⟩ := h
        cases lo with
        | none =>
          exact ⟨_, h, fun H w _ => by
            simp [Instr.sliceAt, Instr.slice, run_underlying hu, Instr.sliceBounds, bnd _ _ _ _ _ h1, sizeOf_run hie]
            cases a <;> simp [Addr.add_zero']⟩
        | some l =>
          cases l <;> try exact h.elim
          obtain ⟨h0, h⟩ := h
          exact ⟨_, h, fun H w _ => by simp [Instr.sliceAt, Instr.slice, run_underlying hu, Instr.sliceBounds, bnd _ _ _ _ _ h1, bnd _ _ _ _ _ h0, sizeOf_run hie, slAddr]⟩
  · exact h.elim

theorem fslice3_sound {P : Program} {t : TypeId} {v : Value} {lo hi : Option Value} {mx : Value} {K : Value → Prop} (h : fslice3 P t v lo hi mx K) :
    ∃ r, K r ∧ ∀ H, Rds P (Instr.sliceAt t v lo hi (some mx)) H r := by
  have bnd : ∀ (k : IntKind) (i : Int) (y : Nat) (code : BoundsCode) (w : World), 0 ≤ i ∧ i ≤ y → (Instr.sliceBound (.int k i) y code).run P w = .ok i.toNat w := fun k i y code w hi => by
    simp [Instr.sliceBound, asIntOf, hi]
  unfold fslice3 at h
  split at h
  · rename_i e a len cap hu
    split at h
    · rename_i ie kl l kh hh km m hie
      obtain ⟨⟨h1, h2, h3⟩, h⟩ := h
      refine ⟨_, h, fun H w _ => ?_⟩
      simp [Instr.sliceAt, Instr.slice, run_underlying hu, Instr.sliceBounds, bnd _ _ _ _ _ h1, bnd _ _ _ _ _ h2, bnd _ _ _ _ _ h3, sizeOf_run hie, slAddr]
    · rename_i ie kh hh km m hie
      obtain ⟨⟨h1, h2⟩, h⟩ := h
      refine ⟨_, h, fun H w _ => ?_⟩
      have e0 : a.map (fun x => x.add 0) = a := by
        cases a with
        | none => rfl
        | some p => simp [Addr.add]
      simp [Instr.sliceAt, Instr.slice, run_underlying hu, Instr.sliceBounds, bnd _ _ _ _ _ h1, bnd _ _ _ _ _ h2, sizeOf_run hie, e0]
    · exact h.elim
  · exact h.elim
theorem fpart_sound {P : Program} {t : TypeId} {cs : Array Value} {off : Nat} {K : Value → Prop} (h : fpart P t cs.toList off K) :
    ∃ r, K r ∧ ∀ H, Rds P (part t cs off) H r := by
  unfold fpart at h
  split at h
  · rename_i i hg hi
    rw [forceL_iff] at h
    refine ⟨_, h, fun H w _ => ?_⟩
    simp only [part, Sem.run_bind, isAgg_run hg, Result.andThen_ok, if_true, sizeOf_run hi]
    have : cs.extract off (off + i.size) = ((cs.toList.drop off).take i.size).toArray := by
      rw [← Array.toList_inj, Array.toList_extract]
      simp [List.extract, Nat.add_sub_cancel_left]
    rw [this]; rfl
  · rename_i hg
    split at h
    · rename_i v hv
      refine ⟨_, h, fun H w _ => ?_⟩
      have hv' : cs[off]? = some v := by rw [← Array.getElem?_toList]; exact hv
      simp [part, isAgg_run hg, hv']
    · exact h.elim
  · exact h.elim

theorem findex_sound {P : Program} {t : TypeId} {u v : Value} {K : Value → Prop} (h : findex P t u v K) :
    ∃ r, K r ∧ ∀ H, Rds P (Instr.index t u v) H r := by
  unfold findex at h
  split at h
  · rename_i s k i hu
    obtain ⟨⟨h0, h1⟩, h⟩ := h
    refine ⟨_, h, fun H w _ => ?_⟩
    have hlt : i.toNat < s.size := by omega
    have hlt' : i.toNat < s.data.toList.length := by simpa using hlt
    have hg : s[i.toNat]? = some (s.data.toList[i.toNat]) := by
      rw [getElem?_pos s i.toNat hlt]; rfl
    simp [Instr.index, asIntOf, run_underlying hu, h0, hg, byteAt, List.getD, hlt']
    rw [Array.getElem?_eq_getElem (by simpa using hlt')]; rfl
  · rename_i n e cs k i hu
    split at h
    · rename_i hg
      obtain ⟨⟨h0, h1, h2, h3, h4⟩, h⟩ := h
      refine ⟨_, h, fun H w _ => ?_⟩
      obtain ⟨ie, hie⟩ := Option.isSome_iff_exists.1 h4
      have hsz : ie.size = 1 := by simpa [Program.cellsOf, hie] using h3
      have hlt : i.toNat < cs.size := by omega
      simp [Instr.index, asIntOf, run_underlying hu, h0, h1, sizeOf_run hie, hsz, part, isAgg_run hg, hlt, List.getD]
    · exact h.elim
  · exact h.elim

theorem findexAddr_sound {P : Program} {t : TypeId} {u v : Value} {K : Value → Prop} (h : findexAddr P t u v K) :
    ∃ r, K r ∧ ∀ H, Rds P (Instr.indexAt t u v) H r := by
  unfold findexAddr at h
  split at h
  · rename_i e b off len cap k i hu
    split at h
    · rename_i ie hie
      obtain ⟨⟨h0, h1⟩, h⟩ := h
      refine ⟨_, h, fun H w _ => ?_⟩
      simp [Instr.indexAt, asIntOf, run_underlying hu, h0, h1, sizeOf_run hie, offMul_eq, Addr.add_lit]
    · exact h.elim
  · rename_i n e b off k i hu
    split at h
    · rename_i ie hie
      obtain ⟨⟨h0, h1⟩, h⟩ := h
      refine ⟨_, h, fun H w _ => ?_⟩
      simp [Instr.indexAt, asIntOf, run_underlying hu, Instr.sureAddr, h0, h1, sizeOf_run hie, offMul_eq, Addr.add_lit]
    · exact h.elim
  · exact h.elim

theorem fmax_sound {P : Program} {K : Value → Prop} {l : List Value} {ats : Array TypeId} {ty : TypeId} (h : fmax .max K l) :
    ∃ r, K r ∧ ∀ H, Rds P (Builtin.max_ ats ty l.toArray) H r := by
  unfold fmax at h
  split at h
  · rename_i k x rest
    split at h
    · exact ⟨_, h, fun H w _ => by simp [Builtin.max_]⟩
    · refine ⟨_, h, fun H w _ => by simp [Builtin.max_, Builtin.max2]⟩
    · exact h.elim
  · exact h.elim
theorem fmin_sound {P : Program} {K : Value → Prop} {l : List Value} {ats : Array TypeId} {ty : TypeId} (h : fmax .min K l) :
    ∃ r, K r ∧ ∀ H, Rds P (Builtin.min_ ats ty l.toArray) H r := by
  unfold fmax at h
  split at h
  · rename_i k x rest
    split at h
    · exact ⟨_, h, fun H w _ => by simp [Builtin.min_]⟩
    · refine ⟨_, h, fun H w _ => by simp [Builtin.min_, Builtin.min2]⟩
    · exact h.elim
  · exact h.elim

theorem loadVar_sound {P : Program} {Hs : List Heap} {t : TypeId} {b off : Nat} {K : Value → Prop}
    (h : match isAggB P t, P.info? t with
      | some true, some i => HLoadN Hs b off i.size fun vs => K (.agg vs.toArray)
      | some false, _ => HLoad Hs ⟨b, off, none⟩ K
      | _, _ => False) : ∃ r, K r ∧ ∀ H ∈ Hs, Rds P (loadVar t ⟨b, off, none⟩) H r := by
  split at h
  · rename_i i hg hi
    obtain ⟨vs, h1, h2, h3⟩ := h
    refine ⟨_, h3, fun H hH w hs => ?_⟩
    have := rds_loadN (P := P) (h1 H hH) w hs
    rw [h2] at this
    simp [loadVar, isAgg_run hg, sizeOf_run hi, this]
  · rename_i hg
    obtain ⟨v, h1, h2⟩ := h
    refine ⟨_, h2, fun H hH w hs => ?_⟩
    have : (load ⟨b, off, none⟩).run P w = .ok v w := by
      simp [load, Sem.run, hs.cell (h1 H hH)]
    simp only [loadVar, Sem.run_bind, isAgg_run hg, Result.andThen_ok]
    exact this
  · exact h.elim

theorem fop_sound {P : Program} {ρ : Operand → Value} {Hs : List Heap} {K : Value → Prop} (o : Oper) (h : fop P ρ Hs K o.op) :
    ∃ r, K r ∧ ∀ H ∈ Hs, Rds P (execOp ρ o) H (.value r) := by
  obtain ⟨dst, op, ty, pos, after, guard⟩ := o
  dsimp only at h
  unfold fop at h
  split at h
  · exact ⟨_, h, fun H _ => Rds.pure⟩
  · exact ⟨_, h, fun H _ => Rds.pure⟩
  · rename_i c a b
    split at h
    · rename_i hc; exact ⟨_, h, fun H _ w _ => by simp [execOp, hc, asBool]⟩
    · rename_i hc; exact ⟨_, h, fun H _ w _ => by simp [execOp, hc, asBool]⟩
    · exact h.elim
  · rename_i t a
    split at h
    · rename_i b off ha
      obtain ⟨r, hk, hr⟩ := loadVar_sound h
      refine ⟨r, hk, fun H hH => ?_⟩
      have : Rds P (Instr.loadAt t (ρ a)) H r := fun w hs => by
        simp [Instr.loadAt, ha, Instr.sureAddr, hr H hH w hs]
      exact Rds.pure_value this
    · exact h.elim
  · rename_i x
    split at h
    · rename_i a ha; exact ⟨_, h, fun H _ w _ => by simp [execOp, ha]⟩
    · rename_i t v ha; exact ⟨_, h, fun H _ w _ => by simp [execOp, ha]⟩
    · rename_i f u c ha; exact ⟨_, h, fun H _ w _ => by simp [execOp, ha]⟩
    · exact h.elim
  · rename_i op t x y _
    obtain ⟨r, hk, hr⟩ := fbin_sound h
    exact ⟨r, hk, fun H _ => Rds.pure_value (fun w _ => hr w)⟩
  · rename_i op _ x
    split at h <;> first
      | exact h.elim
      | (rename_i hx; exact ⟨_, h, fun H _ => Rds.pure_value (fun w _ => by rw [hx]; simp [Op.unary, Op.intArith, Op.intBits, bits, wr_eq, bitsS_eq])⟩)
  · rename_i src dst x
    obtain ⟨r, hk, hr⟩ := fconv_sound h
    exact ⟨r, hk, fun H hH => Rds.pure_value (hr H hH)⟩
  · rename_i t x
    split at h
    · exact h.elim
    · rename_i d hni hu
      refine ⟨_, h, fun H _ => Rds.pure_value (fun w _ => ?_)⟩
      simp only [Instr.makeInterface, Sem.run_bind, run_underlying hu, Result.andThen_ok]
      cases d <;> first | rfl | exact absurd hu (hni _)
    · exact h.elim
  · exact ⟨_, h, fun H _ => Rds.pure_value (fun w _ => rfl)⟩
  · rename_i t x lo hi
    obtain ⟨r, hk, hr⟩ := fslice_sound h
    exact ⟨r, hk, fun H _ => Rds.pure_value (hr H)⟩
  · rename_i t x lo hi mx
    obtain ⟨r, hk, hr⟩ := fslice3_sound h
    exact ⟨r, hk, fun H _ => Rds.pure_value (hr H)⟩
  · rename_i s x f
    split at h
    · rename_i fs b off hu hx
      split at h
      · rename_i fd hf
        split at h
        · rename_i i hi
          by_cases h0 : i.size = 0
          · simp [h0] at h
          · have : Nat.beq i.size 0 = false := Bool.eq_false_iff.2 fun e => h0 (Nat.eq_of_beq_eq_true e)
            rw [this, cond_false] at h
            refine ⟨_, h, fun H _ => Rds.pure_value (fun w _ => ?_)⟩
            simp [Instr.fieldAt, run_underlying hu, hf, hx, Instr.sureAddr, fieldPlace, sizeOf_run hi, h0, Addr.add_lit]
        · exact h.elim
      · exact h.elim
    · exact h.elim
  · rename_i t x f
    split at h
    · rename_i fs cs hu hx
      split at h
      · rename_i fd hf
        obtain ⟨r, hk, hr⟩ := fpart_sound h
        refine ⟨r, hk, fun H _ => Rds.pure_value (fun w hs => ?_)⟩
        simp [Instr.field, run_underlying hu, hf, hx, asAgg, hr H w hs]
      · exact h.elim
    · exact h.elim
  · rename_i t x i
    obtain ⟨r, hk, hr⟩ := findexAddr_sound h
    exact ⟨r, hk, fun H _ => Rds.pure_value (hr H)⟩
  · rename_i t x i
    obtain ⟨r, hk, hr⟩ := findex_sound h
    exact ⟨r, hk, fun H _ => Rds.pure_value (hr H)⟩
  · rename_i x j
    split at h
    · rename_i vs hx
      split at h
      · rename_i v hv
        refine ⟨_, h, fun H _ => Rds.pure_value (fun w _ => ?_)⟩
        have hv' : vs[j]? = some v := by rw [← Array.getElem?_toList]; exact hv
        simp [hx, Instr.extract, hv']
      · exact h.elim
    · exact h.elim
  · rename_i t parts
    split at h
    · rename_i cells hb
      rw [forceL_iff] at h
      refine ⟨_, h, fun H _ => Rds.pure_value (fun w _ => ?_)⟩
      refine run_build w t _ cells.toArray ?_
      rw [builtL_eq]
      have : (parts.map fun (i, x) => (i, ρ x)).toList = parts.toList.map fun p => (p.1, ρ p.2) := by simp
      rw [this, hb]; rfl
    · exact h.elim
  · obtain ⟨v, hv, hk⟩ := h
    exact ⟨v, hk, fun H hH => Rds.pure_value (hv H hH)⟩
  · obtain ⟨v, hv, hk⟩ := h
    exact ⟨v, hk, fun H hH => Rds.pure_value (hv H hH)⟩
  · rename_i args argTypes
    have hlen : ∀ v, (∀ w, (Builtin.len_ argTypes ty (args.map ρ)).run P w = .ok v w) → ∀ H, Rds P (execOp ρ { dst := dst, op := .call { callee := .builtin .len, args := args, argTypes := argTypes }, type := ty, pos := pos, after := after, guard := guard }) H (.value v) := fun v hv H =>
      Rds.pure_value (s := Builtin.len_ argTypes ty (args.map ρ)) fun w _ => hv w
    obtain ⟨args⟩ := args
    obtain ⟨argTypes⟩ := argTypes
    dsimp only at h
    split at h
    · rename_i n _ e he hu
      obtain ⟨x, rfl, hx⟩ : ∃ x, args = [x] ∧ ρ x = .slice _ n _ := by
        cases args with
        | nil => simp at he
        | cons x l => cases l <;> simp at he; exact ⟨x, rfl, he⟩
      obtain ⟨t, rfl, ht⟩ : ∃ t, argTypes = [t] ∧ P.underlying t = some (.slice e) := by
        cases argTypes with
        | nil => simp at hu
        | cons x l => cases l <;> simp at hu; exact ⟨x, rfl, hu⟩
      exact ⟨_, h, fun H _ => hlen _ (fun w => by simp [Builtin.len_, run_underlying ht, hx, goInt]) H⟩
    · rename_i s he hu
      obtain ⟨x, rfl, hx⟩ : ∃ x, args = [x] ∧ ρ x = .string s := by
        cases args with
        | nil => simp at he
        | cons x l => cases l <;> simp at he; exact ⟨x, rfl, he⟩
      obtain ⟨t, rfl, ht⟩ : ∃ t, argTypes = [t] ∧ P.underlying t = some .string := by
        cases argTypes with
        | nil => simp at hu
        | cons x l => cases l <;> simp at hu; exact ⟨x, rfl, hu⟩
      exact ⟨_, h, fun H _ => hlen _ (fun w => by simp [Builtin.len_, run_underlying ht, hx, goInt]) H⟩
    · rename_i v n e he hu
      obtain ⟨x, rfl, hx⟩ : ∃ x, args = [x] ∧ ρ x = v := by
        cases args with
        | nil => simp at he
        | cons x l => cases l <;> simp at he; exact ⟨x, rfl, he⟩
      obtain ⟨t, rfl, ht⟩ : ∃ t, argTypes = [t] ∧ P.underlying t = some (.array n e) := by
        cases argTypes with
        | nil => simp at hu
        | cons x l => cases l <;> simp at hu; exact ⟨x, rfl, hu⟩
      exact ⟨_, h, fun H _ => hlen _ (fun w => by simp [Builtin.len_, run_underlying ht, goInt]) H⟩
    · rename_i r _ _ he hu
      obtain ⟨x, rfl, hx⟩ : ∃ x, args = [x] ∧ ρ x = .map r := by
        cases args with
        | nil => simp at he
        | cons x l => cases l <;> simp at he; exact ⟨x, rfl, he⟩
      obtain ⟨v, hv, hk⟩ := h
      refine ⟨v, hk, fun H hH => Rds.pure_value (s := Builtin.len_ _ ty _) ?_⟩
      have := hv H hH
      simp only [List.map_toArray, List.map_cons, List.map_nil, hx]
      exact this
    · exact h.elim
  · rename_i args argTypes
    obtain ⟨r, hk, hr⟩ := fmax_sound (P := P) (ats := argTypes) (ty := ty) h
    refine ⟨r, hk, fun H _ => Rds.pure_value (s := Builtin.max_ argTypes ty (args.map ρ)) ?_⟩
    have := hr H
    rwa [← Array.toList_map, Array.toArray_toList] at this
  · rename_i args argTypes
    obtain ⟨r, hk, hr⟩ := fmin_sound (P := P) (ats := argTypes) (ty := ty) h
    refine ⟨r, hk, fun H _ => Rds.pure_value (s := Builtin.min_ argTypes ty (args.map ρ)) ?_⟩
    have := hr H
    rwa [← Array.toList_map, Array.toArray_toList] at this
  · exact h.elim
end Go.Proofs.YtfcmjomnpahllaaGreat.Hv
end
