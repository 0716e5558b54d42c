import Derived.Test.YtfcmjomnpahllaaGreatHvA0
import Derived.Calls
import Derived.Orders
import Derived.Control
import Derived.Laws.Tables
import Derived.Laws.Cells
import Derived.Laws.BytesString
import Derived.IntWalk
import Derived.Laws.Append
import Derived.KernelRfl
import Derived.Laws.Strings
import Derived.Laws.BitsLemmas
section
namespace Go.Proofs.YtfcmjomnpahllaaGreat.Hv
open Go
set_option linter.unusedVariables false
set_option linter.unusedSimpArgs false

/-! ## Operations that act -/
structure HNew (H : Heap) (o : Obj) (K : Nat → Heap → Prop) : Prop where
  all : ∀ b, H b = none → K b (H.upd b o)
structure HStore (H : Heap) (a : Addr) (v : Value) (K : Heap → Prop) : Prop where
  plain : Value.plain v = true
  ex : ∃ u, H.cell? a = some u
  fz : H.frozen? a = false
  post : K (H.setCell a v)
structure HCall (P : Program) (f : FuncId) (args : List Value) (H : Heap) (K : Value → Heap → Prop) : Prop where
  ok : ∃ fn, P.funcs[f]? = some fn ∧ (fn.name == "runtime.NumGoroutine") = false ∧ fn.body.isNone = false
  calls : HCalls P f args H K
/-- Whatever else: what the run itself comes to. -/
structure HGen (P : Program) (ρ : Operand → Value) (o : Oper) (H : Heap) (K : Value → Heap → Prop) : Prop where
  sem : ∀ w, Sat H w → match (execOp ρ o).run P w with
    | .ok (.value v) w' => ∃ H', K v H' ∧ Sat H' w' ∧ Fr H H' w w'
    | .ok .skip w' => ∃ H', K undef H' ∧ Sat H' w' ∧ Fr H H' w w'
    | .ok (.enter f args) w' => ∃ H', HCalls P f args.toList H' K ∧ Sat H' w' ∧ Fr H H' w w'
    | _ => False

/-- What the model's program s comes to. -/
structure HSem (P : Program) (s : Sem Value) (H : Heap) (K : Value → Heap → Prop) : Prop where
  sem : ∀ w, Sat H w → ∃ v w' H', s.run P w = .ok v w' ∧ K v H' ∧ Sat H' w' ∧ Fr H H' w w'
structure HSemU (P : Program) (s : Sem Unit) (H : Heap) (K : Heap → Prop) : Prop where
  sem : ∀ w, Sat H w → ∃ w' H', s.run P w = .ok () w' ∧ K H' ∧ Sat H' w' ∧ Fr H H' w w'
theorem HSem.of_swp {P : Program} {s : Sem Value} {H : Heap} {K : Value → Heap → Prop} (h : swp P s K H) : HSem P s H K :=
  ⟨fun w hs => swp_run P K s H w h hs⟩
theorem HSemU.of_swp {P : Program} {s : Sem Unit} {H : Heap} {K : Heap → Prop} (h : swp P s (fun _ => K) H) : HSemU P s H K :=
  ⟨fun w hs => by obtain ⟨_, w', H', h1, h2⟩ := swp_run P _ s H w h hs; exact ⟨w', H', h1, h2⟩⟩
theorem HSem.mono {P : Program} {s : Sem Value} {H : Heap} {K K' : Value → Heap → Prop} (hk : ∀ v H, K v H → K' v H) (h : HSem P s H K) : HSem P s H K' :=
  ⟨fun w hs => by obtain ⟨v, w', H', h1, h2, h3⟩ := h.sem w hs; exact ⟨v, w', H', h1, hk _ _ h2, h3⟩⟩
theorem HSemU.mono {P : Program} {s : Sem Unit} {H : Heap} {K K' : Heap → Prop} (hk : ∀ H, K H → K' H) (h : HSemU P s H K) : HSemU P s H K' :=
  ⟨fun w hs => by obtain ⟨w', H', h1, h2, h3⟩ := h.sem w hs; exact ⟨w', H', h1, hk _ h2, h3⟩⟩
theorem HSem.gen {P : Program} {ρ : Operand → Value} {o : Oper} {H : Heap} {K : Value → Heap → Prop} {s : Sem Value} (he : execOp ρ o = (do pure (.value (← s)))) (h : HSem P s H K) : HGen P ρ o H K := by
  constructor
  intro w hs
  obtain ⟨v, w', H', h1, h2⟩ := h.sem w hs
  rw [he, Sem.run_bind, h1]
  exact ⟨H', h2⟩
theorem HSemU.gen {P : Program} {ρ : Operand → Value} {o : Oper} {H : Heap} {K : Value → Heap → Prop} {s : Sem Unit} (he : execOp ρ o = (do s; pure .skip)) (h : HSemU P s H (K undef)) : HGen P ρ o H K := by
  constructor
  intro w hs
  obtain ⟨w', H', h1, h2⟩ := h.sem w hs
  rw [he, Sem.run_bind, h1]
  exact ⟨H', h2⟩
def storeN (H : Heap) (b off : Nat) (i : Nat) (K : Heap → Prop) : List Value → Prop
  | [] => K H
  | v :: vs => HStore H ⟨b, off + i, none⟩ v fun H' => storeN H' b off (i + 1) K vs

def eop (P : Program) (ρ : Operand → Value) (o : Oper) (H : Heap) (K : Value → Heap → Prop) : Prop :=
  match o.op with
  | .alloc e => (match P.info? e with
    | some i => (match i.zero with
      | some z => forceL z.cells.toList fun l => HNew H (.cells l.toArray e) fun b H' => K (.pointer (some ⟨b, 0, none⟩)) H'
      | none => False)
    | none => False)
  | .box e x => forceL (ρ x).cells.toList fun l => HNew H (.cells l.toArray e) fun b H' => K (.pointer (some ⟨b, 0, none⟩)) H'
  | .buildSlice t len parts => (match P.underlying t with
    | some (.slice e) => (match P.info? e with
      | some ie => (match ie.zero with
        | some z => HReq (len * ie.size ≤ cap24) (cond (Nat.beq z.cells.size ie.size) (match fillL (fun i => some (i * ie.size, ie.size)) (repL len z.cells.toList) (parts.toList.map fun p => (p.1, ρ p.2)) with
          | some cells => forceL cells fun l => HNew H (.cells l.toArray e) fun b H' => K (.slice (some ⟨b, 0, none⟩) len len) H'
          | none => False) False)
        | none => False)
      | none => False)
    | _ => False)
  | .store t a x => (match ρ a, P.info? t with
    | .pointer (some ⟨b, off, none⟩), some i => cond (Nat.beq (ρ x).cells.size i.size) (storeN H b off 0 (K undef) (ρ x).cells.toList) False
    | _, _ => False)
  | .makeSlice t len cap => (match P.underlying t with
    | some (.slice e) => (match P.info? e with
      | some ie => (match ie.zero, ρ len, ρ cap with
        | some z, .int _ l, .int _ c => cond (Nat.beq z.cells.size ie.size) (HReq (0 ≤ l ∧ l ≤ c ∧ (ie.bytes : Int) * c ≤ cap48 ∧ c < cap63)
            (HNew H (.cells (repL c.toNat z.cells.toList).toArray e) fun b H' => K (.slice (some ⟨b, 0, none⟩) l.toNat c.toNat) H')) False
        | _, _, _ => False)
      | none => False)
    | _ => False)
  | .call { callee := .value f, args, .. } => (match ρ f with
    | .func (.func g) first captured => HCall P g (first.toList ++ args.toList.map ρ ++ captured.toList) H K
    | _ => False)
  | .call { callee := .builtin .append, args, argTypes } => HSem P (Builtin.append_ argTypes o.type (args.toList.map ρ).toArray) H K
  | .call { callee := .builtin .copy, args, argTypes } => HSem P (Builtin.copy_ argTypes o.type (args.toList.map ρ).toArray) H K
  | .call { callee := .builtin .clear, args, argTypes } => HSem P (Builtin.clear_ argTypes o.type (args.toList.map ρ).toArray) H K
  | .call { callee := .builtin .delete, args, argTypes } => HSem P (Builtin.delete_ argTypes o.type (args.toList.map ρ).toArray) H K
  | .makeMap t none => HSem P (Instr.makeMap t none) H K
  | .mapUpdate t m k x => HSemU P (Instr.mapUpdate t (ρ m) (ρ k) (ρ x)) H (K undef)
  | .range t x => HSem P (Instr.range t (ρ x)) H K
  | .next x s => HSem P (Instr.next (ρ x) s o.type) H K
  | .entry x => HSem P (Instr.entry (ρ x)) H K
  | .convert src dst x => HSem P (convert src dst (ρ x)) H K
  | _ => HGen P ρ o H K

def execNext (o : Oper) (a : Act) (K : Act → Heap → Prop) : Value → Heap → Prop := fun v H => K (a.put o.dst v) H

theorem HOp.of_gen {P : Program} {o : Oper} {a : Act} {H : Heap} {K : Value → Heap → Prop} {K' : Act → Heap → Prop} (h : HGen P a.eval o H K) (hk : ∀ v H', K v H' → K' (a.put o.dst v) H') : HOp P o K' a H := by
  intro w hs
  have h1 := h.sem w hs
  generalize (execOp a.eval o).run P w = r at *
  cases r with
  | halt x w' => exact h1.elim
  | ok x w1 =>
    cases x with
    | value v => obtain ⟨H', k, s, f⟩ := h1; exact ⟨H', hk _ _ k, s, f⟩
    | skip => obtain ⟨H', k, s, f⟩ := h1; exact ⟨H', hk _ _ k, s, f⟩
    | enter f args => obtain ⟨H', k, s, f⟩ := h1; exact ⟨H', k.mono fun v H2 h2 => hk _ _ h2, s, f⟩
    | _ => exact h1.elim

/-- What the model's Sem says, by swp. -/
theorem HGen.of_swp {P : Program} {ρ : Operand → Value} {o : Oper} {H : Heap} {K : Value → Heap → Prop}
    (h : swp P (execOp ρ o) (fun nx H1 => match nx with
      | .value v => K v H1
      | .skip => K undef H1
      | .enter f args => HCalls P f args.toList H1 K
      | _ => False) H) : HGen P ρ o H K := by
  constructor
  intro w hs
  obtain ⟨x, w1, H1, hr, hk, hs1, hf⟩ := swp_run P _ _ H w h hs
  rw [hr]
  cases x with
  | value v => exact ⟨H1, hk, hs1, hf⟩
  | skip => exact ⟨H1, hk, hs1, hf⟩
  | enter f args => exact ⟨H1, hk, hs1, hf⟩
  | _ => exact hk.elim
theorem HGen.of_swp_value {P : Program} {ρ : Operand → Value} {o : Oper} {H : Heap} {K : Value → Heap → Prop} {s : Sem Value} (he : execOp ρ o = (do pure (.value (← s)))) (h : swp P s K H) : HGen P ρ o H K := by
  refine HGen.of_swp ?_
  rw [he, swp_bind]
  exact h
theorem HGen.of_swp_unit {P : Program} {ρ : Operand → Value} {o : Oper} {H : Heap} {K : Value → Heap → Prop} {s : Sem Unit} (he : execOp ρ o = (do s; pure .skip)) (h : swp P s (fun _ => K undef) H) : HGen P ρ o H K := by
  refine HGen.of_swp ?_
  rw [he, swp_bind]
  exact h

section
variable {P : Program} {H : Heap}
theorem swp_typeInfo {t : TypeId} {i : TypeInfo} (h : P.info? t = some i) (K : TypeInfo → Heap → Prop) : swp P (typeInfo t) K H ↔ K i H := by
  unfold typeInfo
  rw [swp_bind]
  show (swp P (match P.info? t with | some i => pure i | none => stuck "no such type") K H) ↔ _
  rw [h]; exact Iff.rfl
theorem swp_underlying {t : TypeId} {d : TypeDesc} (h : P.underlying t = some d) (K : TypeDesc → Heap → Prop) : swp P (underlying t) K H ↔ K d H := by
  unfold underlying
  rw [swp_bind]
  show (swp P (match P.underlying t with | some d => pure d | none => stuck "no such type") K H) ↔ _
  rw [h]; exact Iff.rfl
theorem swp_sizeOf {t : TypeId} {i : TypeInfo} (h : P.info? t = some i) (K : Nat → Heap → Prop) : swp P (sizeOf t) K H ↔ K i.size H := by
  unfold sizeOf
  rw [swp_bind, swp_typeInfo h]; exact Iff.rfl
theorem swp_zeroValue {t : TypeId} {i : TypeInfo} {z : Value} (h : P.info? t = some i) (hz : i.zero = some z) (K : Value → Heap → Prop) : swp P (zeroValue t) K H ↔ K z H := by
  unfold zeroValue
  rw [swp_bind, swp_typeInfo h]
  simp only [hz]; exact Iff.rfl
theorem swp_newRow {e : TypeId} {cells : Array Value} {K : Addr → Heap → Prop} (h : ∀ b, H b = none → K ⟨b, 0, none⟩ (H.upd b (.cells cells e))) : swp P (newRow e cells) K H := by
  unfold newRow
  rw [swp_bind]
  exact fun b hb => h b hb
theorem swp_storeCells {b off : Nat} {K : Heap → Prop} : ∀ (vs : List Value) (i : Nat) (H : Heap), storeN H b off i K vs → swp P (storeCells ⟨b, off, none⟩ vs i) (fun _ H' => K H') H
  | [], _, _, h => h
  | v :: vs, i, H, h => by
    obtain ⟨h0, h1, h2, h3⟩ := h
    show swp P (storeCells ⟨b, off, none⟩ (v :: vs) i) _ H
    unfold storeCells
    rw [swp_bind, Addr.add_lit]
    exact ⟨h0, h1, h2, swp_storeCells vs (i + 1) _ h3⟩

theorem swp_buildSlice {t e : TypeId} {ie : TypeInfo} {z : Value} {len : Nat} {parts : Array (Nat × Value)} {cells : Array Value} {K : Value → Heap → Prop} (hu : P.underlying t = some (.slice e)) (hi : P.info? e = some ie) (hz : ie.zero = some z) (hle : len * ie.size ≤ cap24)
    (hc : Instr.fill (fun i => some (i * ie.size, ie.size)) ((Array.range (len * ie.size)).map (z.cells[· % z.cells.size]!)) parts.toList = some cells)
    (h : ∀ b, H b = none → K (.slice (some ⟨b, 0, none⟩) len len) (H.upd b (.cells cells e))) : swp P (Instr.buildSlice t len parts) K H := by
  unfold Instr.buildSlice
  rw [swp_bind, swp_underlying hu]
  dsimp only
  rw [swp_bind, swp_sizeOf hi]
  have hle' : ¬ len * ie.size > 2 ^ 24 := by unfold cap24 at hle; omega
  rw [if_neg hle']
  have fin : ∀ zero : Array Value, (len * ie.size ≠ 0 → zero = z.cells) → swp P (do
      let some cells := Instr.fill (fun i => some (i * ie.size, ie.size)) ((Array.range (len * ie.size)).map (zero[· % zero.size]!)) parts.toList
        | stuck "buildSlice: a part of the wrong size"
      pure (Value.slice (some (← newRow e cells)) len len)) K H := by
    intro zero hzero
    have hrow : (Array.range (len * ie.size)).map (zero[· % zero.size]!) = (Array.range (len * ie.size)).map (z.cells[· % z.cells.size]!) := by
      by_cases h0 : len * ie.size = 0
      · rw [h0]; simp
      · rw [hzero h0]
    rw [hrow, hc]
    dsimp only
    rw [swp_bind]
    exact swp_newRow h
  by_cases h0 : len * ie.size = 0
  · rw [if_pos h0, swp_bind]
    exact fin #[] (fun hh => absurd h0 hh)
  · rw [if_neg h0, swp_bind, swp_zeroValue hi hz]
    exact fin z.cells (fun _ => rfl)

theorem swp_makeSlice {t e : TypeId} {ie : TypeInfo} {z : Value} {k k' : IntKind} {l c : Int} {K : Value → Heap → Prop} (hu : P.underlying t = some (.slice e)) (hi : P.info? e = some ie) (hz : ie.zero = some z) (e2 : z.cells.size = ie.size)
    (h0 : 0 ≤ l) (h1 : l ≤ c) (h2 : (ie.bytes : Int) * c ≤ cap48) (h3 : c < cap63)
    (h : ∀ b, H b = none → K (.slice (some ⟨b, 0, none⟩) l.toNat c.toNat) (H.upd b (.cells (repL c.toNat z.cells.toList).toArray e))) : swp P (Instr.makeSlice t (.int k l) (.int k' c)) K H := by
  unfold cap48 at h2
  unfold cap63 at h3
  have wl : IntKind.i64.wrap l = l := IntWalk.i64_in _ (by omega)
  have wc : IntKind.i64.wrap c = c := IntWalk.i64_in _ (by omega)
  unfold Instr.makeSlice
  rw [swp_bind, swp_underlying hu]
  dsimp only
  simp only [asInt, asIntOf, swp_bind, swp_pure, swp_typeInfo hi, wl, wc]
  rw [if_neg (by simp; omega)]
  have ask : ∀ (n : Nat) (K : Unit → Heap → Prop), K () H → swp P (askRoom n) K H := fun n K hk => by unfold askRoom; split <;> exact hk
  rw [swp_bind]
  refine ask _ _ ?_
  rw [swp_bind, swp_sizeOf hi]
  have hrep := row_eq c.toNat z.cells
  rw [e2] at hrep
  by_cases hc0 : c.toNat * ie.size = 0
  · rw [if_pos hc0, swp_bind]
    show swp P (do let a ← newRow e ((Array.range (c.toNat * ie.size)).map ((#[] : Array Value)[· % (#[] : Array Value).size]!)); pure (Value.slice (some a) l.toNat c.toNat)) K H
    have : (Array.range (c.toNat * ie.size)).map ((#[] : Array Value)[· % (#[] : Array Value).size]!) = (repL c.toNat z.cells.toList).toArray := by
      have hl : repL c.toNat z.cells.toList = [] := List.eq_nil_of_length_eq_zero (by rw [repL_length, Array.length_toList, e2, hc0])
      rw [hl, hc0]; simp
    rw [this, swp_bind]
    exact swp_newRow h
  · rw [if_neg hc0, swp_bind, swp_zeroValue hi hz]
    show swp P (do let a ← newRow e ((Array.range (c.toNat * ie.size)).map (z.cells[· % z.cells.size]!)); pure (Value.slice (some a) l.toNat c.toNat)) K H
    rw [e2, hrep, swp_bind]
    exact swp_newRow h

theorem eop_sound {o : Oper} {a : Act} {K : Value → Heap → Prop} {K' : Act → Heap → Prop} (h : eop P a.eval o H K) (hk : ∀ v H', K v H' → K' (a.put o.dst v) H') : HOp P o K' a H := by
  refine HOp.of_gen (K := K) ?_ hk
  obtain ⟨dst, op, ty, pos, after, guard⟩ := o
  unfold eop at h
  dsimp only at h
  split at h
  · rename_i e
    split at h
    · rename_i i hi
      split at h
      · rename_i z hz
        rw [forceL_iff] at h
        refine HGen.of_swp_value (s := Instr.alloc e true (.tuple #[])) rfl ?_
        unfold Instr.alloc
        rw [swp_bind, swp_zeroValue hi hz]
        show swp P (do pure (Value.pointer (some (← newVar e z)))) K H
        rw [swp_bind]
        exact swp_newRow fun b hb => by have := h.all b hb; rw [Array.toArray_toList] at this; exact this
      · exact h.elim
    · exact h.elim
  · rename_i e x
    rw [forceL_iff] at h
    refine HGen.of_swp_value (s := Instr.box e (a.eval x)) rfl ?_
    unfold Instr.box
    rw [swp_bind]
    exact swp_newRow fun b hb => by have := h.all b hb; rw [Array.toArray_toList] at this; exact this
  · rename_i t len parts
    split at h
    · rename_i e hu
      split at h
      · rename_i ie hi
        split at h
        · rename_i z hz
          obtain ⟨hle, h⟩ := h
          cases hsz : Nat.beq z.cells.size ie.size with
          | false => rw [hsz] at h; exact h.elim
          | true =>
            rw [hsz, cond_true] at h
            have hsz := Nat.eq_of_beq_eq_true hsz
            split at h
            · rename_i cells hc
              rw [forceL_iff] at h
              refine HGen.of_swp_value (s := _) rfl ?_
              refine swp_buildSlice hu hi hz hle (cells := cells.toArray) ?_ (fun b hb => h.all b hb)
              have hrow := row_eq len z.cells
              rw [hsz] at hrow
              rw [hsz, hrow, fillL_eq]
              rw [Array.toList_map] at *
              rw [hc]; rfl
            · exact h.elim
        · exact h.elim
      · exact h.elim
    · exact h.elim
  · rename_i t x y
    split at h
    · rename_i b off i hx hi
      cases hle : Nat.beq (a.eval y).cells.size i.size with
      | false => rw [hle] at h; exact h.elim
      | true =>
        rw [hle, cond_true] at h
        refine HGen.of_swp_unit (s := Instr.storeAt t (a.eval x) (a.eval y)) rfl ?_
        unfold Instr.storeAt
        rw [hx, swp_bind]
        show swp P (storeVar t ⟨b, off, none⟩ (a.eval y)) _ H
        unfold storeVar
        rw [swp_bind, swp_sizeOf hi]
        have : (a.eval y).cells.size = i.size := Nat.eq_of_beq_eq_true hle
        rw [if_neg (by simpa using this)]
        exact swp_storeCells _ _ _ h
    · exact h.elim
  · rename_i t len cap
    split at h
    · rename_i e hu
      split at h
      · rename_i ie hi
        split at h
        · rename_i z k l k' c hz hl hc
          cases hs2 : Nat.beq z.cells.size ie.size with
          | false => rw [hs2] at h; exact h.elim
          | true =>
              rw [hs2, cond_true] at h
              have e2 : z.cells.size = ie.size := Nat.eq_of_beq_eq_true hs2
              obtain ⟨⟨h0, h1, h2, h3⟩, h⟩ := h
              refine HGen.of_swp_value (s := Instr.makeSlice t (a.eval len) (a.eval cap)) rfl ?_
              rw [hl, hc]
              exact swp_makeSlice hu hi hz e2 h0 h1 h2 h3 (fun b hb => h.all b hb)
        · exact h.elim
      · exact h.elim
    · exact h.elim
  · rename_i f args argTypes
    split at h
    · rename_i g first captured hf
      obtain ⟨⟨fn, h1, h2, h3⟩, h⟩ := h
      constructor
      intro w hs
      have hrun : (execOp a.eval { dst := dst, op := .call { callee := .value f, args := args, argTypes := argTypes }, type := ty, pos := pos, after := after, guard := guard }).run P w = .ok (.enter g (first ++ args.map a.eval ++ captured)) w := by
        simp only [execOp, resolve, hf, Deferred.ofValue, invoke, Sem.run_bind, Sem.run_pure, Result.andThen_ok, callFunc]
        have h2' : ¬ fn.name = "runtime.NumGoroutine" := by simpa using h2
        have h3' : ¬ fn.body = none := by intro e; rw [e] at h3; simp at h3
        simp [h1, h2', h3']
      rw [hrun]
      exact ⟨H, by simpa using h, hs, Fr.refl _ _⟩
    · exact h.elim
  · rename_i args argTypes
    rw [← Array.toList_map, Array.toArray_toList] at h
    exact HSem.gen (s := Builtin.append_ argTypes ty (args.map a.eval)) rfl h
  · rename_i args argTypes
    rw [← Array.toList_map, Array.toArray_toList] at h
    exact HSem.gen (s := Builtin.copy_ argTypes ty (args.map a.eval)) rfl h
  · rename_i args argTypes
    rw [← Array.toList_map, Array.toArray_toList] at h
    exact HSem.gen (s := Builtin.clear_ argTypes ty (args.map a.eval)) rfl h
  · rename_i args argTypes
    rw [← Array.toList_map, Array.toArray_toList] at h
    exact HSem.gen (s := Builtin.delete_ argTypes ty (args.map a.eval)) rfl h
  · exact HSem.gen rfl h
  · exact HSemU.gen rfl h
  · exact HSem.gen rfl h
  · exact HSem.gen rfl h
  · exact HSem.gen rfl h
  · exact HSem.gen rfl h
  · exact h
end

/-! ## The same with operands evaluated first (so that no unevaluated operand is left in a value) -/
def mapK (ρ : Operand → (Value → Prop) → Prop) : List Operand → (List Value → Prop) → Prop
  | [], k => k []
  | x :: xs, k => ρ x fun v => mapK ρ xs fun vs => k (v :: vs)
def optK (ρ : Operand → (Value → Prop) → Prop) : Option Operand → (Option Value → Prop) → Prop
  | none, k => k none
  | some x, k => ρ x fun v => k (some v)
def partsK (ρ : Operand → (Value → Prop) → Prop) : List (Nat × Operand) → (List (Nat × Value) → Prop) → Prop
  | [], k => k []
  | (i, x) :: xs, k => ρ x fun v => partsK ρ xs fun vs => k ((i, v) :: vs)

def fopC (P : Program) (ρ : Operand → (Value → Prop) → Prop) (Hs : List Heap) (K : Value → Prop) : Op → Prop
  | .move x => ρ x K
  | .assign x => ρ x K
  | .pick c a b => ρ c fun vc => (match vc with | .bool true => ρ a K | .bool false => ρ b K | _ => False)
  | .load t a => ρ a fun va => (match va with
    | .pointer (some ⟨b, off, none⟩) => (match isAggB P t, P.info? t with
      | some true, some i => HLoadN Hs b off i.size fun vs => K (.agg vs.toArray)
      | some false, _ => HLoad Hs ⟨b, off, none⟩ K
      | _, _ => False)
    | _ => False)
  | .nilCheck x => ρ x fun vx => (match vx with
    | .pointer (some a) => K (.pointer (some a))
    | .iface t v => K (.iface t v)
    | .func (.func f) u c => K (.func (.func f) u c)
    | _ => False)
  | .binOp op t x y _ => ρ x fun u => ρ y fun v => fbin P op t x y K u v
  | .unOp op _ x => ρ x fun vx => (match op, vx with
    | .not, .bool b => K (.bool (!b))
    | .neg, .int k n => K (.int k (wr k (0 - n)))
    | .xor, .int k n => K (.int k (bitsS .xor k (if k.signed then -1 else k.max) n))
    | _, _ => False)
  | .convert src dst x => ρ x fun v => fconv P Hs src dst v K
  | .makeInterface t x => (match P.underlying t with
    | some (.interface _) => False
    | some _ => ρ x fun v => K (.iface t v)
    | none => False)
  | .makeFunc fn first captured => mapK ρ first.toList fun u => mapK ρ captured.toList fun v => K (.func fn u.toArray v.toArray)
  | .slice t x lo hi none => ρ x fun v => optK ρ lo fun l => optK ρ hi fun h => fslice P t v l h K
  | .slice t x lo hi (some mx) => ρ x fun vx => optK ρ lo fun vl => optK ρ hi fun vh => ρ mx fun vm => fslice3 P t vx vl vh vm K
  | .fieldAddr s x f => ρ x fun vx => (match P.underlying s, vx with
    | some (.struct fs), .pointer (some ⟨b, off, none⟩) => (match fs[f]? with
      | some fd => (match P.info? fd.type with
        | some i => cond (Nat.beq i.size 0) False (K (.pointer (some ⟨b, off + fd.offset, none⟩)))
        | none => False)
      | none => False)
    | _, _ => False)
  | .field t x f => ρ x fun vx => (match P.underlying t, vx with
    | some (.struct fs), .agg cs => (match fs[f]? with
      | some fd => fpart P fd.type cs.toList fd.offset K
      | none => False)
    | _, _ => False)
  | .indexAddr t x i => ρ x fun u => ρ i fun v => findexAddr P t u v K
  | .index t x i => ρ x fun u => ρ i fun v => findex P t u v K
  | .extract x j => ρ x fun vx => (match vx with
    | .tuple vs => (match vs.toList[j]? with | some v => K v | none => False)
    | _ => False)
  | .build t parts => partsK ρ parts.toList fun ps => (match builtL P t ps with
    | some cells => forceL cells fun l => K (.agg l.toArray)
    | none => False)
  | .lookup t x i ok => ρ x fun vx => ρ i fun vi => HRd P (Instr.lookup t vx vi ok) Hs K
  | .typeAssert x xt at_ ok => ρ x fun vx => HRd P (Instr.typeAssert vx xt at_ ok) Hs K
  | .call { callee := .builtin .len, args, argTypes } => mapK ρ args.toList fun vs => (match vs, argTypes.toList.map P.underlying with
    | [.slice _ n _], [some (.slice _)] => K (.int .i64 n)
    | [.string s], [some .string] => K (.int .i64 s.size)
    | [_], [some (.array n _)] => K (.int .i64 n)
    | [.map r], [some (.map _ _)] => HRd P (Builtin.len_ argTypes 0 #[.map r]) Hs K
    | _, _ => False)
  | .call { callee := .builtin .max, args, .. } => mapK ρ args.toList fun vs => fmax .max K vs
  | .call { callee := .builtin .min, args, .. } => mapK ρ args.toList fun vs => fmax .min K vs
  | _ => False

def eopC (P : Program) (ρ : Operand → (Value → Prop) → Prop) (ρ0 : Operand → Value) (o : Oper) (H : Heap) (K : Value → Heap → Prop) : Prop :=
  match o.op with
  | .alloc e => (match P.info? e with
    | some i => (match i.zero with
      | some z => forceL z.cells.toList fun l => HNew H (.cells l.toArray e) fun b H' => K (.pointer (some ⟨b, 0, none⟩)) H'
      | none => False)
    | none => False)
  | .box e x => ρ x fun v => forceL v.cells.toList fun l => HNew H (.cells l.toArray e) fun b H' => K (.pointer (some ⟨b, 0, none⟩)) H'
  | .buildSlice t len parts => partsK ρ parts.toList fun ps => (match P.underlying t with
    | some (.slice e) => (match P.info? e with
      | some ie => (match ie.zero with
        | some z => HReq (len * ie.size ≤ cap24) (cond (Nat.beq z.cells.size ie.size) (match fillL (fun i => some (i * ie.size, ie.size)) (repL len z.cells.toList) ps with
          | some cells => forceL cells fun l => HNew H (.cells l.toArray e) fun b H' => K (.slice (some ⟨b, 0, none⟩) len len) H'
          | none => False) False)
        | none => False)
      | none => False)
    | _ => False)
  | .store t a x => ρ a fun va => ρ x fun vx => (match va, P.info? t with
    | .pointer (some ⟨b, off, none⟩), some i => cond (Nat.beq vx.cells.size i.size) (storeN H b off 0 (K undef) vx.cells.toList) False
    | _, _ => False)
  | .makeSlice t len cap => ρ len fun vl => ρ cap fun vc => (match P.underlying t with
    | some (.slice e) => (match P.info? e with
      | some ie => (match ie.zero, vl, vc with
        | some z, .int _ l, .int _ c => cond (Nat.beq z.cells.size ie.size) (HReq (0 ≤ l ∧ l ≤ c ∧ (ie.bytes : Int) * c ≤ cap48 ∧ c < cap63)
            (HNew H (.cells (repL c.toNat z.cells.toList).toArray e) fun b H' => K (.slice (some ⟨b, 0, none⟩) l.toNat c.toNat) H')) False
        | _, _, _ => False)
      | none => False)
    | _ => False)
  | .call { callee := .value f, args, .. } => ρ f fun vf => mapK ρ args.toList fun vs => (match vf with
    | .func (.func g) first captured => HCall P g (first.toList ++ vs ++ captured.toList) H K
    | _ => False)
  | .call { callee := .builtin .append, args, argTypes } => mapK ρ args.toList fun vs => HSem P (Builtin.append_ argTypes o.type vs.toArray) H K
  | .call { callee := .builtin .copy, args, argTypes } => mapK ρ args.toList fun vs => HSem P (Builtin.copy_ argTypes o.type vs.toArray) H K
  | .call { callee := .builtin .clear, args, argTypes } => mapK ρ args.toList fun vs => HSem P (Builtin.clear_ argTypes o.type vs.toArray) H K
  | .call { callee := .builtin .delete, args, argTypes } => mapK ρ args.toList fun vs => HSem P (Builtin.delete_ argTypes o.type vs.toArray) H K
  | .makeMap t none => HSem P (Instr.makeMap t none) H K
  | .mapUpdate t m k x => ρ m fun vm => ρ k fun vk => ρ x fun vx => HSemU P (Instr.mapUpdate t vm vk vx) H (K undef)
  | .range t x => ρ x fun vx => HSem P (Instr.range t vx) H K
  | .next x s => ρ x fun vx => HSem P (Instr.next vx s o.type) H K
  | .entry x => ρ x fun vx => HSem P (Instr.entry vx) H K
  | .convert src dst x => ρ x fun vx => HSem P (convert src dst vx) H K
  | _ => HGen P ρ0 o H K

section
variable {P : Program} {ρ : Operand → (Value → Prop) → Prop} {ρ0 : Operand → Value}
theorem mapK_iff (hρ : ∀ x k, ρ x k ↔ k (ρ0 x)) : ∀ (xs : List Operand) (k : List Value → Prop), mapK ρ xs k ↔ k (xs.map ρ0)
  | [], k => Iff.rfl
  | x :: xs, k => by unfold mapK; rw [hρ, mapK_iff hρ xs]; exact Iff.rfl
theorem optK_iff (hρ : ∀ x k, ρ x k ↔ k (ρ0 x)) : ∀ (x : Option Operand) (k : Option Value → Prop), optK ρ x k ↔ k (x.map ρ0)
  | none, k => Iff.rfl
  | some x, k => hρ x _
theorem partsK_iff (hρ : ∀ x k, ρ x k ↔ k (ρ0 x)) : ∀ (xs : List (Nat × Operand)) (k : List (Nat × Value) → Prop), partsK ρ xs k ↔ k (xs.map fun p => (p.1, ρ0 p.2))
  | [], k => Iff.rfl
  | (i, x) :: xs, k => by unfold partsK; rw [hρ, partsK_iff hρ xs]; exact Iff.rfl
theorem fopC_iff (hρ : ∀ x k, ρ x k ↔ k (ρ0 x)) {Hs : List Heap} {K : Value → Prop} (op : Op) : fopC P ρ Hs K op ↔ fop P ρ0 Hs K op := by
  unfold fopC fop
  split <;> first | (simp only [hρ, mapK_iff hρ, optK_iff hρ, partsK_iff hρ]; done) | (simp only [hρ, mapK_iff hρ, optK_iff hρ, partsK_iff hρ]; exact Iff.rfl) | (simp only [mapK_iff hρ, ← Array.toList_map, Array.toArray_toList]; done) | (simp only [mapK_iff hρ, ← Array.toList_map, Array.toArray_toList]; exact Iff.rfl) | exact Iff.rfl
theorem eopC_iff (hρ : ∀ x k, ρ x k ↔ k (ρ0 x)) {H : Heap} {K : Value → Heap → Prop} (o : Oper) : eopC P ρ ρ0 o H K ↔ eop P ρ0 o H K := by
  unfold eopC eop
  split <;> first | (simp only [hρ, mapK_iff hρ, optK_iff hρ, partsK_iff hρ]; done) | (simp only [hρ, mapK_iff hρ, optK_iff hρ, partsK_iff hρ]; exact Iff.rfl) | exact Iff.rfl
end
end Go.Proofs.YtfcmjomnpahllaaGreat.Hv
end
section
namespace Go.Proofs.YtfcmjomnpahllaaGreat.Hv
open Go
set_option linter.unusedVariables false
set_option linter.unusedSimpArgs false

/-! ## A frame's temporaries as a function -/
def E (n : Nat) (σ : Nat → Value) : Operand → Value
  | .tmp t => cond (Nat.blt t n) (σ t) undef
  | .const v => v
  | .global g => .pointer (some ⟨g, 0, none⟩)
  | .func f => .func (.func f) #[] #[]
def sput (σ : Nat → Value) (d : Option Tmp) (v : Value) : Nat → Value :=
  match d with
  | none => σ
  | some d => fun t => cond (Nat.beq t d) v (σ t)
/-- The temporaries as a list, the latest first; a look-up hands on what stands there (nothing unevaluated). -/
abbrev Env := List (Nat × Value)
def look : Env → Nat → (Value → Prop) → Prop
  | [], _, k => k undef
  | (s, v) :: σ, t, k => cond (Nat.beq t s) (k v) (look σ t k)
def sfun : Env → Nat → Value
  | [], _ => undef
  | (s, v) :: σ, t => cond (Nat.beq t s) v (sfun σ t)
theorem look_iff : ∀ (σ : Env) (t : Nat) (k : Value → Prop), look σ t k ↔ k (sfun σ t)
  | [], _, _ => Iff.rfl
  | (s, v) :: σ, t, k => by
    unfold look sfun
    cases Nat.beq t s with
    | true => exact Iff.rfl
    | false => exact look_iff σ t k
def eput (σ : Env) (d : Option Tmp) (v : Value) : Env := match d with | none => σ | some d => (d, v) :: σ
theorem sfun_eput (σ : Env) (d : Option Tmp) (v : Value) : sfun (eput σ d v) = sput (sfun σ) d v := by
  cases d with
  | none => rfl
  | some d => rfl
def EK (n : Nat) (σ : Env) : Operand → (Value → Prop) → Prop
  | .tmp t, k => cond (Nat.blt t n) (look σ t k) (k undef)
  | .const v, k => k v
  | .global g, k => k (.pointer (some ⟨g, 0, none⟩))
  | .func f, k => k (.func (.func f) #[] #[])
theorem EK_iff (n : Nat) (σ : Env) (x : Operand) (k : Value → Prop) : EK n σ x k ↔ k (E n (sfun σ) x) := by
  cases x with
  | tmp t =>
    show cond (Nat.blt t n) (look σ t k) (k undef) ↔ k (cond (Nat.blt t n) (sfun σ t) undef)
    cases Nat.blt t n with
    | true => exact look_iff σ t k
    | false => exact Iff.rfl
  | _ => exact Iff.rfl
def actOf (n : Nat) (σ : Nat → Value) : Act := { tmps := ((List.range n).map σ).toArray, defers := [] }

theorem blt_eq (t n : Nat) : Nat.blt t n = decide (t < n) := by
  cases h : Nat.blt t n with
  | false =>
    refine (decide_eq_false fun hl => ?_).symm
    rw [← Nat.blt_eq, h] at hl; cases hl
  | true =>
    refine (decide_eq_true ?_).symm
    rw [← Nat.blt_eq]; exact h
theorem actOf_get (n : Nat) (σ : Nat → Value) (t : Nat) : (actOf n σ).tmps[t]? = if t < n then some (σ t) else none := by
  unfold actOf
  by_cases h : t < n <;> simp [h]
theorem actOf_eval (n : Nat) (σ : Nat → Value) : (actOf n σ).eval = E n σ := by
  funext x
  cases x with
  | tmp t =>
    show (actOf n σ).tmps.getD t undef = cond (Nat.blt t n) (σ t) undef
    rw [Array.getD_eq_getD_getElem?, actOf_get, blt_eq]
    by_cases h : t < n <;> simp [h]
  | _ => rfl
theorem actOf_put (n : Nat) (σ : Nat → Value) (d : Option Tmp) (v : Value) : (actOf n σ).put d v = actOf n (sput σ d v) := by
  cases d with
  | none => rfl
  | some d =>
    unfold Act.put
    have : (actOf n σ).tmps.setIfInBounds d v = (actOf n (sput σ (some d) v)).tmps := by
      apply Array.ext_getElem?
      intro i
      rw [actOf_get]
      by_cases hd : i = d
      · subst hd
        have hsz : (actOf n σ).tmps.size = n := by simp [actOf]
        by_cases hn : i < n
        · rw [if_pos hn, Array.getElem?_setIfInBounds_self_of_lt (by omega)]
          simp [sput]
        · rw [if_neg hn, Array.getElem?_eq_none (by simp [hsz]; omega)]
      · rw [Array.getElem?_setIfInBounds_ne (Ne.symm hd), actOf_get]
        have : Nat.beq i d = false := Bool.eq_false_iff.2 fun e => hd (Nat.eq_of_beq_eq_true e)
        simp [sput, this]
    simp only [this]; rfl

/-! ## A region's operations -/
/-- The guard of an operation: performed, or skipped. -/
def dguard (n : Nat) (ops : List Oper) (o : Oper) (σ : Env) (yes no : Env → Prop) : Prop :=
  match o.guard with
  | none => yes σ
  | some (j, want) => match (nth ops j).bind (·.dst) with
    | none => no σ
    | some t => cond (Nat.blt t n) (look σ t fun v => match v with
      | .bool b => hcond b fun b' => cond (b' == want) (yes (eput σ (some t) (.bool b'))) (no (eput σ (some t) (.bool b')))
      | .tuple _ => no σ
      | _ => False) (no σ)

def dreg (P : Program) (n : Nat) (ops : List Oper) (K : Env → Heap → Prop) : List (Nat × Nat) → List Heap → Env → Heap → Prop
  | [], _, σ, H => K σ H
  | (i, k) :: rest, hist, σ, H => match nth ops i with
    | none => dreg P n ops K rest hist σ H
    | some o => dguard n ops o σ
        (fun σ => cond (isFloat P o)
          (fopC P (EK n σ) (H :: hist.take k) (fun v => dreg P n ops K rest hist (eput σ o.dst v) H) o.op)
          (eopC P (EK n σ) (E n (sfun σ)) o H (fun v H' => dreg P n ops K rest (H :: hist) (eput σ o.dst v) H')))
        (fun σ => dreg P n ops K rest hist (eput σ o.dst undef) H)

theorem sput_same (σ : Nat → Value) (t : Nat) (v : Value) (h : σ t = v) : sput σ (some t) v = σ := by
  funext x
  simp only [sput]
  cases e : Nat.beq x t with
  | false => rfl
  | true => have := Nat.eq_of_beq_eq_true e; subst this; exact h.symm

theorem dreg_sound {P : Program} {n : Nat} {ops : Array Oper} {K : Env → Heap → Prop} {K' : Act → Heap → Prop} (hk : ∀ σ H, K σ H → K' (actOf n (sfun σ)) H) :
    ∀ (c : List (Nat × Nat)) (hist : List Heap) (σ : Env) (s : Nat → Value) (H : Heap), sfun σ = s → dreg P n ops.toList K c hist σ H → dwp P ops K' c hist (actOf n s) H
  | [], _, σ, s, H, hse, h => by rw [← hse]; exact hk σ H h
  | (i, k) :: rest, hist, σ, s, H, hse, h => by
    subst hse
    unfold dreg at h
    unfold dwp
    rw [nth_eq, Array.getElem?_toList] at h
    cases ho : ops[i]? with
    | none => simp only [ho] at h ⊢; exact dreg_sound hk rest hist σ _ H rfl h
    | some o =>
      simp only [ho] at h ⊢
      have yes : ∀ σ : Env, (cond (isFloat P o) (fopC P (EK n σ) (H :: hist.take k) (fun v => dreg P n ops.toList K rest hist (eput σ o.dst v) H) o.op)
          (eopC P (EK n σ) (E n (sfun σ)) o H (fun v H' => dreg P n ops.toList K rest (H :: hist) (eput σ o.dst v) H'))) →
          (if isFloat P o = true then ∃ v, (∀ H' ∈ H :: hist.take k, Rds P (execOp (actOf n (sfun σ)).eval o) H' (.value v)) ∧ dwp P ops K' rest hist ((actOf n (sfun σ)).put o.dst v) H
           else HOp P o (fun a' H' => dwp P ops K' rest (H :: hist) a' H') (actOf n (sfun σ)) H) := by
        intro σ h
        cases hf : isFloat P o with
        | true =>
          rw [hf, cond_true, fopC_iff (EK_iff n σ)] at h
          obtain ⟨v, hd, hr⟩ := fop_sound o h
          rw [if_pos rfl]
          refine ⟨v, fun H' hm => by rw [actOf_eval]; exact hr H' hm, ?_⟩
          rw [actOf_put]
          exact dreg_sound hk rest hist _ _ H (sfun_eput _ _ _) hd
        | false =>
          rw [hf, cond_false, eopC_iff (EK_iff n σ)] at h
          rw [if_neg (by simp)]
          rw [← actOf_eval] at h
          refine eop_sound h fun v H' hd => ?_
          rw [actOf_put]
          exact dreg_sound hk rest _ _ _ H' (sfun_eput _ _ _) hd
      have no : ∀ σ : Env, dreg P n ops.toList K rest hist (eput σ o.dst undef) H → dwp P ops K' rest hist ((actOf n (sfun σ)).put o.dst undef) H := fun σ h => by
        rw [actOf_put]; exact dreg_sound hk rest hist _ _ H (sfun_eput _ _ _) h
      unfold dguard at h
      cases hg : o.guard with
      | none =>
        rw [hg] at h
        have hw : Region.wanted o (yielded ops (actOf n (sfun σ)).tmps) = true := by unfold Region.wanted; rw [hg]
        rw [if_pos hw]; exact yes σ h
      | some g =>
        obtain ⟨j, want⟩ := g
        rw [hg] at h
        simp only at h
        rw [nth_eq, Array.getElem?_toList] at h
        have hno : dreg P n ops.toList K rest hist (eput σ o.dst undef) H → yielded ops (actOf n (sfun σ)).tmps j ≠ some want →
            (if Region.wanted o (yielded ops (actOf n (sfun σ)).tmps) = true then
              (if isFloat P o = true then ∃ v, (∀ H' ∈ H :: hist.take k, Rds P (execOp (actOf n (sfun σ)).eval o) H' (.value v)) ∧ dwp P ops K' rest hist ((actOf n (sfun σ)).put o.dst v) H
               else HOp P o (fun a' H' => dwp P ops K' rest (H :: hist) a' H') (actOf n (sfun σ)) H)
            else dwp P ops K' rest hist ((actOf n (sfun σ)).put o.dst undef) H) := fun h hy => by
          have hw : ¬ Region.wanted o (yielded ops (actOf n (sfun σ)).tmps) = true := by
            unfold Region.wanted; rw [hg]; simpa using hy
          rw [if_neg hw]; exact no σ h
        cases ht : (ops[j]?).bind (·.dst) with
        | none =>
          rw [ht] at h
          exact hno h (by unfold yielded; rw [ht]; simp)
        | some t =>
          rw [ht] at h
          simp only at h
          rw [blt_eq, look_iff] at h
          by_cases htn : t < n
          · simp only [htn, decide_true, cond_true] at h
            have hyv : (actOf n (sfun σ)).tmps[t]? = some (sfun σ t) := by rw [actOf_get, if_pos htn]
            generalize hv : sfun σ t = v at h hyv
            cases v <;> simp only at h <;> try exact h.elim
            case bool b =>
              have h := hcond_elim h
              have e1 : sfun (eput σ (some t) (.bool b)) = sfun σ := by rw [sfun_eput]; exact sput_same _ t _ hv
              have hy : yielded ops (actOf n (sfun σ)).tmps j = some b := by
                unfold yielded; rw [ht]; simp [hyv]
              by_cases hb : b = want
              · subst hb
                simp only [beq_self_eq_true, cond_true] at h
                have hw : Region.wanted o (yielded ops (actOf n (sfun σ)).tmps) = true := by
                  unfold Region.wanted; rw [hg]; simp [hy]
                rw [if_pos hw]
                have := yes _ h
                rw [e1] at this
                exact this
              · have : (b == want) = false := by simpa using hb
                rw [this, cond_false] at h
                have hw : ¬ Region.wanted o (yielded ops (actOf n (sfun σ)).tmps) = true := by
                  unfold Region.wanted; rw [hg]; simpa [hy] using hb
                rw [if_neg hw]
                have := no _ h
                rw [e1] at this
                exact this
            case tuple vs =>
              exact hno h (by unfold yielded; rw [ht]; simp [hyv])
          · simp only [htn, decide_false, cond_false] at h
            have hyv : (actOf n (sfun σ)).tmps[t]? = none := by rw [actOf_get, if_neg htn]
            exact hno h (by unfold yielded; rw [ht]; simp [hyv])

/-! ## Code -/
def seqOf (cs : List (Nat × List (Nat × Nat))) (id : Nat) : List (Nat × Nat) :=
  match cs with
  | [] => []
  | (j, l) :: rest => cond (Nat.beq id j) l (seqOf rest id)
def upFrom : Nat → Nat → List (Nat × Nat)
  | _, 0 => []
  | i, n + 1 => (i, 0) :: upFrom (i + 1) n
theorem upFrom_eq (n : Nat) : ∀ i, upFrom i n = (List.range' i n).map fun j => (j, 0) := by
  induction n with
  | zero => intro i; rfl
  | succ n ih => intro i; rw [upFrom, ih, List.range'_succ]; rfl

def thenD (next : Env → Heap → Prop) (K : Exit → Env → Heap → Prop) : Exit → Env → Heap → Prop
  | .normal => next
  | e => K e
def blockD (id : Nat) (K : Exit → Env → Heap → Prop) : Exit → Env → Heap → Prop
  | .exit id' => cond (Nat.beq id' id) (K .normal) (K (.exit id'))
  | e => K e
structure HLoop (B : (Env → Heap → Prop) → Env → Heap → Prop) (σ : Env) (H : Heap) : Prop where
  ex : ∃ I : Nat → Env → Heap → Prop, (∃ m, I m σ H) ∧ ∀ m σ H, I m σ H → B (fun σ' H' => ∃ m', m' < m ∧ I m' σ' H') σ H

/-- A region of two orders has its second list under its number plus 1000, its two effects under its number plus 2000. -/
def twice (c : List (Nat × Nat)) (A B : Prop) : Prop := match c with | [] => A | _ :: _ => A ∧ B
def fst1 (c : List (Nat × Nat)) : Nat × Nat := match c with | [] => (0, 0) | x :: _ => x
def dcode (P : Program) (n : Nat) (cs : List (Nat × List (Nat × Nat))) : Code → (Exit → Env → Heap → Prop) → Env → Heap → Prop
  | .skip, K, σ, H => K .normal σ H
  | .label _, K, σ, H => K .normal σ H
  | .exit id, K, σ, H => K (.exit id) σ H
  | .ret, K, σ, H => K .ret σ H
  | .region id ops draw, K, σ, H => twice (cond draw (seqOf cs (id + 4000)) []) (twice (cond draw (seqOf cs (id + 3000)) []) (twice (cond draw (seqOf cs (id + 1000)) []) (dreg P n ops.toList (K .normal) (cond draw (seqOf cs id) (upFrom 0 ops.toList.length)) [] σ H) (dreg P n ops.toList (K .normal) (seqOf cs (id + 1000)) [] σ H)) (dreg P n ops.toList (K .normal) (seqOf cs (id + 3000)) [] σ H)) (dreg P n ops.toList (K .normal) (seqOf cs (id + 4000)) [] σ H)
  | .seq a b, K, σ, H => dcode P n cs a (thenD (dcode P n cs b K) K) σ H
  | .cond c x y, K, σ, H => EK n σ c fun v => (match v with
    | .bool t => hcond t fun b => cond b (dcode P n cs x K σ H) (dcode P n cs y K σ H)
    | _ => False)
  | .block id c, K, σ, H => dcode P n cs c (blockD id K) σ H
  | .loop c, K, σ, H => HLoop (fun KN σ' H' => dcode P n cs c (thenD KN K) σ' H') σ H
  | _, _, _, _ => False

/-- The regions that draw stand in the list of canonical orders. -/
def codeOk (P : Program) (cs : List (Nat × List (Nat × Nat))) : Code → Bool
  | .region id ops true => match seqOf cs (id + 1000), seqOf cs (id + 3000), seqOf cs (id + 4000) with
    | [], [], [] => canonOk P ops (Region.before ops) (seqOf cs id)
    | x :: d, [], [] => canonOk2 P ops (Region.before ops) (seqOf cs id) (x :: d) (fst1 (seqOf cs (id + 2000))).1 (fst1 (seqOf cs (id + 2000))).2
    | x :: d, y :: e, [] => canonOkN P ops (Region.before ops) [seqOf cs id, x :: d, y :: e]
    | x :: d, y :: e, z :: f => canonOkN P ops (Region.before ops) [seqOf cs id, x :: d, y :: e, z :: f]
    | _, _, _ => false
  | .seq a b => codeOk P cs a && codeOk P cs b
  | .cond _ x y => codeOk P cs x && codeOk P cs y
  | .block _ c => codeOk P cs c
  | .loop c => codeOk P cs c
  | _ => true

theorem dcode_sound {P : Program} {n : Nat} {cs : List (Nat × List (Nat × Nat))} (hm : P.follows .mixedOrders = true) :
    ∀ (c : Code) (K : Exit → Env → Heap → Prop) (K' : Exit → Act → Heap → Prop), codeOk P cs c = true → (∀ e σ H, K e σ H → K' e (actOf n (sfun σ)) H) →
      ∀ (σ : Env) (H : Heap), dcode P n cs c K σ H → HWp P c K' (actOf n (sfun σ)) H := by
  intro c
  induction c with
  | skip => intro K K' _ hk σ H h; exact HWp.skip (hk _ _ _ h)
  | label l => intro K K' _ hk σ H h; exact HWp.label (hk _ _ _ h)
  | exit id => intro K K' _ hk σ H h; exact HWp.exit (hk _ _ _ h)
  | ret => intro K K' _ hk σ H h; exact HWp.ret (hk _ _ _ h)
  | region id ops draw =>
    intro K K' ok hk σ H h
    unfold dcode at h
    cases draw with
    | false =>
      rw [cond_false, cond_false] at h
      have h : dreg P n ops.toList (K .normal) (upFrom 0 ops.toList.length) [] σ H := h
      refine HWp.region ?_
      have := dreg_sound (K' := K' .normal) (hk .normal) _ [] σ _ H rfl h
      rw [upFrom_eq, ← List.range_eq_range', Array.length_toList] at this
      exact this
    | true =>
      rw [cond_true, cond_true, cond_true, cond_true] at h
      unfold codeOk at ok
      have one : ∀ c, dreg P n ops.toList (K .normal) c [] σ H → dwp P ops (K' .normal) c [] (actOf n (sfun σ)) H := fun c hd => dreg_sound (K' := K' .normal) (hk .normal) _ [] σ _ H rfl hd
      cases hq : seqOf cs (id + 1000) with
      | nil =>
        cases hq3 : seqOf cs (id + 3000) with
        | cons y q3 => simp only [hq, hq3] at ok; cases ok
        | nil =>
          cases hq4 : seqOf cs (id + 4000) with
          | cons y q4 => simp only [hq, hq3, hq4] at ok; cases ok
          | nil =>
            rw [hq, hq3, hq4] at h
            simp only [hq, hq3, hq4] at ok
            exact HWp.drawn hm ok (one _ h)
      | cons x q =>
        cases hq3 : seqOf cs (id + 3000) with
        | nil =>
          cases hq4 : seqOf cs (id + 4000) with
          | cons y q4 => simp only [hq, hq3, hq4] at ok; cases ok
          | nil =>
            rw [hq, hq3, hq4] at h
            simp only [hq, hq3, hq4] at ok
            have h : _ ∧ _ := h
            exact HWp.drawn2 hm ok (one _ h.1) (one _ h.2)
        | cons y q3 =>
          cases hq4 : seqOf cs (id + 4000) with
          | nil =>
            rw [hq, hq3, hq4] at h
            simp only [hq, hq3, hq4] at ok
            have h : (_ ∧ _) ∧ _ := h
            refine HWp.drawnN hm ok fun c hc => ?_
            simp only [List.mem_cons, List.not_mem_nil, or_false] at hc
            rcases hc with rfl | rfl | rfl
            · exact one _ h.1.1
            · exact one _ h.1.2
            · exact one _ h.2
          | cons z q4 =>
            rw [hq, hq3, hq4] at h
            simp only [hq, hq3, hq4] at ok
            have h : ((_ ∧ _) ∧ _) ∧ _ := h
            refine HWp.drawnN hm ok fun c hc => ?_
            simp only [List.mem_cons, List.not_mem_nil, or_false] at hc
            rcases hc with rfl | rfl | rfl | rfl
            · exact one _ h.1.1.1
            · exact one _ h.1.1.2
            · exact one _ h.1.2
            · exact one _ h.2
  | seq a b iha ihb =>
    intro K K' ok hk σ H h
    unfold codeOk at ok
    simp only [Bool.and_eq_true] at ok
    unfold dcode at h
    refine HWp.seq (iha _ _ ok.1 ?_ σ H h)
    intro e σ H h
    cases e <;> first | exact ihb K K' ok.2 hk σ H h | exact hk _ _ _ h
  | cond c x y ihx ihy =>
    intro K K' ok hk σ H h
    unfold codeOk at ok
    simp only [Bool.and_eq_true] at ok
    unfold dcode at h
    rw [EK_iff] at h
    generalize hv : E n (sfun σ) c = v at h
    cases v <;> try exact h.elim
    rename_i t
    refine HWp.cond (t := t) (by rw [actOf_eval]; exact hv) (fun ht => ?_) (fun hf => ?_)
    · subst ht; exact ihx K K' ok.1 hk σ H h
    · subst hf; exact ihy K K' ok.2 hk σ H h
  | block id c ih =>
    intro K K' ok hk σ H h
    unfold codeOk at ok
    unfold dcode at h
    refine HWp.block (ih _ _ ok ?_ σ H h)
    intro e σ H h
    cases e <;> try exact hk _ _ _ h
    rename_i id'
    unfold blockD at h
    unfold blockK
    simp only at h ⊢
    by_cases e : id' = id
    · rw [if_pos e]
      have : Nat.beq id' id = true := by rw [e]; exact Nat.beq_refl id
      rw [this] at h; exact hk _ _ _ h
    · rw [if_neg e]
      have : Nat.beq id' id = false := Bool.eq_false_iff.2 fun e' => e (Nat.eq_of_beq_eq_true e')
      rw [this] at h; exact hk _ _ _ h
  | loop c ih =>
    intro K K' ok hk σ H h
    unfold codeOk at ok
    unfold dcode at h
    obtain ⟨I, h0, hr⟩ := h
    refine HWp.loop (fun m a H => ∃ σ, a = actOf n (sfun σ) ∧ I m σ H) ?_ ?_
    · obtain ⟨m, hm⟩ := h0; exact ⟨m, σ, rfl, hm⟩
    · rintro m a H ⟨σ, rfl, hI⟩
      refine ih _ _ ok ?_ σ H (hr m σ H hI)
      intro e σ' H' h'
      cases e <;> first | exact hk _ _ _ h' | skip
      obtain ⟨m', hlt, hI'⟩ := h'
      exact ⟨m', hlt, σ', rfl, hI'⟩
  | _ => intro K K' ok hk σ H h; exact h.elim

/-! ## Functions -/
def dres (P : Program) (n : Nat) (σ : Env) (H : Heap) : List ResultVar → (List Value → Prop) → Prop
  | [], k => k []
  | .tmp t :: rs, k => EK n σ (.tmp t) fun v => dres P n σ H rs fun vs => k (v :: vs)
  | .cell a t :: rs, k => EK n σ (.tmp a) fun va => (match va with
    | .pointer (some ⟨b, off, none⟩) => (match isAggB P t, P.info? t with
      | some true, some i => HLoadN [H] b off i.size fun cs => dres P n σ H rs fun vs => k (.agg cs.toArray :: vs)
      | some false, _ => HLoad [H] ⟨b, off, none⟩ fun v => dres P n σ H rs fun vs => k (v :: vs)
      | _, _ => False)
    | _ => False)
def oneOr (vs : List Value) : Value := match vs with | [v] => v | vs => .tuple vs.toArray
def retD (P : Program) (fn : Func) (K : Value → Heap → Prop) : Exit → Env → Heap → Prop
  | .normal, σ, H | .ret, σ, H => dres P fn.ntmps σ H fn.results.toList fun vs => K (oneOr vs) H
  | _, _, _ => False
def argsFrom : Nat → List Value → Env
  | _, [] => []
  | i, v :: vs => (i, v) :: argsFrom (i + 1) vs
theorem sfun_argsFrom : ∀ (vs : List Value) (i t : Nat), sfun (argsFrom i vs) t = if i ≤ t then (vs[t - i]?).getD undef else undef
  | [], i, t => by simp [argsFrom, sfun]
  | v :: vs, i, t => by
    unfold argsFrom sfun
    cases e : Nat.beq t i with
    | true => have := Nat.eq_of_beq_eq_true e; subst this; simp
    | false =>
      rw [cond_false, sfun_argsFrom vs (i + 1) t]
      have hne : t ≠ i := fun h => by subst h; simp at e
      by_cases h : i ≤ t
      · have h1 : i + 1 ≤ t := by omega
        rw [if_pos h, if_pos h1]
        have : t - i = (t - (i + 1)) + 1 := by omega
        rw [this]; simp
      · rw [if_neg h, if_neg (by omega)]

def resF (tmps : Array Value) : ResultVar → Sem Value
  | .tmp t => pure (tmps.getD t undef)
  | .cell a t => do loadVar t (← asAddr (tmps.getD a undef))
theorem results_eq (fn : Func) (tmps : Array Value) : results fn tmps = (do
    let vs ← fn.results.mapM (resF tmps)
    pure (if h : vs.size = 1 then vs[0] else .tuple vs)) := rfl
theorem dres_sound {P : Program} {n : Nat} {σ : Env} {H : Heap} : ∀ (rs : List ResultVar) (k : List Value → Prop), dres P n σ H rs k →
    ∃ vs, k vs ∧ ∀ w, Sat H w → (rs.mapM (resF (actOf n (sfun σ)).tmps)).run P w = .ok vs w
  | [], k, h => ⟨[], h, fun w _ => by simp⟩
  | .tmp t :: rs, k, h => by
    unfold dres at h
    rw [EK_iff] at h
    obtain ⟨vs, hk, hr⟩ := dres_sound rs _ h
    refine ⟨_, hk, fun w hs => ?_⟩
    have he : (actOf n (sfun σ)).tmps.getD t undef = E n (sfun σ) (.tmp t) := by rw [← actOf_eval]; rfl
    simp only [List.mapM_cons, resF, Sem.run_bind, Sem.run_pure, Result.andThen_ok, he]
    rw [hr w hs]; rfl
  | .cell a t :: rs, k, h => by
    unfold dres at h
    rw [EK_iff] at h
    split at h
    · rename_i b off ha
      have he : (actOf n (sfun σ)).tmps.getD a undef = .pointer (some ⟨b, off, none⟩) := by rw [← ha, ← actOf_eval]; rfl
      have : ∃ r, (dres P n σ H rs fun vs => k (r :: vs)) ∧ ∀ H' ∈ [H], Rds P (loadVar t ⟨b, off, none⟩) H' r := by
        refine loadVar_sound (K := fun r => dres P n σ H rs fun vs => k (r :: vs)) ?_
        exact h
      obtain ⟨r, hd, hl⟩ := this
      obtain ⟨vs, hk, hr⟩ := dres_sound rs _ hd
      refine ⟨_, hk, fun w hs => ?_⟩
      have haddr : (asAddr (.pointer (some ⟨b, off, none⟩))).run P w = .ok ⟨b, off, none⟩ w := rfl
      simp only [List.mapM_cons, resF, Sem.run_bind, Sem.run_pure, Result.andThen_ok, he, haddr, hl H (by simp) w hs]
      rw [hr w hs]; rfl
    · exact h.elim

theorem hcalls_of_dcode {P : Program} {f : FuncId} {fn : Func} {c : Code} {args : List Value} {H : Heap} {K : Value → Heap → Prop} {cs : List (Nat × List (Nat × Nat))}
    (hm : P.follows .mixedOrders = true) (hf : P.funcs[f]? = some fn) (hb : fn.body = some c) (hn : Nat.ble args.length fn.ntmps = true) (ok : codeOk P cs c = true)
    (h : dcode P fn.ntmps cs c (retD P fn K) (argsFrom 0 args) H) : HCalls P f args H K := by
  intro w hs
  refine calls_of_wp hf hb ?_
  have hn' := Nat.le_of_ble_eq_true hn
  have hact : ({ tmps := args.toArray ++ Array.replicate (fn.ntmps - args.toArray.size) undef, defers := [] } : Act) = actOf fn.ntmps (sfun (argsFrom 0 args)) := by
    unfold actOf
    congr 1
    apply Array.ext_getElem?
    intro i
    rw [Array.getElem?_append]
    simp only [List.size_toArray]
    by_cases h1 : i < args.length
    · have : i < fn.ntmps := by omega
      simp [h1, this, sfun_argsFrom]
    · by_cases h2 : i < fn.ntmps
      · have : i - args.length < fn.ntmps - args.length := by omega
        simp [h1, h2, this, sfun_argsFrom]
      · have : ¬ i - args.length < fn.ntmps - args.length := by omega
        simp [h1, h2, this]
  rw [hact]
  have := dcode_sound hm c (retD P fn K) (fun e a H' => ∃ σ, a = actOf fn.ntmps (sfun σ) ∧ retD P fn K e σ H') ok (fun e σ H h => ⟨σ, rfl, h⟩) _ H h w hs
  refine wp_mono this fun e a' w' ⟨H', ⟨σ, ha, hr⟩, hs', hfr⟩ => ?_
  subst ha
  have key : dres P fn.ntmps σ H' fn.results.toList (fun vs => K (oneOr vs) H') → ∃ v, (results fn (actOf fn.ntmps (sfun σ)).tmps).run P w' = .ok v w' ∧ ∃ v' H'', Ending.returned v = Ending.returned v' ∧ K v' H'' ∧ Sat H'' w' ∧ Fr H H'' w w' := by
    intro hd
    obtain ⟨vs, hk, hrun⟩ := dres_sound _ _ hd
    refine ⟨oneOr vs, ?_, oneOr vs, H', rfl, hk, hs', hfr⟩
    rw [results_eq, Array.mapM_eq_mapM_toList]
    have h1 := hrun w' hs'
    simp only [Sem.run_bind, map_eq_pure_bind]
    rw [h1]
    simp only [Result.andThen_ok, Sem.run_pure]
    unfold oneOr
    match vs with
    | [] => rfl
    | [v] => rfl
    | v :: u :: l => rfl
  cases e with
  | normal => exact ⟨rfl, key hr⟩
  | ret => exact ⟨rfl, key hr⟩
  | _ => exact hr.elim
end Go.Proofs.YtfcmjomnpahllaaGreat.Hv
end
section
namespace Go.Proofs.YtfcmjomnpahllaaGreat.Hv
open Go
set_option linter.unusedVariables false
set_option linter.unusedSimpArgs false

section
variable {P : Program} {ρ : Operand → Value} {Hs : List Heap} {K K' : Value → Prop}
theorem forceL_mono {l : List Value} {k k' : List Value → Prop} (hk : ∀ x, k x → k' x) (h : forceL l k) : forceL l k' := (forceL_iff _ _).2 (hk _ ((forceL_iff _ _).1 h))
theorem hcond_mono {t : Bool} {K K' : Bool → Prop} (hk : ∀ b, K b → K' b) (h : hcond t K) : hcond t K' := by cases t <;> exact hk _ h
theorem hcond_t_of {t : Bool} {K : Bool → Prop} (h : K t) : hcond t K := by cases t <;> exact h
theorem cond_mono {b : Bool} {p p' q q' : Prop} (h1 : p → p') (h2 : q → q') (h : cond b p q) : cond b p' q' := by cases b <;> first | exact h1 h | exact h2 h
theorem fbin_mono (hk : ∀ v, K v → K' v) {op : BinOp} {t : TypeId} {x y : Operand} {u v : Value} (h : fbin P op t x y K u v) : fbin P op t x y K' u v := by
  unfold fbin at h ⊢
  split at h
  · cases op <;> first
      | exact ⟨h.1, hk _ h.2⟩
      | (refine cond_mono (fun h => ?_) id h; first | exact hk _ h | exact ⟨h.1, hk _ h.2⟩ | exact h.elim)
  · cases op <;> first | exact h.elim | exact ⟨h.1, hk _ h.2⟩ | exact hk _ h
  · split at h <;> first | exact h.elim | exact hk _ h
  · split at h <;> first | exact h.elim | exact hk _ h
  · split at h <;> first | exact h.elim | exact hk _ h
  · obtain ⟨r, h1, h2⟩ := h; exact ⟨r, hk _ h1, h2⟩
theorem fconv_mono (hk : ∀ v, K v → K' v) {src dst : TypeId} {v : Value} (h : fconv P Hs src dst v K) : fconv P Hs src dst v K' := by
  unfold fconv at h ⊢
  split at h
  · exact hk _ h
  · exact hk _ h
  · split at h
    · obtain ⟨s, h1, h2, h3, h4⟩ := h; exact ⟨s, h1, h2, h3, hk _ h4⟩
    · exact h.elim
  · exact h.elim
theorem fslice3_mono (hk : ∀ v, K v → K' v) {t : TypeId} {v mx : Value} {lo hi : Option Value} (h : fslice3 P t v lo hi mx K) : fslice3 P t v lo hi mx K' := by
  unfold fslice3 at h ⊢
  split at h
  · split at h
    · exact ⟨h.1, hk _ h.2⟩
    · exact ⟨h.1, hk _ h.2⟩
    · exact h.elim
  · exact h.elim
theorem fslice_mono (hk : ∀ v, K v → K' v) {t : TypeId} {v : Value} {lo hi : Option Value} (h : fslice P t v lo hi K) : fslice P t v lo hi K' := by
  unfold fslice at h ⊢
  split at h
  · cases hi with
    | none =>
      cases lo with
      | none => exact hk _ h
      | some l => cases l <;> first | exact h.elim | exact ⟨h.1, hk _ h.2⟩
    | some x =>
      cases x <;> try exact h.elim
      refine ⟨h.1, ?_⟩
      have h := h.2
      cases lo with
      | none => exact hk _ h
      | some l => cases l <;> first | exact h.elim | exact ⟨h.1, hk _ h.2⟩
  · split at h
    · exact h.elim
    · cases hi with
      | none =>
        cases lo with
        | none => exact hk _ h
        | some l => cases l <;> first | exact h.elim | exact ⟨h.1, hk _ h.2⟩
      | some x =>
        cases x <;> try exact h.elim
        refine ⟨h.1, ?_⟩
        have h := h.2
        cases lo with
        | none => exact hk _ h
        | some l => cases l <;> first | exact h.elim | exact ⟨h.1, hk _ h.2⟩
  · exact h.elim
theorem fpart_mono (hk : ∀ v, K v → K' v) {t : TypeId} {cs : List Value} {off : Nat} (h : fpart P t cs off K) : fpart P t cs off K' := by
  unfold fpart at h ⊢
  split at h
  · exact forceL_mono (fun _ => hk _) h
  · split at h
    · exact hk _ h
    · exact h.elim
  · exact h.elim
theorem findex_mono (hk : ∀ v, K v → K' v) {t : TypeId} {u v : Value} (h : findex P t u v K) : findex P t u v K' := by
  unfold findex at h ⊢
  split at h
  · exact ⟨h.1, hk _ h.2⟩
  · split at h
    · exact ⟨h.1, hk _ h.2⟩
    · exact h.elim
  · exact h.elim
theorem findexAddr_mono (hk : ∀ v, K v → K' v) {t : TypeId} {u v : Value} (h : findexAddr P t u v K) : findexAddr P t u v K' := by
  unfold findexAddr at h ⊢
  split at h
  · split at h
    · exact ⟨h.1, hk _ h.2⟩
    · exact h.elim
  · split at h
    · exact ⟨h.1, hk _ h.2⟩
    · exact h.elim
  · exact h.elim
theorem fmax_mono (hk : ∀ v, K v → K' v) {b : Builtin} {l : List Value} (h : fmax b K l) : fmax b K' l := by
  unfold fmax at h ⊢
  split at h
  · split at h <;> first | exact hk _ h | exact h.elim
  · exact h.elim
theorem fop_mono (hk : ∀ v, K v → K' v) {op : Op} (h : fop P ρ Hs K op) : fop P ρ Hs K' op := by
  unfold fop at h ⊢
  split at h
  · exact hk _ h
  · exact hk _ h
  · split at h
    · exact hk _ h
    · exact hk _ h
    · exact h.elim
  · split at h
    · split at h
      · obtain ⟨vs, h1, h2, h3⟩ := h; exact ⟨vs, h1, h2, hk _ h3⟩
      · obtain ⟨v, h1, h2⟩ := h; exact ⟨v, h1, hk _ h2⟩
      · exact h.elim
    · exact h.elim
  · split at h <;> first | exact h.elim | exact hk _ h
  · exact fbin_mono hk h
  · split at h <;> first | exact h.elim | exact hk _ h
  · exact fconv_mono hk h
  · split at h
    · exact h.elim
    · exact hk _ h
    · exact h.elim
  · exact hk _ h
  · exact fslice_mono hk h
  · exact fslice3_mono hk h
  · split at h
    · split at h
      · split at h
        · exact cond_mono id (hk _) h
        · exact h.elim
      · exact h.elim
    · exact h.elim
  · split at h
    · split at h
      · exact fpart_mono hk h
      · exact h.elim
    · exact h.elim
  · exact findexAddr_mono hk h
  · exact findex_mono hk h
  · split at h
    · split at h
      · exact hk _ h
      · exact h.elim
    · exact h.elim
  · split at h
    · exact forceL_mono (fun _ => hk _) h
    · exact h.elim
  · obtain ⟨v, h1, h2⟩ := h; exact ⟨v, h1, hk _ h2⟩
  · obtain ⟨v, h1, h2⟩ := h; exact ⟨v, h1, hk _ h2⟩
  · split at h <;> first | exact h.elim | exact hk _ h | (obtain ⟨v, h1, h2⟩ := h; exact ⟨v, h1, hk _ h2⟩)
  · exact fmax_mono hk h
  · exact fmax_mono hk h
  · exact h.elim
end

section
variable {P : Program}
theorem storeN_mono {b off : Nat} {K K' : Heap → Prop} (hk : ∀ H, K H → K' H) : ∀ (vs : List Value) (H : Heap) (i : Nat), storeN H b off i K vs → storeN H b off i K' vs
  | [], H, i, h => hk _ h
  | v :: vs, H, i, h => ⟨h.plain, h.ex, h.fz, storeN_mono hk vs _ _ h.post⟩
theorem eop_mono {ρ : Operand → Value} {o : Oper} {H : Heap} {K K' : Value → Heap → Prop} (hk : ∀ v H, K v H → K' v H) (h : eop P ρ o H K) : eop P ρ o H K' := by
  unfold eop at h ⊢
  split at h
  · split at h
    · split at h
      · exact forceL_mono (fun l hl => ⟨fun b hb => hk _ _ (hl.all b hb)⟩) h
      · exact h.elim
    · exact h.elim
  · exact forceL_mono (fun l hl => ⟨fun b hb => hk _ _ (hl.all b hb)⟩) h
  · split at h
    · split at h
      · split at h
        · refine ⟨h.pre, ?_⟩
          refine cond_mono (fun h => ?_) id h.post
          split at h
          · exact forceL_mono (fun l hl => ⟨fun b hb => hk _ _ (hl.all b hb)⟩) h
          · exact h.elim
        · exact h.elim
      · exact h.elim
    · exact h.elim
  · split at h
    · exact cond_mono (storeN_mono (hk _) _ _ _) id h
    · exact h.elim
  · split at h
    · split at h
      · split at h
        · exact cond_mono (fun h => ⟨h.pre, ⟨fun b hb => hk _ _ (h.post.all b hb)⟩⟩) id h
        · exact h.elim
      · exact h.elim
    · exact h.elim
  · split at h
    · exact ⟨h.ok, h.calls.mono hk⟩
    · exact h.elim
  · exact h.mono hk
  · exact h.mono hk
  · exact h.mono hk
  · exact h.mono hk
  · exact h.mono hk
  · exact h.mono (hk _)
  · exact h.mono hk
  · exact h.mono hk
  · exact h.mono hk
  · exact h.mono hk
  · constructor
    intro w hs
    have h1 := h.sem w hs
    generalize (execOp ρ o).run P w = r at *
    cases r with
    | halt x w' => exact h1.elim
    | ok x w1 =>
      cases x with
      | value v => obtain ⟨H', k, s, f⟩ := h1; exact ⟨H', hk _ _ k, s, f⟩
      | skip => obtain ⟨H', k, s, f⟩ := h1; exact ⟨H', hk _ _ k, s, f⟩
      | enter f args => obtain ⟨H', k, s, f⟩ := h1; exact ⟨H', k.mono hk, s, f⟩
      | _ => exact h1.elim

def memB (l : List Nat) (t : Nat) : Bool := match l with | [] => false | x :: l => cond (Nat.beq t x) true (memB l t)
theorem memB_eq (l : List Nat) (t : Nat) : memB l t = true ↔ t ∈ l := by
  induction l with
  | nil => simp [memB]
  | cons x l ih =>
    unfold memB
    cases e : Nat.beq t x with
    | true => simp [Nat.eq_of_beq_eq_true e]
    | false =>
      rw [cond_false, ih]
      have : t ≠ x := fun h => by subst h; simp at e
      simp [this]
def dstIn (mods : List Nat) (d : Option Tmp) : Bool := match d with | none => true | some d => memB mods d
def codeD (okd : Option Tmp → Bool) : Code → Bool
  | .region _ ops _ => ops.toList.all fun o => okd o.dst
  | .seq a b => codeD okd a && codeD okd b
  | .cond _ x y => codeD okd x && codeD okd y
  | .block _ c => codeD okd c
  | .loop c => codeD okd c
  | _ => true
def codeIn (mods : List Nat) (c : Code) : Bool := codeD (dstIn mods) c
theorem codeD_true : ∀ c : Code, codeD (fun _ => true) c = true := by
  intro c
  induction c <;> simp_all [codeD]

variable {n : Nat} {cs : List (Nat × List (Nat × Nat))} {mods : List Nat} {σ0 : Env}
theorem nth_mem {α : Type} : ∀ {l : List α} {i : Nat} {x : α}, nth l i = some x → x ∈ l
  | [], i, x, h => by simp [nth] at h
  | y :: l, 0, x, h => by simp [nth] at h; subst h; exact List.mem_cons_self
  | y :: l, i + 1, x, h => List.mem_cons_of_mem _ (nth_mem (l := l) h)
def Same (mods : List Nat) (σ0 σ : Env) : Prop := ∀ t, memB mods t = false → sfun σ t = sfun σ0 t
theorem Same.put {σ : Env} (h : Same mods σ0 σ) {d : Option Tmp} (ho : dstIn mods d = true) (v : Value) : Same mods σ0 (eput σ d v) := by
  intro t ht
  rw [sfun_eput]
  cases d with
  | none => exact h t ht
  | some d =>
    have ho : memB mods d = true := ho
    have : Nat.beq t d = false := Bool.eq_false_iff.2 fun e => by
      have := Nat.eq_of_beq_eq_true e
      subst this; rw [ht] at ho; cases ho
    simp only [sput, this, cond_false]
    exact h t ht
/-- Two lists for one frame. -/
def Alike (σ σ' : Env) : Prop := sfun σ = sfun σ'
theorem Alike.put {σ σ' : Env} (h : Alike σ σ') (d : Option Tmp) (v : Value) : Alike (eput σ d v) (eput σ' d v) := by
  unfold Alike at *; rw [sfun_eput, sfun_eput, h]

theorem dreg_rel {okd : Option Tmp → Bool} {S : Env → Prop} (hput : ∀ σ d v, okd d = true → S σ → S (eput σ d v)) (hsame : ∀ σ t v, sfun σ t = v → S σ → S (eput σ (some t) v)) {ops : List Oper} {K K' : Env → Heap → Prop} (hin : (ops.all fun o => okd o.dst) = true) (hk : ∀ σ σ' H, Alike σ σ' → S σ' → K σ H → K' σ' H) :
    ∀ (c : List (Nat × Nat)) (hist : List Heap) (σ σ' : Env) (H : Heap), Alike σ σ' → S σ' → dreg P n ops K c hist σ H → dreg P n ops K' c hist σ' H
  | [], _, σ, σ', H, ha, hs, h => hk σ σ' H ha hs h
  | (i, k) :: rest, hist, σ, σ', H, ha, hs, h => by
    unfold dreg at h ⊢
    cases ho : nth ops i with
    | none => rw [ho] at h; exact dreg_rel hput hsame hin hk rest hist σ σ' H ha hs h
    | some o =>
      rw [ho] at h
      simp only at h ⊢
      have hoin : okd o.dst = true := by
        have := List.all_eq_true.1 hin o (nth_mem ho); exact this
      have yes : ∀ σ σ' : Env, Alike σ σ' → S σ' → (cond (isFloat P o) (fopC P (EK n σ) (H :: hist.take k) (fun v => dreg P n ops K rest hist (eput σ o.dst v) H) o.op)
          (eopC P (EK n σ) (E n (sfun σ)) o H (fun v H' => dreg P n ops K rest (H :: hist) (eput σ o.dst v) H'))) →
          (cond (isFloat P o) (fopC P (EK n σ') (H :: hist.take k) (fun v => dreg P n ops K' rest hist (eput σ' o.dst v) H) o.op)
          (eopC P (EK n σ') (E n (sfun σ')) o H (fun v H' => dreg P n ops K' rest (H :: hist) (eput σ' o.dst v) H'))) := fun σ σ' ha hs h => by
        rw [fopC_iff (EK_iff n σ), eopC_iff (EK_iff n σ)] at h
        rw [fopC_iff (EK_iff n σ'), eopC_iff (EK_iff n σ')]
        unfold Alike at ha
        rw [ha] at h
        exact cond_mono (fop_mono fun v hd => dreg_rel hput hsame hin hk rest hist _ _ H (Alike.put ha _ _) (hput _ _ v hoin hs) hd) (eop_mono fun v H' hd => dreg_rel hput hsame hin hk rest _ _ _ H' (Alike.put ha _ _) (hput _ _ v hoin hs) hd) h
      have no : ∀ σ σ' : Env, Alike σ σ' → S σ' → dreg P n ops K rest hist (eput σ o.dst undef) H → dreg P n ops K' rest hist (eput σ' o.dst undef) H := fun σ σ' ha hs h =>
        dreg_rel hput hsame hin hk rest hist _ _ H (ha.put _ _) (hput _ _ undef hoin hs) h
      unfold dguard at h ⊢
      split at h
      · exact yes σ σ' ha hs h
      · split at h
        · exact no σ σ' ha hs h
        · refine cond_mono (fun h => ?_) (no σ σ' ha hs) h
          rw [look_iff] at h ⊢
          have ha' : sfun σ = sfun σ' := ha
          rw [ha'] at h
          split at h
          · rename_i b hb
            have h := hcond_elim h
            exact hcond_t_of (cond_mono (yes _ _ (ha.put _ _) (hsame _ _ _ hb hs)) (no _ _ (ha.put _ _) (hsame _ _ _ hb hs)) h)
          · exact no σ σ' ha hs h
          · exact h.elim

theorem twice_mono {c : List (Nat × Nat)} {A B A' B' : Prop} (ha : A → A') (hb : B → B') (h : twice c A B) : twice c A' B' := by
  cases c with
  | nil => exact ha h
  | cons x c => exact ⟨ha h.1, hb h.2⟩
theorem dcode_rel {okd : Option Tmp → Bool} {S : Env → Prop} (hput : ∀ σ d v, okd d = true → S σ → S (eput σ d v)) (hsame : ∀ σ t v, sfun σ t = v → S σ → S (eput σ (some t) v)) : ∀ (c : Code) {K K' : Exit → Env → Heap → Prop}, codeD okd c = true → (∀ e σ σ' H, Alike σ σ' → S σ' → K e σ H → K' e σ' H) →
    ∀ (σ σ' : Env) (H : Heap), Alike σ σ' → S σ' → dcode P n cs c K σ H → dcode P n cs c K' σ' H := by
  intro c
  induction c with
  | skip => intro K K' _ hk σ σ' H ha hs h; exact hk _ _ _ _ ha hs h
  | label l => intro K K' _ hk σ σ' H ha hs h; exact hk _ _ _ _ ha hs h
  | exit id => intro K K' _ hk σ σ' H ha hs h; exact hk _ _ _ _ ha hs h
  | ret => intro K K' _ hk σ σ' H ha hs h; exact hk _ _ _ _ ha hs h
  | region id ops draw =>
    intro K K' hin hk σ σ' H ha hs h
    unfold dcode at h ⊢
    have r := fun c => dreg_rel (P := P) (n := n) (ops := ops.toList) hput hsame hin (hk .normal) c [] σ σ' H ha hs
    exact twice_mono (twice_mono (twice_mono (r _) (r _)) (r _)) (r _) h
  | seq a b iha ihb =>
    intro K K' hin hk σ σ' H ha hs h
    unfold codeD at hin
    simp only [Bool.and_eq_true] at hin
    unfold dcode at h ⊢
    refine iha hin.1 ?_ σ σ' H ha hs h
    intro e σ σ' H ha hs h
    cases e <;> first | exact ihb hin.2 hk σ σ' H ha hs h | exact hk _ _ _ _ ha hs h
  | cond c x y ihx ihy =>
    intro K K' hin hk σ σ' H ha hs h
    unfold codeD at hin
    simp only [Bool.and_eq_true] at hin
    unfold dcode at h ⊢
    rw [EK_iff] at h ⊢
    have ha' : sfun σ = sfun σ' := ha
    rw [ha'] at h
    split at h
    · exact hcond_mono (fun b => cond_mono (ihx hin.1 hk σ σ' H ha hs) (ihy hin.2 hk σ σ' H ha hs)) h
    · exact h.elim
  | block id c ih =>
    intro K K' hin hk σ σ' H ha hs h
    unfold codeD at hin
    unfold dcode at h ⊢
    refine ih hin ?_ σ σ' H ha hs h
    intro e σ σ' H ha hs h
    cases e <;> try exact hk _ _ _ _ ha hs h
    rename_i id'
    unfold blockD at h ⊢
    simp only at h ⊢
    cases hb : Nat.beq id' id with
    | true => rw [hb] at h; exact hk _ _ _ _ ha hs h
    | false => rw [hb] at h; exact hk _ _ _ _ ha hs h
  | loop c ih =>
    intro K K' hin hk σ σ' H ha hs h
    unfold codeD at hin
    unfold dcode at h ⊢
    obtain ⟨I, ⟨m, h0⟩, hr⟩ := h
    refine ⟨fun m τ' H => ∃ τ, I m τ H ∧ Alike τ τ' ∧ S τ', ⟨m, σ, h0, ha, hs⟩, ?_⟩
    rintro m τ' H ⟨τ, hI, ha, hs⟩
    refine ih hin ?_ τ τ' H ha hs (hr m τ H hI)
    intro e σ' τ' H' ha' hs' h'
    cases e <;> first | exact hk _ _ _ _ ha' hs' h' | skip
    obtain ⟨m', hlt, hI'⟩ := h'
    exact ⟨m', hlt, σ', hI', ha', hs'⟩
  | _ => intro K K' _ hk σ σ' H ha hs h; exact h.elim

/-- The frame at a loop's head: the live slots hold vs, whatever else the loop writes holds anything. -/
def zipE : List Nat → List Value → Env → Env
  | x :: xs, v :: vs, σ => (x, v) :: zipE xs vs σ
  | _, _, σ => σ
def anyE (f : Nat → Value) : List Nat → Env → Env
  | [], σ => σ
  | x :: xs, σ => (x, f x) :: anyE f xs σ
def head (σ : Env) (mods live : List Nat) (vs : List Value) (f : Nat → Value) : Env := zipE live vs (anyE f mods σ)
def valuesK (σ : Env) : List Nat → (List Value → Prop) → Prop
  | [], k => k []
  | x :: xs, k => look σ x fun v => valuesK σ xs fun vs => k (v :: vs)
def valuesAt (σ : Env) : List Nat → List Value
  | [] => []
  | x :: xs => sfun σ x :: valuesAt σ xs
theorem valuesK_iff (σ : Env) : ∀ (l : List Nat) (k : List Value → Prop), valuesK σ l k ↔ k (valuesAt σ l)
  | [], k => Iff.rfl
  | x :: xs, k => by unfold valuesK; rw [look_iff, valuesK_iff σ xs]; exact Iff.rfl
theorem valuesAt_alike {σ σ' : Env} (h : Alike σ σ') : ∀ l, valuesAt σ l = valuesAt σ' l
  | [] => rfl
  | x :: xs => by
    have h' : sfun σ = sfun σ' := h
    unfold valuesAt; rw [h', valuesAt_alike h xs]
theorem sfun_cons (s : Nat) (v : Value) (σ : Env) (t : Nat) : sfun ((s, v) :: σ) t = cond (Nat.beq t s) v (sfun σ t) := rfl
theorem sfun_zip {σ τ : Env} (h : sfun τ = sfun σ) : ∀ live : List Nat, sfun (zipE live (valuesAt σ live) τ) = sfun σ
  | [] => h
  | x :: xs => by
    unfold valuesAt zipE
    funext t
    rw [sfun_cons]
    cases e : Nat.beq t x with
    | true => rw [cond_true, Nat.eq_of_beq_eq_true e]
    | false => rw [cond_false]; exact congrFun (sfun_zip h xs) t
theorem sfun_any (f : Nat → Value) (σ : Env) : ∀ mods : List Nat, sfun (anyE f mods σ) = fun t => cond (memB mods t) (f t) (sfun σ t)
  | [] => rfl
  | x :: xs => by
    funext t
    unfold anyE memB
    rw [sfun_cons]
    cases e : Nat.beq t x with
    | true => simp [Nat.eq_of_beq_eq_true e]
    | false => rw [cond_false, cond_false]; exact congrFun (sfun_any f σ xs) t
theorem head_self {σ0 σ : Env} (h : Same mods σ0 σ) (live : List Nat) : Alike (head σ0 mods live (valuesAt σ live) (sfun σ)) σ := by
  refine sfun_zip ?_ live
  rw [sfun_any]
  funext t
  cases e : memB mods t with
  | true => rfl
  | false => exact (h t e).symm
theorem Alike.symm {σ σ' : Env} (h : Alike σ σ') : Alike σ' σ := Eq.symm h
theorem Alike.refl (σ : Env) : Alike σ σ := rfl

theorem Same.same {σ : Env} {t : Nat} {v : Value} (hv : sfun σ t = v) (h : Same mods σ0 σ) : Same mods σ0 (eput σ (some t) v) := fun x hx => by
  rw [sfun_eput, sput_same _ _ _ hv]; exact h x hx

/-- A continuation that hangs on the frame alone, not on how it is listed. -/
def Resp (K : Exit → Env → Heap → Prop) : Prop := ∀ e σ σ' H, Alike σ σ' → K e σ H → K e σ' H
def Resp1 (K : Env → Heap → Prop) : Prop := ∀ σ σ' H, Alike σ σ' → K σ H → K σ' H
theorem Resp.code {c : Code} {K : Exit → Env → Heap → Prop} (hK : Resp K) : Resp1 (dcode P n cs c K) := fun σ σ' H ha h =>
  dcode_rel (okd := fun _ => true) (S := fun _ => True) (fun _ _ _ _ _ => trivial) (fun _ _ _ _ _ => trivial) c (codeD_true c) (fun e σ σ' H ha _ h => hK e σ σ' H ha h) σ σ' H ha trivial h
theorem Resp.thenD {next : Env → Heap → Prop} {K : Exit → Env → Heap → Prop} (h1 : Resp1 next) (hK : Resp K) : Resp (thenD next K) := fun e σ σ' H ha h => by
  cases e <;> first | exact h1 _ _ _ ha h | exact hK _ _ _ _ ha h
theorem Resp.blockD {id : Nat} {K : Exit → Env → Heap → Prop} (hK : Resp K) : Resp (blockD id K) := fun e σ σ' H ha h => by
  cases e <;> try exact hK _ _ _ _ ha h
  rename_i id'
  unfold Hv.blockD at h ⊢
  simp only at h ⊢
  cases hb : Nat.beq id' id with
  | true => rw [hb] at h; exact hK _ _ _ _ ha h
  | false => rw [hb] at h; exact hK _ _ _ _ ha h
theorem dres_alike {σ σ' : Env} (ha : Alike σ σ') {H : Heap} : ∀ (rs : List ResultVar) {k k' : List Value → Prop}, (∀ vs, k vs → k' vs) → dres P n σ H rs k → dres P n σ' H rs k'
  | [], k, k', hk, h => hk _ h
  | .tmp t :: rs, k, k', hk, h => by
    unfold dres at h ⊢
    have ha' : sfun σ = sfun σ' := ha
    rw [EK_iff] at h ⊢
    rw [ha'] at h
    exact dres_alike ha rs (fun vs => hk _) h
  | .cell a t :: rs, k, k', hk, h => by
    unfold dres at h ⊢
    have ha' : sfun σ = sfun σ' := ha
    rw [EK_iff] at h ⊢
    rw [ha'] at h
    split at h
    · split at h
      · obtain ⟨vs, h1, h2, h3⟩ := h; exact ⟨vs, h1, h2, dres_alike ha rs (fun vs => hk _) h3⟩
      · obtain ⟨v, h1, h2⟩ := h; exact ⟨v, h1, dres_alike ha rs (fun vs => hk _) h2⟩
      · exact h.elim
    · exact h.elim
theorem Resp.retD {fn : Func} {K : Value → Heap → Prop} : Resp (retD P fn K) := fun e σ σ' H ha h => by
  cases e <;> first | exact dres_alike ha _ (fun _ => id) h | exact h

theorem hloop {c : Code} {K : Exit → Env → Heap → Prop} {σ : Env} {H : Heap} (mods live : List Nat) (I : Nat → List Value → Heap → Prop) (hin : codeIn mods c = true)
    (hK : Resp K) (h0 : ∃ m, valuesK σ live fun vs => I m vs H)
    (round : ∀ m vs f H, I m vs H → dcode P n cs c (thenD (fun σ' H' => valuesK σ' live fun vs' => ∃ m', m' < m ∧ I m' vs' H') K) (head σ mods live vs f) H) :
    HLoop (fun KN σ' H' => dcode P n cs c (Hv.thenD KN K) σ' H') σ H := by
  obtain ⟨m, h0⟩ := h0
  rw [valuesK_iff] at h0
  refine ⟨fun m σ' H' => Same mods σ σ' ∧ I m (valuesAt σ' live) H', ⟨m, fun t _ => rfl, h0⟩, ?_⟩
  rintro m σ' H' ⟨hs, hI⟩
  have h1 := round m _ (sfun σ') H' hI
  refine dcode_rel (S := Same mods σ) (fun σ d v hd h => h.put hd v) (fun σ t v hv h => h.same hv) c hin ?_ _ σ' H' (head_self hs live) hs h1
  intro e τ τ' H'' ha hs' h'
  cases e <;> first | exact hK _ _ _ _ ha h' | skip
  obtain ⟨m', hlt, hI'⟩ := (valuesK_iff _ _ _).1 h'
  exact ⟨m', hlt, hs', valuesAt_alike ha live ▸ hI'⟩

/-- A cut behind a piece of code: its ways meet. -/
theorem hcut {a b : Code} {K : Exit → Env → Heap → Prop} {σ : Env} {H : Heap} (mods live : List Nat) (J : List Value → Heap → Prop) (hina : codeIn mods a = true) (hK : Resp K)
    (h1 : dcode P n cs a (Hv.thenD (fun σ' H' => valuesK σ' live fun vs => J vs H') K) σ H)
    (h2 : ∀ vs f H', J vs H' → dcode P n cs b K (head σ mods live vs f) H') : dcode P n cs (.seq a b) K σ H := by
  unfold dcode
  refine dcode_rel (S := Same mods σ) (fun σ d v hd h => h.put hd v) (fun σ t v hv h => h.same hv) a hina ?_ σ σ H rfl (fun t _ => rfl) h1
  intro e τ τ' H' ha hs' h'
  cases e <;> first | exact hK _ _ _ _ ha h' | skip
  have h3 := h2 _ (sfun τ') H' ((valuesK_iff _ _ _).1 h')
  refine hK.code _ _ _ ?_ h3
  rw [valuesAt_alike ha]
  exact head_self hs' live
end
end Go.Proofs.YtfcmjomnpahllaaGreat.Hv
end
section
namespace Go.Proofs.YtfcmjomnpahllaaGreat.Hv
open Go
set_option linter.unusedVariables false
set_option linter.unusedSimpArgs false

/-! ## Facts about heaps -/
/-- What stood outside S stands as it did. -/
def Upd (S : List Nat) (H H' : Heap) : Prop := ∀ k, k ∉ S → H k ≠ none → H' k = H k
theorem Upd.refl (S : List Nat) (H : Heap) : Upd S H H := fun _ _ _ => rfl
theorem Upd.trans {S : List Nat} {H H1 H2 : Heap} (h : Upd S H H1) (k : Upd S H1 H2) : Upd S H H2 := fun b hb hn => by
  have := h b hb hn
  rw [k b hb (by rw [this]; exact hn), this]
theorem Upd.mono {S T : List Nat} {H H' : Heap} (h : Upd S H H') (hst : ∀ k ∈ S, k ∈ T) : Upd T H H' := fun k hk hn => h k (fun hs => hk (hst k hs)) hn
theorem Upd.new {S : List Nat} {H : Heap} {b : Nat} (hb : H b = none) (o : Obj) : Upd S H (H.upd b o) := fun k _ hn => by
  unfold Heap.upd; rw [if_neg (fun e => by subst e; exact hn hb)]
theorem Upd.upd {S : List Nat} {H : Heap} {b : Nat} (hb : b ∈ S) (o : Obj) : Upd S H (H.upd b o) := fun k hk _ => by
  unfold Heap.upd; rw [if_neg (fun e => by subst e; exact hk hb)]
/-- In the end nothing that was there is lost, if what is written was not there at first. -/
theorem Upd.drop {S : List Nat} {H H1 H2 : Heap} (h : Upd [] H H1) (k : Upd S H1 H2) (hS : ∀ b ∈ S, H b = none) : Upd [] H H2 := fun b _ hn => by
  have h1 := h b (by simp) hn
  rw [k b (fun hb => hn (hS b hb)) (by rw [h1]; exact hn), h1]
theorem upd_same (H : Heap) (b : Nat) (o : Obj) : (H.upd b o) b = some o := by simp [Heap.upd]
theorem upd_ne (H : Heap) {b k : Nat} (o : Obj) (h : k ≠ b) : (H.upd b o) k = H k := by simp [Heap.upd, h]
theorem upd_upd (H : Heap) (b : Nat) (o o' : Obj) : (H.upd b o).upd b o' = H.upd b o' := by
  funext k; unfold Heap.upd; split <;> rfl
theorem cell_of {H : Heap} {b : Nat} {c : Array Value} {e : TypeId} {f : Nat × Nat} (h : H b = some (.cells c e f)) (i : Nat) : H.cell? ⟨b, i, none⟩ = c[i]? := by
  unfold Heap.cell?; rw [h]; rfl
theorem cell_upd {H : Heap} {S : List Nat} {H' : Heap} (h : Upd S H H') {a : Addr} (ha : a.block ∉ S) {v : Value} (hv : H.cell? a = some v) : H'.cell? a = some v := by
  unfold Heap.cell? at *
  have hn : H a.block ≠ none := by intro e; rw [e] at hv; cases hv
  rw [h _ ha hn]; exact hv

/-- A row of cells at an address. -/
def RowAt (H : Heap) (a : Option Addr) (cs : List Value) : Prop := ∀ i v, cs[i]? = some v → ∃ b off, a = some ⟨b, off, none⟩ ∧ H.cell? ⟨b, off + i, none⟩ = some v
theorem RowAt.nil (H : Heap) (a : Option Addr) : RowAt H a [] := fun i v h => by simp at h
/-- The block at which an address lies is none of S. -/
def Off (S : List Nat) (a : Option Addr) : Prop := ∀ p, a = some p → p.block ∉ S
theorem Off.nil (a : Option Addr) : Off [] a := fun _ _ => by simp
theorem RowAt.upd {S : List Nat} {H H' : Heap} {a : Option Addr} {cs : List Value} (h : RowAt H a cs) (hu : Upd S H H') (ho : cs = [] ∨ Off S a) : RowAt H' a cs := fun i v hi => by
  obtain ⟨b, off, ha, hc⟩ := h i v hi
  refine ⟨b, off, ha, cell_upd hu ?_ hc⟩
  rcases ho with rfl | ho
  · simp at hi
  · exact ho ⟨b, off, none⟩ ha
theorem RowAt.append {H : Heap} {b off : Nat} {xs ys : List Value} (h : RowAt H (some ⟨b, off, none⟩) (xs ++ ys)) : RowAt H (some ⟨b, off, none⟩) xs ∧ RowAt H (some ⟨b, off + xs.length, none⟩) ys := by
  refine ⟨fun i v hi => h i v (by rw [List.getElem?_append_left (List.getElem?_eq_some_iff.1 hi).1]; exact hi), fun i v hi => ?_⟩
  obtain ⟨b', off', ha, hc⟩ := h (xs.length + i) v (by rw [List.getElem?_append_right (by omega)]; simpa using hi)
  cases ha
  exact ⟨b, off + xs.length, rfl, by rw [Nat.add_assoc]; exact hc⟩
theorem RowAt.of_cells {H : Heap} {b : Nat} {c : Array Value} {e : TypeId} {f : Nat × Nat} (h : H b = some (.cells c e f)) : RowAt H (some ⟨b, 0, none⟩) c.toList := fun i v hi =>
  ⟨b, 0, rfl, by rw [cell_of h, Nat.zero_add, ← Array.getElem?_toList]; exact hi⟩
theorem RowAt.drop {H : Heap} {a : Option Addr} {cs : List Value} (h : RowAt H a cs) (k : Nat) : RowAt H (a.map (·.add k)) (cs.drop k) := fun i v hi => by
  rw [List.getElem?_drop] at hi
  obtain ⟨b, off, ha, hc⟩ := h (k + i) v hi
  subst ha
  exact ⟨b, off + k, by simp [Addr.add_lit], by rw [Nat.add_assoc]; exact hc⟩
theorem RowAt.take {H : Heap} {a : Option Addr} {cs : List Value} (h : RowAt H a cs) (k : Nat) : RowAt H a (cs.take k) := fun i v hi => by
  rw [List.getElem?_take] at hi
  split at hi
  · exact h i v hi
  · cases hi
theorem RowAt.get {H : Heap} {b off : Nat} {cs : List Value} (h : RowAt H (some ⟨b, off, none⟩) cs) {i : Nat} {v : Value} (hi : cs[i]? = some v) : H.cell? ⟨b, off + i, none⟩ = some v := by
  obtain ⟨b', off', ha, hc⟩ := h i v hi
  cases ha; exact hc

/-- A row of the call's own: nobody else has its block. -/
structure OwnRow (H : Heap) (e : TypeId) (size : Nat) (a : Option Addr) (n cap : Nat) (xs : List Value) : Prop where
  len : xs.length = n * size
  ok : (a = none ∧ n = 0 ∧ cap = 0) ∨ ∃ (g : Nat) (cur : Array Value), a = some ⟨g, 0, none⟩ ∧ H g = some (.cells cur e (0, 0)) ∧ cur.size = cap * size ∧ n ≤ cap ∧ ∀ (i : Nat) (v : Value), xs[i]? = some v → cur[i]? = some v
def blk : Option Addr → List Nat | none => [] | some a => [a.block]
theorem OwnRow.nil (H : Heap) (e : TypeId) (size : Nat) : OwnRow H e size none 0 0 [] := ⟨by simp, .inl ⟨rfl, rfl, rfl⟩⟩
theorem OwnRow.rows {H : Heap} {e : TypeId} {size : Nat} {a : Option Addr} {n cap : Nat} {xs : List Value} (h : OwnRow H e size a n cap xs) : RowAt H a xs := fun i v hi => by
  rcases h.ok with ⟨_, hn, _⟩ | ⟨g, cur, ha, hg, _, _, hc⟩
  · have := h.len; rw [hn, Nat.zero_mul] at this
    rw [List.length_eq_zero_iff.1 this] at hi; simp at hi
  · exact ⟨g, 0, ha, by rw [cell_of hg, Nat.zero_add]; exact hc i v hi⟩
theorem OwnRow.upd {S : List Nat} {H H' : Heap} {e : TypeId} {size : Nat} {a : Option Addr} {n cap : Nat} {xs : List Value} (h : OwnRow H e size a n cap xs) (hu : Upd S H H') (ho : Off S a) : OwnRow H' e size a n cap xs := by
  refine ⟨h.len, ?_⟩
  rcases h.ok with h' | ⟨g, cur, ha, hg, h1, h2, h3⟩
  · exact .inl h'
  · refine .inr ⟨g, cur, ha, ?_, h1, h2, h3⟩
    rw [hu g (ho _ ha) (by simp [hg])]; exact hg
theorem OwnRow.made {H : Heap} {b : Nat} {cur : Array Value} {e : TypeId} {size cap n : Nat} {xs : List Value} (h : H b = some (.cells cur e (0, 0))) (hs : cur.size = cap * size) (hn : n ≤ cap) (hl : xs.length = n * size) (hx : ∀ (i : Nat) (v : Value), xs[i]? = some v → cur[i]? = some v) : OwnRow H e size (some ⟨b, 0, none⟩) n cap xs :=
  ⟨hl, .inr ⟨b, cur, rfl, h, hs, hn, hx⟩⟩
theorem OwnRow.lit {H : Heap} {b : Nat} {l : List Value} {e : TypeId} {size cap : Nat} (h : H b = some (.cells l.toArray e (0, 0))) (hs : l.length = cap * size) : OwnRow H e size (some ⟨b, 0, none⟩) cap cap l :=
  .made h (by simpa using hs) (Nat.le_refl _) hs (fun i v hi => by simpa using hi)
theorem OwnRow.le {H : Heap} {e : TypeId} {size : Nat} {a : Option Addr} {n cap : Nat} {xs : List Value} (h : OwnRow H e size a n cap xs) : n ≤ cap := by
  rcases h.ok with ⟨_, rfl, rfl⟩ | ⟨g, cur, ha, hg, h1, h2, h3⟩
  · exact Nat.le_refl _
  · exact h2
theorem OwnRow.there {H : Heap} {e : TypeId} {size : Nat} {a : Option Addr} {n cap : Nat} {xs : List Value} (h : OwnRow H e size a n cap xs) {p : Addr} (hp : a = some p) : H p.block ≠ none := by
  rcases h.ok with ⟨ha, _⟩ | ⟨g, cur, ha, hg, _⟩
  · rw [ha] at hp; cases hp
  · rw [ha] at hp; cases hp; simp [hg]

section
variable {P : Program}
theorem swp_loadCellsFrom {a : Addr} {K : Array Value → Heap → Prop} {H : Heap} : ∀ (vs : List Value) (i : Nat) (acc : Array Value), (∀ j v, vs[j]? = some v → H.cell? (a.add (i + j)) = some v) → K (acc ++ vs.toArray) H → swp P (loadCellsFrom a i vs.length acc) K H
  | [], i, acc, _, hk => by
    have : acc ++ ([] : List Value).toArray = acc := by simp
    rw [this] at hk
    exact hk
  | v :: vs, i, acc, h, hk => by
    show swp P (do let v ← load (a.add i); loadCellsFrom a (i + 1) vs.length (acc.push v)) K H
    rw [swp_bind]
    refine ⟨v, by simpa using h 0 v rfl, ?_⟩
    refine swp_loadCellsFrom vs (i + 1) (acc.push v) (fun j u hj => ?_) ?_
    · have := h (j + 1) u (by simpa using hj)
      rwa [show i + 1 + j = i + (j + 1) by omega]
    · have : acc.push v ++ vs.toArray = acc ++ (v :: vs).toArray := by simp
      rw [this]; exact hk
theorem swp_loadCells {a : Option Addr} {p : Addr} (hp : a = some p) {K : Array Value → Heap → Prop} {H : Heap} {vs : List Value} (h : RowAt H a vs) (hk : K vs.toArray H) : swp P (loadCells p vs.length) K H := by
  unfold loadCells
  refine swp_loadCellsFrom vs 0 #[] (fun j v hj => ?_) (by simpa using hk)
  obtain ⟨b, off, ha, hc⟩ := h j v hj
  rw [hp] at ha; cases ha
  rw [Nat.zero_add, Addr.add_lit]; exact hc

def writeAt (cur : Array Value) (k : Nat) : List Value → Array Value
  | [] => cur
  | v :: vs => writeAt (cur.setIfInBounds k v) (k + 1) vs
theorem writeAt_size : ∀ (vs : List Value) (cur : Array Value) (k : Nat), (writeAt cur k vs).size = cur.size
  | [], _, _ => rfl
  | v :: vs, cur, k => by unfold writeAt; rw [writeAt_size vs]; simp
theorem writeAt_get : ∀ (vs : List Value) (cur : Array Value) (k i : Nat), k + vs.length ≤ cur.size → (writeAt cur k vs)[i]? = if k ≤ i ∧ i < k + vs.length then vs[i - k]? else cur[i]?
  | [], cur, k, i, _ => by
    unfold writeAt
    simp only [List.length_nil, Nat.add_zero]
    rw [if_neg (by omega)]
  | v :: vs, cur, k, i, h => by
    simp only [List.length_cons] at h
    unfold writeAt
    rw [writeAt_get vs _ _ i (by simp; omega)]
    simp only [List.length_cons]
    by_cases h1 : k + 1 ≤ i ∧ i < k + 1 + vs.length
    · rw [if_pos h1, if_pos (by omega)]
      have : i - k = (i - (k + 1)) + 1 := by omega
      rw [this]; simp
    · rw [if_neg h1]
      by_cases h2 : i = k
      · subst h2
        rw [if_pos (by omega), Array.getElem?_setIfInBounds_self_of_lt (by omega)]; simp
      · rw [if_neg (by omega), Array.getElem?_setIfInBounds_ne (Ne.symm h2)]
theorem setCell_own {H : Heap} {g : Nat} {cur : Array Value} {e : TypeId} {f : Nat × Nat} (hg : H g = some (.cells cur e f)) (i : Nat) (v : Value) : H.setCell ⟨g, i, none⟩ v = H.upd g (.cells (cur.setIfInBounds i v) e f) := by
  unfold Heap.setCell; rw [hg]; rfl
theorem swp_storeCells_own {g off : Nat} {e : TypeId} {K : Unit → Heap → Prop} : ∀ (vs : List Value) (i : Nat) (cur : Array Value) (H : Heap), H g = some (.cells cur e (0, 0)) → off + i + vs.length ≤ cur.size → (∀ v ∈ vs, Value.plain v = true) →
    K () (H.upd g (.cells (writeAt cur (off + i) vs) e (0, 0))) → swp P (storeCells ⟨g, off, none⟩ vs i) K H
  | [], i, cur, H, hg, _, _, hk => by
    have : H.upd g (.cells cur e (0, 0)) = H := by
      funext k; unfold Heap.upd; split
      · rename_i e; subst e; exact hg.symm
      · rfl
    unfold writeAt at hk
    rw [this] at hk
    exact hk
  | v :: vs, i, cur, H, hg, hl, hp, hk => by
    simp only [List.length_cons] at hl
    show swp P (do store ((⟨g, off, none⟩ : Addr).add i) v; storeCells ⟨g, off, none⟩ vs (i + 1)) K H
    rw [swp_bind, Addr.add_lit]
    refine ⟨hp v List.mem_cons_self, ⟨cur[off + i]'(by omega), ?_⟩, ?_, ?_⟩
    · rw [cell_of hg]; simp
    · unfold Heap.frozen?; rw [hg]; simp
    · show swp P (storeCells ⟨g, off, none⟩ vs (i + 1)) K (H.setCell ⟨g, off + i, none⟩ v)
      rw [setCell_own hg]
      refine swp_storeCells_own vs (i + 1) (cur.setIfInBounds (off + i) v) _ (upd_same _ _ _) (by simp; omega) (fun u hu => hp u (List.mem_cons_of_mem _ hu)) ?_
      rw [upd_upd]
      exact hk

theorem swp_pure_at {α : Type} {x y : α} {F : α → Heap → Prop} {H : Heap} (e : x = y) (h : F y H) : swp P (pure x) F H := by subst e; exact h
/-- append onto a row of the call's own: s a row of cells that is read, or a string. -/
theorem swp_append' {t e ty : TypeId} {ie : TypeInfo} {z : Value} {xt : TypeId} {xd : TypeDesc} {a : Option Addr} {n cap m : Nat} {x : Value} {xs ys : List Value} {H : Heap} {K : Value → Heap → Prop}
    (ht : P.underlying t = some (.slice e)) (hi : P.info? e = some ie) (hz : ie.zero = some z) (hzs : z.cells.size = ie.size) (hs0 : 0 < ie.size)
    (hxt : P.underlying xt = some xd) (hxd : ∀ k, xd ≠ .int k)
    (hlen : ∀ K H, K m H → swp P (Builtin.lenOf x) K H) (hload : ∀ (K : Array Value → Heap → Prop), K ys.toArray H → swp P (Builtin.firstCells ie.size m x) K H)
    (ho : OwnRow H e ie.size a n cap xs) (hyl : ys.length = m * ie.size) (hyp : ∀ v ∈ ys, Value.plain v = true)
    (hlim : (n + m) * ie.bytes ≤ 140737488355328) (hmax : n + m ≤ 4611686018427387904)
    (h : ∀ a' cap' H', OwnRow H' e ie.size a' (n + m) cap' (xs ++ ys) → Upd (blk a) H H' → (∀ p, a' = some p → a = some p ∨ H p.block = none) → (n + m ≤ cap → a' = a ∧ cap' = cap) ∧ (¬ n + m ≤ cap → Upd [] H H' ∧ ∀ p, a' = some p → H p.block = none) → K (.slice a' (n + m) cap') H') :
    swp P (Builtin.append_ #[t, xt] ty #[.slice a n cap, x]) K H := by
  unfold Builtin.append_
  simp only [List.getElem?_toArray, List.getElem?_cons_zero, List.getElem?_cons_succ]
  rw [swp_bind, swp_underlying ht]
  dsimp only
  rw [swp_bind, swp_sizeOf hi]
  rw [swp_bind, swp_underlying hxt, swp_bind]
  refine swp_pure_at (y := false) (by cases xd <;> first | rfl | exact absurd rfl (hxd _)) ?_
  simp only [Bool.false_eq_true, if_false, Bool.not_false, if_true]
  rw [swp_bind]
  refine hlen _ _ ?_
  by_cases hroom : n + m ≤ cap
  · rw [if_pos hroom, swp_bind]
    refine hload _ ?_
    rcases ho.ok with ⟨ha, hn, hc⟩ | ⟨g, cur, ha, hg, h1, h2, h3⟩
    · subst ha
      have hm : m = 0 := by omega
      subst hm
      have hys : ys = [] := List.length_eq_zero_iff.1 (by simpa using hyl)
      subst hys
      refine h none cap H ?_ (Upd.refl _ _) (fun p hp => by cases hp) ⟨fun _ => ⟨rfl, rfl⟩, fun hf => absurd hroom hf⟩
      simpa using ho
    · subst ha
      show swp P (do storeCells ((⟨g, 0, none⟩ : Addr).add (n * ie.size)) ys.toArray.toList; pure (Value.slice (some ⟨g, 0, none⟩) (n + m) cap)) K H
      rw [swp_bind, Addr.add_lit, Nat.zero_add]
      have hfit : n * ie.size + ys.length ≤ cur.size := by
        rw [hyl, h1, ← Nat.add_mul]; exact Nat.mul_le_mul_right _ hroom
      refine swp_storeCells_own ys 0 cur H hg (by simpa using hfit) hyp ?_
      refine h _ cap _ (OwnRow.made (upd_same _ _ _) (by rw [writeAt_size]; exact h1) hroom ?_ ?_) (Upd.upd (by simp [blk]) _) (fun p hp => .inl hp) ⟨fun _ => ⟨rfl, rfl⟩, fun hf => absurd hroom hf⟩
      · rw [List.length_append, ho.len, hyl, Nat.add_mul]
      · intro i v hi
        rw [Nat.add_zero, writeAt_get _ _ _ _ hfit]
        have hxl := ho.len
        by_cases hlt : i < xs.length
        · rw [List.getElem?_append_left hlt] at hi
          rw [if_neg (by omega)]; exact h3 i v hi
        · rw [List.getElem?_append_right (by omega), hxl] at hi
          have := (List.getElem?_eq_some_iff.1 hi).1
          rw [if_pos (by omega)]; exact hi
  · rw [if_neg hroom]
    rw [swp_bind, swp_typeInfo hi]
    have hneed : cap < n + m := by omega
    have c1 : ¬ (((n + m : Nat) : Int) > IntKind.i64.max ∧ (False ∨ ie.bytes = 0)) := by
      rintro ⟨h1, _⟩; rw [IntKind.max_i64] at h1; omega
    rw [if_neg c1, swp_bind, swp_typeInfo hi]
    have hg := growslice_fits (bytes := ie.bytes) hneed hlim
    have c2 : ¬ (Builtin.nextslicecap (n + m) cap * ie.bytes > 2 ^ 48) := by omega
    rw [if_neg c2, swp_bind]
    have ask : ∀ (n : Nat) (K : Unit → Heap → Prop), K () H → swp P (askRoom n) K H := fun n K hk => by unfold askRoom; split <;> exact hk
    show swp P (choose (.appendCap (n + m) cap e)) _ H
    unfold choose
    show (if (Question.appendCap (n + m) cap e).forced then _ else ∀ t, _)
    rw [if_neg (by simp [Question.forced])]
    intro tt
    show swp P _ K H
    obtain ⟨newCap, hnc, hle⟩ : ∃ c, (Question.appendCap (n + m) cap e).cut tt = c ∧ n + m ≤ c := ⟨_, rfl, by simp [Question.cut]⟩
    rw [hnc, swp_bind, swp_typeInfo hi, swp_bind]
    refine ask _ _ ?_
    rw [swp_bind]
    have hold : ∀ K : Array Value → Heap → Prop, K xs.toArray H → swp P (Builtin.firstCells ie.size n (.slice a n cap)) K H := fun K hk => by
      cases ha : a with
      | none =>
        rcases ho.ok with ⟨_, hn, _⟩ | ⟨g, cur, ha', _⟩
        · have hl := ho.len
          rw [hn, Nat.zero_mul] at hl
          have := List.length_eq_zero_iff.1 hl
          subst this; exact hk
        · rw [ha] at ha'; cases ha'
      | some p =>
        show swp P (loadCells p (n * ie.size)) K H
        rw [← ho.len]
        exact swp_loadCells rfl (ha ▸ ho.rows) hk
    refine hold _ ?_
    rw [swp_bind]
    refine hload _ ?_
    rw [swp_bind, swp_zeroValue hi hz, swp_bind]
    refine swp_newRow fun b hb => ?_
    have hzc : (Builtin.zeroCells z.cells (newCap - (n + m))).size = (newCap - (n + m)) * ie.size := by simp [Builtin.zeroCells, hzs]
    refine h _ newCap _ (OwnRow.made (upd_same _ _ _) ?_ hle ?_ ?_) (Upd.new hb _) (fun p hp => .inr (by cases hp; exact hb)) ⟨fun hf => absurd hf hroom, fun _ => ⟨Upd.new hb _, fun p hp => by cases hp; exact hb⟩⟩
    · simp only [Array.size_append, List.size_toArray, hzc, ho.len, hyl]
      rw [← Nat.add_mul, ← Nat.add_mul]; congr 1; omega
    · rw [List.length_append, ho.len, hyl, Nat.add_mul]
    · intro i v hi
      rw [Array.getElem?_append_left (by simp [(List.getElem?_eq_some_iff.1 hi).1]; have := (List.getElem?_eq_some_iff.1 hi).1; simpa using this)]
      simpa using hi

theorem swp_append {t e ty : TypeId} {ie : TypeInfo} {z : Value} {xt : TypeId} {xd : TypeDesc} {a : Option Addr} {n cap m : Nat} {x : Value} {xs ys : List Value} {H : Heap} {K : Value → Heap → Prop}
    (ht : P.underlying t = some (.slice e)) (hi : P.info? e = some ie) (hz : ie.zero = some z) (hzs : z.cells.size = ie.size) (hs0 : 0 < ie.size)
    (hxt : P.underlying xt = some xd) (hxd : ∀ k, xd ≠ .int k)
    (hlen : ∀ K H, K m H → swp P (Builtin.lenOf x) K H) (hload : ∀ (K : Array Value → Heap → Prop), K ys.toArray H → swp P (Builtin.firstCells ie.size m x) K H)
    (ho : OwnRow H e ie.size a n cap xs) (hyl : ys.length = m * ie.size) (hyp : ∀ v ∈ ys, Value.plain v = true)
    (hlim : (n + m) * ie.bytes ≤ 140737488355328) (hmax : n + m ≤ 4611686018427387904)
    (h : ∀ a' cap' H', OwnRow H' e ie.size a' (n + m) cap' (xs ++ ys) → Upd (blk a) H H' → (∀ p, a' = some p → a = some p ∨ H p.block = none) → K (.slice a' (n + m) cap') H') :
    swp P (Builtin.append_ #[t, xt] ty #[.slice a n cap, x]) K H :=
  swp_append' ht hi hz hzs hs0 hxt hxd hlen hload ho hyl hyp hlim hmax fun a' cap' H' h1 h2 h3 _ => h a' cap' H' h1 h2 h3

theorem append_rows {t e ty : TypeId} {ie : TypeInfo} {z : Value} {a b : Option Addr} {n cap m c : Nat} {xs ys : List Value} {H : Heap} {K : Value → Heap → Prop}
    (ht : P.underlying t = some (.slice e)) (hi : P.info? e = some ie) (hz : ie.zero = some z) (hzs : z.cells.size = ie.size) (hs0 : 0 < ie.size)
    (ho : OwnRow H e ie.size a n cap xs) (hy : RowAt H b ys) (hyl : ys.length = m * ie.size) (hyp : ∀ v ∈ ys, Value.plain v = true)
    (hlim : (n + m) * ie.bytes ≤ 140737488355328) (hmax : n + m ≤ 4611686018427387904)
    (h : ∀ a' cap' H', OwnRow H' e ie.size a' (n + m) cap' (xs ++ ys) → Upd (blk a) H H' → (∀ p, a' = some p → a = some p ∨ H p.block = none) → K (.slice a' (n + m) cap') H') :
    HSem P (Builtin.append_ #[t, t] ty [.slice a n cap, .slice b m c].toArray) H K := by
  refine HSem.of_swp (swp_append (x := .slice b m c) ht hi hz hzs hs0 ht (by simp) (fun K H hk => hk) (fun K hk => ?_) ho hyl hyp hlim hmax h)
  cases hb : b with
  | none =>
    have hys : ys = [] := by
      cases ys with
      | nil => rfl
      | cons y ys => obtain ⟨_, _, hh, _⟩ := hy 0 y rfl; rw [hb] at hh; cases hh
    subst hys; exact hk
  | some p =>
    show swp P (loadCells p (m * ie.size)) K H
    rw [← hyl]
    exact swp_loadCells rfl (hb ▸ hy) hk
theorem append_rows' {t e ty : TypeId} {ie : TypeInfo} {z : Value} {a b : Option Addr} {n cap m c : Nat} {xs ys : List Value} {H : Heap} {K : Value → Heap → Prop}
    (ht : P.underlying t = some (.slice e)) (hi : P.info? e = some ie) (hz : ie.zero = some z) (hzs : z.cells.size = ie.size) (hs0 : 0 < ie.size)
    (ho : OwnRow H e ie.size a n cap xs) (hy : RowAt H b ys) (hyl : ys.length = m * ie.size) (hyp : ∀ v ∈ ys, Value.plain v = true)
    (hlim : (n + m) * ie.bytes ≤ 140737488355328) (hmax : n + m ≤ 4611686018427387904)
    (h : ∀ a' cap' H', OwnRow H' e ie.size a' (n + m) cap' (xs ++ ys) → Upd (blk a) H H' → (∀ p, a' = some p → a = some p ∨ H p.block = none) → (n + m ≤ cap → a' = a ∧ cap' = cap) ∧ (¬ n + m ≤ cap → Upd [] H H' ∧ ∀ p, a' = some p → H p.block = none) → K (.slice a' (n + m) cap') H') :
    HSem P (Builtin.append_ #[t, t] ty [.slice a n cap, .slice b m c].toArray) H K := by
  refine HSem.of_swp (swp_append' (x := .slice b m c) ht hi hz hzs hs0 ht (by simp) (fun K H hk => hk) (fun K hk => ?_) ho hyl hyp hlim hmax h)
  cases hb : b with
  | none =>
    have hys : ys = [] := by
      cases ys with
      | nil => rfl
      | cons y ys => obtain ⟨_, _, hh, _⟩ := hy 0 y rfl; rw [hb] at hh; cases hh
    subst hys; exact hk
  | some p =>
    show swp P (loadCells p (m * ie.size)) K H
    rw [← hyl]
    exact swp_loadCells rfl (hb ▸ hy) hk
/-- clear of the cells behind a row of one's own. -/
theorem clear_own {t e ty : TypeId} {ie : TypeInfo} {z : Value} {a : Option Addr} {l n c cap : Nat} {xs : List Value} {H : Heap} {K : Value → Heap → Prop}
    (ht : P.underlying t = some (.slice e)) (hi : P.info? e = some ie) (hz : ie.zero = some z) (hzs : z.cells.size = ie.size) (hzp : ∀ v ∈ z.cells.toList, Value.plain v = true)
    (ho : OwnRow H e ie.size a l cap xs) (hn : l + n ≤ cap) (hk : ∀ H', OwnRow H' e ie.size a l cap xs → Upd (blk a) H H' → K (.tuple #[]) H') :
    HSem P (Builtin.clear_ #[t] ty [.slice (if cap = l then a else a.map (·.add (l * ie.size))) n c].toArray) H K := by
  refine HSem.of_swp ?_
  unfold Builtin.clear_
  simp only [List.getElem?_toArray, List.getElem?_cons_zero]
  rw [swp_bind, swp_underlying ht]
  by_cases h0 : n = 0
  · subst h0
    generalize (if cap = l then a else a.map (·.add (l * ie.size))) = a'
    cases a' with
    | none => exact hk H ho (Upd.refl _ _)
    | some p => exact hk H ho (Upd.refl _ _)
  · rcases ho.ok with ⟨ha, hl, hc⟩ | ⟨g, cur, ha, hg, h1, h2, h3⟩
    · omega
    · subst ha
      rw [if_neg (by omega)]
      obtain ⟨m, rfl⟩ : ∃ m, n = m + 1 := ⟨n - 1, by omega⟩
      show swp P (do
        let zv ← zeroValue e
        storeCells ((⟨g, 0, none⟩ : Addr).add (l * ie.size)) (Builtin.zeroCells zv.cells (m + 1)).toList
        pure (Value.tuple #[])) K H
      rw [swp_bind, swp_zeroValue hi hz, swp_bind, Addr.add_lit, Nat.zero_add]
      have hzl : (Builtin.zeroCells z.cells (m + 1)).toList.length = (m + 1) * ie.size := by
        rw [Array.length_toList]; simp [Builtin.zeroCells, hzs]
      have hfit : l * ie.size + (Builtin.zeroCells z.cells (m + 1)).toList.length ≤ cur.size := by
        rw [hzl, h1, ← Nat.add_mul]; exact Nat.mul_le_mul_right _ hn
      refine swp_storeCells_own _ 0 cur H hg (by simpa using hfit) ?_ ?_
      · intro v hv
        simp only [Builtin.zeroCells, Array.toList_map, List.mem_map] at hv
        obtain ⟨k, hk', rfl⟩ := hv
        by_cases hlt : k % z.cells.size < z.cells.size
        · rw [getElem!_pos z.cells _ hlt]
          exact hzp _ (by simp)
        · rw [getElem!_neg z.cells _ hlt]; rfl
      · refine hk _ (OwnRow.made (upd_same _ _ _) (by rw [writeAt_size]; exact h1) h2 ho.len ?_) (Upd.upd (by simp [blk]) _)
        intro i v hi'
        rw [Nat.add_zero, writeAt_get _ _ _ _ hfit]
        have hxl := ho.len
        have := (List.getElem?_eq_some_iff.1 hi').1
        rw [if_neg (by omega)]; exact h3 i v hi'
theorem append_str {t e ty xt : TypeId} {ie : TypeInfo} {z : Value} {a : Option Addr} {n cap : Nat} {s : ByteArray} {xs : List Value} {H : Heap} {K : Value → Heap → Prop}
    (ht : P.underlying t = some (.slice e)) (hi : P.info? e = some ie) (hz : ie.zero = some z) (hzs : z.cells.size = ie.size) (hs1 : ie.size = 1) (hxt : P.underlying xt = some .string)
    (ho : OwnRow H e ie.size a n cap xs)
    (hlim : (n + s.size) * ie.bytes ≤ 140737488355328) (hmax : n + s.size ≤ 4611686018427387904)
    (h : ∀ a' cap' H', OwnRow H' e ie.size a' (n + s.size) cap' (xs ++ s.data.toList.map fun b => .int .u8 b.toNat) → Upd (blk a) H H' → (∀ p, a' = some p → a = some p ∨ H p.block = none) → K (.slice a' (n + s.size) cap') H') :
    HSem P (Builtin.append_ #[t, xt] ty [.slice a n cap, .string s].toArray) H K := by
  refine HSem.of_swp (swp_append (x := .string s) ht hi hz hzs (by omega) hxt (by simp) (fun K H hk => hk) (fun K hk => ?_) ho ?_ ?_ hlim hmax h)
  · have : ((s.extract 0 s.size).data.map fun b => Value.int .u8 b.toNat) = (s.data.toList.map fun b => Value.int .u8 b.toNat).toArray := by
      rw [ByteArray.extract_zero_size, ← Array.toList_map, Array.toArray_toList]
    show K ((s.extract 0 s.size).data.map fun b => Value.int .u8 b.toNat) H
    rw [this]; exact hk
  · rw [hs1]; simp
  · intro v hv
    obtain ⟨b, _, rfl⟩ := List.mem_map.1 hv
    rfl
end
end Go.Proofs.YtfcmjomnpahllaaGreat.Hv
end
section
namespace Go.Proofs.YtfcmjomnpahllaaGreat.Hv
open Go
set_option linter.unusedVariables false
set_option linter.unusedSimpArgs false

theorem Upd.none {S : List Nat} {H H' : Heap} (h : Upd S H H') {b : Nat} (hS : b ∉ S) (hb : H' b = none) : H b = none := by
  refine Classical.byContradiction fun hne => ?_
  rw [h b hS hne] at hb; exact hne hb
theorem blk_of {a : Option Addr} {b : Nat} (h : b ∈ blk a) : ∃ p, a = some p ∧ p.block = b := by
  cases a with
  | none => simp [blk] at h
  | some p => exact ⟨p, rfl, by simp [blk] at h; exact h.symm⟩
/-! ## Bytes -/
def u8 (b : UInt8) : Value := .int .u8 b.toNat
def u8s (l : List UInt8) : List Value := l.map u8
theorem u8s_length (l : List UInt8) : (u8s l).length = l.length := by simp [u8s]
theorem u8s_append (a b : List UInt8) : u8s (a ++ b) = u8s a ++ u8s b := by simp [u8s]
theorem u8s_drop (a : List UInt8) (k : Nat) : u8s (a.drop k) = (u8s a).drop k := by simp [u8s]
theorem u8s_take (a : List UInt8) (k : Nat) : u8s (a.take k) = (u8s a).take k := by simp [u8s]
theorem u8s_get {l : List UInt8} {i : Nat} {b : UInt8} (h : l[i]? = some b) : (u8s l)[i]? = some (u8 b) := by simp [u8s, h]
theorem plain_u8s (l : List UInt8) : ∀ v ∈ u8s l, Value.plain v = true := fun v hv => by
  obtain ⟨b, _, rfl⟩ := List.mem_map.1 hv; rfl
theorem u8s_inj {a b : List UInt8} (h : u8s a = u8s b) : a = b := by
  unfold u8s at h
  refine List.map_inj_right (fun x y e => ?_) |>.1 h
  injection e with _ e
  exact UInt8.toNat_inj.1 (by exact_mod_cast e)

/-! ## Sealed words, opened -/
theorem wr_i64 {n : Int} (h0 : -9223372036854775808 ≤ n) (h1 : n ≤ 9223372036854775807) : wr .i64 n = n := by rw [wr_eq]; exact IntWalk.i64_in _ ⟨h0, h1⟩
theorem wr_i64n (n : Nat) (h : n ≤ 9223372036854775807) : wr .i64 (n : Int) = n := wr_i64 (by omega) (by omega)
theorem wr_u8 (n : Int) : wr .u8 n = n % 256 := by rw [wr_eq]; rfl
def i64s (l : List Int) : List Value := l.map (Value.int .i64)
theorem i64s_length (l : List Int) : (i64s l).length = l.length := by simp [i64s]
theorem i64s_get {l : List Int} {i : Nat} {z : Int} (h : l[i]? = some z) : (i64s l)[i]? = some (.int .i64 z) := by simp [i64s, h]
theorem wr_u64 (n : Int) : wr .u64 n = n % 18446744073709551616 := by rw [wr_eq]; simp [IntKind.wrap, IntKind.bits, IntKind.signed]
theorem ltB_nat (a b : Nat) : ltB (a : Int) (b : Int) = decide (a < b) := by rw [ltB_eq]; simp
theorem ltB_true {a b : Int} : ltB a b = true ↔ a < b := by rw [ltB_eq]; simp
theorem ltB_false {a b : Int} : ltB a b = false ↔ b ≤ a := by rw [ltB_eq]; simp
theorem not_ltB_true {a b : Int} : (!ltB a b) = true ↔ b ≤ a := by rw [ltB_eq]; simp
theorem not_ltB_false {a b : Int} : (!ltB a b) = false ↔ a < b := by rw [ltB_eq]; simp
theorem eqB_true {a b : Int} : eqB a b = true ↔ a = b := by rw [eqB_eq]; simp
theorem eqB_false {a b : Int} : eqB a b = false ↔ a ≠ b := by rw [eqB_eq]; simp
theorem not_eqB_true {a b : Int} : (!eqB a b) = true ↔ a ≠ b := by rw [eqB_eq]; simp
theorem not_eqB_false {a b : Int} : (!eqB a b) = false ↔ a = b := by rw [eqB_eq]; simp
def bs (l : List UInt8) : ByteArray := ⟨l.toArray⟩
theorem bs_size (l : List UInt8) : (bs l).size = l.length := by simp [bs, ByteArray.size]
theorem bs_list (l : List UInt8) : (bs l).data.toList = l := rfl
theorem seqB_bs (a b : List UInt8) : seqB (bs a) (bs b) = decide (a = b) := by
  rw [seqB_eq, ByteArray.toList_eq, ByteArray.toList_eq]
  show (a == b) = _
  by_cases h : a = b
  · subst h; simp
  · rw [decide_eq_false h]; exact beq_eq_false_iff_ne.2 h
theorem HBytes.row {Hs : List Heap} {a : Option Addr} {n : Nat} {K : ByteArray → Prop} (l : List UInt8) (hl : l.length = n) (h : ∀ H ∈ Hs, RowAt H a (u8s l)) (hk : K (bs l)) (hne : Hs ≠ []) : HBytes Hs a n K := by
  refine ⟨bs l, by rw [bs_size, hl], fun ha => ?_, fun H hH i v hi p hp => ?_, hk⟩
  · cases Hs with
    | nil => exact absurd rfl hne
    | cons H Hs =>
      cases l with
      | nil => rw [← hl]; rfl
      | cons x l => obtain ⟨_, _, hh, _⟩ := h H List.mem_cons_self 0 _ rfl; rw [ha] at hh; cases hh
  · have := h H hH i (u8 v) (by rw [u8s_get]; exact hi)
    obtain ⟨b, off, ha, hc⟩ := this
    rw [hp] at ha; cases ha
    rw [Addr.add_lit]; exact hc

theorem HLoad.one {H : Heap} {a : Addr} {K : Value → Prop} {v : Value} (h : H.cell? a = some v) (hk : K v) : HLoad [H] a K := ⟨v, fun H' hH => by rw [List.mem_singleton.1 hH]; exact h, hk⟩
theorem RowAt.load {H : Heap} {b off : Nat} {cs : List Value} (h : RowAt H (some ⟨b, off, none⟩) cs) {i size : Nat} {v : Value} (hi : cs[i * size]? = some v) : H.cell? ((⟨b, off, none⟩ : Addr).add (offMul i size)) = some v := by
  rw [Addr.add_lit, offMul_eq]; exact h.get hi

theorem RowAt.sl {H : Heap} {a : Option Addr} {cs : List Value} (h : RowAt H a cs) {l cap size : Nat} (hc : cs.length ≤ cap * size) : RowAt H (slAddr a l cap size) (cs.drop (l * size)) := by
  unfold slAddr
  by_cases e : cap = l
  · have : cs.drop (l * size) = [] := List.drop_eq_nil_of_le (by rw [← e]; exact hc)
    rw [this]; exact RowAt.nil _ _
  · rw [if_neg e]; exact h.drop (l * size)

/-! ## Slices of bytes (element type e) -/
section
/-- What a call has made: a row of its own, of a new block. -/
structure Made (H H' : Heap) (e : TypeId) (size : Nat) (a : Option Addr) (n cap : Nat) (xs : List Value) : Prop where
  own : OwnRow H' e size a n cap xs
  upd : Upd [] H H'
  new : ∀ p, a = some p → H p.block = none
end
def All2 {α β : Type} (R : α → β → Prop) : List α → List β → Prop
  | [], [] => True
  | x :: xs, y :: ys => R x y ∧ All2 R xs ys
  | _, _ => False
theorem All2.length {α β : Type} {R : α → β → Prop} : ∀ {xs : List α} {ys : List β}, All2 R xs ys → xs.length = ys.length
  | [], [], _ => rfl
  | x :: xs, y :: ys, h => by simp [h.2.length]
theorem All2.mono {α β : Type} {R R' : α → β → Prop} (hr : ∀ x y, R x y → R' x y) : ∀ {xs : List α} {ys : List β}, All2 R xs ys → All2 R' xs ys
  | [], [], _ => trivial
  | x :: xs, y :: ys, h => ⟨hr _ _ h.1, h.2.mono hr⟩
theorem All2.append {α β : Type} {R : α → β → Prop} : ∀ {xs xs' : List α} {ys ys' : List β}, All2 R xs ys → All2 R xs' ys' → All2 R (xs ++ xs') (ys ++ ys')
  | [], _, [], _, _, h => h
  | x :: xs, _, y :: ys, _, h, h' => ⟨h.1, h.2.append h'⟩
theorem All2.get {α β : Type} {R : α → β → Prop} : ∀ {xs : List α} {ys : List β}, All2 R xs ys → ∀ {i : Nat} {y : β}, ys[i]? = some y → ∃ x, xs[i]? = some x ∧ R x y
  | [], [], _, i, y, hy => by simp at hy
  | x :: xs, z :: ys, h, 0, y, hy => ⟨x, rfl, by simp at hy; subst hy; exact h.1⟩
  | x :: xs, z :: ys, h, i + 1, y, hy => h.2.get (i := i) (by simpa using hy)
theorem OwnRow.addr {H : Heap} {e : TypeId} {size : Nat} {a : Option Addr} {n cap : Nat} {xs : List Value} (h : OwnRow H e size a n cap xs) (hn : 0 < n) : ∃ b, a = some ⟨b, 0, none⟩ := by
  rcases h.ok with ⟨_, h0, _⟩ | ⟨g, cur, ha, _⟩
  · omega
  · exact ⟨g, ha⟩
end Go.Proofs.YtfcmjomnpahllaaGreat.Hv
end
section
namespace Go.Proofs.YtfcmjomnpahllaaGreat.Hv
open Go
set_option linter.unusedVariables false
set_option linter.unusedSimpArgs false

/-! ## Regions by steps -/
structure HReg (P : Program) (n : Nat) (ops : List Oper) (K : Env → Heap → Prop) (c : List (Nat × Nat)) (hist : List Heap) (σ : Env) (H : Heap) : Prop where
  run : dreg P n ops K c hist σ H
theorem HReg.fn {P : Program} {n : Nat} {ops : List Oper} {K : Env → Heap → Prop} {c : List (Nat × Nat)} {hist : List Heap} {σ : Env} {H : Heap} : HReg P n ops K c hist σ H = dreg P n ops K c hist σ H :=
  propext ⟨fun h => h.run, fun h => ⟨h⟩⟩
def rstep (P : Program) (n : Nat) (ops : List Oper) (K : Env → Heap → Prop) (c : List (Nat × Nat)) (hist : List Heap) (σ : Env) (H : Heap) : Prop :=
  match c with
  | [] => K σ H
  | (i, k) :: rest => match nth ops i with
    | none => HReg P n ops K rest hist σ H
    | some o => dguard n ops o σ
        (fun σ => cond (isFloat P o)
          (fopC P (EK n σ) (H :: hist.take k) (fun v => HReg P n ops K rest hist (eput σ o.dst v) H) o.op)
          (eopC P (EK n σ) (E n (sfun σ)) o H (fun v H' => HReg P n ops K rest (H :: hist) (eput σ o.dst v) H')))
        (fun σ => HReg P n ops K rest hist (eput σ o.dst undef) H)
theorem HReg.step {P : Program} {n : Nat} {ops : List Oper} {K : Env → Heap → Prop} {c : List (Nat × Nat)} {hist : List Heap} {σ : Env} {H : Heap} (h : rstep P n ops K c hist σ H) : HReg P n ops K c hist σ H := by
  refine ⟨?_⟩
  unfold rstep at h
  simp only [HReg.fn] at h
  cases c with
  | nil => exact h
  | cons x rest => obtain ⟨i, k⟩ := x; unfold dreg; exact h

/-! ## Code by steps: the evaluation stands ahead of each piece (and so does the kernel's) -/
structure HCode (P : Program) (n : Nat) (cs : List (Nat × List (Nat × Nat))) (c : Code) (K : Exit → Env → Heap → Prop) (σ : Env) (H : Heap) : Prop where
  run : dcode P n cs c K σ H
section
variable {P : Program} {n : Nat} {cs : List (Nat × List (Nat × Nat))}
theorem HCode.fn {c : Code} {K : Exit → Env → Heap → Prop} : HCode P n cs c K = dcode P n cs c K := by
  funext σ H; exact propext ⟨fun h => h.run, fun h => ⟨h⟩⟩
def hstep (P : Program) (n : Nat) (cs : List (Nat × List (Nat × Nat))) (c : Code) (K : Exit → Env → Heap → Prop) (σ : Env) (H : Heap) : Prop :=
  match c with
  | .skip => K .normal σ H
  | .label _ => K .normal σ H
  | .exit id => K (.exit id) σ H
  | .ret => K .ret σ H
  | .region id ops draw => twice (cond draw (seqOf cs (id + 4000)) []) (twice (cond draw (seqOf cs (id + 3000)) []) (twice (cond draw (seqOf cs (id + 1000)) []) (HReg P n ops.toList (K .normal) (cond draw (seqOf cs id) (upFrom 0 ops.toList.length)) [] σ H) (HReg P n ops.toList (K .normal) (seqOf cs (id + 1000)) [] σ H)) (HReg P n ops.toList (K .normal) (seqOf cs (id + 3000)) [] σ H)) (HReg P n ops.toList (K .normal) (seqOf cs (id + 4000)) [] σ H)
  | .seq a b => HCode P n cs a (thenD (HCode P n cs b K) K) σ H
  | .cond c x y => EK n σ c fun v => (match v with
    | .bool t => hcond t fun b => cond b (HCode P n cs x K σ H) (HCode P n cs y K σ H)
    | _ => False)
  | .block id c => HCode P n cs c (blockD id K) σ H
  | .loop c => HLoop (fun KN σ' H' => HCode P n cs c (thenD KN K) σ' H') σ H
  | _ => False
theorem HCode.step {c : Code} {K : Exit → Env → Heap → Prop} {σ : Env} {H : Heap} (h : hstep P n cs c K σ H) : HCode P n cs c K σ H := by
  refine ⟨?_⟩
  unfold hstep at h
  simp only [HCode.fn, HReg.fn] at h
  cases c <;> (unfold dcode; first | exact h | exact h.elim)
theorem HCode.to {c : Code} {K : Exit → Env → Heap → Prop} {σ : Env} {H : Heap} (h : dcode P n cs c K σ H) : HCode P n cs c K σ H := ⟨h⟩
theorem Resp.hcode {c : Code} {K : Exit → Env → Heap → Prop} (hK : Resp K) : Resp1 (HCode P n cs c K) := by
  rw [HCode.fn]; exact Resp.code hK
theorem Resp1.valuesK {live : List Nat} {F : List Value → Heap → Prop} : Resp1 (fun σ H => Hv.valuesK σ live fun vs => F vs H) := fun σ σ' H ha h => by
  have h' : Hv.valuesK σ live (fun vs => F vs H) := h
  show Hv.valuesK σ' live (fun vs => F vs H)
  rw [valuesK_iff] at h' ⊢
  rw [← valuesAt_alike ha live]; exact h'
theorem hloopC {c : Code} {K : Exit → Env → Heap → Prop} {σ : Env} {H : Heap} (mods live : List Nat) (I : Nat → List Value → Heap → Prop) (hin : codeIn mods c = true)
    (hK : Resp K) (h0 : ∃ m, valuesK σ live fun vs => I m vs H)
    (round : ∀ m vs f H, I m vs H → HCode P n cs c (thenD (fun σ' H' => valuesK σ' live fun vs' => ∃ m', m' < m ∧ I m' vs' H') K) (head σ mods live vs f) H) :
    HLoop (fun KN σ' H' => HCode P n cs c (Hv.thenD KN K) σ' H') σ H := by
  simp only [HCode.fn] at round ⊢
  exact hloop mods live I hin hK h0 round
theorem hcutC {a b : Code} {K : Exit → Env → Heap → Prop} {σ : Env} {H : Heap} (mods live : List Nat) (J : List Value → Heap → Prop) (hina : codeIn mods a = true) (hK : Resp K)
    (h1 : HCode P n cs a (Hv.thenD (fun σ' H' => valuesK σ' live fun vs => J vs H') K) σ H)
    (h2 : ∀ vs f H', J vs H' → HCode P n cs b K (head σ mods live vs f) H') : HCode P n cs (.seq a b) K σ H := by
  simp only [HCode.fn] at h1 h2 ⊢
  exact hcut mods live J hina hK h1 h2
theorem hcalls {f : FuncId} {fn : Func} {c : Code} {args : List Value} {H : Heap} {K : Value → Heap → Prop} (cs : List (Nat × List (Nat × Nat))) (hm : P.follows .mixedOrders = true) (hf : P.funcs[f]? = some fn) (hb : fn.body = some c)
    (hn : Nat.ble args.length fn.ntmps = true) (ok : codeOk P cs c = true) (h : HCode P fn.ntmps cs c (retD P fn K) (argsFrom 0 args) H) : HCalls P f args H K :=
  hcalls_of_dcode hm hf hb hn ok h.run
end
/-! ## Conversions to slices of bytes -/
theorem swp_markStringish {P : Program} {b off : Nat} {c : Array Value} {e : TypeId} {f : Nat × Nat} {K : Unit → Heap → Prop} {H : Heap} (hb : H b = some (.cells c e f))
    (h : ∀ f', K () (H.upd b (.cells c e f'))) : swp P (markStringish ⟨b, off, none⟩) K H := by
  unfold markStringish
  rw [swp_bind]
  have hs : H.shape? b = some (e, c.size) := by unfold Heap.shape?; rw [hb]
  have hs : H.shape? b = some (e, c.size) := by unfold Heap.shape?; rw [hb]
  refine ⟨by show H b ≠ none; rw [hb]; simp, ?_⟩
  show swp P (match H.shape? b with
    | some (_, n) => freeze { block := b, off := n } 1
    | _ => pure ()) K H
  rw [hs]
  obtain ⟨lo, hi⟩ := f
  refine ⟨⟨c, e, lo, hi, hb⟩, ?_⟩
  show K () (H.freeze { block := b, off := c.size } 1)
  unfold Heap.freeze
  rw [if_neg (by decide)]
  show K () (match H b with
    | some (.cells c' e (lo, hi)) => H.upd b (.cells c' e (if lo == hi then (c.size, c.size + 1) else (min lo c.size, max hi (c.size + 1))))
    | _ => H)
  rw [hb]
  exact h _
/-- A conversion of a new row of bytes to its own type: a mark behind the row. -/
theorem conv_mark {P : Program} {t e : TypeId} {b off n cap : Nat} {c : Array Value} {e' : TypeId} {f : Nat × Nat} {K : Value → Heap → Prop} {H : Heap} (ht : P.underlying t = some (.slice e)) (he : P.underlying e = some (.int .u8)) (hb : H b = some (.cells c e' f))
    (h : ∀ f', K (.slice (some ⟨b, off, none⟩) n cap) (H.upd b (.cells c e' f'))) : HSem P (convert t t (.slice (some ⟨b, off, none⟩) n cap)) H K := by
  refine HSem.of_swp ?_
  unfold convert
  rw [swp_bind, swp_underlying ht, swp_bind, swp_underlying ht]
  show swp P (do
    match t == t, ← underlying e with
    | true, .int .u8 => do markStringish ⟨b, off, none⟩; pure (.slice (some ⟨b, off, none⟩) n cap)
    | _, _ => unsupported (.noEntry "convert/other")) K H
  rw [swp_bind, swp_underlying he]
  rw [beq_self_eq_true]
  show swp P (do markStringish ⟨b, off, none⟩; pure (.slice (some ⟨b, off, none⟩) n cap)) K H
  rw [swp_bind]
  exact swp_markStringish hb h
/-- A string's bytes: a new row. -/
theorem conv_bytes {P : Program} {s t e : TypeId} {x : ByteArray} {K : Value → Heap → Prop} {H : Heap} (hs : P.underlying s = some .string) (ht : P.underlying t = some (.slice e)) (he : P.underlying e = some (.int .u8))
    (h : ∀ b cap, H b = none → x.size ≤ cap → ∀ (cur : Array Value) (f : Nat × Nat), cur.size = cap → (∀ (i : Nat) (v : UInt8), x.data.toList[i]? = some v → cur[i]? = some (u8 v)) → K (.slice (some ⟨b, 0, none⟩) x.size cap) (H.upd b (.cells cur e f))) : HSem P (convert s t (.string x)) H K := by
  refine HSem.of_swp ?_
  unfold convert
  rw [swp_bind, swp_underlying hs, swp_bind, swp_underlying ht]
  show swp P (do
    match ← underlying e with
    | .int .u8 => Conv.stringToBytes e x
    | .int .i32 => Conv.stringToRunes e x
    | _ => stuck "Convert: string to a slice of what?") K H
  rw [swp_bind, swp_underlying he]
  show swp P (Conv.stringToBytes e x) K H
  unfold Conv.stringToBytes
  rw [swp_bind]
  unfold choose
  show (if (Question.appendCap x.size 0 e).forced then _ else ∀ t, _)
  rw [if_neg (by simp [Question.forced])]
  intro tt
  obtain ⟨cap, hnc, hle⟩ : ∃ c, (Question.appendCap x.size 0 e).cut tt = c ∧ x.size ≤ c := ⟨_, rfl, by simp [Question.cut]⟩
  rw [hnc]
  show swp P (do
    let a ← newRow e ((x.data.map fun b => Value.int .u8 b.toNat) ++ Array.replicate (cap - x.size) (.int .u8 0))
    markStringish a
    pure (.slice (some a) x.size cap)) K H
  rw [swp_bind]
  refine swp_newRow fun b hb => ?_
  rw [swp_bind]
  refine swp_markStringish (upd_same _ _ _) fun f' => ?_
  show K _ _
  rw [upd_upd]
  refine h b cap hb hle _ f' ?_ ?_
  · have hsz : x.data.size = x.size := rfl
    rw [Array.size_append, Array.size_map, Array.size_replicate]; omega
  · intro i v hv
    have hi := (List.getElem?_eq_some_iff.1 hv).1
    rw [Array.getElem?_append_left (by simpa using hi)]
    rw [Array.getElem?_map, ← Array.getElem?_toList, hv]; rfl
end Go.Proofs.YtfcmjomnpahllaaGreat.Hv
end
section
namespace Go.Proofs.YtfcmjomnpahllaaGreat.Hv
open Go
set_option linter.unusedVariables false
set_option linter.unusedSimpArgs false

/-! ## Stores into rows of one's own; groups of slices of bytes, each with a block of its own -/
theorem store_row {H : Heap} {b i j n cap : Nat} {e : TypeId} {xs : List Value} {v : Value} {K : Heap → Prop} (ho : OwnRow H e 1 (some ⟨b, 0, none⟩) n cap xs) (hv : Value.plain v = true) (hi : i < n) (hj : j = i)
    (hk : ∀ H', OwnRow H' e 1 (some ⟨b, 0, none⟩) n cap (xs.set i v) → Upd [b] H H' → K H') : HStore H ⟨b, j, none⟩ v K := by
  subst hj
  rcases ho.ok with ⟨h, _⟩ | ⟨g, cur, ha, hg, hs, hn, hc⟩
  · cases h
  · cases ha
    have hsz : j < cur.size := by omega
    have hl := ho.len
    refine HStore.mk hv ⟨cur[j], ?_⟩ ?_ ?_
    · rw [cell_of hg]; simp [hsz]
    · unfold Heap.frozen?; rw [hg]; simp
    · rw [setCell_own hg]
      refine hk _ (OwnRow.made (upd_same _ _ _) (by simpa using hs) hn (by rw [List.length_set]; exact hl) ?_) (Upd.upd (by simp) _)
      intro k w hk
      rw [List.getElem?_set] at hk
      rw [Array.getElem?_setIfInBounds]
      split at hk
      · rename_i h; subst h
        rw [if_pos rfl, if_pos hsz]
        rw [if_pos (by omega)] at hk; exact hk
      · rename_i h
        rw [if_neg h]; exact hc k w hk
def vblk : Value → List Nat
  | .slice (some p) _ _ => [p.block]
  | _ => []
theorem vblk_slice (a : Option Addr) (n c : Nat) : vblk (.slice a n c) = blk a := by cases a <;> rfl
def Sle (e : TypeId) (H : Heap) (v : Value) (l : List UInt8) : Prop := ∃ a c, v = .slice a l.length c ∧ OwnRow H e 1 a l.length c (u8s l)
theorem Sle.live {e : TypeId} {H : Heap} {v : Value} {l : List UInt8} (h : Sle e H v l) {b : Nat} (hb : b ∈ vblk v) : ∃ c f, H b = some (.cells c e f) := by
  obtain ⟨a, c, rfl, ho⟩ := h
  rw [vblk_slice] at hb
  obtain ⟨p, hp, rfl⟩ := blk_of hb
  rcases ho.ok with ⟨ha, _⟩ | ⟨g, cur, ha, hg, _⟩
  · rw [ha] at hp; cases hp
  · rw [ha] at hp; cases hp; exact ⟨_, _, hg⟩
theorem Sle.upd {e : TypeId} {S : List Nat} {H H' : Heap} {v : Value} {l : List UInt8} (h : Sle e H v l) (hu : Upd S H H') (ho : ∀ b ∈ vblk v, b ∉ S) : Sle e H' v l := by
  obtain ⟨a, c, rfl, ho'⟩ := h
  refine ⟨a, c, rfl, ho'.upd hu fun p hp hS => ho p.block ?_ hS⟩
  rw [vblk_slice, hp]; simp [blk]
structure Grp (e : TypeId) (H : Heap) (vs : List Value) (ls : List (List UInt8)) : Prop where
  len : vs.length = ls.length
  ok : ∀ (i : Nat) v l, vs[i]? = some v → ls[i]? = some l → Sle e H v l
  apart : ∀ (i j : Nat) v w, i ≠ j → vs[i]? = some v → vs[j]? = some w → ∀ b ∈ vblk v, b ∉ vblk w
theorem Grp.nil (e : TypeId) (H : Heap) : Grp e H [] [] := ⟨rfl, fun i v l h => by simp at h, fun i j v w _ h => by simp at h⟩
theorem Grp.get {e : TypeId} {H : Heap} {vs : List Value} {ls : List (List UInt8)} (h : Grp e H vs ls) {i : Nat} {l : List UInt8} (hi : ls[i]? = some l) : ∃ v, vs[i]? = some v ∧ Sle e H v l := by
  have h1 := (List.getElem?_eq_some_iff.1 hi).1
  have h2 : i < vs.length := by rw [h.len]; exact h1
  exact ⟨vs[i], by simp [h2], h.ok i _ l (by simp [h2]) hi⟩
theorem Grp.val {e : TypeId} {H : Heap} {vs : List Value} {ls : List (List UInt8)} (h : Grp e H vs ls) {i : Nat} {v : Value} (hi : vs[i]? = some v) : ∃ l, ls[i]? = some l ∧ Sle e H v l := by
  have h1 := (List.getElem?_eq_some_iff.1 hi).1
  have h2 : i < ls.length := by rw [← h.len]; exact h1
  exact ⟨ls[i], by simp [h2], h.ok i v _ hi (by simp [h2])⟩
theorem Grp.upd {e : TypeId} {S : List Nat} {H H' : Heap} {vs : List Value} {ls : List (List UInt8)} (h : Grp e H vs ls) (hu : Upd S H H') (ho : ∀ b ∈ S, ∀ c f, H b ≠ some (.cells c e f)) : Grp e H' vs ls := by
  refine ⟨h.len, fun i v l hv hl => ?_, h.apart⟩
  have := h.ok i v l hv hl
  refine this.upd hu fun b hb hS => ?_
  obtain ⟨c, f, hc⟩ := this.live hb
  exact ho b hS c f hc
theorem Grp.live {e : TypeId} {H : Heap} {vs : List Value} {ls : List (List UInt8)} (h : Grp e H vs ls) {i : Nat} {v : Value} (hi : vs[i]? = some v) {b : Nat} (hb : b ∈ vblk v) : ∃ c f, H b = some (.cells c e f) := by
  obtain ⟨l, _, hs⟩ := h.val hi
  exact hs.live hb
/-- Two groups, the second of new blocks. -/
theorem Grp.join {e : TypeId} {H0 H : Heap} {vs vs' : List Value} {ls ls' : List (List UInt8)} (h0 : Grp e H0 vs ls) (hu : Upd [] H0 H) (h' : Grp e H vs' ls') (hn : ∀ v ∈ vs', ∀ b ∈ vblk v, H0 b = none) : Grp e H (vs ++ vs') (ls ++ ls') := by
  have h := h0.upd hu (by simp)
  have hx : ∀ (i j : Nat) v w, vs[i]? = some v → vs'[j]? = some w → ∀ b ∈ vblk v, b ∉ vblk w := by
    intro i j v w hv hw b hb hb'
    obtain ⟨c, f, hc⟩ := h0.live hv hb
    rw [hn w (List.mem_of_getElem? hw) b hb'] at hc; cases hc
  refine ⟨by rw [List.length_append, List.length_append, h.len, h'.len], fun i v l hv hl => ?_, fun i j v w hij hv hw => ?_⟩
  · by_cases hi : i < vs.length
    · rw [List.getElem?_append_left hi] at hv
      rw [List.getElem?_append_left (by rw [← h.len]; exact hi)] at hl
      exact h.ok i v l hv hl
    · rw [List.getElem?_append_right (by omega)] at hv
      rw [List.getElem?_append_right (by rw [← h.len]; omega), ← h.len] at hl
      exact h'.ok _ v l hv hl
  · by_cases hi : i < vs.length
    · rw [List.getElem?_append_left hi] at hv
      by_cases hj : j < vs.length
      · rw [List.getElem?_append_left hj] at hw
        exact h.apart i j v w hij hv hw
      · rw [List.getElem?_append_right (by omega)] at hw
        exact hx i _ v w hv hw
    · rw [List.getElem?_append_right (by omega)] at hv
      by_cases hj : j < vs.length
      · rw [List.getElem?_append_left hj] at hw
        intro b hb hb'
        exact hx j _ w v hw hv b hb' hb
      · rw [List.getElem?_append_right (by omega)] at hw
        exact h'.apart _ _ v w (by omega) hv hw
theorem Grp.one {e : TypeId} {H : Heap} {v : Value} {l : List UInt8} (h : Sle e H v l) : Grp e H [v] [l] := by
  refine ⟨rfl, fun i v' l' hv hl => ?_, fun i j v' w hij hv hw => ?_⟩
  · cases i with
    | zero => cases hv; cases hl; exact h
    | succ i => simp at hv
  · have h1 := (List.getElem?_eq_some_iff.1 hv).1
    have h2 := (List.getElem?_eq_some_iff.1 hw).1
    simp at h1 h2; omega
/-- One more slice, of a new block. -/
theorem Grp.add {e : TypeId} {H0 H : Heap} {vs : List Value} {v : Value} {ls : List (List UInt8)} {l : List UInt8} (h0 : Grp e H0 vs ls) (hu : Upd [] H0 H) (h' : Sle e H v l) (hn : ∀ b ∈ vblk v, H0 b = none) : Grp e H (vs ++ [v]) (ls ++ [l]) :=
  h0.join hu (.one h') fun w hw => by rw [List.mem_singleton.1 hw]; exact hn
/-- One slice changes; its new block is its old one or a new one. -/
theorem Grp.change {e : TypeId} {H H' : Heap} {vs : List Value} {v v' : Value} {ls : List (List UInt8)} {l' : List UInt8} {i : Nat} (h : Grp e H vs ls) (hi : vs[i]? = some v) (hu : Upd (vblk v) H H') (h' : Sle e H' v' l') (hn : ∀ b ∈ vblk v', b ∈ vblk v ∨ H b = none) : Grp e H' (vs.set i v') (ls.set i l') := by
  have hx : ∀ (j : Nat) w, i ≠ j → vs[j]? = some w → ∀ b ∈ vblk v', b ∉ vblk w := by
    intro j w hij hw b hb hb'
    rcases hn b hb with h1 | h1
    · exact h.apart i j v w hij hi hw b h1 hb'
    · obtain ⟨c, f, hc⟩ := h.live hw hb'
      rw [h1] at hc; cases hc
  refine ⟨by simp [h.len], fun j w l hw hl => ?_, fun j k w x hjk hw hx' => ?_⟩
  · rw [List.getElem?_set] at hw hl
    split at hw
    · rename_i hij; subst hij
      rw [if_pos rfl] at hl
      split at hw
      · cases hw
        split at hl
        · cases hl; exact h'
        · cases hl
      · cases hw
    · rename_i hij
      rw [if_neg hij] at hl
      have := h.ok j w l hw hl
      refine this.upd hu fun b hb hb' => h.apart i j v w hij hi hw b hb' hb
  · rw [List.getElem?_set] at hw hx'
    split at hw
    · rename_i hij; subst hij
      rw [if_neg hjk] at hx'
      split at hw
      · cases hw; exact hx k x hjk hx'
      · cases hw
    · rename_i hij
      split at hx'
      · rename_i hik; subst hik
        split at hx'
        · cases hx'
          intro b hb hb'
          exact hx j w hij hw b hb' hb
        · cases hx'
      · exact h.apart j k w x hjk hw hx'
/-- Some of a group, in another order. -/
theorem Grp.pick {e : TypeId} {H : Heap} {vs : List Value} {ls : List (List UInt8)} (h : Grp e H vs ls) (is : List Nat) (hd : is.Nodup) (hb : ∀ i ∈ is, i < vs.length) (v0 : Value) (l0 : List UInt8) : Grp e H (is.map fun i => vs.getD i v0) (is.map fun i => ls.getD i l0) := by
  have key : ∀ (i : Nat) v, (is.map fun i => vs.getD i v0)[i]? = some v → ∃ k, is[i]? = some k ∧ vs[k]? = some v := by
    intro i v hv
    rw [List.getElem?_map] at hv
    cases hk : is[i]? with
    | none => rw [hk] at hv; cases hv
    | some k =>
      rw [hk] at hv
      have hk' := hb k (List.mem_of_getElem? hk)
      refine ⟨k, rfl, ?_⟩
      simp [List.getD, hk'] at hv
      rw [List.getElem?_eq_getElem hk', hv]
  refine ⟨by simp, fun i v l hv hl => ?_, fun i j v w hij hv hw => ?_⟩
  · obtain ⟨k, hk, hv'⟩ := key i v hv
    refine h.ok k v l hv' ?_
    rw [List.getElem?_map, hk] at hl
    have hk' := hb k (List.mem_of_getElem? hk)
    have hk2 : k < ls.length := by rw [← h.len]; exact hk'
    simp [List.getD, hk2] at hl
    rw [List.getElem?_eq_getElem hk2, hl]
  · obtain ⟨k, hk, hv'⟩ := key i v hv
    obtain ⟨m, hm, hw'⟩ := key j w hw
    refine h.apart k m v w (fun e => hij ?_) hv' hw'
    subst e
    exact (List.getElem?_inj (List.getElem?_eq_some_iff.1 hk).1 hd).1 (hk.trans hm.symm)
theorem Grp.own {e : TypeId} {H : Heap} {vs : List Value} {ls : List (List UInt8)} {i n c : Nat} {a : Option Addr} {l : List UInt8} (h : Grp e H vs ls) (hi : vs[i]? = some (.slice a n c)) (hl : ls[i]? = some l) : l.length = n ∧ OwnRow H e 1 a n c (u8s l) := by
  obtain ⟨a', c', he, ho⟩ := h.ok i _ l hi hl
  obtain ⟨h1, h2, h3⟩ := Value.slice.inj he
  subst h1; subst h2; subst h3
  exact ⟨rfl, ho⟩
/-- A byte of one of a group's slices is written. -/
theorem Grp.store {e : TypeId} {H : Heap} {vs : List Value} {ls : List (List UInt8)} {i b n c k j : Nat} {l : List UInt8} {x : UInt8} {K : Heap → Prop} (h : Grp e H vs ls) (hi : vs[i]? = some (.slice (some ⟨b, 0, none⟩) n c)) (hl : ls[i]? = some l) (hk : k < l.length) (hj : j = k)
    (hK : ∀ H', Grp e H' vs (ls.set i (l.set k x)) → Upd [b] H H' → K H') : HStore H ⟨b, j, none⟩ (u8 x) K := by
  obtain ⟨a', c', he, ho⟩ := h.ok i _ l hi hl
  cases he
  refine store_row ho rfl hk hj fun H' ho' hu => ?_
  refine hK H' ?_ hu
  have hvs : vs.set i (.slice (some ⟨b, 0, none⟩) l.length c) = vs := by
    apply List.ext_getElem?
    intro m
    rw [List.getElem?_set]
    split
    · rename_i h1; subst h1
      have := (List.getElem?_eq_some_iff.1 hi).1
      rw [if_pos this, hi]
    · rfl
  have := h.change (v' := .slice (some ⟨b, 0, none⟩) l.length c) (l' := l.set k x) hi hu ⟨some ⟨b, 0, none⟩, c, by rw [List.length_set], by
    have e1 : u8s (l.set k x) = (u8s l).set k (u8 x) := by unfold u8s; rw [List.map_set]
    rw [e1, List.length_set]; exact ho'⟩ fun b hb => .inl hb
  rw [hvs] at this
  exact this
theorem Made.step {H0 H H' : Heap} {e : TypeId} {size : Nat} {a : Option Addr} {n cap : Nat} {xs : List Value} (h : Made H0 H e size a n cap xs) (hu : Upd [] H H') : Made H0 H' e size a n cap xs :=
  ⟨h.own.upd hu (Off.nil _), h.upd.trans hu, h.new⟩
theorem Made.back {H0 H1 H : Heap} {e : TypeId} {size : Nat} {a : Option Addr} {n cap : Nat} {xs : List Value} (h : Made H1 H e size a n cap xs) (hu : Upd [] H0 H1) : Made H0 H e size a n cap xs :=
  ⟨h.own, hu.trans h.upd, fun p hp => Upd.none (S := []) hu (by simp) (h.new p hp)⟩
theorem Made.sle {H0 H : Heap} {e : TypeId} {a : Option Addr} {cap : Nat} {l : List UInt8} {n : Nat} (h : Made H0 H e 1 a n cap (u8s l)) (hn : l.length = n) : Sle e H (.slice a n cap) l := by
  subst hn; exact ⟨a, cap, rfl, h.own⟩
theorem Made.vnew {H0 H : Heap} {e : TypeId} {size : Nat} {a : Option Addr} {n cap m c : Nat} {xs : List Value} (h : Made H0 H e size a n cap xs) : ∀ b ∈ vblk (.slice a m c), H0 b = none := by
  intro b hb
  rw [vblk_slice] at hb
  obtain ⟨p, hp, rfl⟩ := blk_of hb
  exact h.new p hp
theorem OwnRow.notE {H : Heap} {e e' : TypeId} {size g n cap : Nat} {xs : List Value} (h : OwnRow H e' size (some ⟨g, 0, none⟩) n cap xs) (hne : e' ≠ e) : ∀ b ∈ [g], ∀ c f, H b ≠ some (.cells c e f) := by
  intro b hb c f he
  rw [List.mem_singleton.1 hb] at he
  rcases h.ok with ⟨ha, _⟩ | ⟨g', cur, ha, hg, _⟩
  · cases ha
  · cases ha; rw [hg] at he; cases he; exact hne rfl
theorem OwnRow.apart {H : Heap} {e e' : TypeId} {size n cap i : Nat} {a : Option Addr} {xs vs : List Value} {ls : List (List UInt8)} {v : Value} (h : OwnRow H e' size a n cap xs) (G : Grp e H vs ls) (hne : e' ≠ e) (hi : vs[i]? = some v) : Off (vblk v) a := by
  intro p hp hb
  obtain ⟨c, f, hc⟩ := G.live hi hb
  rcases h.ok with ⟨ha, _⟩ | ⟨g', cur, ha, hg, _⟩
  · rw [ha] at hp; cases hp
  · rw [ha] at hp; cases hp; rw [hg] at hc; cases hc; exact hne rfl
/-- A group all of whose blocks are newer than H1. -/
structure GrpM (e : TypeId) (H1 H : Heap) (vs : List Value) (ls : List (List UInt8)) : Prop where
  grp : Grp e H vs ls
  new : ∀ v ∈ vs, ∀ b ∈ vblk v, H1 b = none
  upd : Upd [] H1 H
theorem GrpM.step {e : TypeId} {H1 H H' : Heap} {vs : List Value} {ls : List (List UInt8)} {S : List Nat} (G : GrpM e H1 H vs ls) (hu : Upd S H H') (hS : ∀ b ∈ S, ∀ c f, H b ≠ some (.cells c e f)) (hn : ∀ b ∈ S, H1 b = none) : GrpM e H1 H' vs ls :=
  ⟨G.grp.upd hu hS, G.new, Upd.drop G.upd hu hn⟩
theorem GrpM.step0 {e : TypeId} {H1 H H' : Heap} {vs : List Value} {ls : List (List UInt8)} (G : GrpM e H1 H vs ls) (hu : Upd [] H H') : GrpM e H1 H' vs ls := G.step hu (by simp) (by simp)
theorem GrpM.add {e : TypeId} {H1 H0 H : Heap} {vs : List Value} {a : Option Addr} {n cap : Nat} {ls : List (List UInt8)} {l : List UInt8} (G : GrpM e H1 H0 vs ls) (m : Made H0 H e 1 a n cap (u8s l)) (hn : l.length = n) : GrpM e H1 H (vs ++ [.slice a n cap]) (ls ++ [l]) :=
  ⟨G.grp.add m.upd (m.sle hn) m.vnew, fun v hv b hb => by
    rcases List.mem_append.1 hv with h | h
    · exact G.new v h b hb
    · rw [List.mem_singleton.1 h] at hb; exact Upd.none (S := []) G.upd (by simp) (m.vnew b hb), G.upd.trans m.upd⟩
theorem GrpM.join {e : TypeId} {H1 H0 H : Heap} {vs vs' : List Value} {ls ls' : List (List UInt8)} (G : GrpM e H1 H0 vs ls) (hu : Upd [] H0 H) (h' : Grp e H vs' ls') (hn : ∀ v ∈ vs', ∀ b ∈ vblk v, H0 b = none) : GrpM e H1 H (vs ++ vs') (ls ++ ls') :=
  ⟨G.grp.join hu h' hn, fun v hv b hb => by
    rcases List.mem_append.1 hv with h | h
    · exact G.new v h b hb
    · exact Upd.none (S := []) G.upd (by simp) (hn v h b hb), G.upd.trans hu⟩
theorem GrpM.pick {e : TypeId} {H1 H : Heap} {vs : List Value} {ls : List (List UInt8)} (G : GrpM e H1 H vs ls) (is : List Nat) (hd : is.Nodup) (hb : ∀ i ∈ is, i < vs.length) (v0 : Value) (l0 : List UInt8) : GrpM e H1 H (is.map fun i => vs.getD i v0) (is.map fun i => ls.getD i l0) :=
  ⟨G.grp.pick is hd hb v0 l0, fun v hv b hb' => by
    obtain ⟨i, hi, rfl⟩ := List.mem_map.1 hv
    have h1 := hb i hi
    refine G.new _ ?_ b hb'
    simp [List.getD, h1], G.upd⟩
theorem GrpM.store {e : TypeId} {H1 H : Heap} {vs : List Value} {ls : List (List UInt8)} {i b n c k j : Nat} {l : List UInt8} {x : UInt8} {K : Heap → Prop} (h : GrpM e H1 H vs ls) (hi : vs[i]? = some (.slice (some ⟨b, 0, none⟩) n c)) (hl : ls[i]? = some l) (hk : k < l.length) (hj : j = k)
    (hK : ∀ H', GrpM e H1 H' vs (ls.set i (l.set k x)) → Upd [b] H H' → K H') : HStore H ⟨b, j, none⟩ (u8 x) K := by
  refine h.grp.store hi hl hk hj fun H' G' u => hK H' ⟨G', h.new, Upd.drop h.upd u fun b' hb' => ?_⟩ u
  rw [List.mem_singleton.1 hb']
  exact h.new _ (List.mem_of_getElem? hi) b (by simp [vblk])
theorem GrpM.change {e : TypeId} {H1 H H' : Heap} {vs : List Value} {v v' : Value} {ls : List (List UInt8)} {l' : List UInt8} {i : Nat} (h : GrpM e H1 H vs ls) (hi : vs[i]? = some v) (hu : Upd (vblk v) H H') (h' : Sle e H' v' l') (hn : ∀ b ∈ vblk v', b ∈ vblk v ∨ H b = none) : GrpM e H1 H' (vs.set i v') (ls.set i l') := by
  have hv := h.new v (List.mem_of_getElem? hi)
  refine ⟨h.grp.change hi hu h' hn, fun w hw b hb => ?_, Upd.drop h.upd hu hv⟩
  rcases List.mem_or_eq_of_mem_set hw with h1 | h1
  · exact h.new w h1 b hb
  · subst h1
    rcases hn b hb with h2 | h2
    · exact hv b h2
    · exact Upd.none (S := []) h.upd (by simp) h2
theorem set_rep {l : List UInt8} {c : UInt8} {j : Nat} (h : j < l.length) : (List.replicate j c ++ l.drop j).set j c = List.replicate (j + 1) c ++ l.drop (j + 1) := by
  apply List.ext_getElem?
  intro k
  rw [List.getElem?_set]
  by_cases h1 : j = k
  · subst h1
    rw [if_pos rfl, if_pos (by simp; omega)]
    rw [List.getElem?_append_left (by simp)]
    simp
  · rw [if_neg h1]
    by_cases h2 : k < j
    · rw [List.getElem?_append_left (by simpa using h2), List.getElem?_append_left (by simp; omega)]
      rw [List.getElem?_replicate, List.getElem?_replicate, if_pos h2, if_pos (by omega)]
    · rw [List.getElem?_append_right (by simp; omega), List.getElem?_append_right (by simp; omega)]
      simp only [List.length_replicate, List.getElem?_drop]
      congr 1; omega
theorem GrpM.nil (e : TypeId) (H : Heap) : GrpM e H H [] [] := ⟨Grp.nil e H, fun v hv => by simp at hv, Upd.refl _ _⟩
theorem OwnRow.notT {H : Heap} {e e' : TypeId} {size n cap : Nat} {a : Option Addr} {xs : List Value} (h : OwnRow H e' size a n cap xs) (hne : e' ≠ e) : ∀ b ∈ blk a, ∀ c f, H b ≠ some (.cells c e f) := by
  intro b hb c f he
  obtain ⟨p, hp, rfl⟩ := blk_of hb
  rcases h.ok with ⟨ha, _⟩ | ⟨g', cur, ha, hg, _⟩
  · rw [ha] at hp; cases hp
  · rw [ha] at hp; cases hp; rw [hg] at he; cases he; exact hne rfl
theorem OwnRow.offT {H : Heap} {e e' : TypeId} {size size' n cap n' cap' : Nat} {a b : Option Addr} {xs ys : List Value} (h : OwnRow H e size a n cap xs) (h' : OwnRow H e' size' b n' cap' ys) (hne : e ≠ e') : Off (blk a) b := by
  intro p hp hb
  rcases h'.ok with ⟨ha, _⟩ | ⟨g', cur, ha, hg, _⟩
  · rw [ha] at hp; cases hp
  · rw [ha] at hp; cases hp; exact h.notT hne _ hb _ _ hg
end Go.Proofs.YtfcmjomnpahllaaGreat.Hv
end
section
namespace Go.Proofs.YtfcmjomnpahllaaGreat.Hv
open Go
set_option linter.unusedVariables false
set_option linter.unusedSimpArgs false

/-! ## Maps whose keys are texts -/
structure Ent where
  key : ByteArray
  val : Value
  born : Nat
def Ent.e (x : Ent) : MapEntry := { key := .string x.key, val := x.val, born := x.born }
def MapAt (H : Heap) (r : Nat) (es : List Ent) (clock : Nat) : Prop := H r = some (.map (es.map Ent.e).toArray clock)
def entIdx (k : ByteArray) : List Ent → Nat → Option (Nat × Value)
  | [], _ => none
  | e :: es, i => if k = e.key then some (i, e.val) else entIdx k es (i + 1)
theorem ba_beq (a b : ByteArray) : (a == b) = decide (a = b) := by
  obtain ⟨a⟩ := a
  obtain ⟨b⟩ := b
  have e : ((⟨a⟩ : ByteArray) == ⟨b⟩) = (a == b) := rfl
  rw [e]
  by_cases h : a = b
  · subst h; simp
  · have h2 : ¬ (⟨a⟩ : ByteArray) = ⟨b⟩ := fun e => h (by injection e)
    rw [decide_eq_false h2]; simpa using h
theorem findNow_str (k : ByteArray) : ∀ (es : List Ent) (i : Nat), Instr.findNow .string (.string k) (es.map Ent.e) i = some (entIdx k es i)
  | [], i => rfl
  | e :: es, i => by
    show (match some (k == e.key) with | some true => some (some (i, e.val)) | some false => Instr.findNow .string (.string k) (es.map Ent.e) (i + 1) | none => none) = some (if k = e.key then some (i, e.val) else entIdx k es (i + 1))
    rw [ba_beq]
    by_cases h : k = e.key
    · rw [decide_eq_true h, if_pos h]
    · rw [decide_eq_false h, if_neg h]; exact findNow_str k es (i + 1)
theorem entIdx_none {k : ByteArray} : ∀ {es : List Ent} {i : Nat}, entIdx k es i = none → ∀ e ∈ es, e.key ≠ k
  | [], i, h, e, he => by simp at he
  | x :: es, i, h, e, he => by
    unfold entIdx at h
    split at h
    · cases h
    · rename_i hn
      rcases List.mem_cons.1 he with rfl | h'
      · exact fun h => hn h.symm
      · exact entIdx_none h e h'
theorem entIdx_some {k : ByteArray} : ∀ {es : List Ent} {i j : Nat} {v : Value}, entIdx k es i = some (j, v) → ∃ m e, j = i + m ∧ es[m]? = some e ∧ e.key = k ∧ e.val = v
  | [], i, j, v, h => by simp [entIdx] at h
  | x :: es, i, j, v, h => by
    unfold entIdx at h
    split at h
    · rename_i hk; cases h; exact ⟨0, x, rfl, rfl, hk.symm, rfl⟩
    · obtain ⟨m, e, h1, h2, h3⟩ := entIdx_some h
      exact ⟨m + 1, e, by omega, by simpa using h2, h3⟩
/-- Reads without a change. -/
def srd (P : Program) {α : Type} : Sem α → Heap → α → Prop
  | .pure a, H, x => a = x
  | .getObj r k, H, x => ∃ o, H r = some o ∧ (∀ c e f, o ≠ .cells c e f) ∧ srd P (k o) H x
  | .program k, H, x => srd P (k P) H x
  | _, _, _ => False
theorem srd_bind (P : Program) {α β : Type} (s : Sem α) (f : α → Sem β) (H : Heap) (a : α) (x : β) (h1 : srd P s H a) (h2 : srd P (f a) H x) : srd P (s >>= f) H x := by
  show srd P (Sem.bind s f) H x
  induction s with
  | pure b => cases h1; exact h2
  | getObj r k ih => obtain ⟨o, h3, h4, h5⟩ := h1; exact ⟨o, h3, h4, ih o h5⟩
  | program k ih => exact ih P h1
  | _ => exact h1.elim
theorem srd_run {P : Program} {α : Type} {s : Sem α} {H : Heap} {x : α} (h : srd P s H x) : Rds P s H x := by
  intro w hs
  induction s with
  | pure b => cases h; rfl
  | getObj r k ih =>
    obtain ⟨o, h3, h4, h5⟩ := h
    have := ih o h5
    simp only [Sem.run, hs _ _ h3]
    cases o <;> first | exact absurd rfl (h4 _ _ _) | exact this
  | program k ih => exact ih P h
  | _ => exact h.elim
theorem map_eraseIdx {α β : Type} (f : α → β) : ∀ (l : List α) (i : Nat), (l.eraseIdx i).map f = (l.map f).eraseIdx i
  | [], i => rfl
  | x :: l, 0 => rfl
  | x :: l, i + 1 => by show f x :: (l.eraseIdx i).map f = f x :: (l.map f).eraseIdx i; rw [map_eraseIdx f l i]
section
variable {P : Program}
theorem srd_underlying {t : TypeId} {d : TypeDesc} {H : Heap} (h : P.underlying t = some d) : srd P (underlying t) H d := by
  unfold underlying
  refine srd_bind P _ _ H P d rfl ?_
  show srd P (match P.underlying t with | some d => pure d | none => stuck "no such type") H d
  rw [h]; rfl
theorem srd_typeInfo {t : TypeId} {i : TypeInfo} {H : Heap} (h : P.info? t = some i) : srd P (typeInfo t) H i := by
  unfold typeInfo
  refine srd_bind P _ _ H P i rfl ?_
  show srd P (match P.info? t with | some i => pure i | none => stuck "no such type") H i
  rw [h]; rfl
theorem srd_zeroValue {t : TypeId} {i : TypeInfo} {z : Value} {H : Heap} (h : P.info? t = some i) (hz : i.zero = some z) : srd P (zeroValue t) H z := by
  unfold zeroValue
  refine srd_bind P _ _ H i z (srd_typeInfo h) ?_
  simp only [hz]; rfl
theorem srd_checkKey {b : Bool} {kt : TypeId} {k : ByteArray} {H : Heap} (hk : P.underlying kt = some .string) (n : Nat) : srd P (Instr.checkKey b (n + 1) kt (.string k)) H () := by
  unfold Instr.checkKey
  refine srd_bind P _ _ H .string () (srd_underlying hk) ?_
  dsimp only
  rfl
theorem srd_findKey {kt : TypeId} {k : ByteArray} {es : List Ent} {H : Heap} (hk : P.underlying kt = some .string) : srd P (Instr.findKey kt (.string k) (es.map Ent.e)) H (entIdx k es 0) := by
  unfold Instr.findKey
  refine srd_bind P _ _ H .string _ (srd_underlying hk) ?_
  rw [findNow_str]; rfl
/-- What is read is what the rest goes on with. -/
theorem swp_of_srd {α β : Type} {s : Sem α} {f : α → Sem β} {K : β → Heap → Prop} {H : Heap} {a : α} (h1 : srd P s H a) (h2 : swp P (f a) K H) : swp P (s >>= f) K H := by
  rw [swp_bind]
  induction s with
  | pure b => cases h1; exact h2
  | getObj r k ih => obtain ⟨o, h3, h4, h5⟩ := h1; exact ⟨o, h3, h4, ih o h5⟩
  | program k ih => exact ih P h1
  | _ => exact h1.elim
theorem srd_map {H : Heap} {r c : Nat} {es : List Ent} (hm : MapAt H r es c) : srd P (getObj r) H (.map (es.map Ent.e).toArray c) :=
  ⟨_, hm, by simp, rfl⟩
theorem hlookup {t kt et : TypeId} {ie : TypeInfo} {z : Value} {H : Heap} {r c : Nat} {es : List Ent} {k : ByteArray} {K : Value → Prop} (ht : P.underlying t = some (.map kt et)) (hk : P.underlying kt = some .string) (hi : P.info? et = some ie) (hz : ie.zero = some z)
    (hm : MapAt H r es c) (h1 : ∀ (i : Nat) e, es[i]? = some e → e.key = k → K (.tuple #[e.val, .bool true])) (h0 : (∀ e ∈ es, e.key ≠ k) → K (.tuple #[z, .bool false])) : HRd P (Instr.lookup t (.map (some r)) (.string k) true) [H] K := by
  have key : ∀ x, entIdx k es 0 = x → srd P (Instr.lookup t (.map (some r)) (.string k) true) H (match x with | some (_, v) => .tuple #[v, .bool true] | none => .tuple #[z, .bool false]) := by
    intro x hx
    unfold Instr.lookup
    refine srd_bind P _ _ H _ _ (srd_underlying ht) ?_
    dsimp only
    refine srd_bind P _ _ H _ _ (srd_map hm) ?_
    show srd P (Instr.checkKey _ 10000 kt (.string k) >>= _) H _
    refine srd_bind P _ _ H () _ (srd_checkKey hk 9999) ?_
    show srd P (Instr.findKey kt (.string k) _ >>= _) H _
    refine srd_bind P _ _ H x _ (by rw [← hx]; exact srd_findKey hk) ?_
    cases x with
    | none => exact srd_bind P (zeroValue et) _ H z _ (srd_zeroValue hi hz) rfl
    | some x => rfl
  cases hx : entIdx k es 0 with
  | none => exact ⟨⟨_, fun H' hH => by rw [List.mem_singleton.1 hH]; exact srd_run (key _ hx), h0 (entIdx_none hx)⟩⟩
  | some x =>
    obtain ⟨j, v⟩ := x
    obtain ⟨m, e, _, h2, h3, h4⟩ := entIdx_some hx
    exact ⟨⟨_, fun H' hH => by rw [List.mem_singleton.1 hH]; exact srd_run (key _ hx), by subst h4; exact h1 m e h2 h3⟩⟩
theorem hmaplen {t kt et : TypeId} {H : Heap} {r c : Nat} {es : List Ent} {K : Value → Prop} (ht : P.underlying t = some (.map kt et)) (hm : MapAt H r es c) (h : K (.int .i64 (es.length : Int))) : HRd P (Builtin.len_ #[t] 0 #[.map (some r)]) [H] K := by
  refine ⟨⟨_, fun H' hH => ?_, h⟩⟩
  rw [List.mem_singleton.1 hH]
  refine srd_run ?_
  unfold Builtin.len_
  show srd P (underlying t >>= _) H _
  refine srd_bind P _ _ H _ _ (srd_underlying ht) ?_
  show srd P (getObj r >>= _) H _
  refine srd_bind P _ _ H _ _ (srd_map hm) ?_
  show goInt _ = _
  rw [List.size_toArray, List.length_map]; rfl
theorem hmakeMap {t : TypeId} {H : Heap} {K : Value → Heap → Prop} (h : ∀ b H', H b = none → MapAt H' b [] 0 → Upd [] H H' → K (.map (some b)) H') : HSem P (Instr.makeMap t none) H K := by
  refine HSem.of_swp ?_
  unfold Instr.makeMap
  show swp P (newObj (.map #[] 0) >>= _) K H
  rw [swp_bind]
  intro b hb
  exact h b _ hb (upd_same _ _ _) (Upd.new hb _)
theorem sameBits_str (n : Nat) (a b : ByteArray) : Instr.sameBits n (.string a) (.string b) = (a == b) := by cases n <;> rfl
theorem not_cells_map (H : Heap) {r c : Nat} {es : List Ent} (hm : MapAt H r es c) : ∃ o', H r = some o' ∧ (∀ c e f, o' ≠ .cells c e f) := ⟨_, hm, by simp⟩
theorem hmapUpdate {t kt et : TypeId} {H : Heap} {r c : Nat} {es : List Ent} {k : ByteArray} {v : Value} {K : Heap → Prop} (ht : P.underlying t = some (.map kt et)) (hk : P.underlying kt = some .string) (hm : MapAt H r es c)
    (h1 : ∀ (i : Nat) e H', es[i]? = some e → e.key = k → MapAt H' r (es.set i ⟨k, v, e.born⟩) c → Upd [r] H H' → K H') (h0 : ∀ H', (∀ e ∈ es, e.key ≠ k) → MapAt H' r (es ++ [⟨k, v, c⟩]) (c + 1) → Upd [r] H H' → K H') : HSemU P (Instr.mapUpdate t (.map (some r)) (.string k) v) H K := by
  refine HSemU.of_swp ?_
  unfold Instr.mapUpdate
  refine swp_of_srd (srd_underlying ht) ?_
  dsimp only
  refine swp_of_srd (srd_map hm) ?_
  dsimp only
  refine swp_of_srd (srd_checkKey hk 9999) ?_
  refine swp_of_srd (srd_findKey hk) ?_
  cases hx : entIdx k es 0 with
  | none =>
    refine ⟨not_cells_map H hm, ?_⟩
    refine h0 _ (entIdx_none hx) ?_ (Upd.upd (by simp) _)
    show (H.upd r _) r = _
    rw [upd_same]
    congr 2
    simp [Ent.e]
  | some x =>
    obtain ⟨j, w⟩ := x
    obtain ⟨m, e, hj, h2, h3, h4⟩ := entIdx_some hx
    have hj : j = m := by omega
    subst hj
    dsimp only
    have he : ((es.map Ent.e).toArray)[j]? = some e.e := by simp [h2]
    rw [he]
    have hst : Instr.keyThatStays e.e.key (.string k) = pure (.string k) := by
      unfold Instr.keyThatStays
      show (if Instr.sameBits 10000 (.string e.key) (.string k) = true then _ else _) = _
      rw [sameBits_str, h3, ba_beq, decide_eq_true rfl]; rfl
    show swp P (Instr.keyThatStays e.e.key (.string k) >>= _) _ H
    rw [hst]
    refine ⟨not_cells_map H hm, ?_⟩
    refine h1 j e _ h2 h3 ?_ (Upd.upd (by simp) _)
    show (H.upd r _) r = _
    rw [upd_same]
    congr 2
    apply Array.ext_getElem?
    intro i
    rw [Array.getElem?_modify]
    by_cases hi : j = i
    · subst hi
      rw [if_pos rfl, he]
      have hl := (List.getElem?_eq_some_iff.1 h2).1
      simp [hl, Ent.e]
    · rw [if_neg hi]
      simp [List.getElem?_set, hi]
theorem hdelete {t kt et ty : TypeId} {H : Heap} {r c : Nat} {es : List Ent} {k : ByteArray} {K : Value → Heap → Prop} (ht : P.underlying t = some (.map kt et)) (hk : P.underlying kt = some .string) (hm : MapAt H r es c)
    (h1 : ∀ (i : Nat) e H', es[i]? = some e → e.key = k → MapAt H' r (es.eraseIdx i) c → Upd [r] H H' → K (.tuple #[]) H') (h0 : ∀ H', (∀ e ∈ es, e.key ≠ k) → MapAt H' r es c → Upd [r] H H' → K (.tuple #[]) H') {t2 : TypeId} : HSem P (Builtin.delete_ #[t, t2] ty [.map (some r), .string k].toArray) H K := by
  refine HSem.of_swp ?_
  unfold Builtin.delete_
  show swp P (underlying t >>= _) K H
  refine swp_of_srd (srd_underlying ht) ?_
  show swp P (getObj r >>= _) K H
  refine swp_of_srd (srd_map hm) ?_
  show swp P (Instr.checkKey _ 10000 kt (.string k) >>= _) K H
  refine swp_of_srd (srd_checkKey hk 9999) ?_
  show swp P (Instr.findKey kt (.string k) _ >>= _) K H
  refine swp_of_srd (srd_findKey hk) ?_
  cases hx : entIdx k es 0 with
  | none =>
    refine ⟨not_cells_map H hm, ?_⟩
    exact h0 _ (entIdx_none hx) (upd_same _ _ _) (Upd.upd (by simp) _)
  | some x =>
    obtain ⟨j, w⟩ := x
    obtain ⟨m, e, hj, h2, h3, h4⟩ := entIdx_some hx
    have hj : j = m := by omega
    subst hj
    refine ⟨not_cells_map H hm, ?_⟩
    refine h1 j e _ h2 h3 ?_ (Upd.upd (by simp) _)
    show (H.upd r _) r = _
    rw [upd_same]
    congr 2
    have hl := (List.getElem?_eq_some_iff.1 h2).1
    rw [Array.eraseIdxIfInBounds, dif_pos (by simpa using hl)]
    apply Array.ext'
    rw [Array.toList_eraseIdx]
    exact (map_eraseIdx Ent.e es j).symm
theorem swp_choose_map {β : Type} {n : Nat} {f : Nat → Sem β} {K : β → Heap → Prop} {H : Heap} (hn : 0 < n) (h : ∀ i, i < n → swp P (f i) K H) : swp P (choose (.mapNext n) >>= f) K H := by
  rw [swp_bind]
  unfold choose
  unfold swp
  split
  · exact h 0 hn
  · exact fun t => h _ (Nat.mod_lt _ hn)
/-- A step of a loop over a map: some entry that was not seen yet, or the end. -/
theorem hnext {H : Heap} {r c it : Nat} {es : List Ent} {seen : Array Nat} {ty : TypeId} {K : Value → Heap → Prop} (hi_ : H it = some (.mapIter (some r) c seen c)) (hm : MapAt H r es c) (hb : ∀ e ∈ es, e.born < c)
    (hend : (∀ e ∈ es, e.born ∈ seen) → K (.tuple #[.bool false]) H)
    (hstep : ∀ (j : Nat) e, es[j]? = some e → e.born ∉ seen → ∀ H', H' it = some (.mapIter (some r) c (seen.push e.born) c) → Upd [it] H H' → K (.tuple #[.bool true, .string e.key, e.val]) H') :
    HSem P (Instr.next (.pointer (some ⟨it, 0, none⟩)) false ty) H K := by
  refine HSem.of_swp ?_
  unfold Instr.next
  refine swp_of_srd (s := getObj it) (a := .mapIter (some r) c seen c) ⟨_, hi_, by simp, rfl⟩ ?_
  dsimp only
  refine swp_of_srd (srd_map hm) ?_
  dsimp only
  have hborn : ∀ x ∈ (es.map Ent.e).toArray, x.born < c := fun x hx => by
    simp only [List.mem_toArray, List.mem_map] at hx
    obtain ⟨e, he, rfl⟩ := hx
    exact hb e he
  have hall : (!seen.isEmpty && !(es.map Ent.e).toArray.isEmpty && (es.map Ent.e).toArray.all fun x => decide (x.born ≥ c)) = false := by
    cases es with
    | nil => simp
    | cons e es =>
      have := hb e (by simp)
      have h2 : ¬ (c ≤ e.e.born) := by show ¬ (c ≤ e.born); omega
      simp [h2]
  rw [if_neg (by rw [hall]; simp)]
  generalize hold : Array.filter (fun x => decide (x.born < c)) (Array.filter (fun e => !seen.contains e.born) (es.map Ent.e).toArray) = old
  have hnew : Array.filter (fun x => decide (x.born ≥ c)) (Array.filter (fun e => !seen.contains e.born) (es.map Ent.e).toArray) = #[] := by
    rw [Array.filter_eq_empty_iff]
    intro x hx
    have := hborn x (Array.mem_of_mem_filter hx)
    simpa using this
  rw [hnew, Array.append_empty]
  have hmem : ∀ x ∈ old, x ∈ (es.map Ent.e).toArray ∧ x.born ∉ seen := fun x hx => by
    rw [← hold] at hx
    have h1 := Array.mem_of_mem_filter hx
    refine ⟨Array.mem_of_mem_filter h1, ?_⟩
    have := (Array.mem_filter.1 h1).2
    simpa using this
  have hemp : old.isEmpty = true → ∀ e ∈ es, e.born ∈ seen := fun h e he => by
    have h0 : old = #[] := by simpa using h
    refine Classical.byContradiction fun hn => ?_
    have : e.e ∈ old := by
      rw [← hold]
      refine Array.mem_filter.2 ⟨Array.mem_filter.2 ⟨?_, ?_⟩, ?_⟩
      · simp only [List.mem_toArray]; exact List.mem_map_of_mem he
      · show (!seen.contains e.born) = true; simpa using hn
      · show decide (e.born < c) = true; simpa using hb e he
    rw [h0] at this; simp at this
  refine swp_choose_map ?_ ?_
  · by_cases ho : old.isEmpty = true
    · rw [if_pos ho]; simp; omega
    · rw [if_neg ho]
      have : old.size ≠ 0 := fun h => ho (by simpa using h)
      simp; omega
  · intro i hi
    by_cases ho : old.isEmpty = true
    · have h0 : old = #[] := by simpa using ho
      rw [if_pos ho] at hi ⊢
      subst h0
      have : i = 0 := by simp at hi; omega
      subst this
      have he : ((#[none] ++ (#[] : Array MapEntry).map some : Array (Option MapEntry)))[0]? = some none := by simp
      rw [he]
      exact hend (hemp ho)
    · rw [if_neg ho] at hi ⊢
      have hl : i < old.size := by simpa using hi
      have he : ((#[] ++ old.map some : Array (Option MapEntry)))[i]? = some (some old[i]) := by simp [hl]
      rw [he]
      have h1 := hmem old[i] (Array.getElem_mem hl)
      obtain ⟨e, he2, he3⟩ := List.mem_map.1 (by simpa using h1.1)
      obtain ⟨j, hj⟩ := List.getElem?_of_mem he2
      refine ⟨⟨_, hi_, by simp⟩, ?_⟩
      rw [← he3]
      refine hstep j e hj ?_ _ ?_ (Upd.upd (by simp) _)
      · have := h1.2; rw [← he3] at this; exact this
      · rw [upd_same]; rfl
theorem find_born : ∀ {es : List Ent} {j : Nat} {e : Ent}, es[j]? = some e → (es.map Ent.born).Nodup → (es.map Ent.e).find? (fun x => x.born == e.born) = some e.e
  | [], j, e, h, _ => by simp at h
  | x :: es, 0, e, h, _ => by
    cases h
    show List.find? _ (x.e :: es.map Ent.e) = _
    rw [List.find?_cons_of_pos (by show (x.born == x.born) = true; simp)]
  | x :: es, j + 1, e, h, hd => by
    have h : es[j]? = some e := h
    rw [List.map_cons, List.nodup_cons] at hd
    have hne : ¬ x.born = e.born := fun h2 => hd.1 (by rw [h2]; exact List.mem_map_of_mem (List.mem_of_getElem? h))
    show List.find? _ (x.e :: es.map Ent.e) = _
    rw [List.find?_cons_of_neg (by show ¬ (x.born == e.born) = true; simpa using hne)]
    exact find_born h hd.2
theorem hentry {H : Heap} {r c it j : Nat} {es : List Ent} {e : Ent} {seen : Array Nat} {K : Value → Heap → Prop} (hi : H it = some (.mapIter (some r) c (seen.push e.born) c)) (hm : MapAt H r es c) (he : es[j]? = some e) (hd : (es.map Ent.born).Nodup)
    (h : K (.tuple #[.string e.key, e.val]) H) : HSem P (Instr.entry (.pointer (some ⟨it, 0, none⟩))) H K := by
  refine HSem.of_swp ?_
  unfold Instr.entry
  refine swp_of_srd (s := getObj it) (a := .mapIter (some r) c (seen.push e.born) c) ⟨_, hi, by simp, rfl⟩ ?_
  have hbk : (seen.push e.born).back? = some e.born := by simp
  dsimp only
  rw [hbk]
  dsimp only
  refine swp_of_srd (srd_map hm) ?_
  have hcc : (c != c) = false := by simp
  have hf : (es.map Ent.e).toArray.find? (fun x => x.born == e.born) = some e.e := by
    rw [List.find?_toArray]; exact find_born he hd
  dsimp only
  rw [hcc, hf]
  exact h
theorem hrange {t kt et : TypeId} {H : Heap} {r c : Nat} {es : List Ent} {K : Value → Heap → Prop} (ht : P.underlying t = some (.map kt et)) (hm : MapAt H r es c)
    (h : ∀ b H', H b = none → H' b = some (.mapIter (some r) c #[] c) → Upd [] H H' → K (.pointer (some ⟨b, 0, none⟩)) H') : HSem P (Instr.range t (.map (some r))) H K := by
  refine HSem.of_swp ?_
  unfold Instr.range
  refine swp_of_srd (srd_underlying ht) ?_
  show swp P (getObj r >>= _) K H
  refine swp_of_srd (srd_map hm) ?_
  show swp P (newObj (.mapIter (some r) c #[] c) >>= _) K H
  rw [swp_bind]
  intro b hb
  exact h b _ hb (upd_same _ _ _) (Upd.new hb _)
end
end Go.Proofs.YtfcmjomnpahllaaGreat.Hv
end
section
namespace Go.Proofs.YtfcmjomnpahllaaGreat.Hv
open Go
set_option linter.unusedVariables false
set_option linter.unusedSimpArgs false
/-! More words: masks, max and min. -/
theorem and_mask (z : Int) (j : Nat) (hj : j ≤ 62) : bitsS .and .i64 z ((2 ^ j - 1 : Nat) : Int) = z % ((2 ^ j : Nat) : Int) := by
  rw [bitsS_eq]
  unfold bits
  dsimp only
  have hb : IntKind.i64.bits = 64 := rfl
  rw [hb]
  have hp : 2 ^ j ≤ 2 ^ 62 := Nat.pow_le_pow_right (by decide) hj
  have h1 : (BitVec.ofInt 64 z &&& BitVec.ofInt 64 ((2 ^ j - 1 : Nat) : Int)).toNat = (z % 18446744073709551616).toNat % 2 ^ j := by
    rw [BitVec.toNat_and, BitVec.toNat_ofInt, BitVec.toNat_ofInt]
    have e2 : (((2 ^ j - 1 : Nat) : Int) % ((2 ^ 64 : Nat) : Int)).toNat = 2 ^ j - 1 := by
      rw [Int.emod_eq_of_lt (by omega) (by omega)]; omega
    rw [e2, Nat.and_two_pow_sub_one_eq_mod]
    have e4 : ((2 ^ 64 : Nat) : Int) = 18446744073709551616 := by decide
    rw [e4]
  rw [h1]
  have hlt : (z % 18446744073709551616).toNat % 2 ^ j < 2 ^ j := Nat.mod_lt _ (Nat.two_pow_pos j)
  have e3 : (((z % 18446744073709551616).toNat % 2 ^ j : Nat) : Int) = z % ((2 ^ j : Nat) : Int) := by
    rw [Int.natCast_emod, Int.toNat_of_nonneg (Int.emod_nonneg _ (by decide))]
    refine Int.emod_emod_of_dvd z ?_
    have : (18446744073709551616 : Int) = ((2 ^ 64 : Nat) : Int) := by decide
    rw [this, Int.natCast_dvd_natCast]
    exact Nat.pow_dvd_pow 2 (by omega)
  rw [e3]
  have hm0 : 0 ≤ z % ((2 ^ j : Nat) : Int) := Int.emod_nonneg _ (by omega)
  have hm1 : z % ((2 ^ j : Nat) : Int) < ((2 ^ j : Nat) : Int) := Int.emod_lt_of_pos _ (by omega)
  exact IntWalk.i64_in _ ⟨by omega, by omega⟩
/-- Append onto a row that the call has made. -/
theorem append_madeG {P : Program} {t e ty : TypeId} {ie : TypeInfo} {z : Value} {a b : Option Addr} {n cap m c : Nat} {xs ys : List Value} {H0 H : Heap} {K : Value → Heap → Prop}
    (ht : P.underlying t = some (.slice e)) (hi : P.info? e = some ie) (hz : ie.zero = some z) (hzs : z.cells.size = ie.size) (hs0 : 0 < ie.size)
    (hm : Made H0 H e ie.size a n cap xs) (hy : RowAt H b ys) (hyl : ys.length = m * ie.size) (hyp : ∀ v ∈ ys, Value.plain v = true)
    (hlim : (n + m) * ie.bytes ≤ 140737488355328) (hmax : n + m ≤ 4611686018427387904)
    (h : ∀ a' cap' H', Made H0 H' e ie.size a' (n + m) cap' (xs ++ ys) → K (.slice a' (n + m) cap') H') :
    HSem P (Builtin.append_ #[t, t] ty [.slice a n cap, .slice b m c].toArray) H K := by
  refine append_rows ht hi hz hzs hs0 hm.own hy hyl hyp hlim hmax fun a' cap' H' o u f => h a' cap' H' ⟨o, ?_, ?_⟩
  · refine Upd.drop hm.upd u fun b hb => ?_
    obtain ⟨p, hp, rfl⟩ := blk_of hb
    exact hm.new p hp
  · intro p hp
    rcases f p hp with h | h
    · exact hm.new p h
    · exact Upd.none (S := []) hm.upd (by simp) h
end Go.Proofs.YtfcmjomnpahllaaGreat.Hv
end
