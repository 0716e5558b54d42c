import Derived.Test.YtaobgofbhommcaaHv5
import Derived.IntWalk
namespace Go.Proofs.Ytaobgofbhommcaa.Hv
open Go
set_option linter.unusedVariables false
set_option linter.unusedSimpArgs false

/-! ## Operations that act -/
structure HNew (H : Heap) (o : Obj) (K : Nat → Heap → Prop) : Prop where
  all : ∀ b, H b = none → K b (H.upd b o)
structure HStore (H : Heap) (a : Addr) (v : Value) (K : Heap → Prop) : Prop where
  plain : Value.plain v = true
  ex : ∃ u, H.cell? a = some u
  fz : H.frozen? a = false
  post : K (H.setCell a v)
structure HCall (P : Program) (f : FuncId) (args : List Value) (H : Heap) (K : Value → Heap → Prop) : Prop where
  ok : ∃ fn, P.funcs[f]? = some fn ∧ (fn.name == "runtime.NumGoroutine") = false ∧ fn.body.isNone = false
  calls : HCalls P f args H K
/-- Whatever else: what the run itself comes to. -/
structure HGen (P : Program) (ρ : Operand → Value) (o : Oper) (H : Heap) (K : Value → Heap → Prop) : Prop where
  sem : ∀ w, Sat H w → match (execOp ρ o).run P w with
    | .ok (.value v) w' => ∃ H', K v H' ∧ Sat H' w' ∧ Fr H H' w w'
    | .ok .skip w' => ∃ H', K undef H' ∧ Sat H' w' ∧ Fr H H' w w'
    | .ok (.enter f args) w' => ∃ H', HCalls P f args.toList H' K ∧ Sat H' w' ∧ Fr H H' w w'
    | _ => False

/-- What the model's program s comes to. -/
structure HSem (P : Program) (s : Sem Value) (H : Heap) (K : Value → Heap → Prop) : Prop where
  sem : ∀ w, Sat H w → ∃ v w' H', s.run P w = .ok v w' ∧ K v H' ∧ Sat H' w' ∧ Fr H H' w w'
structure HSemU (P : Program) (s : Sem Unit) (H : Heap) (K : Heap → Prop) : Prop where
  sem : ∀ w, Sat H w → ∃ w' H', s.run P w = .ok () w' ∧ K H' ∧ Sat H' w' ∧ Fr H H' w w'
theorem HSem.of_swp {P : Program} {s : Sem Value} {H : Heap} {K : Value → Heap → Prop} (h : swp P s K H) : HSem P s H K :=
  ⟨fun w hs => swp_run P K s H w h hs⟩
theorem HSemU.of_swp {P : Program} {s : Sem Unit} {H : Heap} {K : Heap → Prop} (h : swp P s (fun _ => K) H) : HSemU P s H K :=
  ⟨fun w hs => by obtain ⟨_, w', H', h1, h2⟩ := swp_run P _ s H w h hs; exact ⟨w', H', h1, h2⟩⟩
theorem HSem.mono {P : Program} {s : Sem Value} {H : Heap} {K K' : Value → Heap → Prop} (hk : ∀ v H, K v H → K' v H) (h : HSem P s H K) : HSem P s H K' :=
  ⟨fun w hs => by obtain ⟨v, w', H', h1, h2, h3⟩ := h.sem w hs; exact ⟨v, w', H', h1, hk _ _ h2, h3⟩⟩
theorem HSemU.mono {P : Program} {s : Sem Unit} {H : Heap} {K K' : Heap → Prop} (hk : ∀ H, K H → K' H) (h : HSemU P s H K) : HSemU P s H K' :=
  ⟨fun w hs => by obtain ⟨w', H', h1, h2, h3⟩ := h.sem w hs; exact ⟨w', H', h1, hk _ h2, h3⟩⟩
theorem HSem.gen {P : Program} {ρ : Operand → Value} {o : Oper} {H : Heap} {K : Value → Heap → Prop} {s : Sem Value} (he : execOp ρ o = (do pure (.value (← s)))) (h : HSem P s H K) : HGen P ρ o H K := by
  constructor
  intro w hs
  obtain ⟨v, w', H', h1, h2⟩ := h.sem w hs
  rw [he, Sem.run_bind, h1]
  exact ⟨H', h2⟩
theorem HSemU.gen {P : Program} {ρ : Operand → Value} {o : Oper} {H : Heap} {K : Value → Heap → Prop} {s : Sem Unit} (he : execOp ρ o = (do s; pure .skip)) (h : HSemU P s H (K undef)) : HGen P ρ o H K := by
  constructor
  intro w hs
  obtain ⟨w', H', h1, h2⟩ := h.sem w hs
  rw [he, Sem.run_bind, h1]
  exact ⟨H', h2⟩
def storeN (H : Heap) (b off : Nat) (i : Nat) (K : Heap → Prop) : List Value → Prop
  | [] => K H
  | v :: vs => HStore H ⟨b, off + i, none⟩ v fun H' => storeN H' b off (i + 1) K vs

def eop (P : Program) (ρ : Operand → Value) (o : Oper) (H : Heap) (K : Value → Heap → Prop) : Prop :=
  match o.op with
  | .alloc e => (match P.info? e with
    | some i => (match i.zero with
      | some z => forceL z.cells.toList fun l => HNew H (.cells l.toArray e) fun b H' => K (.pointer (some ⟨b, 0, none⟩)) H'
      | none => False)
    | none => False)
  | .box e x => forceL (ρ x).cells.toList fun l => HNew H (.cells l.toArray e) fun b H' => K (.pointer (some ⟨b, 0, none⟩)) H'
  | .buildSlice t len parts => (match P.underlying t with
    | some (.slice e) => (match P.info? e with
      | some ie => (match ie.zero with
        | some z => HReq (len * ie.size ≤ cap24) (cond (Nat.beq z.cells.size ie.size) (match fillL (fun i => some (i * ie.size, ie.size)) (repL len z.cells.toList) (parts.toList.map fun p => (p.1, ρ p.2)) with
          | some cells => forceL cells fun l => HNew H (.cells l.toArray e) fun b H' => K (.slice (some ⟨b, 0, none⟩) len len) H'
          | none => False) False)
        | none => False)
      | none => False)
    | _ => False)
  | .store t a x => (match ρ a, P.info? t with
    | .pointer (some ⟨b, off, none⟩), some i => cond (Nat.beq (ρ x).cells.size i.size) (storeN H b off 0 (K undef) (ρ x).cells.toList) False
    | _, _ => False)
  | .makeSlice t len cap => (match P.underlying t with
    | some (.slice e) => (match P.info? e with
      | some ie => (match ie.zero, ρ len, ρ cap with
        | some z, .int _ l, .int _ c => cond (Nat.beq z.cells.size ie.size) (HReq (0 ≤ l ∧ l ≤ c ∧ (ie.bytes : Int) * c ≤ cap48 ∧ c < cap63)
            (HNew H (.cells (repL c.toNat z.cells.toList).toArray e) fun b H' => K (.slice (some ⟨b, 0, none⟩) l.toNat c.toNat) H')) False
        | _, _, _ => False)
      | none => False)
    | _ => False)
  | .call { callee := .value f, args, .. } => (match ρ f with
    | .func (.func g) first captured => HCall P g (first.toList ++ args.toList.map ρ ++ captured.toList) H K
    | _ => False)
  | .call { callee := .builtin .append, args, argTypes } => HSem P (Builtin.append_ argTypes o.type (args.toList.map ρ).toArray) H K
  | .call { callee := .builtin .copy, args, argTypes } => HSem P (Builtin.copy_ argTypes o.type (args.toList.map ρ).toArray) H K
  | .call { callee := .builtin .clear, args, argTypes } => HSem P (Builtin.clear_ argTypes o.type (args.toList.map ρ).toArray) H K
  | .call { callee := .builtin .delete, args, argTypes } => HSem P (Builtin.delete_ argTypes o.type (args.toList.map ρ).toArray) H K
  | .makeMap t none => HSem P (Instr.makeMap t none) H K
  | .mapUpdate t m k x => HSemU P (Instr.mapUpdate t (ρ m) (ρ k) (ρ x)) H (K undef)
  | .range t x => HSem P (Instr.range t (ρ x)) H K
  | .next x s => HSem P (Instr.next (ρ x) s o.type) H K
  | .entry x => HSem P (Instr.entry (ρ x)) H K
  | .convert src dst x => HSem P (convert src dst (ρ x)) H K
  | _ => HGen P ρ o H K

def execNext (o : Oper) (a : Act) (K : Act → Heap → Prop) : Value → Heap → Prop := fun v H => K (a.put o.dst v) H

theorem HOp.of_gen {P : Program} {o : Oper} {a : Act} {H : Heap} {K : Value → Heap → Prop} {K' : Act → Heap → Prop} (h : HGen P a.eval o H K) (hk : ∀ v H', K v H' → K' (a.put o.dst v) H') : HOp P o K' a H := by
  intro w hs
  have h1 := h.sem w hs
  generalize (execOp a.eval o).run P w = r at *
  cases r with
  | halt x w' => exact h1.elim
  | ok x w1 =>
    cases x with
    | value v => obtain ⟨H', k, s, f⟩ := h1; exact ⟨H', hk _ _ k, s, f⟩
    | skip => obtain ⟨H', k, s, f⟩ := h1; exact ⟨H', hk _ _ k, s, f⟩
    | enter f args => obtain ⟨H', k, s, f⟩ := h1; exact ⟨H', k.mono fun v H2 h2 => hk _ _ h2, s, f⟩
    | _ => exact h1.elim

/-- What the model's Sem says, by swp. -/
theorem HGen.of_swp {P : Program} {ρ : Operand → Value} {o : Oper} {H : Heap} {K : Value → Heap → Prop}
    (h : swp P (execOp ρ o) (fun nx H1 => match nx with
      | .value v => K v H1
      | .skip => K undef H1
      | .enter f args => HCalls P f args.toList H1 K
      | _ => False) H) : HGen P ρ o H K := by
  constructor
  intro w hs
  obtain ⟨x, w1, H1, hr, hk, hs1, hf⟩ := swp_run P _ _ H w h hs
  rw [hr]
  cases x with
  | value v => exact ⟨H1, hk, hs1, hf⟩
  | skip => exact ⟨H1, hk, hs1, hf⟩
  | enter f args => exact ⟨H1, hk, hs1, hf⟩
  | _ => exact hk.elim
theorem HGen.of_swp_value {P : Program} {ρ : Operand → Value} {o : Oper} {H : Heap} {K : Value → Heap → Prop} {s : Sem Value} (he : execOp ρ o = (do pure (.value (← s)))) (h : swp P s K H) : HGen P ρ o H K := by
  refine HGen.of_swp ?_
  rw [he, swp_bind]
  exact h
theorem HGen.of_swp_unit {P : Program} {ρ : Operand → Value} {o : Oper} {H : Heap} {K : Value → Heap → Prop} {s : Sem Unit} (he : execOp ρ o = (do s; pure .skip)) (h : swp P s (fun _ => K undef) H) : HGen P ρ o H K := by
  refine HGen.of_swp ?_
  rw [he, swp_bind]
  exact h

section
variable {P : Program} {H : Heap}
theorem swp_typeInfo {t : TypeId} {i : TypeInfo} (h : P.info? t = some i) (K : TypeInfo → Heap → Prop) : swp P (typeInfo t) K H ↔ K i H := by
  unfold typeInfo
  rw [swp_bind]
  show (swp P (match P.info? t with | some i => pure i | none => stuck "no such type") K H) ↔ _
  rw [h]; exact Iff.rfl
theorem swp_underlying {t : TypeId} {d : TypeDesc} (h : P.underlying t = some d) (K : TypeDesc → Heap → Prop) : swp P (underlying t) K H ↔ K d H := by
  unfold underlying
  rw [swp_bind]
  show (swp P (match P.underlying t with | some d => pure d | none => stuck "no such type") K H) ↔ _
  rw [h]; exact Iff.rfl
theorem swp_sizeOf {t : TypeId} {i : TypeInfo} (h : P.info? t = some i) (K : Nat → Heap → Prop) : swp P (sizeOf t) K H ↔ K i.size H := by
  unfold sizeOf
  rw [swp_bind, swp_typeInfo h]; exact Iff.rfl
theorem swp_zeroValue {t : TypeId} {i : TypeInfo} {z : Value} (h : P.info? t = some i) (hz : i.zero = some z) (K : Value → Heap → Prop) : swp P (zeroValue t) K H ↔ K z H := by
  unfold zeroValue
  rw [swp_bind, swp_typeInfo h]
  simp only [hz]; exact Iff.rfl
theorem swp_newRow {e : TypeId} {cells : Array Value} {K : Addr → Heap → Prop} (h : ∀ b, H b = none → K ⟨b, 0, none⟩ (H.upd b (.cells cells e))) : swp P (newRow e cells) K H := by
  unfold newRow
  rw [swp_bind]
  exact fun b hb => h b hb
theorem swp_storeCells {b off : Nat} {K : Heap → Prop} : ∀ (vs : List Value) (i : Nat) (H : Heap), storeN H b off i K vs → swp P (storeCells ⟨b, off, none⟩ vs i) (fun _ H' => K H') H
  | [], _, _, h => h
  | v :: vs, i, H, h => by
    obtain ⟨h0, h1, h2, h3⟩ := h
    show swp P (storeCells ⟨b, off, none⟩ (v :: vs) i) _ H
    unfold storeCells
    rw [swp_bind, Addr.add_lit]
    exact ⟨h0, h1, h2, swp_storeCells vs (i + 1) _ h3⟩

theorem swp_buildSlice {t e : TypeId} {ie : TypeInfo} {z : Value} {len : Nat} {parts : Array (Nat × Value)} {cells : Array Value} {K : Value → Heap → Prop} (hu : P.underlying t = some (.slice e)) (hi : P.info? e = some ie) (hz : ie.zero = some z) (hle : len * ie.size ≤ cap24)
    (hc : Instr.fill (fun i => some (i * ie.size, ie.size)) ((Array.range (len * ie.size)).map (z.cells[· % z.cells.size]!)) parts.toList = some cells)
    (h : ∀ b, H b = none → K (.slice (some ⟨b, 0, none⟩) len len) (H.upd b (.cells cells e))) : swp P (Instr.buildSlice t len parts) K H := by
  unfold Instr.buildSlice
  rw [swp_bind, swp_underlying hu]
  dsimp only
  rw [swp_bind, swp_sizeOf hi]
  have hle' : ¬ len * ie.size > 2 ^ 24 := by unfold cap24 at hle; omega
  rw [if_neg hle']
  have fin : ∀ zero : Array Value, (len * ie.size ≠ 0 → zero = z.cells) → swp P (do
      let some cells := Instr.fill (fun i => some (i * ie.size, ie.size)) ((Array.range (len * ie.size)).map (zero[· % zero.size]!)) parts.toList
        | stuck "buildSlice: a part of the wrong size"
      pure (Value.slice (some (← newRow e cells)) len len)) K H := by
    intro zero hzero
    have hrow : (Array.range (len * ie.size)).map (zero[· % zero.size]!) = (Array.range (len * ie.size)).map (z.cells[· % z.cells.size]!) := by
      by_cases h0 : len * ie.size = 0
      · rw [h0]; simp
      · rw [hzero h0]
    rw [hrow, hc]
    dsimp only
    rw [swp_bind]
    exact swp_newRow h
  by_cases h0 : len * ie.size = 0
  · rw [if_pos h0, swp_bind]
    exact fin #[] (fun hh => absurd h0 hh)
  · rw [if_neg h0, swp_bind, swp_zeroValue hi hz]
    exact fin z.cells (fun _ => rfl)

theorem swp_makeSlice {t e : TypeId} {ie : TypeInfo} {z : Value} {k k' : IntKind} {l c : Int} {K : Value → Heap → Prop} (hu : P.underlying t = some (.slice e)) (hi : P.info? e = some ie) (hz : ie.zero = some z) (e2 : z.cells.size = ie.size)
    (h0 : 0 ≤ l) (h1 : l ≤ c) (h2 : (ie.bytes : Int) * c ≤ cap48) (h3 : c < cap63)
    (h : ∀ b, H b = none → K (.slice (some ⟨b, 0, none⟩) l.toNat c.toNat) (H.upd b (.cells (repL c.toNat z.cells.toList).toArray e))) : swp P (Instr.makeSlice t (.int k l) (.int k' c)) K H := by
  unfold cap48 at h2
  unfold cap63 at h3
  have wl : IntKind.i64.wrap l = l := IntWalk.i64_in _ (by omega)
  have wc : IntKind.i64.wrap c = c := IntWalk.i64_in _ (by omega)
  unfold Instr.makeSlice
  rw [swp_bind, swp_underlying hu]
  dsimp only
  simp only [asInt, asIntOf, swp_bind, swp_pure, swp_typeInfo hi, wl, wc]
  rw [if_neg (by simp; omega)]
  have ask : ∀ (n : Nat) (K : Unit → Heap → Prop), K () H → swp P (askRoom n) K H := fun n K hk => by unfold askRoom; split <;> exact hk
  rw [swp_bind]
  refine ask _ _ ?_
  rw [swp_bind, swp_sizeOf hi]
  have hrep := row_eq c.toNat z.cells
  rw [e2] at hrep
  by_cases hc0 : c.toNat * ie.size = 0
  · rw [if_pos hc0, swp_bind]
    show swp P (do let a ← newRow e ((Array.range (c.toNat * ie.size)).map ((#[] : Array Value)[· % (#[] : Array Value).size]!)); pure (Value.slice (some a) l.toNat c.toNat)) K H
    have : (Array.range (c.toNat * ie.size)).map ((#[] : Array Value)[· % (#[] : Array Value).size]!) = (repL c.toNat z.cells.toList).toArray := by
      have hl : repL c.toNat z.cells.toList = [] := List.eq_nil_of_length_eq_zero (by rw [repL_length, Array.length_toList, e2, hc0])
      rw [hl, hc0]; simp
    rw [this, swp_bind]
    exact swp_newRow h
  · rw [if_neg hc0, swp_bind, swp_zeroValue hi hz]
    show swp P (do let a ← newRow e ((Array.range (c.toNat * ie.size)).map (z.cells[· % z.cells.size]!)); pure (Value.slice (some a) l.toNat c.toNat)) K H
    rw [e2, hrep, swp_bind]
    exact swp_newRow h

theorem eop_sound {o : Oper} {a : Act} {K : Value → Heap → Prop} {K' : Act → Heap → Prop} (h : eop P a.eval o H K) (hk : ∀ v H', K v H' → K' (a.put o.dst v) H') : HOp P o K' a H := by
  refine HOp.of_gen (K := K) ?_ hk
  obtain ⟨dst, op, ty, pos, after, guard⟩ := o
  unfold eop at h
  dsimp only at h
  split at h
  · rename_i e
    split at h
    · rename_i i hi
      split at h
      · rename_i z hz
        rw [forceL_iff] at h
        refine HGen.of_swp_value (s := Instr.alloc e true (.tuple #[])) rfl ?_
        unfold Instr.alloc
        rw [swp_bind, swp_zeroValue hi hz]
        show swp P (do pure (Value.pointer (some (← newVar e z)))) K H
        rw [swp_bind]
        exact swp_newRow fun b hb => by have := h.all b hb; rw [Array.toArray_toList] at this; exact this
      · exact h.elim
    · exact h.elim
  · rename_i e x
    rw [forceL_iff] at h
    refine HGen.of_swp_value (s := Instr.box e (a.eval x)) rfl ?_
    unfold Instr.box
    rw [swp_bind]
    exact swp_newRow fun b hb => by have := h.all b hb; rw [Array.toArray_toList] at this; exact this
  · rename_i t len parts
    split at h
    · rename_i e hu
      split at h
      · rename_i ie hi
        split at h
        · rename_i z hz
          obtain ⟨hle, h⟩ := h
          cases hsz : Nat.beq z.cells.size ie.size with
          | false => rw [hsz] at h; exact h.elim
          | true =>
            rw [hsz, cond_true] at h
            have hsz := Nat.eq_of_beq_eq_true hsz
            split at h
            · rename_i cells hc
              rw [forceL_iff] at h
              refine HGen.of_swp_value (s := _) rfl ?_
              refine swp_buildSlice hu hi hz hle (cells := cells.toArray) ?_ (fun b hb => h.all b hb)
              have hrow := row_eq len z.cells
              rw [hsz] at hrow
              rw [hsz, hrow, fillL_eq]
              rw [Array.toList_map] at *
              rw [hc]; rfl
            · exact h.elim
        · exact h.elim
      · exact h.elim
    · exact h.elim
  · rename_i t x y
    split at h
    · rename_i b off i hx hi
      cases hle : Nat.beq (a.eval y).cells.size i.size with
      | false => rw [hle] at h; exact h.elim
      | true =>
        rw [hle, cond_true] at h
        refine HGen.of_swp_unit (s := Instr.storeAt t (a.eval x) (a.eval y)) rfl ?_
        unfold Instr.storeAt
        rw [hx, swp_bind]
        show swp P (storeVar t ⟨b, off, none⟩ (a.eval y)) _ H
        unfold storeVar
        rw [swp_bind, swp_sizeOf hi]
        have : (a.eval y).cells.size = i.size := Nat.eq_of_beq_eq_true hle
        rw [if_neg (by simpa using this)]
        exact swp_storeCells _ _ _ h
    · exact h.elim
  · rename_i t len cap
    split at h
    · rename_i e hu
      split at h
      · rename_i ie hi
        split at h
        · rename_i z k l k' c hz hl hc
          cases hs2 : Nat.beq z.cells.size ie.size with
          | false => rw [hs2] at h; exact h.elim
          | true =>
              rw [hs2, cond_true] at h
              have e2 : z.cells.size = ie.size := Nat.eq_of_beq_eq_true hs2
              obtain ⟨⟨h0, h1, h2, h3⟩, h⟩ := h
              refine HGen.of_swp_value (s := Instr.makeSlice t (a.eval len) (a.eval cap)) rfl ?_
              rw [hl, hc]
              exact swp_makeSlice hu hi hz e2 h0 h1 h2 h3 (fun b hb => h.all b hb)
        · exact h.elim
      · exact h.elim
    · exact h.elim
  · rename_i f args argTypes
    split at h
    · rename_i g first captured hf
      obtain ⟨⟨fn, h1, h2, h3⟩, h⟩ := h
      constructor
      intro w hs
      have hrun : (execOp a.eval { dst := dst, op := .call { callee := .value f, args := args, argTypes := argTypes }, type := ty, pos := pos, after := after, guard := guard }).run P w = .ok (.enter g (first ++ args.map a.eval ++ captured)) w := by
        simp only [execOp, resolve, hf, Deferred.ofValue, invoke, Sem.run_bind, Sem.run_pure, Result.andThen_ok, callFunc]
        have h2' : ¬ fn.name = "runtime.NumGoroutine" := by simpa using h2
        have h3' : ¬ fn.body = none := by intro e; rw [e] at h3; simp at h3
        simp [h1, h2', h3']
      rw [hrun]
      exact ⟨H, by simpa using h, hs, Fr.refl _ _⟩
    · exact h.elim
  · rename_i args argTypes
    rw [← Array.toList_map, Array.toArray_toList] at h
    exact HSem.gen (s := Builtin.append_ argTypes ty (args.map a.eval)) rfl h
  · rename_i args argTypes
    rw [← Array.toList_map, Array.toArray_toList] at h
    exact HSem.gen (s := Builtin.copy_ argTypes ty (args.map a.eval)) rfl h
  · rename_i args argTypes
    rw [← Array.toList_map, Array.toArray_toList] at h
    exact HSem.gen (s := Builtin.clear_ argTypes ty (args.map a.eval)) rfl h
  · rename_i args argTypes
    rw [← Array.toList_map, Array.toArray_toList] at h
    exact HSem.gen (s := Builtin.delete_ argTypes ty (args.map a.eval)) rfl h
  · exact HSem.gen rfl h
  · exact HSemU.gen rfl h
  · exact HSem.gen rfl h
  · exact HSem.gen rfl h
  · exact HSem.gen rfl h
  · exact HSem.gen rfl h
  · exact h
end

/-! ## The same with operands evaluated first (so that no unevaluated operand is left in a value) -/
def mapK (ρ : Operand → (Value → Prop) → Prop) : List Operand → (List Value → Prop) → Prop
  | [], k => k []
  | x :: xs, k => ρ x fun v => mapK ρ xs fun vs => k (v :: vs)
def optK (ρ : Operand → (Value → Prop) → Prop) : Option Operand → (Option Value → Prop) → Prop
  | none, k => k none
  | some x, k => ρ x fun v => k (some v)
def partsK (ρ : Operand → (Value → Prop) → Prop) : List (Nat × Operand) → (List (Nat × Value) → Prop) → Prop
  | [], k => k []
  | (i, x) :: xs, k => ρ x fun v => partsK ρ xs fun vs => k ((i, v) :: vs)

def fopC (P : Program) (ρ : Operand → (Value → Prop) → Prop) (Hs : List Heap) (K : Value → Prop) : Op → Prop
  | .move x => ρ x K
  | .assign x => ρ x K
  | .pick c a b => ρ c fun vc => (match vc with | .bool true => ρ a K | .bool false => ρ b K | _ => False)
  | .load t a => ρ a fun va => (match va with
    | .pointer (some ⟨b, off, none⟩) => (match isAggB P t, P.info? t with
      | some true, some i => HLoadN Hs b off i.size fun vs => K (.agg vs.toArray)
      | some false, _ => HLoad Hs ⟨b, off, none⟩ K
      | _, _ => False)
    | _ => False)
  | .nilCheck x => ρ x fun vx => (match vx with
    | .pointer (some a) => K (.pointer (some a))
    | .iface t v => K (.iface t v)
    | .func (.func f) u c => K (.func (.func f) u c)
    | _ => False)
  | .binOp op t x y _ => ρ x fun u => ρ y fun v => fbin P op t x y K u v
  | .unOp op _ x => ρ x fun vx => (match op, vx with
    | .not, .bool b => K (.bool (!b))
    | .neg, .int k n => K (.int k (wr k (0 - n)))
    | .xor, .int k n => K (.int k (bitsS .xor k (if k.signed then -1 else k.max) n))
    | _, _ => False)
  | .convert src dst x => ρ x fun v => fconv P Hs src dst v K
  | .makeInterface t x => (match P.underlying t with
    | some (.interface _) => False
    | some _ => ρ x fun v => K (.iface t v)
    | none => False)
  | .makeFunc fn first captured => mapK ρ first.toList fun u => mapK ρ captured.toList fun v => K (.func fn u.toArray v.toArray)
  | .slice t x lo hi none => ρ x fun v => optK ρ lo fun l => optK ρ hi fun h => fslice P t v l h K
  | .slice t x lo hi (some mx) => ρ x fun vx => optK ρ lo fun vl => optK ρ hi fun vh => ρ mx fun vm => fslice3 P t vx vl vh vm K
  | .fieldAddr s x f => ρ x fun vx => (match P.underlying s, vx with
    | some (.struct fs), .pointer (some ⟨b, off, none⟩) => (match fs[f]? with
      | some fd => (match P.info? fd.type with
        | some i => cond (Nat.beq i.size 0) False (K (.pointer (some ⟨b, off + fd.offset, none⟩)))
        | none => False)
      | none => False)
    | _, _ => False)
  | .field t x f => ρ x fun vx => (match P.underlying t, vx with
    | some (.struct fs), .agg cs => (match fs[f]? with
      | some fd => fpart P fd.type cs.toList fd.offset K
      | none => False)
    | _, _ => False)
  | .indexAddr t x i => ρ x fun u => ρ i fun v => findexAddr P t u v K
  | .index t x i => ρ x fun u => ρ i fun v => findex P t u v K
  | .extract x j => ρ x fun vx => (match vx with
    | .tuple vs => (match vs.toList[j]? with | some v => K v | none => False)
    | _ => False)
  | .build t parts => partsK ρ parts.toList fun ps => (match builtL P t ps with
    | some cells => forceL cells fun l => K (.agg l.toArray)
    | none => False)
  | .lookup t x i ok => ρ x fun vx => ρ i fun vi => HRd P (Instr.lookup t vx vi ok) Hs K
  | .typeAssert x xt at_ ok => ρ x fun vx => HRd P (Instr.typeAssert vx xt at_ ok) Hs K
  | .call { callee := .builtin .len, args, argTypes } => mapK ρ args.toList fun vs => (match vs, argTypes.toList.map P.underlying with
    | [.slice _ n _], [some (.slice _)] => K (.int .i64 n)
    | [.string s], [some .string] => K (.int .i64 s.size)
    | [_], [some (.array n _)] => K (.int .i64 n)
    | [.map r], [some (.map _ _)] => HRd P (Builtin.len_ argTypes 0 #[.map r]) Hs K
    | _, _ => False)
  | .call { callee := .builtin .max, args, .. } => mapK ρ args.toList fun vs => fmax .max K vs
  | .call { callee := .builtin .min, args, .. } => mapK ρ args.toList fun vs => fmax .min K vs
  | _ => False

def eopC (P : Program) (ρ : Operand → (Value → Prop) → Prop) (ρ0 : Operand → Value) (o : Oper) (H : Heap) (K : Value → Heap → Prop) : Prop :=
  match o.op with
  | .alloc e => (match P.info? e with
    | some i => (match i.zero with
      | some z => forceL z.cells.toList fun l => HNew H (.cells l.toArray e) fun b H' => K (.pointer (some ⟨b, 0, none⟩)) H'
      | none => False)
    | none => False)
  | .box e x => ρ x fun v => forceL v.cells.toList fun l => HNew H (.cells l.toArray e) fun b H' => K (.pointer (some ⟨b, 0, none⟩)) H'
  | .buildSlice t len parts => partsK ρ parts.toList fun ps => (match P.underlying t with
    | some (.slice e) => (match P.info? e with
      | some ie => (match ie.zero with
        | some z => HReq (len * ie.size ≤ cap24) (cond (Nat.beq z.cells.size ie.size) (match fillL (fun i => some (i * ie.size, ie.size)) (repL len z.cells.toList) ps with
          | some cells => forceL cells fun l => HNew H (.cells l.toArray e) fun b H' => K (.slice (some ⟨b, 0, none⟩) len len) H'
          | none => False) False)
        | none => False)
      | none => False)
    | _ => False)
  | .store t a x => ρ a fun va => ρ x fun vx => (match va, P.info? t with
    | .pointer (some ⟨b, off, none⟩), some i => cond (Nat.beq vx.cells.size i.size) (storeN H b off 0 (K undef) vx.cells.toList) False
    | _, _ => False)
  | .makeSlice t len cap => ρ len fun vl => ρ cap fun vc => (match P.underlying t with
    | some (.slice e) => (match P.info? e with
      | some ie => (match ie.zero, vl, vc with
        | some z, .int _ l, .int _ c => cond (Nat.beq z.cells.size ie.size) (HReq (0 ≤ l ∧ l ≤ c ∧ (ie.bytes : Int) * c ≤ cap48 ∧ c < cap63)
            (HNew H (.cells (repL c.toNat z.cells.toList).toArray e) fun b H' => K (.slice (some ⟨b, 0, none⟩) l.toNat c.toNat) H')) False
        | _, _, _ => False)
      | none => False)
    | _ => False)
  | .call { callee := .value f, args, .. } => ρ f fun vf => mapK ρ args.toList fun vs => (match vf with
    | .func (.func g) first captured => HCall P g (first.toList ++ vs ++ captured.toList) H K
    | _ => False)
  | .call { callee := .builtin .append, args, argTypes } => mapK ρ args.toList fun vs => HSem P (Builtin.append_ argTypes o.type vs.toArray) H K
  | .call { callee := .builtin .copy, args, argTypes } => mapK ρ args.toList fun vs => HSem P (Builtin.copy_ argTypes o.type vs.toArray) H K
  | .call { callee := .builtin .clear, args, argTypes } => mapK ρ args.toList fun vs => HSem P (Builtin.clear_ argTypes o.type vs.toArray) H K
  | .call { callee := .builtin .delete, args, argTypes } => mapK ρ args.toList fun vs => HSem P (Builtin.delete_ argTypes o.type vs.toArray) H K
  | .makeMap t none => HSem P (Instr.makeMap t none) H K
  | .mapUpdate t m k x => ρ m fun vm => ρ k fun vk => ρ x fun vx => HSemU P (Instr.mapUpdate t vm vk vx) H (K undef)
  | .range t x => ρ x fun vx => HSem P (Instr.range t vx) H K
  | .next x s => ρ x fun vx => HSem P (Instr.next vx s o.type) H K
  | .entry x => ρ x fun vx => HSem P (Instr.entry vx) H K
  | .convert src dst x => ρ x fun vx => HSem P (convert src dst vx) H K
  | _ => HGen P ρ0 o H K

section
variable {P : Program} {ρ : Operand → (Value → Prop) → Prop} {ρ0 : Operand → Value}
theorem mapK_iff (hρ : ∀ x k, ρ x k ↔ k (ρ0 x)) : ∀ (xs : List Operand) (k : List Value → Prop), mapK ρ xs k ↔ k (xs.map ρ0)
  | [], k => Iff.rfl
  | x :: xs, k => by unfold mapK; rw [hρ, mapK_iff hρ xs]; exact Iff.rfl
theorem optK_iff (hρ : ∀ x k, ρ x k ↔ k (ρ0 x)) : ∀ (x : Option Operand) (k : Option Value → Prop), optK ρ x k ↔ k (x.map ρ0)
  | none, k => Iff.rfl
  | some x, k => hρ x _
theorem partsK_iff (hρ : ∀ x k, ρ x k ↔ k (ρ0 x)) : ∀ (xs : List (Nat × Operand)) (k : List (Nat × Value) → Prop), partsK ρ xs k ↔ k (xs.map fun p => (p.1, ρ0 p.2))
  | [], k => Iff.rfl
  | (i, x) :: xs, k => by unfold partsK; rw [hρ, partsK_iff hρ xs]; exact Iff.rfl
theorem fopC_iff (hρ : ∀ x k, ρ x k ↔ k (ρ0 x)) {Hs : List Heap} {K : Value → Prop} (op : Op) : fopC P ρ Hs K op ↔ fop P ρ0 Hs K op := by
  unfold fopC fop
  split <;> first | (simp only [hρ, mapK_iff hρ, optK_iff hρ, partsK_iff hρ]; done) | (simp only [hρ, mapK_iff hρ, optK_iff hρ, partsK_iff hρ]; exact Iff.rfl) | (simp only [mapK_iff hρ, ← Array.toList_map, Array.toArray_toList]; done) | (simp only [mapK_iff hρ, ← Array.toList_map, Array.toArray_toList]; exact Iff.rfl) | exact Iff.rfl
theorem eopC_iff (hρ : ∀ x k, ρ x k ↔ k (ρ0 x)) {H : Heap} {K : Value → Heap → Prop} (o : Oper) : eopC P ρ ρ0 o H K ↔ eop P ρ0 o H K := by
  unfold eopC eop
  split <;> first | (simp only [hρ, mapK_iff hρ, optK_iff hρ, partsK_iff hρ]; done) | (simp only [hρ, mapK_iff hρ, optK_iff hρ, partsK_iff hρ]; exact Iff.rfl) | exact Iff.rfl
end
end Go.Proofs.Ytaobgofbhommcaa.Hv
