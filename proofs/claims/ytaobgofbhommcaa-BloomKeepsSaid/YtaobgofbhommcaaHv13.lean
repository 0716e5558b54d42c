import Derived.Test.YtaobgofbhommcaaHv12
namespace Go.Proofs.Ytaobgofbhommcaa.Hv
open Go
set_option linter.unusedVariables false
set_option linter.unusedSimpArgs false

/-! ## Maps whose keys are texts -/
structure Ent where
  key : ByteArray
  val : Value
  born : Nat
def Ent.e (x : Ent) : MapEntry := { key := .string x.key, val := x.val, born := x.born }
def MapAt (H : Heap) (r : Nat) (es : List Ent) (clock : Nat) : Prop := H r = some (.map (es.map Ent.e).toArray clock)
def entIdx (k : ByteArray) : List Ent → Nat → Option (Nat × Value)
  | [], _ => none
  | e :: es, i => if k = e.key then some (i, e.val) else entIdx k es (i + 1)
theorem ba_beq (a b : ByteArray) : (a == b) = decide (a = b) := by
  obtain ⟨a⟩ := a
  obtain ⟨b⟩ := b
  have e : ((⟨a⟩ : ByteArray) == ⟨b⟩) = (a == b) := rfl
  rw [e]
  by_cases h : a = b
  · subst h; simp
  · have h2 : ¬ (⟨a⟩ : ByteArray) = ⟨b⟩ := fun e => h (by injection e)
    rw [decide_eq_false h2]; simpa using h
theorem findNow_str (k : ByteArray) : ∀ (es : List Ent) (i : Nat), Instr.findNow .string (.string k) (es.map Ent.e) i = some (entIdx k es i)
  | [], i => rfl
  | e :: es, i => by
    show (match some (k == e.key) with | some true => some (some (i, e.val)) | some false => Instr.findNow .string (.string k) (es.map Ent.e) (i + 1) | none => none) = some (if k = e.key then some (i, e.val) else entIdx k es (i + 1))
    rw [ba_beq]
    by_cases h : k = e.key
    · rw [decide_eq_true h, if_pos h]
    · rw [decide_eq_false h, if_neg h]; exact findNow_str k es (i + 1)
theorem entIdx_none {k : ByteArray} : ∀ {es : List Ent} {i : Nat}, entIdx k es i = none → ∀ e ∈ es, e.key ≠ k
  | [], i, h, e, he => by simp at he
  | x :: es, i, h, e, he => by
    unfold entIdx at h
    split at h
    · cases h
    · rename_i hn
      rcases List.mem_cons.1 he with rfl | h'
      · exact fun h => hn h.symm
      · exact entIdx_none h e h'
theorem entIdx_some {k : ByteArray} : ∀ {es : List Ent} {i j : Nat} {v : Value}, entIdx k es i = some (j, v) → ∃ m e, j = i + m ∧ es[m]? = some e ∧ e.key = k ∧ e.val = v
  | [], i, j, v, h => by simp [entIdx] at h
  | x :: es, i, j, v, h => by
    unfold entIdx at h
    split at h
    · rename_i hk; cases h; exact ⟨0, x, rfl, rfl, hk.symm, rfl⟩
    · obtain ⟨m, e, h1, h2, h3⟩ := entIdx_some h
      exact ⟨m + 1, e, by omega, by simpa using h2, h3⟩
/-- Reads without a change. -/
def srd (P : Program) {α : Type} : Sem α → Heap → α → Prop
  | .pure a, H, x => a = x
  | .getObj r k, H, x => ∃ o, H r = some o ∧ (∀ c e f, o ≠ .cells c e f) ∧ srd P (k o) H x
  | .program k, H, x => srd P (k P) H x
  | _, _, _ => False
theorem srd_bind (P : Program) {α β : Type} (s : Sem α) (f : α → Sem β) (H : Heap) (a : α) (x : β) (h1 : srd P s H a) (h2 : srd P (f a) H x) : srd P (s >>= f) H x := by
  show srd P (Sem.bind s f) H x
  induction s with
  | pure b => cases h1; exact h2
  | getObj r k ih => obtain ⟨o, h3, h4, h5⟩ := h1; exact ⟨o, h3, h4, ih o h5⟩
  | program k ih => exact ih P h1
  | _ => exact h1.elim
theorem srd_run {P : Program} {α : Type} {s : Sem α} {H : Heap} {x : α} (h : srd P s H x) : Rds P s H x := by
  intro w hs
  induction s with
  | pure b => cases h; rfl
  | getObj r k ih =>
    obtain ⟨o, h3, h4, h5⟩ := h
    have := ih o h5
    simp only [Sem.run, hs _ _ h3]
    cases o <;> first | exact absurd rfl (h4 _ _ _) | exact this
  | program k ih => exact ih P h
  | _ => exact h.elim
theorem map_eraseIdx {α β : Type} (f : α → β) : ∀ (l : List α) (i : Nat), (l.eraseIdx i).map f = (l.map f).eraseIdx i
  | [], i => rfl
  | x :: l, 0 => rfl
  | x :: l, i + 1 => by show f x :: (l.eraseIdx i).map f = f x :: (l.map f).eraseIdx i; rw [map_eraseIdx f l i]
section
variable {P : Program}
theorem srd_underlying {t : TypeId} {d : TypeDesc} {H : Heap} (h : P.underlying t = some d) : srd P (underlying t) H d := by
  unfold underlying
  refine srd_bind P _ _ H P d rfl ?_
  show srd P (match P.underlying t with | some d => pure d | none => stuck "no such type") H d
  rw [h]; rfl
theorem srd_typeInfo {t : TypeId} {i : TypeInfo} {H : Heap} (h : P.info? t = some i) : srd P (typeInfo t) H i := by
  unfold typeInfo
  refine srd_bind P _ _ H P i rfl ?_
  show srd P (match P.info? t with | some i => pure i | none => stuck "no such type") H i
  rw [h]; rfl
theorem srd_zeroValue {t : TypeId} {i : TypeInfo} {z : Value} {H : Heap} (h : P.info? t = some i) (hz : i.zero = some z) : srd P (zeroValue t) H z := by
  unfold zeroValue
  refine srd_bind P _ _ H i z (srd_typeInfo h) ?_
  simp only [hz]; rfl
theorem srd_checkKey {b : Bool} {kt : TypeId} {k : ByteArray} {H : Heap} (hk : P.underlying kt = some .string) (n : Nat) : srd P (Instr.checkKey b (n + 1) kt (.string k)) H () := by
  unfold Instr.checkKey
  refine srd_bind P _ _ H .string () (srd_underlying hk) ?_
  dsimp only
  rfl
theorem srd_findKey {kt : TypeId} {k : ByteArray} {es : List Ent} {H : Heap} (hk : P.underlying kt = some .string) : srd P (Instr.findKey kt (.string k) (es.map Ent.e)) H (entIdx k es 0) := by
  unfold Instr.findKey
  refine srd_bind P _ _ H .string _ (srd_underlying hk) ?_
  rw [findNow_str]; rfl
/-- What is read is what the rest goes on with. -/
theorem swp_of_srd {α β : Type} {s : Sem α} {f : α → Sem β} {K : β → Heap → Prop} {H : Heap} {a : α} (h1 : srd P s H a) (h2 : swp P (f a) K H) : swp P (s >>= f) K H := by
  rw [swp_bind]
  induction s with
  | pure b => cases h1; exact h2
  | getObj r k ih => obtain ⟨o, h3, h4, h5⟩ := h1; exact ⟨o, h3, h4, ih o h5⟩
  | program k ih => exact ih P h1
  | _ => exact h1.elim
theorem srd_map {H : Heap} {r c : Nat} {es : List Ent} (hm : MapAt H r es c) : srd P (getObj r) H (.map (es.map Ent.e).toArray c) :=
  ⟨_, hm, by simp, rfl⟩
theorem hlookup {t kt et : TypeId} {ie : TypeInfo} {z : Value} {H : Heap} {r c : Nat} {es : List Ent} {k : ByteArray} {K : Value → Prop} (ht : P.underlying t = some (.map kt et)) (hk : P.underlying kt = some .string) (hi : P.info? et = some ie) (hz : ie.zero = some z)
    (hm : MapAt H r es c) (h1 : ∀ (i : Nat) e, es[i]? = some e → e.key = k → K (.tuple #[e.val, .bool true])) (h0 : (∀ e ∈ es, e.key ≠ k) → K (.tuple #[z, .bool false])) : HRd P (Instr.lookup t (.map (some r)) (.string k) true) [H] K := by
  have key : ∀ x, entIdx k es 0 = x → srd P (Instr.lookup t (.map (some r)) (.string k) true) H (match x with | some (_, v) => .tuple #[v, .bool true] | none => .tuple #[z, .bool false]) := by
    intro x hx
    unfold Instr.lookup
    refine srd_bind P _ _ H _ _ (srd_underlying ht) ?_
    dsimp only
    refine srd_bind P _ _ H _ _ (srd_map hm) ?_
    show srd P (Instr.checkKey _ 10000 kt (.string k) >>= _) H _
    refine srd_bind P _ _ H () _ (srd_checkKey hk 9999) ?_
    show srd P (Instr.findKey kt (.string k) _ >>= _) H _
    refine srd_bind P _ _ H x _ (by rw [← hx]; exact srd_findKey hk) ?_
    cases x with
    | none => exact srd_bind P (zeroValue et) _ H z _ (srd_zeroValue hi hz) rfl
    | some x => rfl
  cases hx : entIdx k es 0 with
  | none => exact ⟨⟨_, fun H' hH => by rw [List.mem_singleton.1 hH]; exact srd_run (key _ hx), h0 (entIdx_none hx)⟩⟩
  | some x =>
    obtain ⟨j, v⟩ := x
    obtain ⟨m, e, _, h2, h3, h4⟩ := entIdx_some hx
    exact ⟨⟨_, fun H' hH => by rw [List.mem_singleton.1 hH]; exact srd_run (key _ hx), by subst h4; exact h1 m e h2 h3⟩⟩
theorem hmaplen {t kt et : TypeId} {H : Heap} {r c : Nat} {es : List Ent} {K : Value → Prop} (ht : P.underlying t = some (.map kt et)) (hm : MapAt H r es c) (h : K (.int .i64 (es.length : Int))) : HRd P (Builtin.len_ #[t] 0 #[.map (some r)]) [H] K := by
  refine ⟨⟨_, fun H' hH => ?_, h⟩⟩
  rw [List.mem_singleton.1 hH]
  refine srd_run ?_
  unfold Builtin.len_
  show srd P (underlying t >>= _) H _
  refine srd_bind P _ _ H _ _ (srd_underlying ht) ?_
  show srd P (getObj r >>= _) H _
  refine srd_bind P _ _ H _ _ (srd_map hm) ?_
  show goInt _ = _
  rw [List.size_toArray, List.length_map]; rfl
theorem hmakeMap {t : TypeId} {H : Heap} {K : Value → Heap → Prop} (h : ∀ b H', H b = none → MapAt H' b [] 0 → Upd [] H H' → K (.map (some b)) H') : HSem P (Instr.makeMap t none) H K := by
  refine HSem.of_swp ?_
  unfold Instr.makeMap
  show swp P (newObj (.map #[] 0) >>= _) K H
  rw [swp_bind]
  intro b hb
  exact h b _ hb (upd_same _ _ _) (Upd.new hb _)
theorem sameBits_str (n : Nat) (a b : ByteArray) : Instr.sameBits n (.string a) (.string b) = (a == b) := by cases n <;> rfl
theorem not_cells_map (H : Heap) {r c : Nat} {es : List Ent} (hm : MapAt H r es c) : ∃ o', H r = some o' ∧ (∀ c e f, o' ≠ .cells c e f) := ⟨_, hm, by simp⟩
theorem hmapUpdate {t kt et : TypeId} {H : Heap} {r c : Nat} {es : List Ent} {k : ByteArray} {v : Value} {K : Heap → Prop} (ht : P.underlying t = some (.map kt et)) (hk : P.underlying kt = some .string) (hm : MapAt H r es c)
    (h1 : ∀ (i : Nat) e H', es[i]? = some e → e.key = k → MapAt H' r (es.set i ⟨k, v, e.born⟩) c → Upd [r] H H' → K H') (h0 : ∀ H', (∀ e ∈ es, e.key ≠ k) → MapAt H' r (es ++ [⟨k, v, c⟩]) (c + 1) → Upd [r] H H' → K H') : HSemU P (Instr.mapUpdate t (.map (some r)) (.string k) v) H K := by
  refine HSemU.of_swp ?_
  unfold Instr.mapUpdate
  refine swp_of_srd (srd_underlying ht) ?_
  dsimp only
  refine swp_of_srd (srd_map hm) ?_
  dsimp only
  refine swp_of_srd (srd_checkKey hk 9999) ?_
  refine swp_of_srd (srd_findKey hk) ?_
  cases hx : entIdx k es 0 with
  | none =>
    refine ⟨not_cells_map H hm, ?_⟩
    refine h0 _ (entIdx_none hx) ?_ (Upd.upd (by simp) _)
    show (H.upd r _) r = _
    rw [upd_same]
    congr 2
    simp [Ent.e]
  | some x =>
    obtain ⟨j, w⟩ := x
    obtain ⟨m, e, hj, h2, h3, h4⟩ := entIdx_some hx
    have hj : j = m := by omega
    subst hj
    dsimp only
    have he : ((es.map Ent.e).toArray)[j]? = some e.e := by simp [h2]
    rw [he]
    have hst : Instr.keyThatStays e.e.key (.string k) = pure (.string k) := by
      unfold Instr.keyThatStays
      show (if Instr.sameBits 10000 (.string e.key) (.string k) = true then _ else _) = _
      rw [sameBits_str, h3, ba_beq, decide_eq_true rfl]; rfl
    show swp P (Instr.keyThatStays e.e.key (.string k) >>= _) _ H
    rw [hst]
    refine ⟨not_cells_map H hm, ?_⟩
    refine h1 j e _ h2 h3 ?_ (Upd.upd (by simp) _)
    show (H.upd r _) r = _
    rw [upd_same]
    congr 2
    apply Array.ext_getElem?
    intro i
    rw [Array.getElem?_modify]
    by_cases hi : j = i
    · subst hi
      rw [if_pos rfl, he]
      have hl := (List.getElem?_eq_some_iff.1 h2).1
      simp [hl, Ent.e]
    · rw [if_neg hi]
      simp [List.getElem?_set, hi]
theorem hdelete {t kt et ty : TypeId} {H : Heap} {r c : Nat} {es : List Ent} {k : ByteArray} {K : Value → Heap → Prop} (ht : P.underlying t = some (.map kt et)) (hk : P.underlying kt = some .string) (hm : MapAt H r es c)
    (h1 : ∀ (i : Nat) e H', es[i]? = some e → e.key = k → MapAt H' r (es.eraseIdx i) c → Upd [r] H H' → K (.tuple #[]) H') (h0 : ∀ H', (∀ e ∈ es, e.key ≠ k) → MapAt H' r es c → Upd [r] H H' → K (.tuple #[]) H') {t2 : TypeId} : HSem P (Builtin.delete_ #[t, t2] ty [.map (some r), .string k].toArray) H K := by
  refine HSem.of_swp ?_
  unfold Builtin.delete_
  show swp P (underlying t >>= _) K H
  refine swp_of_srd (srd_underlying ht) ?_
  show swp P (getObj r >>= _) K H
  refine swp_of_srd (srd_map hm) ?_
  show swp P (Instr.checkKey _ 10000 kt (.string k) >>= _) K H
  refine swp_of_srd (srd_checkKey hk 9999) ?_
  show swp P (Instr.findKey kt (.string k) _ >>= _) K H
  refine swp_of_srd (srd_findKey hk) ?_
  cases hx : entIdx k es 0 with
  | none =>
    refine ⟨not_cells_map H hm, ?_⟩
    exact h0 _ (entIdx_none hx) (upd_same _ _ _) (Upd.upd (by simp) _)
  | some x =>
    obtain ⟨j, w⟩ := x
    obtain ⟨m, e, hj, h2, h3, h4⟩ := entIdx_some hx
    have hj : j = m := by omega
    subst hj
    refine ⟨not_cells_map H hm, ?_⟩
    refine h1 j e _ h2 h3 ?_ (Upd.upd (by simp) _)
    show (H.upd r _) r = _
    rw [upd_same]
    congr 2
    have hl := (List.getElem?_eq_some_iff.1 h2).1
    rw [Array.eraseIdxIfInBounds, dif_pos (by simpa using hl)]
    apply Array.ext'
    rw [Array.toList_eraseIdx]
    exact (map_eraseIdx Ent.e es j).symm
theorem swp_choose_map {β : Type} {n : Nat} {f : Nat → Sem β} {K : β → Heap → Prop} {H : Heap} (hn : 0 < n) (h : ∀ i, i < n → swp P (f i) K H) : swp P (choose (.mapNext n) >>= f) K H := by
  rw [swp_bind]
  unfold choose
  unfold swp
  split
  · exact h 0 hn
  · exact fun t => h _ (Nat.mod_lt _ hn)
/-- A step of a loop over a map: some entry that was not seen yet, or the end. -/
theorem hnext {H : Heap} {r c it : Nat} {es : List Ent} {seen : Array Nat} {ty : TypeId} {K : Value → Heap → Prop} (hi_ : H it = some (.mapIter (some r) c seen c)) (hm : MapAt H r es c) (hb : ∀ e ∈ es, e.born < c)
    (hend : (∀ e ∈ es, e.born ∈ seen) → K (.tuple #[.bool false]) H)
    (hstep : ∀ (j : Nat) e, es[j]? = some e → e.born ∉ seen → ∀ H', H' it = some (.mapIter (some r) c (seen.push e.born) c) → Upd [it] H H' → K (.tuple #[.bool true, .string e.key, e.val]) H') :
    HSem P (Instr.next (.pointer (some ⟨it, 0, none⟩)) false ty) H K := by
  refine HSem.of_swp ?_
  unfold Instr.next
  refine swp_of_srd (s := getObj it) (a := .mapIter (some r) c seen c) ⟨_, hi_, by simp, rfl⟩ ?_
  dsimp only
  refine swp_of_srd (srd_map hm) ?_
  dsimp only
  have hborn : ∀ x ∈ (es.map Ent.e).toArray, x.born < c := fun x hx => by
    simp only [List.mem_toArray, List.mem_map] at hx
    obtain ⟨e, he, rfl⟩ := hx
    exact hb e he
  have hall : (!seen.isEmpty && !(es.map Ent.e).toArray.isEmpty && (es.map Ent.e).toArray.all fun x => decide (x.born ≥ c)) = false := by
    cases es with
    | nil => simp
    | cons e es =>
      have := hb e (by simp)
      have h2 : ¬ (c ≤ e.e.born) := by show ¬ (c ≤ e.born); omega
      simp [h2]
  rw [if_neg (by rw [hall]; simp)]
  generalize hold : Array.filter (fun x => decide (x.born < c)) (Array.filter (fun e => !seen.contains e.born) (es.map Ent.e).toArray) = old
  have hnew : Array.filter (fun x => decide (x.born ≥ c)) (Array.filter (fun e => !seen.contains e.born) (es.map Ent.e).toArray) = #[] := by
    rw [Array.filter_eq_empty_iff]
    intro x hx
    have := hborn x (Array.mem_of_mem_filter hx)
    simpa using this
  rw [hnew, Array.append_empty]
  have hmem : ∀ x ∈ old, x ∈ (es.map Ent.e).toArray ∧ x.born ∉ seen := fun x hx => by
    rw [← hold] at hx
    have h1 := Array.mem_of_mem_filter hx
    refine ⟨Array.mem_of_mem_filter h1, ?_⟩
    have := (Array.mem_filter.1 h1).2
    simpa using this
  have hemp : old.isEmpty = true → ∀ e ∈ es, e.born ∈ seen := fun h e he => by
    have h0 : old = #[] := by simpa using h
    refine Classical.byContradiction fun hn => ?_
    have : e.e ∈ old := by
      rw [← hold]
      refine Array.mem_filter.2 ⟨Array.mem_filter.2 ⟨?_, ?_⟩, ?_⟩
      · simp only [List.mem_toArray]; exact List.mem_map_of_mem he
      · show (!seen.contains e.born) = true; simpa using hn
      · show decide (e.born < c) = true; simpa using hb e he
    rw [h0] at this; simp at this
  refine swp_choose_map ?_ ?_
  · by_cases ho : old.isEmpty = true
    · rw [if_pos ho]; simp; omega
    · rw [if_neg ho]
      have : old.size ≠ 0 := fun h => ho (by simpa using h)
      simp; omega
  · intro i hi
    by_cases ho : old.isEmpty = true
    · have h0 : old = #[] := by simpa using ho
      rw [if_pos ho] at hi ⊢
      subst h0
      have : i = 0 := by simp at hi; omega
      subst this
      have he : ((#[none] ++ (#[] : Array MapEntry).map some : Array (Option MapEntry)))[0]? = some none := by simp
      rw [he]
      exact hend (hemp ho)
    · rw [if_neg ho] at hi ⊢
      have hl : i < old.size := by simpa using hi
      have he : ((#[] ++ old.map some : Array (Option MapEntry)))[i]? = some (some old[i]) := by simp [hl]
      rw [he]
      have h1 := hmem old[i] (Array.getElem_mem hl)
      obtain ⟨e, he2, he3⟩ := List.mem_map.1 (by simpa using h1.1)
      obtain ⟨j, hj⟩ := List.getElem?_of_mem he2
      refine ⟨⟨_, hi_, by simp⟩, ?_⟩
      rw [← he3]
      refine hstep j e hj ?_ _ ?_ (Upd.upd (by simp) _)
      · have := h1.2; rw [← he3] at this; exact this
      · rw [upd_same]; rfl
theorem find_born : ∀ {es : List Ent} {j : Nat} {e : Ent}, es[j]? = some e → (es.map Ent.born).Nodup → (es.map Ent.e).find? (fun x => x.born == e.born) = some e.e
  | [], j, e, h, _ => by simp at h
  | x :: es, 0, e, h, _ => by
    cases h
    show List.find? _ (x.e :: es.map Ent.e) = _
    rw [List.find?_cons_of_pos (by show (x.born == x.born) = true; simp)]
  | x :: es, j + 1, e, h, hd => by
    have h : es[j]? = some e := h
    rw [List.map_cons, List.nodup_cons] at hd
    have hne : ¬ x.born = e.born := fun h2 => hd.1 (by rw [h2]; exact List.mem_map_of_mem (List.mem_of_getElem? h))
    show List.find? _ (x.e :: es.map Ent.e) = _
    rw [List.find?_cons_of_neg (by show ¬ (x.born == e.born) = true; simpa using hne)]
    exact find_born h hd.2
theorem hentry {H : Heap} {r c it j : Nat} {es : List Ent} {e : Ent} {seen : Array Nat} {K : Value → Heap → Prop} (hi : H it = some (.mapIter (some r) c (seen.push e.born) c)) (hm : MapAt H r es c) (he : es[j]? = some e) (hd : (es.map Ent.born).Nodup)
    (h : K (.tuple #[.string e.key, e.val]) H) : HSem P (Instr.entry (.pointer (some ⟨it, 0, none⟩))) H K := by
  refine HSem.of_swp ?_
  unfold Instr.entry
  refine swp_of_srd (s := getObj it) (a := .mapIter (some r) c (seen.push e.born) c) ⟨_, hi, by simp, rfl⟩ ?_
  have hbk : (seen.push e.born).back? = some e.born := by simp
  dsimp only
  rw [hbk]
  dsimp only
  refine swp_of_srd (srd_map hm) ?_
  have hcc : (c != c) = false := by simp
  have hf : (es.map Ent.e).toArray.find? (fun x => x.born == e.born) = some e.e := by
    rw [List.find?_toArray]; exact find_born he hd
  dsimp only
  rw [hcc, hf]
  exact h
theorem hrange {t kt et : TypeId} {H : Heap} {r c : Nat} {es : List Ent} {K : Value → Heap → Prop} (ht : P.underlying t = some (.map kt et)) (hm : MapAt H r es c)
    (h : ∀ b H', H b = none → H' b = some (.mapIter (some r) c #[] c) → Upd [] H H' → K (.pointer (some ⟨b, 0, none⟩)) H') : HSem P (Instr.range t (.map (some r))) H K := by
  refine HSem.of_swp ?_
  unfold Instr.range
  refine swp_of_srd (srd_underlying ht) ?_
  show swp P (getObj r >>= _) K H
  refine swp_of_srd (srd_map hm) ?_
  show swp P (newObj (.mapIter (some r) c #[] c) >>= _) K H
  rw [swp_bind]
  intro b hb
  exact h b _ hb (upd_same _ _ _) (Upd.new hb _)
end
end Go.Proofs.Ytaobgofbhommcaa.Hv
