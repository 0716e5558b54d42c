import Derived.Test.YtaobgofbhommcaaHv1
namespace Go.Proofs.Ytaobgofbhommcaa.Hv
open Go
set_option linter.unusedVariables false
set_option linter.unusedSimpArgs false

/-! ## Reading alone -/
def rd (P : Program) {α : Type} : Sem α → Heap → Option α
  | .pure a, _ => some a
  | .load _ a k, H => match H.cell? a with | some v => rd P (k v) H | none => none
  | .shape r k, H => if (H r).isSome then rd P (k (H.shape? r)) H else none
  | .frozen a k, H => if (H a.block).isSome then rd P (k (H.frozen? a)) H else none
  | .getObj r k, H => match H r with | some (.cells ..) => none | some o => rd P (k o) H | none => none
  | .choose q k, H => if q.forced then rd P (k 0) H else none
  | .program k, H => rd P (k P) H
  | .mark _ k, H => rd P k H
  | _, _ => none

theorem rd_rds {P : Program} {α : Type} (s : Sem α) : ∀ {H : Heap} {x : α}, rd P s H = some x → Rds P s H x := by
  induction s with
  | pure a => intro H x h w hs; cases h; rfl
  | load m a k ih =>
    intro H x h w hs
    unfold rd at h
    cases e : H.cell? a with
    | none => simp [e] at h
    | some v => simp only [e] at h; simp only [Sem.run, hs.cell e]; exact ih _ h w hs
  | shape r k ih =>
    intro H x h w hs
    unfold rd at h
    split at h
    · rename_i hr
      have hn : H r ≠ none := by cases e : H r <;> simp_all
      simp only [Sem.run, hs.shape hn]; exact ih _ h w hs
    · cases h
  | frozen a k ih =>
    intro H x h w hs
    unfold rd at h
    split at h
    · rename_i hr
      have hn : H a.block ≠ none := by cases e : H a.block <;> simp_all
      simp only [Sem.run, hs.frozen hn]; exact ih _ h w hs
    · cases h
  | getObj r k ih =>
    intro H x h w hs
    unfold rd at h
    cases e : H r with
    | none => simp [e] at h
    | some o =>
      have hw := hs _ _ e
      cases o with
      | cells c t f => simp [e] at h
      | _ => simp only [e] at h; simp only [Sem.run, hw]; exact ih _ h w hs
  | choose q k ih =>
    intro H x h w hs
    unfold rd at h
    split at h
    · rename_i hq; simp only [Sem.run, hq, if_true]; exact ih _ h w hs
    · cases h
  | program k ih => intro H x h w hs; simp only [Sem.run]; exact ih _ h w hs
  | mark m k ih => intro H x h w hs; simp only [Sem.run]; exact ih h w hs
  | store m a v k ih => intro H x h; cases h
  | new o k ih => intro H x h; cases h
  | freeze a n k ih => intro H x h; cases h
  | setObj r o k ih => intro H x h; cases h
  | sys c k ih => intro H x h; cases h
  | halt h' => intro H x h; cases h
theorem rd_bind (P : Program) {α β : Type} (s : Sem α) (f : α → Sem β) (H : Heap) : rd P (s >>= f) H = (rd P s H).bind fun x => rd P (f x) H := by
  show rd P (Sem.bind s f) H = _
  induction s with
  | pure a => rfl
  | load m a k ih => simp only [Sem.bind, rd]; cases H.cell? a <;> simp [ih]
  | shape r k ih => simp only [Sem.bind, rd]; split <;> simp [ih]
  | frozen a k ih => simp only [Sem.bind, rd]; split <;> simp [ih]
  | getObj r k ih =>
    simp only [Sem.bind, rd]
    cases H r with
    | none => rfl
    | some o => cases o <;> simp [ih]
  | choose q k ih => simp only [Sem.bind, rd]; split <;> simp [ih]
  | program k ih => simp only [Sem.bind, rd]; exact ih _
  | mark m k ih => simp only [Sem.bind, rd]; exact ih
  | _ => rfl

/-- What may be carried out at any time: it only reads. -/
def isFloat (P : Program) (o : Oper) : Bool :=
  match o.op with
  | .move _ | .assign _ | .pick .. | .load .. | .nilCheck _ | .binOp .. | .unOp .. | .makeInterface .. | .makeFunc ..
  | .slice .. | .fieldAddr .. | .field .. | .indexAddr .. | .index .. | .lookup .. | .typeAssert .. | .extract .. | .build .. => true
  | .call { callee := .builtin .len, .. } | .call { callee := .builtin .cap, .. } | .call { callee := .builtin .min, .. } | .call { callee := .builtin .max, .. } => true
  | .convert _ dst _ => (match P.underlying dst with | some (.slice _) => false | _ => true)
  | _ => false

/-! ## Heaps that there are -/
def Heap.Ok (H : Heap) : Prop := ∃ w, Sat H w
theorem Heap.Ok.upd {H : Heap} (h : H.Ok) (b : Nat) (o : Obj) : (H.upd b o).Ok := by
  obtain ⟨w, hs⟩ := h
  refine ⟨{ w with heap := Array.ofFn (n := max w.heap.size (b + 1)) fun i => if i.1 = b then o else (w.heap[i.1]?).getD default }, fun k o' hk => ?_⟩
  unfold Heap.upd at hk
  show (Array.ofFn _)[k]? = _
  rw [Array.getElem?_ofFn]
  by_cases e : k = b
  · subst e; simp at hk; subst hk; simp; omega
  · rw [if_neg e] at hk
    have h1 := hs k o' hk
    have hl := (Array.getElem?_eq_some_iff.1 h1).1
    have : k < max w.heap.size (b + 1) := by omega
    simp [this, e, h1]
theorem Heap.Ok.setCell {H : Heap} (h : H.Ok) (a : Addr) (v : Value) : (H.setCell a v).Ok := by
  unfold Heap.setCell
  split
  · exact h.upd _ _
  · exact h
theorem Heap.Ok.freeze {H : Heap} (h : H.Ok) (a : Addr) (n : Nat) : (H.freeze a n).Ok := by
  unfold Heap.freeze
  split
  · exact h
  · split
    · exact h.upd _ _
    · exact h

theorem HCalls.mono_ok {P : Program} {f : FuncId} {args : List Value} {H : Heap} {K K' : Value → Heap → Prop} (h : HCalls P f args H K) (hk : ∀ v (H' : Heap), H'.Ok → K v H' → K' v H') : HCalls P f args H K' :=
  fun w hs => (h w hs).mono fun e w' ⟨v, H', he, hK, hs', hf⟩ => ⟨v, H', he, hk _ _ ⟨w', hs'⟩ hK, hs', hf⟩

theorem HCalls.some {P : Program} {f : FuncId} {args : List Value} {H : Heap} {K : Value → Heap → Prop} (h : HCalls P f args H K) (ok : H.Ok) : ∃ v H', K v H' ∧ Heap.Ok H' := by
  obtain ⟨w, hs⟩ := ok
  obtain ⟨e, w', fr, ⟨v, H', _, hk, hs', _⟩, _⟩ := h w hs []
  exact ⟨v, H', hk, w', hs'⟩

theorem HOp.mono_ok {P : Program} {o : Oper} {K K' : Act → Heap → Prop} {a : Act} {H : Heap} (hk : ∀ v (H : Heap), H.Ok → K (a.put o.dst v) H → K' (a.put o.dst v) H) (h : HOp P o K a H) : HOp P o K' a H := by
  intro w hs
  have h1 := h w hs
  generalize (execOp a.eval o).run P w = r at *
  cases r with
  | halt x w' => exact h1.elim
  | ok x w1 =>
    cases x with
    | value v => obtain ⟨H', k, s, f⟩ := h1; exact ⟨H', hk _ _ ⟨_, s⟩ k, s, f⟩
    | skip => obtain ⟨H', k, s, f⟩ := h1; exact ⟨H', hk _ _ ⟨_, s⟩ k, s, f⟩
    | enter f args => obtain ⟨H', k, s, f⟩ := h1; exact ⟨H', k.mono_ok fun v H2 ok2 h2 => hk _ _ ok2 h2, s, f⟩
    | _ => exact h1.elim

theorem HOp.some {P : Program} {o : Oper} {K : Act → Heap → Prop} {a : Act} {H : Heap} (ok : H.Ok) (h : HOp P o K a H) : ∃ v H', K (a.put o.dst v) H' ∧ Heap.Ok H' := by
  obtain ⟨w, hs⟩ := ok
  have h1 := h w hs
  generalize (execOp a.eval o).run P w = r at *
  cases r with
  | halt x w' => exact h1.elim
  | ok x w1 =>
    cases x with
    | value v => obtain ⟨H', k, s, f⟩ := h1; exact ⟨v, H', k, _, s⟩
    | skip => obtain ⟨H', k, s, f⟩ := h1; exact ⟨undef, H', k, _, s⟩
    | enter f args => obtain ⟨H', k, s, f⟩ := h1; obtain ⟨v, H2, h2, ok2⟩ := k.some ⟨_, s⟩; exact ⟨v, H2, h2, ok2⟩
    | _ => exact h1.elim

/-- Another operation's value in its temporary, that this one does not look at. -/
theorem HOp.put {P : Program} {oi oj : Oper} {K : Act → Heap → Prop} {a : Act} {H : Heap} {v : Value} (he : execOp (a.put oi.dst v).eval oj = execOp a.eval oj)
    (hpc : ∀ u, (a.put oj.dst u).put oi.dst v = (a.put oi.dst v).put oj.dst u) (h : HOp P oj (fun a' H' => K (a'.put oi.dst v) H') a H) : HOp P oj K (a.put oi.dst v) H := by
  intro w hs
  have h1 := h w hs
  rw [he]
  generalize (execOp a.eval oj).run P w = r at *
  cases r with
  | halt x w' => exact h1.elim
  | ok x w1 =>
    cases x with
    | value u => obtain ⟨H', k, s, f⟩ := h1; exact ⟨H', hpc u ▸ k, s, f⟩
    | skip => obtain ⟨H', k, s, f⟩ := h1; exact ⟨H', hpc undef ▸ k, s, f⟩
    | enter f args => obtain ⟨H', k, s, f⟩ := h1; exact ⟨H', k.mono fun u H2 h2 => hpc u ▸ h2, s, f⟩
    | _ => exact h1.elim

theorem Rds.uniq {P : Program} {α : Type} {s : Sem α} {H : Heap} {x y : α} (ok : H.Ok) (h : Rds P s H x) (k : Rds P s H y) : x = y := by
  obtain ⟨w, hs⟩ := ok
  have := (h w hs).symm.trans (k w hs)
  cases this; rfl

/-! ## A region in a canonical order; what only reads reads the same all through its window -/
def dwp (P : Program) (ops : Array Oper) (K : Act → Heap → Prop) : List (Nat × Nat) → List Heap → Act → Heap → Prop
  | [], _, a, H => K a H
  | (i, k) :: rest, hist, a, H => match ops[i]? with
    | none => dwp P ops K rest hist a H
    | some o =>
      if Region.wanted o (yielded ops a.tmps) = true then
        (if isFloat P o = true then ∃ v, (∀ H' ∈ H :: hist.take k, Rds P (execOp a.eval o) H' (.value v)) ∧ dwp P ops K rest hist (a.put o.dst v) H
         else HOp P o (fun a' H' => dwp P ops K rest (H :: hist) a' H') a H)
      else dwp P ops K rest hist (a.put o.dst undef) H

theorem dwp_wp {P : Program} {ops : Array Oper} {K : Exit → Act → Heap → Prop} {H0 : Heap} {w0 : World} : ∀ (c : List (Nat × Nat)) (hist : List Heap) (a : Act) (H : Heap) (w : World), dwp P ops (K .normal) c hist a H → Sat H w → Fr H0 H w0 w →
    wpOps P ops (fun e a' w' => ∃ H', K e a' H' ∧ Sat H' w' ∧ Fr H0 H' w0 w') (c.map (·.1)) a w
  | [], _, a, H, w, h, hs, hf => ⟨H, h, hs, hf⟩
  | (i, k) :: rest, hist, a, H, w, h, hs, hf => by
    simp only [List.map_cons]
    unfold dwp at h
    unfold wpOps
    cases ho : ops[i]? with
    | none => simp only [ho] at h ⊢; exact dwp_wp rest hist a H w h hs hf
    | some o =>
      simp only [ho] at h ⊢
      split
      · rename_i hw; rw [if_pos hw] at h
        split at h
        · obtain ⟨v, h1, h2⟩ := h
          left
          unfold Oper.wp
          rw [h1 H List.mem_cons_self w hs]
          exact dwp_wp rest hist _ H w h2 hs hf
        · exact .inl (Oper.wp_mono (fun a' w' ⟨H', hk, hs', hf'⟩ => dwp_wp rest _ a' H' w' hk hs' (hf.trans hf')) (h.wp hs))
      · rename_i hw; rw [if_neg hw] at h
        exact dwp_wp rest hist _ H w h hs hf
theorem HWp.region {P : Program} {id : Nat} {ops : Array Oper} {K : Exit → Act → Heap → Prop} {a : Act} {H : Heap} (h : dwp P ops (K .normal) ((List.range ops.size).map fun i => (i, 0)) [] a H) : HWp P (.region id ops false) K a H :=
  fun w hs => wp_region (by
    have := dwp_wp _ _ a H w h hs (Fr.refl _ _)
    rw [List.map_map] at this
    have e : List.map ((fun x : Nat × Nat => x.fst) ∘ fun i => (i, 0)) (List.range ops.size) = List.range ops.size := List.map_id _
    rw [e] at this; exact this)

def neff (P : Program) (ops : Array Oper) (c : List (Nat × Nat)) : Nat := (c.filter fun x => match ops[x.1]? with | some o => !isFloat P o | none => false).length

/-- A reading operation that nobody ahead of it in the list stands in the way of may be carried out first. -/
theorem dwp_pull {P : Program} {ops : Array Oper} {K : Act → Heap → Prop} {i k : Nat} {oi : Oper} {c2 : List (Nat × Nat)} (hoi : ops[i]? = some oi) (hfl : isFloat P oi = true)
    (hsel : ∀ (j : Nat) (o : Oper) cs b, ops[j]? = some o → o.op ≠ .select cs b) :
    ∀ (c1 : List (Nat × Nat)) (hist : List Heap) (a : Act) (H : Heap), H.Ok → (∀ x ∈ c1, ∀ oj, ops[x.1]? = some oj → oi.apart ops oj = true) → neff P ops c1 ≤ k →
      dwp P ops K (c1 ++ (i, k) :: c2) hist a H →
      (Region.wanted oi (yielded ops a.tmps) = true → ∃ v, (∀ H' ∈ H :: hist.take (k - neff P ops c1), Rds P (execOp a.eval oi) H' (.value v)) ∧ dwp P ops K (c1 ++ c2) hist (a.put oi.dst v) H) ∧
      (Region.wanted oi (yielded ops a.tmps) = false → dwp P ops K (c1 ++ c2) hist (a.put oi.dst undef) H) := by
  intro c1
  induction c1 with
  | nil =>
    intro hist a H ok _ _ h
    simp only [List.nil_append] at h ⊢
    unfold dwp at h
    simp only [hoi] at h
    refine ⟨fun hw => ?_, fun hw => ?_⟩
    · rw [if_pos hw, if_pos hfl] at h
      simpa [neff] using h
    · rw [if_neg (by simp [hw])] at h; exact h
  | cons x c1 ih =>
    obtain ⟨j, kj⟩ := x
    intro hist a H ok hap hn h
    simp only [List.cons_append] at h ⊢
    have hap' : ∀ x ∈ c1, ∀ oj, ops[x.1]? = some oj → oi.apart ops oj = true := fun x hx => hap x (List.mem_cons_of_mem _ hx)
    have hsub : neff P ops c1 ≤ neff P ops ((j, kj) :: c1) := by
      unfold neff; simp only [List.filter_cons]; split <;> simp
    have htake : ∀ (H' : Heap), H' ∈ hist.take (k - neff P ops ((j, kj) :: c1)) → H' ∈ hist.take (k - neff P ops c1) := fun H' hm =>
      (List.take_sublist_take_left (by omega)).subset hm
    cases hoj : ops[j]? with
    | none =>
      have h' : dwp P ops K (c1 ++ (i, k) :: c2) hist a H := by unfold dwp at h; simpa only [hoj] using h
      obtain ⟨r1, r2⟩ := ih hist a H ok hap' (by omega) h'
      refine ⟨fun hw => ?_, fun hw => ?_⟩
      · obtain ⟨v, hv, hd⟩ := r1 hw
        refine ⟨v, fun H' hm => hv H' ?_, by unfold dwp; simpa only [hoj] using hd⟩
        rcases List.mem_cons.1 hm with rfl | hm
        · exact List.mem_cons_self
        · exact List.mem_cons_of_mem _ (htake _ hm)
      · have hd := r2 hw
        unfold dwp; simpa only [hoj] using hd
    | some oj =>
      obtain ⟨p1, p2, p3⟩ := Oper.apart_spec (hap (j, kj) List.mem_cons_self oj hoj)
      have hwi : ∀ (a : Act) u, Region.wanted oi (yielded ops (a.put oj.dst u).tmps) = Region.wanted oi (yielded ops a.tmps) := fun a u => wanted_put oi a oj.dst u p3
      have hei : ∀ (a : Act) u, execOp (a.put oj.dst u).eval oi = execOp a.eval oi := fun a u => execOp_put oi (fun cs b => hsel i oi cs b hoi) a oj.dst u p3
      have hwj : ∀ (a : Act) u, Region.wanted oj (yielded ops (a.put oi.dst u).tmps) = Region.wanted oj (yielded ops a.tmps) := fun a u => wanted_put oj a oi.dst u p1
      have hej : ∀ (a : Act) u, execOp (a.put oi.dst u).eval oj = execOp a.eval oj := fun a u => execOp_put oj (fun cs b => hsel j oj cs b hoj) a oi.dst u p1
      have hpc : ∀ (a : Act) u v, (a.put oj.dst u).put oi.dst v = (a.put oi.dst v).put oj.dst u := fun a u v => (Act.put_comm a v u p2).symm
      unfold dwp at h
      simp only [hoj] at h
      by_cases hwant : Region.wanted oj (yielded ops a.tmps) = true
      · rw [if_pos hwant] at h
        by_cases hfj : isFloat P oj = true
        · rw [if_pos hfj] at h
          obtain ⟨vj, hvj, h⟩ := h
          obtain ⟨r1, r2⟩ := ih hist _ H ok hap' (by omega) h
          rw [hwi] at r1 r2
          refine ⟨fun hw => ?_, fun hw => ?_⟩
          · obtain ⟨v, hv, hd⟩ := r1 hw
            refine ⟨v, fun H' hm => ?_, ?_⟩
            · rw [← hei a vj]
              refine hv H' ?_
              rcases List.mem_cons.1 hm with rfl | hm
              · exact List.mem_cons_self
              · exact List.mem_cons_of_mem _ (htake _ hm)
            · unfold dwp; simp only [hoj]
              rw [hwj, if_pos hwant, if_pos hfj]
              exact ⟨vj, fun H' hm => by rw [hej]; exact hvj H' hm, by rw [← hpc]; exact hd⟩
          · have hd := r2 hw
            unfold dwp; simp only [hoj]
            rw [hwj, if_pos hwant, if_pos hfj]
            exact ⟨vj, fun H' hm => by rw [hej]; exact hvj H' hm, by rw [← hpc]; exact hd⟩
        · rw [if_neg hfj] at h
          have hne : neff P ops ((j, kj) :: c1) = neff P ops c1 + 1 := by
            unfold neff; simp [List.filter_cons, hoj, hfj]
          obtain ⟨u0, H1, h1, ok1⟩ := HOp.some ok h
          refine ⟨fun hw => ?_, fun hw => ?_⟩
          · obtain ⟨v, hv, _⟩ := (ih (H :: hist) _ H1 ok1 hap' (by omega) h1).1 (by rw [hwi]; exact hw)
            have hmem : ∀ H' : Heap, H' ∈ H :: hist.take (k - neff P ops ((j, kj) :: c1)) → H' ∈ (H :: hist).take (k - neff P ops c1) := fun H' hm => by
              have : k - neff P ops c1 = (k - neff P ops ((j, kj) :: c1)) + 1 := by omega
              rw [this, List.take_succ_cons]; exact hm
            have hvv : ∀ H' ∈ H :: hist.take (k - neff P ops ((j, kj) :: c1)), Rds P (execOp a.eval oi) H' (.value v) := fun H' hm => by
              rw [← hei a u0]; exact hv H' (List.mem_cons_of_mem _ (hmem H' hm))
            refine ⟨v, hvv, ?_⟩
            unfold dwp; simp only [hoj]
            rw [hwj, if_pos hwant, if_neg hfj]
            refine HOp.put (hej a v) (hpc a · v) (HOp.mono_ok (fun u H' ok' h' => ?_) h)
            obtain ⟨v', hv', hd⟩ := (ih (H :: hist) _ H' ok' hap' (by omega) h').1 (by rw [hwi]; exact hw)
            have e1 := hv' H (List.mem_cons_of_mem _ (hmem H List.mem_cons_self))
            rw [hei] at e1
            have e2 := Rds.uniq ok e1 (hvv H List.mem_cons_self)
            have : v' = v := by simpa using e2
            subst this; exact hd
          · unfold dwp; simp only [hoj]
            rw [hwj, if_pos hwant, if_neg hfj]
            exact HOp.put (hej a undef) (hpc a · undef) (HOp.mono_ok (fun u H' ok' h' => (ih (H :: hist) _ H' ok' hap' (by omega) h').2 (by rw [hwi]; exact hw)) h)
      · rw [if_neg hwant] at h
        obtain ⟨r1, r2⟩ := ih hist _ H ok hap' (by omega) h
        rw [hwi] at r1 r2
        refine ⟨fun hw => ?_, fun hw => ?_⟩
        · obtain ⟨v, hv, hd⟩ := r1 hw
          refine ⟨v, fun H' hm => ?_, ?_⟩
          · rw [← hei a undef]
            refine hv H' ?_
            rcases List.mem_cons.1 hm with rfl | hm
            · exact List.mem_cons_self
            · exact List.mem_cons_of_mem _ (htake _ hm)
          · unfold dwp; simp only [hoj]
            rw [hwj, if_neg hwant, ← hpc]; exact hd
        · have hd := r2 hw
          unfold dwp; simp only [hoj]
          rw [hwj, if_neg hwant, ← hpc]; exact hd
end Go.Proofs.Ytaobgofbhommcaa.Hv
