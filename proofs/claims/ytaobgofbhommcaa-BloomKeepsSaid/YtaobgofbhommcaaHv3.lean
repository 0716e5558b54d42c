import Derived.Test.YtaobgofbhommcaaHv2
namespace Go.Proofs.Ytaobgofbhommcaa.Hv
open Go
set_option linter.unusedVariables false
set_option linter.unusedSimpArgs false
section
variable {P : Program}

/-! ## Any order that a region's edges allow comes to the canonical one -/
def anc (M : Array Nat) (x i : Nat) : Bool := (M.getD i 0).testBit x
def ancClosed (ops : Array Oper) (M : Array Nat) : Bool :=
  (List.range ops.size).all fun i => (List.range ops.size).all fun x => !anc M x i || (match ops[i]? with
    | some o => o.after.any fun e => Region.binds .any e && (e.on == x || anc M x e.on)
    | none => false)
def isEff (P : Program) (ops : Array Oper) (i : Nat) : Bool := match ops[i]? with | some o => !isFloat P o | none => false
def canonFrom (P : Program) (ops : Array Oper) (M : Array Nat) : List Nat → List (Nat × Nat) → Bool
  | _, [] => true
  | pre, (i, k) :: rest => (match ops[i]? with
    | none => false
    | some o => (o.after.all fun e => !Region.binds .any e || pre.contains e.on) &&
      (if isFloat P o then decide ((pre.filter fun x => isEff P ops x && !anc M x i).length ≤ k) && (pre.all fun x => anc M x i || (match ops[x]? with | some ox => o.apart ops ox | none => false))
       else pre.all fun x => anc M x i)) && !pre.contains i && canonFrom P ops M (pre ++ [i]) rest
def canonOk (P : Program) (ops : Array Oper) (M : Array Nat) (c : List (Nat × Nat)) : Bool :=
  ancClosed ops M && canonFrom P ops M [] c && ((List.range ops.size).all fun j => (c.map (·.1)).contains j) && (c.all fun x => decide (x.1 < ops.size)) && Region.noSelect ops && decide (c.length ≤ ops.size)

structure Good (P : Program) (ops : Array Oper) (M : Array Nat) (L : Nat → Prop) (c : List (Nat × Nat)) : Prop where
  good : ∀ c1 i k c2, c = c1 ++ (i, k) :: c2 → ∃ o, ops[i]? = some o ∧ (∀ e ∈ o.after, Region.binds .any e = true → L e.on ∨ e.on ∈ c1.map (·.1)) ∧
    (isFloat P o = true → (c1.filter fun x => isEff P ops x.1 && !anc M x.1 i).length ≤ k ∧ ∀ x ∈ c1, anc M x.1 i = true ∨ ∀ ox, ops[x.1]? = some ox → o.apart ops ox = true) ∧
    (isFloat P o = false → ∀ x ∈ c1, anc M x.1 i = true) ∧ i ∉ c1.map (·.1)

theorem Good.drop {ops : Array Oper} {M : Array Nat} {L L' : Nat → Prop} {a b : List (Nat × Nat)} {j kj : Nat} (h : Good P ops M L (a ++ (j, kj) :: b)) (hL : ∀ x, L x → L' x) (hj : L' j) : Good P ops M L' (a ++ b) := by
  constructor
  intro c1 i k c2 he
  rcases List.append_eq_append_iff.1 he with ⟨b1, rfl, hb⟩ | ⟨a2, rfl, ha⟩
  · -- c1 = a ++ b1
    obtain ⟨o, ho, h1, h2, h3, h4⟩ := h.good (a ++ (j, kj) :: b1) i k c2 (by rw [hb]; simp)
    refine ⟨o, ho, fun e he hb' => ?_, fun hf => ⟨?_, fun x hx => (h2 hf).2 x ?_⟩, fun hf x hx => h3 hf x ?_, fun hm => h4 ?_⟩
    · rcases h1 e he hb' with h | h
      · exact .inl (hL _ h)
      · simp only [List.map_append, List.map_cons, List.mem_append, List.mem_cons] at h ⊢
        rcases h with h | rfl | h
        · exact .inr (.inl h)
        · exact .inl hj
        · exact .inr (.inr h)
    · refine Nat.le_trans ?_ (h2 hf).1
      refine List.Sublist.length_le (List.Sublist.filter _ ?_)
      exact List.Sublist.append (List.Sublist.refl _) (List.sublist_cons_self _ _)
    · rcases List.mem_append.1 hx with h | h
      · exact List.mem_append_left _ h
      · exact List.mem_append_right _ (List.mem_cons_of_mem _ h)
    · rcases List.mem_append.1 hx with h | h
      · exact List.mem_append_left _ h
      · exact List.mem_append_right _ (List.mem_cons_of_mem _ h)
    · simp only [List.map_append, List.map_cons, List.mem_append, List.mem_cons] at hm ⊢
      rcases hm with h | h
      · exact .inl h
      · exact .inr (.inr h)
  · -- a = c1 ++ a2
    cases a2 with
    | nil =>
      simp only [List.nil_append] at ha
      obtain ⟨o, ho, h1, h2, h3, h4⟩ := h.good (c1 ++ [] ++ [(j, kj)]) i k c2 (by rw [← ha]; simp)
      simp only [List.append_nil] at h1 h2 h3 h4
      refine ⟨o, ho, fun e he hb' => ?_, fun hf => ⟨?_, fun x hx => (h2 hf).2 x (List.mem_append_left _ hx)⟩, fun hf x hx => h3 hf x (List.mem_append_left _ hx), fun hm => h4 ?_⟩
      · rcases h1 e he hb' with h | h
        · exact .inl (hL _ h)
        · simp only [List.map_append, List.map_cons, List.mem_append, List.map_nil, List.mem_singleton] at h
          rcases h with h | rfl
          · exact .inr h
          · exact .inl hj
      · refine Nat.le_trans ?_ (h2 hf).1
        exact List.Sublist.length_le (List.Sublist.filter _ (List.sublist_append_left _ _))
      · simp only [List.map_append, List.mem_append]; exact .inl hm
    | cons y a2 =>
      simp only [List.cons_append, List.cons.injEq] at ha
      obtain ⟨rfl, rfl⟩ := ha
      obtain ⟨o, ho, h1, h2, h3, h4⟩ := h.good c1 i k (a2 ++ (j, kj) :: b) (by simp)
      exact ⟨o, ho, fun e he hb' => (h1 e he hb').imp (hL _) id, h2, h3, h4⟩

theorem good_of_check {ops : Array Oper} {M : Array Nat} : ∀ (c : List (Nat × Nat)) (pre : List Nat), canonFrom P ops M pre c = true →
    ∀ c1 i k c2, c = c1 ++ (i, k) :: c2 → ∃ o, ops[i]? = some o ∧ (∀ e ∈ o.after, Region.binds .any e = true → e.on ∈ pre ++ c1.map (·.1)) ∧
    (isFloat P o = true → ((pre ++ c1.map (·.1)).filter fun x => isEff P ops x && !anc M x i).length ≤ k ∧ ∀ x ∈ pre ++ c1.map (·.1), anc M x i = true ∨ ∀ ox, ops[x]? = some ox → o.apart ops ox = true) ∧
    (isFloat P o = false → ∀ x ∈ pre ++ c1.map (·.1), anc M x i = true) ∧ i ∉ pre ++ c1.map (·.1) := by
  intro c
  induction c with
  | nil => intro pre _ c1 i k c2 he; simp at he
  | cons x c ih =>
    obtain ⟨j, kj⟩ := x
    intro pre h c1 i k c2 he
    unfold canonFrom at h
    simp only [Bool.and_eq_true] at h
    obtain ⟨⟨h1, hnc⟩, h2⟩ := h
    cases c1 with
    | nil =>
      simp only [List.nil_append, List.cons.injEq, Prod.mk.injEq] at he
      obtain ⟨⟨rfl, rfl⟩, rfl⟩ := he
      cases ho : ops[j]? with
      | none => simp [ho] at h1
      | some o =>
        simp only [ho, Bool.and_eq_true] at h1
        refine ⟨o, rfl, fun e he hb => ?_, fun hf => ?_, fun hf => ?_, by simpa using hnc⟩
        · have := Array.all_eq_true_iff_forall_mem.1 h1.1 e he
          simpa [hb] using this
        · have h1' := h1.2
          rw [if_pos hf] at h1'
          simp only [Bool.and_eq_true, decide_eq_true_eq, List.all_eq_true, Bool.or_eq_true] at h1'
          refine ⟨by simpa using h1'.1, fun x hx => ?_⟩
          rcases h1'.2 x (by simpa using hx) with h | h
          · exact .inl h
          · refine .inr fun ox hox => ?_
            simpa [hox] using h
        · have h1' := h1.2
          rw [if_neg (by simp [hf])] at h1'
          simp only [List.all_eq_true] at h1'
          exact fun x hx => h1' x (by simpa using hx)
    | cons y c1 =>
      simp only [List.cons_append, List.cons.injEq] at he
      obtain ⟨rfl, rfl⟩ := he
      have := ih (pre ++ [j]) h2 c1 i k c2 rfl
      simpa [List.append_assoc] using this

end
section
variable {P : Program} {ops : Array Oper} {K : Exit → Act → Heap → Prop} {M : Array Nat} {H0 : Heap} {w0 : World}
theorem drawn_any (hcl : ancClosed ops M = true) (hsel : Region.noSelect ops = true) :
    ∀ (fuel : Nat) (listed : Array Bool) (c : List (Nat × Nat)) (hist : List Heap) (a : Act) (H : Heap) (w : World),
      Good P ops M (fun i => listed.getD i false = true) c → (∀ j, listed.getD j true = false ↔ j ∈ c.map (·.1)) → (c.map (·.1)).Nodup → listed.size = ops.size →
      (∀ i, listed.getD i false = true → ∀ x, x < ops.size → anc M x i = true → listed.getD x false = true) →
      c.length ≤ fuel → dwp P ops (K .normal) c hist a H → Sat H w → Fr H0 H w0 w →
      wpAny P .any ops (fun e a' w' => ∃ H', K e a' H' ∧ Sat H' w' ∧ Fr H0 H' w0 w') fuel listed a w := by
  intro fuel
  induction fuel with
  | zero =>
    intro listed c hist a H w hg hm hnd hsz hinv hlen hd hs hf
    have : c = [] := List.length_eq_zero_iff.1 (by omega)
    subst this
    refine ⟨?_, H, hd, hs, hf⟩
    unfold Region.ready
    rw [List.filter_eq_nil_iff]
    intro j hj
    have h1 : ¬ listed.getD j true = false := fun h => by have := (hm j).1 h; simp at this
    simp only [Bool.not_eq_false] at h1
    simp [h1]
  | succ fuel ih =>
    intro listed c hist a H w hg hm hnd hsz hinv hlen hd hs hf
    refine ⟨fun hr => ?_, fun i hi => ?_⟩
    · cases c with
      | nil => exact ⟨H, hd, hs, hf⟩
      | cons x c =>
        exfalso
        obtain ⟨i, k⟩ := x
        obtain ⟨o, ho, h1, _⟩ := hg.good [] i k c rfl
        have : i ∈ Region.ready .any ops listed := mem_ready.2 ⟨(hm i).2 (by simp), o, ho, fun e he hb => by
          rcases h1 e he hb with h | h
          · exact h
          · simp at h⟩
        rw [hr] at this; cases this
    · obtain ⟨hun, oi, hoi, hpre⟩ := mem_ready.1 hi
      have hic := (hm i).1 hun
      obtain ⟨⟨i', k⟩, hmem, rfl⟩ := List.mem_map.1 hic
      obtain ⟨c1, c2, rfl⟩ := List.append_of_mem hmem
      dsimp only at hun hoi hi hic
      have hlt : i' < ops.size := (Array.getElem?_eq_some_iff.1 hoi).1
      -- nobody ahead of i' in the list is its ancestor
      have hna : ∀ x ∈ c1, anc M x.1 i' = false := by
        intro x hx
        cases hanc : anc M x.1 i' with
        | false => rfl
        | true =>
          exfalso
          have hxc : listed.getD x.1 true = false := (hm x.1).2 (List.mem_map.2 ⟨x, by simp [hx], rfl⟩)
          have hxl : x.1 < ops.size := by
            rw [← hsz]
            rcases Nat.lt_or_ge x.1 listed.size with h | h
            · exact h
            · simp [Array.getElem?_eq_none h] at hxc
          have h1 := (List.all_eq_true.1 hcl i' (by simpa using hlt))
          have h2 := List.all_eq_true.1 h1 x.1 (by simpa using hxl)
          simp only [hanc, Bool.not_true, Bool.false_or, hoi] at h2
          obtain ⟨e, he, hb⟩ := Array.any_eq_true'.1 h2
          simp only [Bool.and_eq_true, Bool.or_eq_true, beq_iff_eq] at hb
          have hl := hpre e he hb.1
          have : listed.getD x.1 false = true := by
            rcases hb.2 with h | h
            · rw [← h]; exact hl
            · exact hinv e.on hl x.1 hxl h
          have hxs : x.1 < listed.size := by omega
          simp [hxs] at this hxc
          rw [this] at hxc; cases hxc
      have hset : ∀ j, (listed.setIfInBounds i' true).getD j true = false ↔ j ∈ (c1 ++ c2).map (·.1) := by
        intro j
        by_cases hj : j = i'
        · subst hj
          have hjs : j < listed.size := by omega
          simp only [Array.getD_eq_getD_getElem?, Array.getElem?_setIfInBounds_self_of_lt hjs, Option.getD_some, Bool.true_eq_false, false_iff]
          intro hmm
          rw [List.map_append, List.map_cons] at hnd
          obtain ⟨_, n2, n3⟩ := List.nodup_append.1 hnd
          rw [List.map_append, List.mem_append] at hmm
          rcases hmm with h | h
          · exact n3 _ h _ List.mem_cons_self rfl
          · exact (List.nodup_cons.1 n2).1 h
        · rw [getD_set_ne true (Ne.symm hj), hm j]
          simp only [List.map_append, List.map_cons, List.mem_append, List.mem_cons]
          constructor
          · rintro (h | h | h)
            · exact .inl h
            · exact absurd h hj
            · exact .inr h
          · rintro (h | h)
            · exact .inl h
            · exact .inr (.inr h)
      have hself : (listed.setIfInBounds i' true).getD i' false = true := by
        have : i' < listed.size := by omega
        simp [this]
      have hgood : Good P ops M (fun i => (listed.setIfInBounds i' true).getD i false = true) (c1 ++ c2) :=
        hg.drop (fun x hx => getD_set_true hx) hself
      have hnd' : ((c1 ++ c2).map (·.1)).Nodup := by
        refine List.Nodup.sublist (List.Sublist.map _ ?_) hnd
        exact List.Sublist.append (List.Sublist.refl _) (List.sublist_cons_self _ _)
      have hsz' : (listed.setIfInBounds i' true).size = ops.size := by simpa using hsz
      have hinv' : ∀ j, (listed.setIfInBounds i' true).getD j false = true → ∀ x, x < ops.size → anc M x j = true → (listed.setIfInBounds i' true).getD x false = true := by
        intro j hj x hx hax
        by_cases hji : j = i'
        · subst hji
          have h1 := (List.all_eq_true.1 hcl j (by simpa using hlt))
          have h2 := List.all_eq_true.1 h1 x (by simpa using hx)
          simp only [hax, Bool.not_true, Bool.false_or, hoi] at h2
          obtain ⟨e, he, hb⟩ := Array.any_eq_true'.1 h2
          simp only [Bool.and_eq_true, Bool.or_eq_true, beq_iff_eq] at hb
          have hl := hpre e he hb.1
          rcases hb.2 with h | h
          · rw [← h]; exact getD_set_true hl
          · exact getD_set_true (hinv e.on hl x hx h)
        · rw [getD_set_ne false (Ne.symm hji)] at hj
          exact getD_set_true (hinv j hj x hx hax)
      have hlen' : (c1 ++ c2).length ≤ fuel := by simp at hlen ⊢; omega
      obtain ⟨o', ho', _, hfl, hef, _⟩ := hg.good c1 i' k c2 rfl
      rw [hoi] at ho'; cases ho'
      unfold wpOp
      simp only [hoi]
      by_cases hfi : isFloat P oi = true
      · have hn : neff P ops c1 ≤ k := by
          refine Nat.le_trans (Nat.le_of_eq ?_) (hfl hfi).1
          unfold neff
          congr 1
          apply List.filter_congr
          intro x hx
          simp only [isEff, hna x hx, Bool.not_false, Bool.and_true]
          cases ops[x.1]? <;> rfl
        have hap : ∀ x ∈ c1, ∀ oj, ops[x.1]? = some oj → oi.apart ops oj = true := fun x hx oj hoj => by
          rcases (hfl hfi).2 x hx with h | h
          · rw [hna x hx] at h; cases h
          · exact h oj hoj
        obtain ⟨r1, r2⟩ := dwp_pull hoi hfi (Region.noSelect_spec hsel) c1 hist a H ⟨w, hs⟩ hap hn hd
        by_cases hw : Region.wanted oi (yielded ops a.tmps) = true
        · rw [if_pos hw]
          obtain ⟨v, hv, hd'⟩ := r1 hw
          left
          unfold Oper.wp
          rw [hv H List.mem_cons_self w hs]
          exact ih _ (c1 ++ c2) hist _ _ w hgood hset hnd' hsz' hinv' hlen' hd' hs hf
        · rw [if_neg hw]
          have hd' := r2 (by simpa using hw)
          exact ih _ (c1 ++ c2) hist _ _ w hgood hset hnd' hsz' hinv' hlen' hd' hs hf
      · have hc1 : c1 = [] := by
          cases c1 with
          | nil => rfl
          | cons x c1 =>
            have h1 := hef (by simpa using hfi) x List.mem_cons_self
            rw [hna x List.mem_cons_self] at h1; cases h1
        subst hc1
        simp only [List.nil_append] at hd hgood hset hnd' hlen'
        unfold dwp at hd
        simp only [hoi] at hd
        by_cases hw : Region.wanted oi (yielded ops a.tmps) = true
        · rw [if_pos hw] at hd ⊢
          rw [if_neg hfi] at hd
          left
          refine Oper.wp_mono ?_ (hd.wp hs)
          rintro a' w' ⟨H', hd', hs', hf'⟩
          exact ih _ c2 _ a' H' w' hgood hset hnd' hsz' hinv' hlen' hd' hs' (hf.trans hf')
        · rw [if_neg hw] at hd ⊢
          exact ih _ c2 _ _ H w hgood hset hnd' hsz' hinv' hlen' hd hs hf

theorem HWp.drawn {id : Nat} {c : List (Nat × Nat)} {a : Act} {H : Heap} (hm : P.follows .mixedOrders = true) (hc : canonOk P ops M c = true) (h : dwp P ops (K .normal) c [] a H) : HWp P (.region id ops true) K a H := by
  intro w hs
  unfold canonOk at hc
  simp only [Bool.and_eq_true] at hc
  obtain ⟨⟨⟨⟨⟨h1, h2⟩, h3⟩, h4⟩, h5⟩, h6⟩ := hc
  refine wp_region_any hm ?_
  have hrep : ∀ j d, (Array.replicate ops.size false).getD j d = if j < ops.size then false else d := fun j d => by
    by_cases e : j < ops.size <;> simp [e]
  have hgd := good_of_check c [] h2
  have hmem : ∀ j, j < ops.size ↔ j ∈ c.map (·.1) := fun j => by
    constructor
    · intro hj
      have := List.all_eq_true.1 h3 j (by simpa using hj)
      simpa using this
    · intro hj
      obtain ⟨x, hx, rfl⟩ := List.mem_map.1 hj
      have := List.all_eq_true.1 h4 x hx
      simpa using this
  have hnd : (c.map (·.1)).Nodup := by
    have : ∀ (c : List (Nat × Nat)) (pre : List Nat), canonFrom P ops M pre c = true → (c.map (·.1)).Nodup ∧ ∀ x ∈ c.map (·.1), x ∉ pre := by
      intro c
      induction c with
      | nil => intro pre _; simp
      | cons x c ih =>
        obtain ⟨j, kj⟩ := x
        intro pre h
        unfold canonFrom at h
        simp only [Bool.and_eq_true] at h
        obtain ⟨⟨_, hnc⟩, h2⟩ := h
        obtain ⟨i1, i2⟩ := ih _ h2
        refine ⟨?_, ?_⟩
        · simp only [List.map_cons, List.nodup_cons]
          exact ⟨fun hm => by have := i2 _ hm; simp at this, i1⟩
        · intro x hx
          simp only [List.map_cons, List.mem_cons] at hx
          rcases hx with rfl | hx
          · simpa using hnc
          · have := i2 _ hx; simp at this; exact this.1
    exact (this c [] h2).1
  have hlen : c.length ≤ ops.size := of_decide_eq_true h6
  refine drawn_any h1 h5 ops.size _ c [] a H _ ?_ ?_ hnd (by simp) ?_ hlen h hs ?_
  · constructor
    intro c1 i k c2 he
    obtain ⟨o, ho, g1, g2, g3, g4⟩ := hgd c1 i k c2 he
    simp only [List.nil_append] at g1 g2 g3 g4
    refine ⟨o, ho, fun e he hb => .inr (g1 e he hb), fun hf => ⟨?_, fun x hx => ?_⟩, fun hf x hx => g3 hf _ (List.mem_map.2 ⟨x, hx, rfl⟩), g4⟩
    · have := (g2 hf).1
      rw [List.filter_map, List.length_map] at this
      exact this
    · exact (g2 hf).2 _ (List.mem_map.2 ⟨x, hx, rfl⟩)
  · intro j
    rw [hrep, ← hmem]
    by_cases e : j < ops.size <;> simp [e]
  · intro i hi
    rw [hrep] at hi
    by_cases e : i < ops.size <;> simp [e] at hi
  · exact ⟨rfl, rfl, rfl, Nat.le_refl _, fun _ _ _ => rfl, fun _ h h' => absurd h h'⟩
end
end Go.Proofs.Ytaobgofbhommcaa.Hv
