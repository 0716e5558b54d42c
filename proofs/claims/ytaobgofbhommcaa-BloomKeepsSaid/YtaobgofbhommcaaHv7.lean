import Derived.Test.YtaobgofbhommcaaHv6
namespace Go.Proofs.Ytaobgofbhommcaa.Hv
open Go
set_option linter.unusedVariables false
set_option linter.unusedSimpArgs false

/-! ## A frame's temporaries as a function -/
def E (n : Nat) (σ : Nat → Value) : Operand → Value
  | .tmp t => cond (Nat.blt t n) (σ t) undef
  | .const v => v
  | .global g => .pointer (some ⟨g, 0, none⟩)
  | .func f => .func (.func f) #[] #[]
def sput (σ : Nat → Value) (d : Option Tmp) (v : Value) : Nat → Value :=
  match d with
  | none => σ
  | some d => fun t => cond (Nat.beq t d) v (σ t)
/-- The temporaries as a list, the latest first; a look-up hands on what stands there (nothing unevaluated). -/
abbrev Env := List (Nat × Value)
def look : Env → Nat → (Value → Prop) → Prop
  | [], _, k => k undef
  | (s, v) :: σ, t, k => cond (Nat.beq t s) (k v) (look σ t k)
def sfun : Env → Nat → Value
  | [], _ => undef
  | (s, v) :: σ, t => cond (Nat.beq t s) v (sfun σ t)
theorem look_iff : ∀ (σ : Env) (t : Nat) (k : Value → Prop), look σ t k ↔ k (sfun σ t)
  | [], _, _ => Iff.rfl
  | (s, v) :: σ, t, k => by
    unfold look sfun
    cases Nat.beq t s with
    | true => exact Iff.rfl
    | false => exact look_iff σ t k
def eput (σ : Env) (d : Option Tmp) (v : Value) : Env := match d with | none => σ | some d => (d, v) :: σ
theorem sfun_eput (σ : Env) (d : Option Tmp) (v : Value) : sfun (eput σ d v) = sput (sfun σ) d v := by
  cases d with
  | none => rfl
  | some d => rfl
def EK (n : Nat) (σ : Env) : Operand → (Value → Prop) → Prop
  | .tmp t, k => cond (Nat.blt t n) (look σ t k) (k undef)
  | .const v, k => k v
  | .global g, k => k (.pointer (some ⟨g, 0, none⟩))
  | .func f, k => k (.func (.func f) #[] #[])
theorem EK_iff (n : Nat) (σ : Env) (x : Operand) (k : Value → Prop) : EK n σ x k ↔ k (E n (sfun σ) x) := by
  cases x with
  | tmp t =>
    show cond (Nat.blt t n) (look σ t k) (k undef) ↔ k (cond (Nat.blt t n) (sfun σ t) undef)
    cases Nat.blt t n with
    | true => exact look_iff σ t k
    | false => exact Iff.rfl
  | _ => exact Iff.rfl
def actOf (n : Nat) (σ : Nat → Value) : Act := { tmps := ((List.range n).map σ).toArray, defers := [] }

theorem blt_eq (t n : Nat) : Nat.blt t n = decide (t < n) := by
  cases h : Nat.blt t n with
  | false =>
    refine (decide_eq_false fun hl => ?_).symm
    rw [← Nat.blt_eq, h] at hl; cases hl
  | true =>
    refine (decide_eq_true ?_).symm
    rw [← Nat.blt_eq]; exact h
theorem actOf_get (n : Nat) (σ : Nat → Value) (t : Nat) : (actOf n σ).tmps[t]? = if t < n then some (σ t) else none := by
  unfold actOf
  by_cases h : t < n <;> simp [h]
theorem actOf_eval (n : Nat) (σ : Nat → Value) : (actOf n σ).eval = E n σ := by
  funext x
  cases x with
  | tmp t =>
    show (actOf n σ).tmps.getD t undef = cond (Nat.blt t n) (σ t) undef
    rw [Array.getD_eq_getD_getElem?, actOf_get, blt_eq]
    by_cases h : t < n <;> simp [h]
  | _ => rfl
theorem actOf_put (n : Nat) (σ : Nat → Value) (d : Option Tmp) (v : Value) : (actOf n σ).put d v = actOf n (sput σ d v) := by
  cases d with
  | none => rfl
  | some d =>
    unfold Act.put
    have : (actOf n σ).tmps.setIfInBounds d v = (actOf n (sput σ (some d) v)).tmps := by
      apply Array.ext_getElem?
      intro i
      rw [actOf_get]
      by_cases hd : i = d
      · subst hd
        have hsz : (actOf n σ).tmps.size = n := by simp [actOf]
        by_cases hn : i < n
        · rw [if_pos hn, Array.getElem?_setIfInBounds_self_of_lt (by omega)]
          simp [sput]
        · rw [if_neg hn, Array.getElem?_eq_none (by simp [hsz]; omega)]
      · rw [Array.getElem?_setIfInBounds_ne (Ne.symm hd), actOf_get]
        have : Nat.beq i d = false := Bool.eq_false_iff.2 fun e => hd (Nat.eq_of_beq_eq_true e)
        simp [sput, this]
    simp only [this]; rfl

/-! ## A region's operations -/
/-- The guard of an operation: performed, or skipped. -/
def dguard (n : Nat) (ops : List Oper) (o : Oper) (σ : Env) (yes no : Env → Prop) : Prop :=
  match o.guard with
  | none => yes σ
  | some (j, want) => match (nth ops j).bind (·.dst) with
    | none => no σ
    | some t => cond (Nat.blt t n) (look σ t fun v => match v with
      | .bool b => hcond b fun b' => cond (b' == want) (yes (eput σ (some t) (.bool b'))) (no (eput σ (some t) (.bool b')))
      | .tuple _ => no σ
      | _ => False) (no σ)

def dreg (P : Program) (n : Nat) (ops : List Oper) (K : Env → Heap → Prop) : List (Nat × Nat) → List Heap → Env → Heap → Prop
  | [], _, σ, H => K σ H
  | (i, k) :: rest, hist, σ, H => match nth ops i with
    | none => dreg P n ops K rest hist σ H
    | some o => dguard n ops o σ
        (fun σ => cond (isFloat P o)
          (fopC P (EK n σ) (H :: hist.take k) (fun v => dreg P n ops K rest hist (eput σ o.dst v) H) o.op)
          (eopC P (EK n σ) (E n (sfun σ)) o H (fun v H' => dreg P n ops K rest (H :: hist) (eput σ o.dst v) H')))
        (fun σ => dreg P n ops K rest hist (eput σ o.dst undef) H)

theorem sput_same (σ : Nat → Value) (t : Nat) (v : Value) (h : σ t = v) : sput σ (some t) v = σ := by
  funext x
  simp only [sput]
  cases e : Nat.beq x t with
  | false => rfl
  | true => have := Nat.eq_of_beq_eq_true e; subst this; exact h.symm

theorem dreg_sound {P : Program} {n : Nat} {ops : Array Oper} {K : Env → Heap → Prop} {K' : Act → Heap → Prop} (hk : ∀ σ H, K σ H → K' (actOf n (sfun σ)) H) :
    ∀ (c : List (Nat × Nat)) (hist : List Heap) (σ : Env) (s : Nat → Value) (H : Heap), sfun σ = s → dreg P n ops.toList K c hist σ H → dwp P ops K' c hist (actOf n s) H
  | [], _, σ, s, H, hse, h => by rw [← hse]; exact hk σ H h
  | (i, k) :: rest, hist, σ, s, H, hse, h => by
    subst hse
    unfold dreg at h
    unfold dwp
    rw [nth_eq, Array.getElem?_toList] at h
    cases ho : ops[i]? with
    | none => simp only [ho] at h ⊢; exact dreg_sound hk rest hist σ _ H rfl h
    | some o =>
      simp only [ho] at h ⊢
      have yes : ∀ σ : Env, (cond (isFloat P o) (fopC P (EK n σ) (H :: hist.take k) (fun v => dreg P n ops.toList K rest hist (eput σ o.dst v) H) o.op)
          (eopC P (EK n σ) (E n (sfun σ)) o H (fun v H' => dreg P n ops.toList K rest (H :: hist) (eput σ o.dst v) H'))) →
          (if isFloat P o = true then ∃ v, (∀ H' ∈ H :: hist.take k, Rds P (execOp (actOf n (sfun σ)).eval o) H' (.value v)) ∧ dwp P ops K' rest hist ((actOf n (sfun σ)).put o.dst v) H
           else HOp P o (fun a' H' => dwp P ops K' rest (H :: hist) a' H') (actOf n (sfun σ)) H) := by
        intro σ h
        cases hf : isFloat P o with
        | true =>
          rw [hf, cond_true, fopC_iff (EK_iff n σ)] at h
          obtain ⟨v, hd, hr⟩ := fop_sound o h
          rw [if_pos rfl]
          refine ⟨v, fun H' hm => by rw [actOf_eval]; exact hr H' hm, ?_⟩
          rw [actOf_put]
          exact dreg_sound hk rest hist _ _ H (sfun_eput _ _ _) hd
        | false =>
          rw [hf, cond_false, eopC_iff (EK_iff n σ)] at h
          rw [if_neg (by simp)]
          rw [← actOf_eval] at h
          refine eop_sound h fun v H' hd => ?_
          rw [actOf_put]
          exact dreg_sound hk rest _ _ _ H' (sfun_eput _ _ _) hd
      have no : ∀ σ : Env, dreg P n ops.toList K rest hist (eput σ o.dst undef) H → dwp P ops K' rest hist ((actOf n (sfun σ)).put o.dst undef) H := fun σ h => by
        rw [actOf_put]; exact dreg_sound hk rest hist _ _ H (sfun_eput _ _ _) h
      unfold dguard at h
      cases hg : o.guard with
      | none =>
        rw [hg] at h
        have hw : Region.wanted o (yielded ops (actOf n (sfun σ)).tmps) = true := by unfold Region.wanted; rw [hg]
        rw [if_pos hw]; exact yes σ h
      | some g =>
        obtain ⟨j, want⟩ := g
        rw [hg] at h
        simp only at h
        rw [nth_eq, Array.getElem?_toList] at h
        have hno : dreg P n ops.toList K rest hist (eput σ o.dst undef) H → yielded ops (actOf n (sfun σ)).tmps j ≠ some want →
            (if Region.wanted o (yielded ops (actOf n (sfun σ)).tmps) = true then
              (if isFloat P o = true then ∃ v, (∀ H' ∈ H :: hist.take k, Rds P (execOp (actOf n (sfun σ)).eval o) H' (.value v)) ∧ dwp P ops K' rest hist ((actOf n (sfun σ)).put o.dst v) H
               else HOp P o (fun a' H' => dwp P ops K' rest (H :: hist) a' H') (actOf n (sfun σ)) H)
            else dwp P ops K' rest hist ((actOf n (sfun σ)).put o.dst undef) H) := fun h hy => by
          have hw : ¬ Region.wanted o (yielded ops (actOf n (sfun σ)).tmps) = true := by
            unfold Region.wanted; rw [hg]; simpa using hy
          rw [if_neg hw]; exact no σ h
        cases ht : (ops[j]?).bind (·.dst) with
        | none =>
          rw [ht] at h
          exact hno h (by unfold yielded; rw [ht]; simp)
        | some t =>
          rw [ht] at h
          simp only at h
          rw [blt_eq, look_iff] at h
          by_cases htn : t < n
          · simp only [htn, decide_true, cond_true] at h
            have hyv : (actOf n (sfun σ)).tmps[t]? = some (sfun σ t) := by rw [actOf_get, if_pos htn]
            generalize hv : sfun σ t = v at h hyv
            cases v <;> simp only at h <;> try exact h.elim
            case bool b =>
              have h := hcond_elim h
              have e1 : sfun (eput σ (some t) (.bool b)) = sfun σ := by rw [sfun_eput]; exact sput_same _ t _ hv
              have hy : yielded ops (actOf n (sfun σ)).tmps j = some b := by
                unfold yielded; rw [ht]; simp [hyv]
              by_cases hb : b = want
              · subst hb
                simp only [beq_self_eq_true, cond_true] at h
                have hw : Region.wanted o (yielded ops (actOf n (sfun σ)).tmps) = true := by
                  unfold Region.wanted; rw [hg]; simp [hy]
                rw [if_pos hw]
                have := yes _ h
                rw [e1] at this
                exact this
              · have : (b == want) = false := by simpa using hb
                rw [this, cond_false] at h
                have hw : ¬ Region.wanted o (yielded ops (actOf n (sfun σ)).tmps) = true := by
                  unfold Region.wanted; rw [hg]; simpa [hy] using hb
                rw [if_neg hw]
                have := no _ h
                rw [e1] at this
                exact this
            case tuple vs =>
              exact hno h (by unfold yielded; rw [ht]; simp [hyv])
          · simp only [htn, decide_false, cond_false] at h
            have hyv : (actOf n (sfun σ)).tmps[t]? = none := by rw [actOf_get, if_neg htn]
            exact hno h (by unfold yielded; rw [ht]; simp [hyv])

/-! ## Code -/
def seqOf (cs : List (Nat × List (Nat × Nat))) (id : Nat) : List (Nat × Nat) :=
  match cs with
  | [] => []
  | (j, l) :: rest => cond (Nat.beq id j) l (seqOf rest id)
def upFrom : Nat → Nat → List (Nat × Nat)
  | _, 0 => []
  | i, n + 1 => (i, 0) :: upFrom (i + 1) n
theorem upFrom_eq (n : Nat) : ∀ i, upFrom i n = (List.range' i n).map fun j => (j, 0) := by
  induction n with
  | zero => intro i; rfl
  | succ n ih => intro i; rw [upFrom, ih, List.range'_succ]; rfl

def thenD (next : Env → Heap → Prop) (K : Exit → Env → Heap → Prop) : Exit → Env → Heap → Prop
  | .normal => next
  | e => K e
def blockD (id : Nat) (K : Exit → Env → Heap → Prop) : Exit → Env → Heap → Prop
  | .exit id' => cond (Nat.beq id' id) (K .normal) (K (.exit id'))
  | e => K e
structure HLoop (B : (Env → Heap → Prop) → Env → Heap → Prop) (σ : Env) (H : Heap) : Prop where
  ex : ∃ I : Nat → Env → Heap → Prop, (∃ m, I m σ H) ∧ ∀ m σ H, I m σ H → B (fun σ' H' => ∃ m', m' < m ∧ I m' σ' H') σ H

def dcode (P : Program) (n : Nat) (cs : List (Nat × List (Nat × Nat))) : Code → (Exit → Env → Heap → Prop) → Env → Heap → Prop
  | .skip, K, σ, H => K .normal σ H
  | .label _, K, σ, H => K .normal σ H
  | .exit id, K, σ, H => K (.exit id) σ H
  | .ret, K, σ, H => K .ret σ H
  | .region id ops draw, K, σ, H => dreg P n ops.toList (K .normal) (cond draw (seqOf cs id) (upFrom 0 ops.toList.length)) [] σ H
  | .seq a b, K, σ, H => dcode P n cs a (thenD (dcode P n cs b K) K) σ H
  | .cond c x y, K, σ, H => EK n σ c fun v => (match v with
    | .bool t => hcond t fun b => cond b (dcode P n cs x K σ H) (dcode P n cs y K σ H)
    | _ => False)
  | .block id c, K, σ, H => dcode P n cs c (blockD id K) σ H
  | .loop c, K, σ, H => HLoop (fun KN σ' H' => dcode P n cs c (thenD KN K) σ' H') σ H
  | _, _, _, _ => False

/-- The regions that draw stand in the list of canonical orders. -/
def codeOk (P : Program) (cs : List (Nat × List (Nat × Nat))) : Code → Bool
  | .region id ops true => canonOk P ops (Region.before ops) (seqOf cs id)
  | .seq a b => codeOk P cs a && codeOk P cs b
  | .cond _ x y => codeOk P cs x && codeOk P cs y
  | .block _ c => codeOk P cs c
  | .loop c => codeOk P cs c
  | _ => true

theorem dcode_sound {P : Program} {n : Nat} {cs : List (Nat × List (Nat × Nat))} (hm : P.follows .mixedOrders = true) :
    ∀ (c : Code) (K : Exit → Env → Heap → Prop) (K' : Exit → Act → Heap → Prop), codeOk P cs c = true → (∀ e σ H, K e σ H → K' e (actOf n (sfun σ)) H) →
      ∀ (σ : Env) (H : Heap), dcode P n cs c K σ H → HWp P c K' (actOf n (sfun σ)) H := by
  intro c
  induction c with
  | skip => intro K K' _ hk σ H h; exact HWp.skip (hk _ _ _ h)
  | label l => intro K K' _ hk σ H h; exact HWp.label (hk _ _ _ h)
  | exit id => intro K K' _ hk σ H h; exact HWp.exit (hk _ _ _ h)
  | ret => intro K K' _ hk σ H h; exact HWp.ret (hk _ _ _ h)
  | region id ops draw =>
    intro K K' ok hk σ H h
    unfold dcode at h
    cases draw with
    | false =>
      rw [cond_false] at h
      refine HWp.region ?_
      have := dreg_sound (K' := K' .normal) (hk .normal) _ [] σ _ H rfl h
      rw [upFrom_eq, ← List.range_eq_range', Array.length_toList] at this
      exact this
    | true =>
      rw [cond_true] at h
      exact HWp.drawn hm ok (dreg_sound (K' := K' .normal) (hk .normal) _ [] σ _ H rfl h)
  | seq a b iha ihb =>
    intro K K' ok hk σ H h
    unfold codeOk at ok
    simp only [Bool.and_eq_true] at ok
    unfold dcode at h
    refine HWp.seq (iha _ _ ok.1 ?_ σ H h)
    intro e σ H h
    cases e <;> first | exact ihb K K' ok.2 hk σ H h | exact hk _ _ _ h
  | cond c x y ihx ihy =>
    intro K K' ok hk σ H h
    unfold codeOk at ok
    simp only [Bool.and_eq_true] at ok
    unfold dcode at h
    rw [EK_iff] at h
    generalize hv : E n (sfun σ) c = v at h
    cases v <;> try exact h.elim
    rename_i t
    refine HWp.cond (t := t) (by rw [actOf_eval]; exact hv) (fun ht => ?_) (fun hf => ?_)
    · subst ht; exact ihx K K' ok.1 hk σ H h
    · subst hf; exact ihy K K' ok.2 hk σ H h
  | block id c ih =>
    intro K K' ok hk σ H h
    unfold codeOk at ok
    unfold dcode at h
    refine HWp.block (ih _ _ ok ?_ σ H h)
    intro e σ H h
    cases e <;> try exact hk _ _ _ h
    rename_i id'
    unfold blockD at h
    unfold blockK
    simp only at h ⊢
    by_cases e : id' = id
    · rw [if_pos e]
      have : Nat.beq id' id = true := by rw [e]; exact Nat.beq_refl id
      rw [this] at h; exact hk _ _ _ h
    · rw [if_neg e]
      have : Nat.beq id' id = false := Bool.eq_false_iff.2 fun e' => e (Nat.eq_of_beq_eq_true e')
      rw [this] at h; exact hk _ _ _ h
  | loop c ih =>
    intro K K' ok hk σ H h
    unfold codeOk at ok
    unfold dcode at h
    obtain ⟨I, h0, hr⟩ := h
    refine HWp.loop (fun m a H => ∃ σ, a = actOf n (sfun σ) ∧ I m σ H) ?_ ?_
    · obtain ⟨m, hm⟩ := h0; exact ⟨m, σ, rfl, hm⟩
    · rintro m a H ⟨σ, rfl, hI⟩
      refine ih _ _ ok ?_ σ H (hr m σ H hI)
      intro e σ' H' h'
      cases e <;> first | exact hk _ _ _ h' | skip
      obtain ⟨m', hlt, hI'⟩ := h'
      exact ⟨m', hlt, σ', rfl, hI'⟩
  | _ => intro K K' ok hk σ H h; exact h.elim

/-! ## Functions -/
def dres (P : Program) (n : Nat) (σ : Env) (H : Heap) : List ResultVar → (List Value → Prop) → Prop
  | [], k => k []
  | .tmp t :: rs, k => EK n σ (.tmp t) fun v => dres P n σ H rs fun vs => k (v :: vs)
  | .cell a t :: rs, k => EK n σ (.tmp a) fun va => (match va with
    | .pointer (some ⟨b, off, none⟩) => (match isAggB P t, P.info? t with
      | some true, some i => HLoadN [H] b off i.size fun cs => dres P n σ H rs fun vs => k (.agg cs.toArray :: vs)
      | some false, _ => HLoad [H] ⟨b, off, none⟩ fun v => dres P n σ H rs fun vs => k (v :: vs)
      | _, _ => False)
    | _ => False)
def oneOr (vs : List Value) : Value := match vs with | [v] => v | vs => .tuple vs.toArray
def retD (P : Program) (fn : Func) (K : Value → Heap → Prop) : Exit → Env → Heap → Prop
  | .normal, σ, H | .ret, σ, H => dres P fn.ntmps σ H fn.results.toList fun vs => K (oneOr vs) H
  | _, _, _ => False
def argsFrom : Nat → List Value → Env
  | _, [] => []
  | i, v :: vs => (i, v) :: argsFrom (i + 1) vs
theorem sfun_argsFrom : ∀ (vs : List Value) (i t : Nat), sfun (argsFrom i vs) t = if i ≤ t then (vs[t - i]?).getD undef else undef
  | [], i, t => by simp [argsFrom, sfun]
  | v :: vs, i, t => by
    unfold argsFrom sfun
    cases e : Nat.beq t i with
    | true => have := Nat.eq_of_beq_eq_true e; subst this; simp
    | false =>
      rw [cond_false, sfun_argsFrom vs (i + 1) t]
      have hne : t ≠ i := fun h => by subst h; simp at e
      by_cases h : i ≤ t
      · have h1 : i + 1 ≤ t := by omega
        rw [if_pos h, if_pos h1]
        have : t - i = (t - (i + 1)) + 1 := by omega
        rw [this]; simp
      · rw [if_neg h, if_neg (by omega)]

def resF (tmps : Array Value) : ResultVar → Sem Value
  | .tmp t => pure (tmps.getD t undef)
  | .cell a t => do loadVar t (← asAddr (tmps.getD a undef))
theorem results_eq (fn : Func) (tmps : Array Value) : results fn tmps = (do
    let vs ← fn.results.mapM (resF tmps)
    pure (if h : vs.size = 1 then vs[0] else .tuple vs)) := rfl
theorem dres_sound {P : Program} {n : Nat} {σ : Env} {H : Heap} : ∀ (rs : List ResultVar) (k : List Value → Prop), dres P n σ H rs k →
    ∃ vs, k vs ∧ ∀ w, Sat H w → (rs.mapM (resF (actOf n (sfun σ)).tmps)).run P w = .ok vs w
  | [], k, h => ⟨[], h, fun w _ => by simp⟩
  | .tmp t :: rs, k, h => by
    unfold dres at h
    rw [EK_iff] at h
    obtain ⟨vs, hk, hr⟩ := dres_sound rs _ h
    refine ⟨_, hk, fun w hs => ?_⟩
    have he : (actOf n (sfun σ)).tmps.getD t undef = E n (sfun σ) (.tmp t) := by rw [← actOf_eval]; rfl
    simp only [List.mapM_cons, resF, Sem.run_bind, Sem.run_pure, Result.andThen_ok, he]
    rw [hr w hs]; rfl
  | .cell a t :: rs, k, h => by
    unfold dres at h
    rw [EK_iff] at h
    split at h
    · rename_i b off ha
      have he : (actOf n (sfun σ)).tmps.getD a undef = .pointer (some ⟨b, off, none⟩) := by rw [← ha, ← actOf_eval]; rfl
      have : ∃ r, (dres P n σ H rs fun vs => k (r :: vs)) ∧ ∀ H' ∈ [H], Rds P (loadVar t ⟨b, off, none⟩) H' r := by
        refine loadVar_sound (K := fun r => dres P n σ H rs fun vs => k (r :: vs)) ?_
        exact h
      obtain ⟨r, hd, hl⟩ := this
      obtain ⟨vs, hk, hr⟩ := dres_sound rs _ hd
      refine ⟨_, hk, fun w hs => ?_⟩
      have haddr : (asAddr (.pointer (some ⟨b, off, none⟩))).run P w = .ok ⟨b, off, none⟩ w := rfl
      simp only [List.mapM_cons, resF, Sem.run_bind, Sem.run_pure, Result.andThen_ok, he, haddr, hl H (by simp) w hs]
      rw [hr w hs]; rfl
    · exact h.elim

theorem hcalls_of_dcode {P : Program} {f : FuncId} {fn : Func} {c : Code} {args : List Value} {H : Heap} {K : Value → Heap → Prop} {cs : List (Nat × List (Nat × Nat))}
    (hm : P.follows .mixedOrders = true) (hf : P.funcs[f]? = some fn) (hb : fn.body = some c) (hn : Nat.ble args.length fn.ntmps = true) (ok : codeOk P cs c = true)
    (h : dcode P fn.ntmps cs c (retD P fn K) (argsFrom 0 args) H) : HCalls P f args H K := by
  intro w hs
  refine calls_of_wp hf hb ?_
  have hn' := Nat.le_of_ble_eq_true hn
  have hact : ({ tmps := args.toArray ++ Array.replicate (fn.ntmps - args.toArray.size) undef, defers := [] } : Act) = actOf fn.ntmps (sfun (argsFrom 0 args)) := by
    unfold actOf
    congr 1
    apply Array.ext_getElem?
    intro i
    rw [Array.getElem?_append]
    simp only [List.size_toArray]
    by_cases h1 : i < args.length
    · have : i < fn.ntmps := by omega
      simp [h1, this, sfun_argsFrom]
    · by_cases h2 : i < fn.ntmps
      · have : i - args.length < fn.ntmps - args.length := by omega
        simp [h1, h2, this, sfun_argsFrom]
      · have : ¬ i - args.length < fn.ntmps - args.length := by omega
        simp [h1, h2, this]
  rw [hact]
  have := dcode_sound hm c (retD P fn K) (fun e a H' => ∃ σ, a = actOf fn.ntmps (sfun σ) ∧ retD P fn K e σ H') ok (fun e σ H h => ⟨σ, rfl, h⟩) _ H h w hs
  refine wp_mono this fun e a' w' ⟨H', ⟨σ, ha, hr⟩, hs', hfr⟩ => ?_
  subst ha
  have key : dres P fn.ntmps σ H' fn.results.toList (fun vs => K (oneOr vs) H') → ∃ v, (results fn (actOf fn.ntmps (sfun σ)).tmps).run P w' = .ok v w' ∧ ∃ v' H'', Ending.returned v = Ending.returned v' ∧ K v' H'' ∧ Sat H'' w' ∧ Fr H H'' w w' := by
    intro hd
    obtain ⟨vs, hk, hrun⟩ := dres_sound _ _ hd
    refine ⟨oneOr vs, ?_, oneOr vs, H', rfl, hk, hs', hfr⟩
    rw [results_eq, Array.mapM_eq_mapM_toList]
    have h1 := hrun w' hs'
    simp only [Sem.run_bind, map_eq_pure_bind]
    rw [h1]
    simp only [Result.andThen_ok, Sem.run_pure]
    unfold oneOr
    match vs with
    | [] => rfl
    | [v] => rfl
    | v :: u :: l => rfl
  cases e with
  | normal => exact ⟨rfl, key hr⟩
  | ret => exact ⟨rfl, key hr⟩
  | _ => exact hr.elim
end Go.Proofs.Ytaobgofbhommcaa.Hv
