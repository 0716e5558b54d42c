import Derived.Test.YtaobgofbhommcaaHv7
namespace Go.Proofs.Ytaobgofbhommcaa.Hv
open Go
set_option linter.unusedVariables false
set_option linter.unusedSimpArgs false

section
variable {P : Program} {ρ : Operand → Value} {Hs : List Heap} {K K' : Value → Prop}
theorem forceL_mono {l : List Value} {k k' : List Value → Prop} (hk : ∀ x, k x → k' x) (h : forceL l k) : forceL l k' := (forceL_iff _ _).2 (hk _ ((forceL_iff _ _).1 h))
theorem hcond_mono {t : Bool} {K K' : Bool → Prop} (hk : ∀ b, K b → K' b) (h : hcond t K) : hcond t K' := by cases t <;> exact hk _ h
theorem hcond_t_of {t : Bool} {K : Bool → Prop} (h : K t) : hcond t K := by cases t <;> exact h
theorem cond_mono {b : Bool} {p p' q q' : Prop} (h1 : p → p') (h2 : q → q') (h : cond b p q) : cond b p' q' := by cases b <;> first | exact h1 h | exact h2 h
theorem fbin_mono (hk : ∀ v, K v → K' v) {op : BinOp} {t : TypeId} {x y : Operand} {u v : Value} (h : fbin P op t x y K u v) : fbin P op t x y K' u v := by
  unfold fbin at h ⊢
  split at h
  · cases op <;> first
      | exact ⟨h.1, hk _ h.2⟩
      | (refine cond_mono (fun h => ?_) id h; first | exact hk _ h | exact ⟨h.1, hk _ h.2⟩ | exact h.elim)
  · cases op <;> first | exact h.elim | exact ⟨h.1, hk _ h.2⟩ | exact hk _ h
  · split at h <;> first | exact h.elim | exact hk _ h
  · split at h <;> first | exact h.elim | exact hk _ h
  · split at h <;> first | exact h.elim | exact hk _ h
  · obtain ⟨r, h1, h2⟩ := h; exact ⟨r, hk _ h1, h2⟩
theorem fconv_mono (hk : ∀ v, K v → K' v) {src dst : TypeId} {v : Value} (h : fconv P Hs src dst v K) : fconv P Hs src dst v K' := by
  unfold fconv at h ⊢
  split at h
  · exact hk _ h
  · exact hk _ h
  · split at h
    · obtain ⟨s, h1, h2, h3, h4⟩ := h; exact ⟨s, h1, h2, h3, hk _ h4⟩
    · exact h.elim
  · exact h.elim
theorem fslice3_mono (hk : ∀ v, K v → K' v) {t : TypeId} {v mx : Value} {lo hi : Option Value} (h : fslice3 P t v lo hi mx K) : fslice3 P t v lo hi mx K' := by
  unfold fslice3 at h ⊢
  split at h
  · split at h
    · exact ⟨h.1, hk _ h.2⟩
    · exact h.elim
  · exact h.elim
theorem fslice_mono (hk : ∀ v, K v → K' v) {t : TypeId} {v : Value} {lo hi : Option Value} (h : fslice P t v lo hi K) : fslice P t v lo hi K' := by
  unfold fslice at h ⊢
  split at h
  · cases hi with
    | none =>
      cases lo with
      | none => exact hk _ h
      | some l => cases l <;> first | exact h.elim | exact ⟨h.1, hk _ h.2⟩
    | some x =>
      cases x <;> try exact h.elim
      refine ⟨h.1, ?_⟩
      have h := h.2
      cases lo with
      | none => exact hk _ h
      | some l => cases l <;> first | exact h.elim | exact ⟨h.1, hk _ h.2⟩
  · split at h
    · exact h.elim
    · cases hi with
      | none =>
        cases lo with
        | none => exact hk _ h
        | some l => cases l <;> first | exact h.elim | exact ⟨h.1, hk _ h.2⟩
      | some x =>
        cases x <;> try exact h.elim
        refine ⟨h.1, ?_⟩
        have h := h.2
        cases lo with
        | none => exact hk _ h
        | some l => cases l <;> first | exact h.elim | exact ⟨h.1, hk _ h.2⟩
  · exact h.elim
theorem fpart_mono (hk : ∀ v, K v → K' v) {t : TypeId} {cs : List Value} {off : Nat} (h : fpart P t cs off K) : fpart P t cs off K' := by
  unfold fpart at h ⊢
  split at h
  · exact forceL_mono (fun _ => hk _) h
  · split at h
    · exact hk _ h
    · exact h.elim
  · exact h.elim
theorem findex_mono (hk : ∀ v, K v → K' v) {t : TypeId} {u v : Value} (h : findex P t u v K) : findex P t u v K' := by
  unfold findex at h ⊢
  split at h
  · exact ⟨h.1, hk _ h.2⟩
  · split at h
    · exact ⟨h.1, hk _ h.2⟩
    · exact h.elim
  · exact h.elim
theorem findexAddr_mono (hk : ∀ v, K v → K' v) {t : TypeId} {u v : Value} (h : findexAddr P t u v K) : findexAddr P t u v K' := by
  unfold findexAddr at h ⊢
  split at h
  · split at h
    · exact ⟨h.1, hk _ h.2⟩
    · exact h.elim
  · split at h
    · exact ⟨h.1, hk _ h.2⟩
    · exact h.elim
  · exact h.elim
theorem fmax_mono (hk : ∀ v, K v → K' v) {b : Builtin} {l : List Value} (h : fmax b K l) : fmax b K' l := by
  unfold fmax at h ⊢
  split at h
  · split at h <;> first | exact hk _ h | exact h.elim
  · exact h.elim
theorem fop_mono (hk : ∀ v, K v → K' v) {op : Op} (h : fop P ρ Hs K op) : fop P ρ Hs K' op := by
  unfold fop at h ⊢
  split at h
  · exact hk _ h
  · exact hk _ h
  · split at h
    · exact hk _ h
    · exact hk _ h
    · exact h.elim
  · split at h
    · split at h
      · obtain ⟨vs, h1, h2, h3⟩ := h; exact ⟨vs, h1, h2, hk _ h3⟩
      · obtain ⟨v, h1, h2⟩ := h; exact ⟨v, h1, hk _ h2⟩
      · exact h.elim
    · exact h.elim
  · split at h <;> first | exact h.elim | exact hk _ h
  · exact fbin_mono hk h
  · split at h <;> first | exact h.elim | exact hk _ h
  · exact fconv_mono hk h
  · split at h
    · exact h.elim
    · exact hk _ h
    · exact h.elim
  · exact hk _ h
  · exact fslice_mono hk h
  · exact fslice3_mono hk h
  · split at h
    · split at h
      · split at h
        · exact cond_mono id (hk _) h
        · exact h.elim
      · exact h.elim
    · exact h.elim
  · split at h
    · split at h
      · exact fpart_mono hk h
      · exact h.elim
    · exact h.elim
  · exact findexAddr_mono hk h
  · exact findex_mono hk h
  · split at h
    · split at h
      · exact hk _ h
      · exact h.elim
    · exact h.elim
  · split at h
    · exact forceL_mono (fun _ => hk _) h
    · exact h.elim
  · obtain ⟨v, h1, h2⟩ := h; exact ⟨v, h1, hk _ h2⟩
  · obtain ⟨v, h1, h2⟩ := h; exact ⟨v, h1, hk _ h2⟩
  · split at h <;> first | exact h.elim | exact hk _ h | (obtain ⟨v, h1, h2⟩ := h; exact ⟨v, h1, hk _ h2⟩)
  · exact fmax_mono hk h
  · exact fmax_mono hk h
  · exact h.elim
end

section
variable {P : Program}
theorem storeN_mono {b off : Nat} {K K' : Heap → Prop} (hk : ∀ H, K H → K' H) : ∀ (vs : List Value) (H : Heap) (i : Nat), storeN H b off i K vs → storeN H b off i K' vs
  | [], H, i, h => hk _ h
  | v :: vs, H, i, h => ⟨h.plain, h.ex, h.fz, storeN_mono hk vs _ _ h.post⟩
theorem eop_mono {ρ : Operand → Value} {o : Oper} {H : Heap} {K K' : Value → Heap → Prop} (hk : ∀ v H, K v H → K' v H) (h : eop P ρ o H K) : eop P ρ o H K' := by
  unfold eop at h ⊢
  split at h
  · split at h
    · split at h
      · exact forceL_mono (fun l hl => ⟨fun b hb => hk _ _ (hl.all b hb)⟩) h
      · exact h.elim
    · exact h.elim
  · exact forceL_mono (fun l hl => ⟨fun b hb => hk _ _ (hl.all b hb)⟩) h
  · split at h
    · split at h
      · split at h
        · refine ⟨h.pre, ?_⟩
          refine cond_mono (fun h => ?_) id h.post
          split at h
          · exact forceL_mono (fun l hl => ⟨fun b hb => hk _ _ (hl.all b hb)⟩) h
          · exact h.elim
        · exact h.elim
      · exact h.elim
    · exact h.elim
  · split at h
    · exact cond_mono (storeN_mono (hk _) _ _ _) id h
    · exact h.elim
  · split at h
    · split at h
      · split at h
        · exact cond_mono (fun h => ⟨h.pre, ⟨fun b hb => hk _ _ (h.post.all b hb)⟩⟩) id h
        · exact h.elim
      · exact h.elim
    · exact h.elim
  · split at h
    · exact ⟨h.ok, h.calls.mono hk⟩
    · exact h.elim
  · exact h.mono hk
  · exact h.mono hk
  · exact h.mono hk
  · exact h.mono hk
  · exact h.mono hk
  · exact h.mono (hk _)
  · exact h.mono hk
  · exact h.mono hk
  · exact h.mono hk
  · exact h.mono hk
  · constructor
    intro w hs
    have h1 := h.sem w hs
    generalize (execOp ρ o).run P w = r at *
    cases r with
    | halt x w' => exact h1.elim
    | ok x w1 =>
      cases x with
      | value v => obtain ⟨H', k, s, f⟩ := h1; exact ⟨H', hk _ _ k, s, f⟩
      | skip => obtain ⟨H', k, s, f⟩ := h1; exact ⟨H', hk _ _ k, s, f⟩
      | enter f args => obtain ⟨H', k, s, f⟩ := h1; exact ⟨H', k.mono hk, s, f⟩
      | _ => exact h1.elim

def memB (l : List Nat) (t : Nat) : Bool := match l with | [] => false | x :: l => cond (Nat.beq t x) true (memB l t)
theorem memB_eq (l : List Nat) (t : Nat) : memB l t = true ↔ t ∈ l := by
  induction l with
  | nil => simp [memB]
  | cons x l ih =>
    unfold memB
    cases e : Nat.beq t x with
    | true => simp [Nat.eq_of_beq_eq_true e]
    | false =>
      rw [cond_false, ih]
      have : t ≠ x := fun h => by subst h; simp at e
      simp [this]
def dstIn (mods : List Nat) (d : Option Tmp) : Bool := match d with | none => true | some d => memB mods d
def codeD (okd : Option Tmp → Bool) : Code → Bool
  | .region _ ops _ => ops.toList.all fun o => okd o.dst
  | .seq a b => codeD okd a && codeD okd b
  | .cond _ x y => codeD okd x && codeD okd y
  | .block _ c => codeD okd c
  | .loop c => codeD okd c
  | _ => true
def codeIn (mods : List Nat) (c : Code) : Bool := codeD (dstIn mods) c
theorem codeD_true : ∀ c : Code, codeD (fun _ => true) c = true := by
  intro c
  induction c <;> simp_all [codeD]

variable {n : Nat} {cs : List (Nat × List (Nat × Nat))} {mods : List Nat} {σ0 : Env}
theorem nth_mem {α : Type} : ∀ {l : List α} {i : Nat} {x : α}, nth l i = some x → x ∈ l
  | [], i, x, h => by simp [nth] at h
  | y :: l, 0, x, h => by simp [nth] at h; subst h; exact List.mem_cons_self
  | y :: l, i + 1, x, h => List.mem_cons_of_mem _ (nth_mem (l := l) h)
def Same (mods : List Nat) (σ0 σ : Env) : Prop := ∀ t, memB mods t = false → sfun σ t = sfun σ0 t
theorem Same.put {σ : Env} (h : Same mods σ0 σ) {d : Option Tmp} (ho : dstIn mods d = true) (v : Value) : Same mods σ0 (eput σ d v) := by
  intro t ht
  rw [sfun_eput]
  cases d with
  | none => exact h t ht
  | some d =>
    have ho : memB mods d = true := ho
    have : Nat.beq t d = false := Bool.eq_false_iff.2 fun e => by
      have := Nat.eq_of_beq_eq_true e
      subst this; rw [ht] at ho; cases ho
    simp only [sput, this, cond_false]
    exact h t ht
/-- Two lists for one frame. -/
def Alike (σ σ' : Env) : Prop := sfun σ = sfun σ'
theorem Alike.put {σ σ' : Env} (h : Alike σ σ') (d : Option Tmp) (v : Value) : Alike (eput σ d v) (eput σ' d v) := by
  unfold Alike at *; rw [sfun_eput, sfun_eput, h]

theorem dreg_rel {okd : Option Tmp → Bool} {S : Env → Prop} (hput : ∀ σ d v, okd d = true → S σ → S (eput σ d v)) (hsame : ∀ σ t v, sfun σ t = v → S σ → S (eput σ (some t) v)) {ops : List Oper} {K K' : Env → Heap → Prop} (hin : (ops.all fun o => okd o.dst) = true) (hk : ∀ σ σ' H, Alike σ σ' → S σ' → K σ H → K' σ' H) :
    ∀ (c : List (Nat × Nat)) (hist : List Heap) (σ σ' : Env) (H : Heap), Alike σ σ' → S σ' → dreg P n ops K c hist σ H → dreg P n ops K' c hist σ' H
  | [], _, σ, σ', H, ha, hs, h => hk σ σ' H ha hs h
  | (i, k) :: rest, hist, σ, σ', H, ha, hs, h => by
    unfold dreg at h ⊢
    cases ho : nth ops i with
    | none => rw [ho] at h; exact dreg_rel hput hsame hin hk rest hist σ σ' H ha hs h
    | some o =>
      rw [ho] at h
      simp only at h ⊢
      have hoin : okd o.dst = true := by
        have := List.all_eq_true.1 hin o (nth_mem ho); exact this
      have yes : ∀ σ σ' : Env, Alike σ σ' → S σ' → (cond (isFloat P o) (fopC P (EK n σ) (H :: hist.take k) (fun v => dreg P n ops K rest hist (eput σ o.dst v) H) o.op)
          (eopC P (EK n σ) (E n (sfun σ)) o H (fun v H' => dreg P n ops K rest (H :: hist) (eput σ o.dst v) H'))) →
          (cond (isFloat P o) (fopC P (EK n σ') (H :: hist.take k) (fun v => dreg P n ops K' rest hist (eput σ' o.dst v) H) o.op)
          (eopC P (EK n σ') (E n (sfun σ')) o H (fun v H' => dreg P n ops K' rest (H :: hist) (eput σ' o.dst v) H'))) := fun σ σ' ha hs h => by
        rw [fopC_iff (EK_iff n σ), eopC_iff (EK_iff n σ)] at h
        rw [fopC_iff (EK_iff n σ'), eopC_iff (EK_iff n σ')]
        unfold Alike at ha
        rw [ha] at h
        exact cond_mono (fop_mono fun v hd => dreg_rel hput hsame hin hk rest hist _ _ H (Alike.put ha _ _) (hput _ _ v hoin hs) hd) (eop_mono fun v H' hd => dreg_rel hput hsame hin hk rest _ _ _ H' (Alike.put ha _ _) (hput _ _ v hoin hs) hd) h
      have no : ∀ σ σ' : Env, Alike σ σ' → S σ' → dreg P n ops K rest hist (eput σ o.dst undef) H → dreg P n ops K' rest hist (eput σ' o.dst undef) H := fun σ σ' ha hs h =>
        dreg_rel hput hsame hin hk rest hist _ _ H (ha.put _ _) (hput _ _ undef hoin hs) h
      unfold dguard at h ⊢
      split at h
      · exact yes σ σ' ha hs h
      · split at h
        · exact no σ σ' ha hs h
        · refine cond_mono (fun h => ?_) (no σ σ' ha hs) h
          rw [look_iff] at h ⊢
          have ha' : sfun σ = sfun σ' := ha
          rw [ha'] at h
          split at h
          · rename_i b hb
            have h := hcond_elim h
            exact hcond_t_of (cond_mono (yes _ _ (ha.put _ _) (hsame _ _ _ hb hs)) (no _ _ (ha.put _ _) (hsame _ _ _ hb hs)) h)
          · exact no σ σ' ha hs h
          · exact h.elim

theorem dcode_rel {okd : Option Tmp → Bool} {S : Env → Prop} (hput : ∀ σ d v, okd d = true → S σ → S (eput σ d v)) (hsame : ∀ σ t v, sfun σ t = v → S σ → S (eput σ (some t) v)) : ∀ (c : Code) {K K' : Exit → Env → Heap → Prop}, codeD okd c = true → (∀ e σ σ' H, Alike σ σ' → S σ' → K e σ H → K' e σ' H) →
    ∀ (σ σ' : Env) (H : Heap), Alike σ σ' → S σ' → dcode P n cs c K σ H → dcode P n cs c K' σ' H := by
  intro c
  induction c with
  | skip => intro K K' _ hk σ σ' H ha hs h; exact hk _ _ _ _ ha hs h
  | label l => intro K K' _ hk σ σ' H ha hs h; exact hk _ _ _ _ ha hs h
  | exit id => intro K K' _ hk σ σ' H ha hs h; exact hk _ _ _ _ ha hs h
  | ret => intro K K' _ hk σ σ' H ha hs h; exact hk _ _ _ _ ha hs h
  | region id ops draw =>
    intro K K' hin hk σ σ' H ha hs h
    unfold dcode at h ⊢
    exact dreg_rel hput hsame hin (hk .normal) _ _ σ σ' H ha hs h
  | seq a b iha ihb =>
    intro K K' hin hk σ σ' H ha hs h
    unfold codeD at hin
    simp only [Bool.and_eq_true] at hin
    unfold dcode at h ⊢
    refine iha hin.1 ?_ σ σ' H ha hs h
    intro e σ σ' H ha hs h
    cases e <;> first | exact ihb hin.2 hk σ σ' H ha hs h | exact hk _ _ _ _ ha hs h
  | cond c x y ihx ihy =>
    intro K K' hin hk σ σ' H ha hs h
    unfold codeD at hin
    simp only [Bool.and_eq_true] at hin
    unfold dcode at h ⊢
    rw [EK_iff] at h ⊢
    have ha' : sfun σ = sfun σ' := ha
    rw [ha'] at h
    split at h
    · exact hcond_mono (fun b => cond_mono (ihx hin.1 hk σ σ' H ha hs) (ihy hin.2 hk σ σ' H ha hs)) h
    · exact h.elim
  | block id c ih =>
    intro K K' hin hk σ σ' H ha hs h
    unfold codeD at hin
    unfold dcode at h ⊢
    refine ih hin ?_ σ σ' H ha hs h
    intro e σ σ' H ha hs h
    cases e <;> try exact hk _ _ _ _ ha hs h
    rename_i id'
    unfold blockD at h ⊢
    simp only at h ⊢
    cases hb : Nat.beq id' id with
    | true => rw [hb] at h; exact hk _ _ _ _ ha hs h
    | false => rw [hb] at h; exact hk _ _ _ _ ha hs h
  | loop c ih =>
    intro K K' hin hk σ σ' H ha hs h
    unfold codeD at hin
    unfold dcode at h ⊢
    obtain ⟨I, ⟨m, h0⟩, hr⟩ := h
    refine ⟨fun m τ' H => ∃ τ, I m τ H ∧ Alike τ τ' ∧ S τ', ⟨m, σ, h0, ha, hs⟩, ?_⟩
    rintro m τ' H ⟨τ, hI, ha, hs⟩
    refine ih hin ?_ τ τ' H ha hs (hr m τ H hI)
    intro e σ' τ' H' ha' hs' h'
    cases e <;> first | exact hk _ _ _ _ ha' hs' h' | skip
    obtain ⟨m', hlt, hI'⟩ := h'
    exact ⟨m', hlt, σ', hI', ha', hs'⟩
  | _ => intro K K' _ hk σ σ' H ha hs h; exact h.elim

/-- The frame at a loop's head: the live slots hold vs, whatever else the loop writes holds anything. -/
def zipE : List Nat → List Value → Env → Env
  | x :: xs, v :: vs, σ => (x, v) :: zipE xs vs σ
  | _, _, σ => σ
def anyE (f : Nat → Value) : List Nat → Env → Env
  | [], σ => σ
  | x :: xs, σ => (x, f x) :: anyE f xs σ
def head (σ : Env) (mods live : List Nat) (vs : List Value) (f : Nat → Value) : Env := zipE live vs (anyE f mods σ)
def valuesK (σ : Env) : List Nat → (List Value → Prop) → Prop
  | [], k => k []
  | x :: xs, k => look σ x fun v => valuesK σ xs fun vs => k (v :: vs)
def valuesAt (σ : Env) : List Nat → List Value
  | [] => []
  | x :: xs => sfun σ x :: valuesAt σ xs
theorem valuesK_iff (σ : Env) : ∀ (l : List Nat) (k : List Value → Prop), valuesK σ l k ↔ k (valuesAt σ l)
  | [], k => Iff.rfl
  | x :: xs, k => by unfold valuesK; rw [look_iff, valuesK_iff σ xs]; exact Iff.rfl
theorem valuesAt_alike {σ σ' : Env} (h : Alike σ σ') : ∀ l, valuesAt σ l = valuesAt σ' l
  | [] => rfl
  | x :: xs => by
    have h' : sfun σ = sfun σ' := h
    unfold valuesAt; rw [h', valuesAt_alike h xs]
theorem sfun_cons (s : Nat) (v : Value) (σ : Env) (t : Nat) : sfun ((s, v) :: σ) t = cond (Nat.beq t s) v (sfun σ t) := rfl
theorem sfun_zip {σ τ : Env} (h : sfun τ = sfun σ) : ∀ live : List Nat, sfun (zipE live (valuesAt σ live) τ) = sfun σ
  | [] => h
  | x :: xs => by
    unfold valuesAt zipE
    funext t
    rw [sfun_cons]
    cases e : Nat.beq t x with
    | true => rw [cond_true, Nat.eq_of_beq_eq_true e]
    | false => rw [cond_false]; exact congrFun (sfun_zip h xs) t
theorem sfun_any (f : Nat → Value) (σ : Env) : ∀ mods : List Nat, sfun (anyE f mods σ) = fun t => cond (memB mods t) (f t) (sfun σ t)
  | [] => rfl
  | x :: xs => by
    funext t
    unfold anyE memB
    rw [sfun_cons]
    cases e : Nat.beq t x with
    | true => simp [Nat.eq_of_beq_eq_true e]
    | false => rw [cond_false, cond_false]; exact congrFun (sfun_any f σ xs) t
theorem head_self {σ0 σ : Env} (h : Same mods σ0 σ) (live : List Nat) : Alike (head σ0 mods live (valuesAt σ live) (sfun σ)) σ := by
  refine sfun_zip ?_ live
  rw [sfun_any]
  funext t
  cases e : memB mods t with
  | true => rfl
  | false => exact (h t e).symm
theorem Alike.symm {σ σ' : Env} (h : Alike σ σ') : Alike σ' σ := Eq.symm h
theorem Alike.refl (σ : Env) : Alike σ σ := rfl

theorem Same.same {σ : Env} {t : Nat} {v : Value} (hv : sfun σ t = v) (h : Same mods σ0 σ) : Same mods σ0 (eput σ (some t) v) := fun x hx => by
  rw [sfun_eput, sput_same _ _ _ hv]; exact h x hx

/-- A continuation that hangs on the frame alone, not on how it is listed. -/
def Resp (K : Exit → Env → Heap → Prop) : Prop := ∀ e σ σ' H, Alike σ σ' → K e σ H → K e σ' H
def Resp1 (K : Env → Heap → Prop) : Prop := ∀ σ σ' H, Alike σ σ' → K σ H → K σ' H
theorem Resp.code {c : Code} {K : Exit → Env → Heap → Prop} (hK : Resp K) : Resp1 (dcode P n cs c K) := fun σ σ' H ha h =>
  dcode_rel (okd := fun _ => true) (S := fun _ => True) (fun _ _ _ _ _ => trivial) (fun _ _ _ _ _ => trivial) c (codeD_true c) (fun e σ σ' H ha _ h => hK e σ σ' H ha h) σ σ' H ha trivial h
theorem Resp.thenD {next : Env → Heap → Prop} {K : Exit → Env → Heap → Prop} (h1 : Resp1 next) (hK : Resp K) : Resp (thenD next K) := fun e σ σ' H ha h => by
  cases e <;> first | exact h1 _ _ _ ha h | exact hK _ _ _ _ ha h
theorem Resp.blockD {id : Nat} {K : Exit → Env → Heap → Prop} (hK : Resp K) : Resp (blockD id K) := fun e σ σ' H ha h => by
  cases e <;> try exact hK _ _ _ _ ha h
  rename_i id'
  unfold Hv.blockD at h ⊢
  simp only at h ⊢
  cases hb : Nat.beq id' id with
  | true => rw [hb] at h; exact hK _ _ _ _ ha h
  | false => rw [hb] at h; exact hK _ _ _ _ ha h
theorem dres_alike {σ σ' : Env} (ha : Alike σ σ') {H : Heap} : ∀ (rs : List ResultVar) {k k' : List Value → Prop}, (∀ vs, k vs → k' vs) → dres P n σ H rs k → dres P n σ' H rs k'
  | [], k, k', hk, h => hk _ h
  | .tmp t :: rs, k, k', hk, h => by
    unfold dres at h ⊢
    have ha' : sfun σ = sfun σ' := ha
    rw [EK_iff] at h ⊢
    rw [ha'] at h
    exact dres_alike ha rs (fun vs => hk _) h
  | .cell a t :: rs, k, k', hk, h => by
    unfold dres at h ⊢
    have ha' : sfun σ = sfun σ' := ha
    rw [EK_iff] at h ⊢
    rw [ha'] at h
    split at h
    · split at h
      · obtain ⟨vs, h1, h2, h3⟩ := h; exact ⟨vs, h1, h2, dres_alike ha rs (fun vs => hk _) h3⟩
      · obtain ⟨v, h1, h2⟩ := h; exact ⟨v, h1, dres_alike ha rs (fun vs => hk _) h2⟩
      · exact h.elim
    · exact h.elim
theorem Resp.retD {fn : Func} {K : Value → Heap → Prop} : Resp (retD P fn K) := fun e σ σ' H ha h => by
  cases e <;> first | exact dres_alike ha _ (fun _ => id) h | exact h

theorem hloop {c : Code} {K : Exit → Env → Heap → Prop} {σ : Env} {H : Heap} (mods live : List Nat) (I : Nat → List Value → Heap → Prop) (hin : codeIn mods c = true)
    (hK : Resp K) (h0 : ∃ m, valuesK σ live fun vs => I m vs H)
    (round : ∀ m vs f H, I m vs H → dcode P n cs c (thenD (fun σ' H' => valuesK σ' live fun vs' => ∃ m', m' < m ∧ I m' vs' H') K) (head σ mods live vs f) H) :
    HLoop (fun KN σ' H' => dcode P n cs c (Hv.thenD KN K) σ' H') σ H := by
  obtain ⟨m, h0⟩ := h0
  rw [valuesK_iff] at h0
  refine ⟨fun m σ' H' => Same mods σ σ' ∧ I m (valuesAt σ' live) H', ⟨m, fun t _ => rfl, h0⟩, ?_⟩
  rintro m σ' H' ⟨hs, hI⟩
  have h1 := round m _ (sfun σ') H' hI
  refine dcode_rel (S := Same mods σ) (fun σ d v hd h => h.put hd v) (fun σ t v hv h => h.same hv) c hin ?_ _ σ' H' (head_self hs live) hs h1
  intro e τ τ' H'' ha hs' h'
  cases e <;> first | exact hK _ _ _ _ ha h' | skip
  obtain ⟨m', hlt, hI'⟩ := (valuesK_iff _ _ _).1 h'
  exact ⟨m', hlt, hs', valuesAt_alike ha live ▸ hI'⟩

/-- A cut behind a piece of code: its ways meet. -/
theorem hcut {a b : Code} {K : Exit → Env → Heap → Prop} {σ : Env} {H : Heap} (mods live : List Nat) (J : List Value → Heap → Prop) (hina : codeIn mods a = true) (hK : Resp K)
    (h1 : dcode P n cs a (Hv.thenD (fun σ' H' => valuesK σ' live fun vs => J vs H') K) σ H)
    (h2 : ∀ vs f H', J vs H' → dcode P n cs b K (head σ mods live vs f) H') : dcode P n cs (.seq a b) K σ H := by
  unfold dcode
  refine dcode_rel (S := Same mods σ) (fun σ d v hd h => h.put hd v) (fun σ t v hv h => h.same hv) a hina ?_ σ σ H rfl (fun t _ => rfl) h1
  intro e τ τ' H' ha hs' h'
  cases e <;> first | exact hK _ _ _ _ ha h' | skip
  have h3 := h2 _ (sfun τ') H' ((valuesK_iff _ _ _).1 h')
  refine hK.code _ _ _ ?_ h3
  rw [valuesAt_alike ha]
  exact head_self hs' live
end
end Go.Proofs.Ytaobgofbhommcaa.Hv
