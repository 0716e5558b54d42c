import Derived.Test.YtaobgofbhommcaaHv10
namespace Go.Proofs.Ytaobgofbhommcaa.Hv
open Go
set_option linter.unusedVariables false
set_option linter.unusedSimpArgs false

/-! ## Regions by steps -/
structure HReg (P : Program) (n : Nat) (ops : List Oper) (K : Env → Heap → Prop) (c : List (Nat × Nat)) (hist : List Heap) (σ : Env) (H : Heap) : Prop where
  run : dreg P n ops K c hist σ H
theorem HReg.fn {P : Program} {n : Nat} {ops : List Oper} {K : Env → Heap → Prop} {c : List (Nat × Nat)} {hist : List Heap} {σ : Env} {H : Heap} : HReg P n ops K c hist σ H = dreg P n ops K c hist σ H :=
  propext ⟨fun h => h.run, fun h => ⟨h⟩⟩
def rstep (P : Program) (n : Nat) (ops : List Oper) (K : Env → Heap → Prop) (c : List (Nat × Nat)) (hist : List Heap) (σ : Env) (H : Heap) : Prop :=
  match c with
  | [] => K σ H
  | (i, k) :: rest => match nth ops i with
    | none => HReg P n ops K rest hist σ H
    | some o => dguard n ops o σ
        (fun σ => cond (isFloat P o)
          (fopC P (EK n σ) (H :: hist.take k) (fun v => HReg P n ops K rest hist (eput σ o.dst v) H) o.op)
          (eopC P (EK n σ) (E n (sfun σ)) o H (fun v H' => HReg P n ops K rest (H :: hist) (eput σ o.dst v) H')))
        (fun σ => HReg P n ops K rest hist (eput σ o.dst undef) H)
theorem HReg.step {P : Program} {n : Nat} {ops : List Oper} {K : Env → Heap → Prop} {c : List (Nat × Nat)} {hist : List Heap} {σ : Env} {H : Heap} (h : rstep P n ops K c hist σ H) : HReg P n ops K c hist σ H := by
  refine ⟨?_⟩
  unfold rstep at h
  simp only [HReg.fn] at h
  cases c with
  | nil => exact h
  | cons x rest => obtain ⟨i, k⟩ := x; unfold dreg; exact h

/-! ## Code by steps: the evaluation stands ahead of each piece (and so does the kernel's) -/
structure HCode (P : Program) (n : Nat) (cs : List (Nat × List (Nat × Nat))) (c : Code) (K : Exit → Env → Heap → Prop) (σ : Env) (H : Heap) : Prop where
  run : dcode P n cs c K σ H
section
variable {P : Program} {n : Nat} {cs : List (Nat × List (Nat × Nat))}
theorem HCode.fn {c : Code} {K : Exit → Env → Heap → Prop} : HCode P n cs c K = dcode P n cs c K := by
  funext σ H; exact propext ⟨fun h => h.run, fun h => ⟨h⟩⟩
def hstep (P : Program) (n : Nat) (cs : List (Nat × List (Nat × Nat))) (c : Code) (K : Exit → Env → Heap → Prop) (σ : Env) (H : Heap) : Prop :=
  match c with
  | .skip => K .normal σ H
  | .label _ => K .normal σ H
  | .exit id => K (.exit id) σ H
  | .ret => K .ret σ H
  | .region id ops draw => HReg P n ops.toList (K .normal) (cond draw (seqOf cs id) (upFrom 0 ops.toList.length)) [] σ H
  | .seq a b => HCode P n cs a (thenD (HCode P n cs b K) K) σ H
  | .cond c x y => EK n σ c fun v => (match v with
    | .bool t => hcond t fun b => cond b (HCode P n cs x K σ H) (HCode P n cs y K σ H)
    | _ => False)
  | .block id c => HCode P n cs c (blockD id K) σ H
  | .loop c => HLoop (fun KN σ' H' => HCode P n cs c (thenD KN K) σ' H') σ H
  | _ => False
theorem HCode.step {c : Code} {K : Exit → Env → Heap → Prop} {σ : Env} {H : Heap} (h : hstep P n cs c K σ H) : HCode P n cs c K σ H := by
  refine ⟨?_⟩
  unfold hstep at h
  simp only [HCode.fn, HReg.fn] at h
  cases c <;> (unfold dcode; first | exact h | exact h.elim)
theorem HCode.to {c : Code} {K : Exit → Env → Heap → Prop} {σ : Env} {H : Heap} (h : dcode P n cs c K σ H) : HCode P n cs c K σ H := ⟨h⟩
theorem Resp.hcode {c : Code} {K : Exit → Env → Heap → Prop} (hK : Resp K) : Resp1 (HCode P n cs c K) := by
  rw [HCode.fn]; exact Resp.code hK
theorem Resp1.valuesK {live : List Nat} {F : List Value → Heap → Prop} : Resp1 (fun σ H => Hv.valuesK σ live fun vs => F vs H) := fun σ σ' H ha h => by
  have h' : Hv.valuesK σ live (fun vs => F vs H) := h
  show Hv.valuesK σ' live (fun vs => F vs H)
  rw [valuesK_iff] at h' ⊢
  rw [← valuesAt_alike ha live]; exact h'
theorem hloopC {c : Code} {K : Exit → Env → Heap → Prop} {σ : Env} {H : Heap} (mods live : List Nat) (I : Nat → List Value → Heap → Prop) (hin : codeIn mods c = true)
    (hK : Resp K) (h0 : ∃ m, valuesK σ live fun vs => I m vs H)
    (round : ∀ m vs f H, I m vs H → HCode P n cs c (thenD (fun σ' H' => valuesK σ' live fun vs' => ∃ m', m' < m ∧ I m' vs' H') K) (head σ mods live vs f) H) :
    HLoop (fun KN σ' H' => HCode P n cs c (Hv.thenD KN K) σ' H') σ H := by
  simp only [HCode.fn] at round ⊢
  exact hloop mods live I hin hK h0 round
theorem hcutC {a b : Code} {K : Exit → Env → Heap → Prop} {σ : Env} {H : Heap} (mods live : List Nat) (J : List Value → Heap → Prop) (hina : codeIn mods a = true) (hK : Resp K)
    (h1 : HCode P n cs a (Hv.thenD (fun σ' H' => valuesK σ' live fun vs => J vs H') K) σ H)
    (h2 : ∀ vs f H', J vs H' → HCode P n cs b K (head σ mods live vs f) H') : HCode P n cs (.seq a b) K σ H := by
  simp only [HCode.fn] at h1 h2 ⊢
  exact hcut mods live J hina hK h1 h2
theorem hcalls {f : FuncId} {fn : Func} {c : Code} {args : List Value} {H : Heap} {K : Value → Heap → Prop} (cs : List (Nat × List (Nat × Nat))) (hm : P.follows .mixedOrders = true) (hf : P.funcs[f]? = some fn) (hb : fn.body = some c)
    (hn : Nat.ble args.length fn.ntmps = true) (ok : codeOk P cs c = true) (h : HCode P fn.ntmps cs c (retD P fn K) (argsFrom 0 args) H) : HCalls P f args H K :=
  hcalls_of_dcode hm hf hb hn ok h.run
end
/-! ## Conversions to slices of bytes -/
theorem swp_markStringish {P : Program} {b off : Nat} {c : Array Value} {e : TypeId} {f : Nat × Nat} {K : Unit → Heap → Prop} {H : Heap} (hb : H b = some (.cells c e f))
    (h : ∀ f', K () (H.upd b (.cells c e f'))) : swp P (markStringish ⟨b, off, none⟩) K H := by
  unfold markStringish
  rw [swp_bind]
  have hs : H.shape? b = some (e, c.size) := by unfold Heap.shape?; rw [hb]
  have hs : H.shape? b = some (e, c.size) := by unfold Heap.shape?; rw [hb]
  refine ⟨by show H b ≠ none; rw [hb]; simp, ?_⟩
  show swp P (match H.shape? b with
    | some (_, n) => freeze { block := b, off := n } 1
    | _ => pure ()) K H
  rw [hs]
  obtain ⟨lo, hi⟩ := f
  refine ⟨⟨c, e, lo, hi, hb⟩, ?_⟩
  show K () (H.freeze { block := b, off := c.size } 1)
  unfold Heap.freeze
  rw [if_neg (by decide)]
  show K () (match H b with
    | some (.cells c' e (lo, hi)) => H.upd b (.cells c' e (if lo == hi then (c.size, c.size + 1) else (min lo c.size, max hi (c.size + 1))))
    | _ => H)
  rw [hb]
  exact h _
/-- A conversion of a new row of bytes to its own type: a mark behind the row. -/
theorem conv_mark {P : Program} {t e : TypeId} {b off n cap : Nat} {c : Array Value} {e' : TypeId} {f : Nat × Nat} {K : Value → Heap → Prop} {H : Heap} (ht : P.underlying t = some (.slice e)) (he : P.underlying e = some (.int .u8)) (hb : H b = some (.cells c e' f))
    (h : ∀ f', K (.slice (some ⟨b, off, none⟩) n cap) (H.upd b (.cells c e' f'))) : HSem P (convert t t (.slice (some ⟨b, off, none⟩) n cap)) H K := by
  refine HSem.of_swp ?_
  unfold convert
  rw [swp_bind, swp_underlying ht, swp_bind, swp_underlying ht]
  show swp P (do
    match t == t, ← underlying e with
    | true, .int .u8 => do markStringish ⟨b, off, none⟩; pure (.slice (some ⟨b, off, none⟩) n cap)
    | _, _ => unsupported (.noEntry "convert/other")) K H
  rw [swp_bind, swp_underlying he]
  rw [beq_self_eq_true]
  show swp P (do markStringish ⟨b, off, none⟩; pure (.slice (some ⟨b, off, none⟩) n cap)) K H
  rw [swp_bind]
  exact swp_markStringish hb h
/-- A string's bytes: a new row. -/
theorem conv_bytes {P : Program} {s t e : TypeId} {x : ByteArray} {K : Value → Heap → Prop} {H : Heap} (hs : P.underlying s = some .string) (ht : P.underlying t = some (.slice e)) (he : P.underlying e = some (.int .u8))
    (h : ∀ b cap, H b = none → x.size ≤ cap → ∀ (cur : Array Value) (f : Nat × Nat), cur.size = cap → (∀ (i : Nat) (v : UInt8), x.data.toList[i]? = some v → cur[i]? = some (u8 v)) → K (.slice (some ⟨b, 0, none⟩) x.size cap) (H.upd b (.cells cur e f))) : HSem P (convert s t (.string x)) H K := by
  refine HSem.of_swp ?_
  unfold convert
  rw [swp_bind, swp_underlying hs, swp_bind, swp_underlying ht]
  show swp P (do
    match ← underlying e with
    | .int .u8 => Conv.stringToBytes e x
    | .int .i32 => Conv.stringToRunes e x
    | _ => stuck "Convert: string to a slice of what?") K H
  rw [swp_bind, swp_underlying he]
  show swp P (Conv.stringToBytes e x) K H
  unfold Conv.stringToBytes
  rw [swp_bind]
  unfold choose
  show (if (Question.appendCap x.size 0 e).forced then _ else ∀ t, _)
  rw [if_neg (by simp [Question.forced])]
  intro tt
  obtain ⟨cap, hnc, hle⟩ : ∃ c, (Question.appendCap x.size 0 e).cut tt = c ∧ x.size ≤ c := ⟨_, rfl, by simp [Question.cut]⟩
  rw [hnc]
  show swp P (do
    let a ← newRow e ((x.data.map fun b => Value.int .u8 b.toNat) ++ Array.replicate (cap - x.size) (.int .u8 0))
    markStringish a
    pure (.slice (some a) x.size cap)) K H
  rw [swp_bind]
  refine swp_newRow fun b hb => ?_
  rw [swp_bind]
  refine swp_markStringish (upd_same _ _ _) fun f' => ?_
  show K _ _
  rw [upd_upd]
  refine h b cap hb hle _ f' ?_ ?_
  · have hsz : x.data.size = x.size := rfl
    rw [Array.size_append, Array.size_map, Array.size_replicate]; omega
  · intro i v hv
    have hi := (List.getElem?_eq_some_iff.1 hv).1
    rw [Array.getElem?_append_left (by simpa using hi)]
    rw [Array.getElem?_map, ← Array.getElem?_toList, hv]; rfl
end Go.Proofs.Ytaobgofbhommcaa.Hv
