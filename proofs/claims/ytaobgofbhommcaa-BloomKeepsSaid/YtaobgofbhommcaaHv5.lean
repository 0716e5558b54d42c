import Derived.Test.YtaobgofbhommcaaHv4
import Derived.Laws.BytesString
namespace Go.Proofs.Ytaobgofbhommcaa.Hv
open Go
set_option linter.unusedVariables false
set_option linter.unusedSimpArgs false

theorem fconv_sound {P : Program} {Hs : List Heap} {src dst : TypeId} {v : Value} {K : Value → Prop} (h : fconv P Hs src dst v K) :
    ∃ r, K r ∧ ∀ H ∈ Hs, Rds P (convert src dst v) H r := by
  unfold fconv at h
  split at h
  · rename_i hs hd
    exact ⟨_, h, fun H _ w _ => by simp [convert, run_underlying hs, run_underlying hd, Conv.intToInt, wr_eq]⟩
  · rename_i d hs hd
    exact ⟨_, h, fun H _ w _ => by simp only [convert, Sem.run_bind, run_underlying hs, run_underlying hd, Result.andThen_ok]; rfl⟩
  · rename_i e a len cap hs hd
    split at h
    · rename_i he
      obtain ⟨s, hlen, hnone, hr, h⟩ := h
      refine ⟨_, h, fun H hH w hsat => ?_⟩
      rw [run_convert_bytes_string w src dst e a len cap hs he hd]
      cases a with
      | none =>
        have h0 : len = 0 := hnone rfl
        have : s = ByteArray.empty := by
          cases s with
          | mk d => rw [h0] at hlen; simp [ByteArray.size] at hlen; subst hlen; rfl
        subst this; simp [Conv.bytesToString]
      | some a =>
        have hcells : (loadCells a len).run P w = .ok (((s.data.toList.map fun b => (b.toNat : Int)).map (Value.int .u8)).toArray) w := by
          have hl : ((s.data.toList.map fun b => (b.toNat : Int)).map (Value.int .u8)).length = len := by
            rw [List.length_map, List.length_map]; exact hlen
          rw [← hl]
          refine run_loadCells_list w a _ fun j v hj => ?_
          rw [List.getElem?_map, List.getElem?_map] at hj
          cases hb : s.data.toList[j]? with
          | none => simp [hb] at hj
          | some b =>
            simp only [hb, Option.map_some, Option.some.injEq] at hj
            subst hj
            exact hsat.cell (hr H hH j b hb a rfl)
        rw [run_bytesToString w a len cap _ hcells]
        have hpush : ∀ (l : List UInt8) (acc : ByteArray), (l.map fun b => (b.toNat : Int)).foldl (fun r n => r.push (UInt8.ofNat n.toNat)) acc = ⟨acc.data ++ l.toArray⟩ := by
          intro l
          induction l with
          | nil => intro acc; simp
          | cons b l ih => intro acc; rw [List.map_cons, List.foldl_cons, ih]; cases acc; simp [ByteArray.push]
        rw [hpush]
        cases s
        simp [ByteArray.empty, ByteArray.emptyWithCapacity]
        rfl
    · exact h.elim
  · exact h.elim

theorem fslice_sound {P : Program} {t : TypeId} {v : Value} {lo hi : Option Value} {K : Value → Prop} (h : fslice P t v lo hi K) :
    ∃ r, K r ∧ ∀ H, Rds P (Instr.sliceAt t v lo hi none) H r := by
  have bnd : ∀ (k : IntKind) (i : Int) (y : Nat) (code : BoundsCode) (w : World), 0 ≤ i ∧ i ≤ y → (Instr.sliceBound (.int k i) y code).run P w = .ok i.toNat w := fun k i y code w hi => by
    simp [Instr.sliceBound, asIntOf, hi]
  unfold fslice at h
  split at h
  · rename_i s hu
    cases hi with
    | none =>
      cases lo with
      | none =>
        exact ⟨_, h, fun H w _ => by simp [Instr.sliceAt, Instr.slice, run_underlying hu, Instr.sliceBounds]⟩
      | some l =>
        cases l <;> try exact h.elim
        obtain ⟨h0, h⟩ := h
        exact ⟨_, h, fun H w _ => by simp [Instr.sliceAt, Instr.slice, run_underlying hu, Instr.sliceBounds, bnd _ _ _ _ _ h0]⟩
    | some x =>
      cases x <;> try exact h.elim
      obtain ⟨h1, h⟩ := h
      cases lo with
      | none =>
        exact ⟨_, h, fun H w _ => by simp [Instr.sliceAt, Instr.slice, run_underlying hu, Instr.sliceBounds, bnd _ _ _ _ _ h1]⟩
      | some l =>
        cases l <;> try exact h.elim
        obtain ⟨h0, h⟩ := h
        exact ⟨_, h, fun H w _ => by simp [Instr.sliceAt, Instr.slice, run_underlying hu, Instr.sliceBounds, bnd _ _ _ _ _ h1, bnd _ _ _ _ _ h0]⟩
  · rename_i e a len cap hu
    split at h
    · exact h.elim
    · rename_i ie hie
      have hadd : ∀ (a : Option Addr), (if cap = 0 then a else a.map (·.add (0 * ie.size))) = a := fun a => by
        split
        · rfl
        · cases a <;> simp [Addr.add_zero']
      cases hi with
      | none =>
        cases lo with
        | none =>
          exact ⟨_, h, fun H w _ => by
            have := hadd a
            simp [Instr.sliceAt, Instr.slice, run_underlying hu, Instr.sliceBounds, sizeOf_run hie]
            cases a <;> simp [Addr.add_zero']⟩
        | some l =>
          cases l <;> try exact h.elim
          obtain ⟨h0, h⟩ := h
          exact ⟨_, h, fun H w _ => by simp [Instr.sliceAt, Instr.slice, run_underlying hu, Instr.sliceBounds, bnd _ _ _ _ _ h0, sizeOf_run hie, slAddr]⟩
      | some x =>
        cases x <;> try exact h.elim
        obtain ⟨h1, h⟩ := h
        cases lo with
        | none =>
          exact ⟨_, h, fun H w _ => by
            simp [Instr.sliceAt, Instr.slice, run_underlying hu, Instr.sliceBounds, bnd _ _ _ _ _ h1, sizeOf_run hie]
            cases a <;> simp [Addr.add_zero']⟩
        | some l =>
          cases l <;> try exact h.elim
          obtain ⟨h0, h⟩ := h
          exact ⟨_, h, fun H w _ => by simp [Instr.sliceAt, Instr.slice, run_underlying hu, Instr.sliceBounds, bnd _ _ _ _ _ h1, bnd _ _ _ _ _ h0, sizeOf_run hie, slAddr]⟩
  · exact h.elim

theorem fslice3_sound {P : Program} {t : TypeId} {v : Value} {lo hi : Option Value} {mx : Value} {K : Value → Prop} (h : fslice3 P t v lo hi mx K) :
    ∃ r, K r ∧ ∀ H, Rds P (Instr.sliceAt t v lo hi (some mx)) H r := by
  have bnd : ∀ (k : IntKind) (i : Int) (y : Nat) (code : BoundsCode) (w : World), 0 ≤ i ∧ i ≤ y → (Instr.sliceBound (.int k i) y code).run P w = .ok i.toNat w := fun k i y code w hi => by
    simp [Instr.sliceBound, asIntOf, hi]
  unfold fslice3 at h
  split at h
  · rename_i e a len cap hu
    split at h
    · rename_i ie kl l kh hh km m hie
      obtain ⟨⟨h1, h2, h3⟩, h⟩ := h
      refine ⟨_, h, fun H w _ => ?_⟩
      simp [Instr.sliceAt, Instr.slice, run_underlying hu, Instr.sliceBounds, bnd _ _ _ _ _ h1, bnd _ _ _ _ _ h2, bnd _ _ _ _ _ h3, sizeOf_run hie, slAddr]
    · exact h.elim
  · exact h.elim
theorem fpart_sound {P : Program} {t : TypeId} {cs : Array Value} {off : Nat} {K : Value → Prop} (h : fpart P t cs.toList off K) :
    ∃ r, K r ∧ ∀ H, Rds P (part t cs off) H r := by
  unfold fpart at h
  split at h
  · rename_i i hg hi
    rw [forceL_iff] at h
    refine ⟨_, h, fun H w _ => ?_⟩
    simp only [part, Sem.run_bind, isAgg_run hg, Result.andThen_ok, if_true, sizeOf_run hi]
    have : cs.extract off (off + i.size) = ((cs.toList.drop off).take i.size).toArray := by
      rw [← Array.toList_inj, Array.toList_extract]
      simp [List.extract, Nat.add_sub_cancel_left]
    rw [this]; rfl
  · rename_i hg
    split at h
    · rename_i v hv
      refine ⟨_, h, fun H w _ => ?_⟩
      have hv' : cs[off]? = some v := by rw [← Array.getElem?_toList]; exact hv
      simp [part, isAgg_run hg, hv']
    · exact h.elim
  · exact h.elim

theorem findex_sound {P : Program} {t : TypeId} {u v : Value} {K : Value → Prop} (h : findex P t u v K) :
    ∃ r, K r ∧ ∀ H, Rds P (Instr.index t u v) H r := by
  unfold findex at h
  split at h
  · rename_i s k i hu
    obtain ⟨⟨h0, h1⟩, h⟩ := h
    refine ⟨_, h, fun H w _ => ?_⟩
    have hlt : i.toNat < s.size := by omega
    have hlt' : i.toNat < s.data.toList.length := by simpa using hlt
    have hg : s[i.toNat]? = some (s.data.toList[i.toNat]) := by
      rw [getElem?_pos s i.toNat hlt]; rfl
    simp [Instr.index, asIntOf, run_underlying hu, h0, hg, byteAt, List.getD, hlt']
    rw [Array.getElem?_eq_getElem (by simpa using hlt')]; rfl
  · rename_i n e cs k i hu
    split at h
    · rename_i hg
      obtain ⟨⟨h0, h1, h2, h3, h4⟩, h⟩ := h
      refine ⟨_, h, fun H w _ => ?_⟩
      obtain ⟨ie, hie⟩ := Option.isSome_iff_exists.1 h4
      have hsz : ie.size = 1 := by simpa [Program.cellsOf, hie] using h3
      have hlt : i.toNat < cs.size := by omega
      simp [Instr.index, asIntOf, run_underlying hu, h0, h1, sizeOf_run hie, hsz, part, isAgg_run hg, hlt, List.getD]
    · exact h.elim
  · exact h.elim

theorem findexAddr_sound {P : Program} {t : TypeId} {u v : Value} {K : Value → Prop} (h : findexAddr P t u v K) :
    ∃ r, K r ∧ ∀ H, Rds P (Instr.indexAt t u v) H r := by
  unfold findexAddr at h
  split at h
  · rename_i e b off len cap k i hu
    split at h
    · rename_i ie hie
      obtain ⟨⟨h0, h1⟩, h⟩ := h
      refine ⟨_, h, fun H w _ => ?_⟩
      simp [Instr.indexAt, asIntOf, run_underlying hu, h0, h1, sizeOf_run hie, offMul_eq, Addr.add_lit]
    · exact h.elim
  · rename_i n e b off k i hu
    split at h
    · rename_i ie hie
      obtain ⟨⟨h0, h1⟩, h⟩ := h
      refine ⟨_, h, fun H w _ => ?_⟩
      simp [Instr.indexAt, asIntOf, run_underlying hu, Instr.sureAddr, h0, h1, sizeOf_run hie, offMul_eq, Addr.add_lit]
    · exact h.elim
  · exact h.elim

theorem fmax_sound {P : Program} {K : Value → Prop} {l : List Value} {ats : Array TypeId} {ty : TypeId} (h : fmax .max K l) :
    ∃ r, K r ∧ ∀ H, Rds P (Builtin.max_ ats ty l.toArray) H r := by
  unfold fmax at h
  split at h
  · rename_i k x rest
    split at h
    · exact ⟨_, h, fun H w _ => by simp [Builtin.max_]⟩
    · refine ⟨_, h, fun H w _ => by simp [Builtin.max_, Builtin.max2]⟩
    · exact h.elim
  · exact h.elim
theorem fmin_sound {P : Program} {K : Value → Prop} {l : List Value} {ats : Array TypeId} {ty : TypeId} (h : fmax .min K l) :
    ∃ r, K r ∧ ∀ H, Rds P (Builtin.min_ ats ty l.toArray) H r := by
  unfold fmax at h
  split at h
  · rename_i k x rest
    split at h
    · exact ⟨_, h, fun H w _ => by simp [Builtin.min_]⟩
    · refine ⟨_, h, fun H w _ => by simp [Builtin.min_, Builtin.min2]⟩
    · exact h.elim
  · exact h.elim

theorem loadVar_sound {P : Program} {Hs : List Heap} {t : TypeId} {b off : Nat} {K : Value → Prop}
    (h : match isAggB P t, P.info? t with
      | some true, some i => HLoadN Hs b off i.size fun vs => K (.agg vs.toArray)
      | some false, _ => HLoad Hs ⟨b, off, none⟩ K
      | _, _ => False) : ∃ r, K r ∧ ∀ H ∈ Hs, Rds P (loadVar t ⟨b, off, none⟩) H r := by
  split at h
  · rename_i i hg hi
    obtain ⟨vs, h1, h2, h3⟩ := h
    refine ⟨_, h3, fun H hH w hs => ?_⟩
    have := rds_loadN (P := P) (h1 H hH) w hs
    rw [h2] at this
    simp [loadVar, isAgg_run hg, sizeOf_run hi, this]
  · rename_i hg
    obtain ⟨v, h1, h2⟩ := h
    refine ⟨_, h2, fun H hH w hs => ?_⟩
    have : (load ⟨b, off, none⟩).run P w = .ok v w := by
      simp [load, Sem.run, hs.cell (h1 H hH)]
    simp only [loadVar, Sem.run_bind, isAgg_run hg, Result.andThen_ok]
    exact this
  · exact h.elim

theorem fop_sound {P : Program} {ρ : Operand → Value} {Hs : List Heap} {K : Value → Prop} (o : Oper) (h : fop P ρ Hs K o.op) :
    ∃ r, K r ∧ ∀ H ∈ Hs, Rds P (execOp ρ o) H (.value r) := by
  obtain ⟨dst, op, ty, pos, after, guard⟩ := o
  dsimp only at h
  unfold fop at h
  split at h
  · exact ⟨_, h, fun H _ => Rds.pure⟩
  · exact ⟨_, h, fun H _ => Rds.pure⟩
  · rename_i c a b
    split at h
    · rename_i hc; exact ⟨_, h, fun H _ w _ => by simp [execOp, hc, asBool]⟩
    · rename_i hc; exact ⟨_, h, fun H _ w _ => by simp [execOp, hc, asBool]⟩
    · exact h.elim
  · rename_i t a
    split at h
    · rename_i b off ha
      obtain ⟨r, hk, hr⟩ := loadVar_sound h
      refine ⟨r, hk, fun H hH => ?_⟩
      have : Rds P (Instr.loadAt t (ρ a)) H r := fun w hs => by
        simp [Instr.loadAt, ha, Instr.sureAddr, hr H hH w hs]
      exact Rds.pure_value this
    · exact h.elim
  · rename_i x
    split at h
    · rename_i a ha; exact ⟨_, h, fun H _ w _ => by simp [execOp, ha]⟩
    · rename_i t v ha; exact ⟨_, h, fun H _ w _ => by simp [execOp, ha]⟩
    · rename_i f u c ha; exact ⟨_, h, fun H _ w _ => by simp [execOp, ha]⟩
    · exact h.elim
  · rename_i op t x y _
    obtain ⟨r, hk, hr⟩ := fbin_sound h
    exact ⟨r, hk, fun H _ => Rds.pure_value (fun w _ => hr w)⟩
  · rename_i op _ x
    split at h <;> first
      | exact h.elim
      | (rename_i hx; exact ⟨_, h, fun H _ => Rds.pure_value (fun w _ => by rw [hx]; simp [Op.unary, Op.intArith, Op.intBits, bits, wr_eq, bitsS_eq])⟩)
  · rename_i src dst x
    obtain ⟨r, hk, hr⟩ := fconv_sound h
    exact ⟨r, hk, fun H hH => Rds.pure_value (hr H hH)⟩
  · rename_i t x
    split at h
    · exact h.elim
    · rename_i d hni hu
      refine ⟨_, h, fun H _ => Rds.pure_value (fun w _ => ?_)⟩
      simp only [Instr.makeInterface, Sem.run_bind, run_underlying hu, Result.andThen_ok]
      cases d <;> first | rfl | exact absurd hu (hni _)
    · exact h.elim
  · exact ⟨_, h, fun H _ => Rds.pure_value (fun w _ => rfl)⟩
  · rename_i t x lo hi
    obtain ⟨r, hk, hr⟩ := fslice_sound h
    exact ⟨r, hk, fun H _ => Rds.pure_value (hr H)⟩
  · rename_i t x lo hi mx
    obtain ⟨r, hk, hr⟩ := fslice3_sound h
    exact ⟨r, hk, fun H _ => Rds.pure_value (hr H)⟩
  · rename_i s x f
    split at h
    · rename_i fs b off hu hx
      split at h
      · rename_i fd hf
        split at h
        · rename_i i hi
          by_cases h0 : i.size = 0
          · simp [h0] at h
          · have : Nat.beq i.size 0 = false := Bool.eq_false_iff.2 fun e => h0 (Nat.eq_of_beq_eq_true e)
            rw [this, cond_false] at h
            refine ⟨_, h, fun H _ => Rds.pure_value (fun w _ => ?_)⟩
            simp [Instr.fieldAt, run_underlying hu, hf, hx, Instr.sureAddr, fieldPlace, sizeOf_run hi, h0, Addr.add_lit]
        · exact h.elim
      · exact h.elim
    · exact h.elim
  · rename_i t x f
    split at h
    · rename_i fs cs hu hx
      split at h
      · rename_i fd hf
        obtain ⟨r, hk, hr⟩ := fpart_sound h
        refine ⟨r, hk, fun H _ => Rds.pure_value (fun w hs => ?_)⟩
        simp [Instr.field, run_underlying hu, hf, hx, asAgg, hr H w hs]
      · exact h.elim
    · exact h.elim
  · rename_i t x i
    obtain ⟨r, hk, hr⟩ := findexAddr_sound h
    exact ⟨r, hk, fun H _ => Rds.pure_value (hr H)⟩
  · rename_i t x i
    obtain ⟨r, hk, hr⟩ := findex_sound h
    exact ⟨r, hk, fun H _ => Rds.pure_value (hr H)⟩
  · rename_i x j
    split at h
    · rename_i vs hx
      split at h
      · rename_i v hv
        refine ⟨_, h, fun H _ => Rds.pure_value (fun w _ => ?_)⟩
        have hv' : vs[j]? = some v := by rw [← Array.getElem?_toList]; exact hv
        simp [hx, Instr.extract, hv']
      · exact h.elim
    · exact h.elim
  · rename_i t parts
    split at h
    · rename_i cells hb
      rw [forceL_iff] at h
      refine ⟨_, h, fun H _ => Rds.pure_value (fun w _ => ?_)⟩
      refine run_build w t _ cells.toArray ?_
      rw [builtL_eq]
      have : (parts.map fun (i, x) => (i, ρ x)).toList = parts.toList.map fun p => (p.1, ρ p.2) := by simp
      rw [this, hb]; rfl
    · exact h.elim
  · obtain ⟨v, hv, hk⟩ := h
    exact ⟨v, hk, fun H hH => Rds.pure_value (hv H hH)⟩
  · obtain ⟨v, hv, hk⟩ := h
    exact ⟨v, hk, fun H hH => Rds.pure_value (hv H hH)⟩
  · rename_i args argTypes
    have hlen : ∀ v, (∀ w, (Builtin.len_ argTypes ty (args.map ρ)).run P w = .ok v w) → ∀ H, Rds P (execOp ρ { dst := dst, op := .call { callee := .builtin .len, args := args, argTypes := argTypes }, type := ty, pos := pos, after := after, guard := guard }) H (.value v) := fun v hv H =>
      Rds.pure_value (s := Builtin.len_ argTypes ty (args.map ρ)) fun w _ => hv w
    obtain ⟨args⟩ := args
    obtain ⟨argTypes⟩ := argTypes
    dsimp only at h
    split at h
    · rename_i n _ e he hu
      obtain ⟨x, rfl, hx⟩ : ∃ x, args = [x] ∧ ρ x = .slice _ n _ := by
        cases args with
        | nil => simp at he
        | cons x l => cases l <;> simp at he; exact ⟨x, rfl, he⟩
      obtain ⟨t, rfl, ht⟩ : ∃ t, argTypes = [t] ∧ P.underlying t = some (.slice e) := by
        cases argTypes with
        | nil => simp at hu
        | cons x l => cases l <;> simp at hu; exact ⟨x, rfl, hu⟩
      exact ⟨_, h, fun H _ => hlen _ (fun w => by simp [Builtin.len_, run_underlying ht, hx, goInt]) H⟩
    · rename_i s he hu
      obtain ⟨x, rfl, hx⟩ : ∃ x, args = [x] ∧ ρ x = .string s := by
        cases args with
        | nil => simp at he
        | cons x l => cases l <;> simp at he; exact ⟨x, rfl, he⟩
      obtain ⟨t, rfl, ht⟩ : ∃ t, argTypes = [t] ∧ P.underlying t = some .string := by
        cases argTypes with
        | nil => simp at hu
        | cons x l => cases l <;> simp at hu; exact ⟨x, rfl, hu⟩
      exact ⟨_, h, fun H _ => hlen _ (fun w => by simp [Builtin.len_, run_underlying ht, hx, goInt]) H⟩
    · rename_i v n e he hu
      obtain ⟨x, rfl, hx⟩ : ∃ x, args = [x] ∧ ρ x = v := by
        cases args with
        | nil => simp at he
        | cons x l => cases l <;> simp at he; exact ⟨x, rfl, he⟩
      obtain ⟨t, rfl, ht⟩ : ∃ t, argTypes = [t] ∧ P.underlying t = some (.array n e) := by
        cases argTypes with
        | nil => simp at hu
        | cons x l => cases l <;> simp at hu; exact ⟨x, rfl, hu⟩
      exact ⟨_, h, fun H _ => hlen _ (fun w => by simp [Builtin.len_, run_underlying ht, goInt]) H⟩
    · rename_i r _ _ he hu
      obtain ⟨x, rfl, hx⟩ : ∃ x, args = [x] ∧ ρ x = .map r := by
        cases args with
        | nil => simp at he
        | cons x l => cases l <;> simp at he; exact ⟨x, rfl, he⟩
      obtain ⟨v, hv, hk⟩ := h
      refine ⟨v, hk, fun H hH => Rds.pure_value (s := Builtin.len_ _ ty _) ?_⟩
      have := hv H hH
      simp only [List.map_toArray, List.map_cons, List.map_nil, hx]
      exact this
    · exact h.elim
  · rename_i args argTypes
    obtain ⟨r, hk, hr⟩ := fmax_sound (P := P) (ats := argTypes) (ty := ty) h
    refine ⟨r, hk, fun H _ => Rds.pure_value (s := Builtin.max_ argTypes ty (args.map ρ)) ?_⟩
    have := hr H
    rwa [← Array.toList_map, Array.toArray_toList] at this
  · rename_i args argTypes
    obtain ⟨r, hk, hr⟩ := fmin_sound (P := P) (ats := argTypes) (ty := ty) h
    refine ⟨r, hk, fun H _ => Rds.pure_value (s := Builtin.min_ argTypes ty (args.map ρ)) ?_⟩
    have := hr H
    rwa [← Array.toList_map, Array.toArray_toList] at this
  · exact h.elim
end Go.Proofs.Ytaobgofbhommcaa.Hv
