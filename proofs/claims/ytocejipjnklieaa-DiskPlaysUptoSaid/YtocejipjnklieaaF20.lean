import Derived.Test.YtocejipjnklieaaF19
namespace Go.Proofs.Ytocejipjnklieaa
open Go Hv
set_option linter.unusedVariables false
set_option linter.unusedSimpArgs false
set_option maxRecDepth 10000
set_option maxHeartbeats 4000000
/-! alike. CUT2 -/
def Kin (k : Int) : Prop := -9223372036854775808 ≤ k ∧ k ≤ 9223372036854775807
theorem keep_crash (s : St) (k : Int) : (s.crash k).d.keep = s.d.keep := by unfold St.crash; split <;> rfl
theorem keep_call (s : St) : s.call.d.keep = s.d.keep := by
  unfold St.call
  split
  · split
    · exact keep_crash _ _
    · rfl
  · rfl
theorem keep_has {s : St} {n : ByteArray} {k : St → List UInt8 → Nat → Int × St} (h : ∀ x y, (k s.call x y).2.d.keep = s.d.keep) : (s.has n k).2.d.keep = s.d.keep := by
  unfold St.has
  dsimp only
  split
  · exact keep_call s
  · split
    · exact keep_call s
    · exact h _ _
theorem keep_does (s : St) (o : Opc) (h : Kin s.d.keep) (ho : Kin o.k) : Kin (s.does o).2.d.keep := by
  have hc : Kin s.call.d.keep := by rw [keep_call]; exact h
  unfold St.does
  by_cases h1 : o.kind = 1
  · rw [if_pos h1]
    unfold St.append
    dsimp only
    split
    · exact hc
    · split
      · exact hc
      · split
        · exact hc
        · split
          · exact hc
          · exact hc
  rw [if_neg h1]
  by_cases h2 : o.kind = 2
  · rw [if_pos h2]
    have : (s.sync (bs o.name)).2.d.keep = s.d.keep := keep_has fun x y => keep_call s
    rw [this]; exact h
  rw [if_neg h2]
  by_cases h3 : o.kind = 3
  · rw [if_pos h3]; exact hc
  rw [if_neg h3]
  by_cases h4 : o.kind = 4
  · rw [if_pos h4]; exact hc
  rw [if_neg h4]
  by_cases h5 : o.kind = 5
  · rw [if_pos h5]
    have : (s.cut (bs o.name) o.n).2.d.keep = s.d.keep := keep_has fun x y => by
      split
      · exact keep_call s
      · exact keep_call s
    rw [this]; exact h
  rw [if_neg h5]
  by_cases h6 : o.kind = 6
  · rw [if_pos h6]
    have : (s.delete (bs o.name)).2.d.keep = s.d.keep := keep_has fun x y => keep_call s
    rw [this]; exact h
  rw [if_neg h6]
  by_cases h7 : o.kind = 7
  · rw [if_pos h7]
    unfold St.rename
    dsimp only
    split
    · exact hc
    · split
      · exact hc
      · split
        · exact hc
        · exact hc
  rw [if_neg h7]
  by_cases h8 : o.kind = 8
  · rw [if_pos h8]; exact hc
  rw [if_neg h8]
  by_cases h9 : o.kind = 9
  · rw [if_pos h9]
    show Kin (s.crash o.n).d.keep
    rw [keep_crash]; exact h
  rw [if_neg h9]
  by_cases h10 : o.kind = 10
  · rw [if_pos h10]; exact h
  rw [if_neg h10]
  by_cases h11 : o.kind = 11
  · rw [if_pos h11]; exact h
  rw [if_neg h11]
  by_cases h12 : o.kind = 12
  · rw [if_pos h12]; exact ho
  rw [if_neg h12]; exact h
def rdOp (t : Txt) : Opc := ⟨3, 0, t, [], [], 0, 0⟩
structure AlO (H1 H0 : Heap) (g r q N : Nat) (W0 : List Nat) (m : Nat) (vs : List Value) (H' : Heap) : Prop where
  ex : ∃ (i : Nat) (s : St) (W : List Nat), vs = [.int .i64 (i : Int)] ∧ m + i = 2 ∧ TAt H1 H' g r q s W ∧ Stq H0 H' W0 W ∧ s.Ok N ∧ Kin s.d.keep
structure AlI (H1 H7 : Heap) (g r q N : Nat) (W7 : List Nat) (ns : List Txt) (m : Nat) (vs : List Value) (H' : Heap) : Prop where
  ex : ∃ (i : Nat) (s : St) (W : List Nat), vs = [.int .i64 (i : Int)] ∧ m + i = ns.length ∧ TAt H1 H' g r q s W ∧ Stq H7 H' W7 W ∧ s.Ok N ∧ Kin s.d.keep
section
variable {H1 H : Heap} {g r q N : Nat} {s : St} {K : Value → Heap → Prop}
theorem alike_t {W : List Nat} (T0 : TAt H1 H g r q s W) (ok : s.Ok N) (hN : N ≤ 1073741824) (hkp : Kin s.d.keep)
    (hk : ∀ s' W' H', TAt H1 H' g r q s' W' → Stq H H' W W' → K (.bool true) H') : HCalls Try.prog 28 [.pointer (some ⟨g, 0, none⟩), .pointer (some ⟨q, 0, none⟩)] H K := by
  refine hcalls (fn := Try.f28) [] mixed Try.func28 rfl rfl (by decide +kernel) ?_
  (repeat first | refine HReg.step ?_ | refine HCode.step ?_)
  refine hloopC [4, 5, 6, 7, 8, 9, 10, 11, 12, 13, 14, 15, 16, 17, 18, 19, 20, 21, 22, 23, 24, 25, 26, 27, 28, 29, 30, 31, 32, 33, 34, 35, 36, 37, 38, 39, 40, 41, 42, 43, 44, 45, 46, 47, 48, 49, 50, 51, 52, 53, 54, 55, 56, 57, 58] [5] (AlO H1 H g r q N W) rfl (by repeat' first | exact Resp.retD | exact Resp1.valuesK | refine Resp.blockD ?_ | refine Resp.thenD ?_ ?_ | refine Resp.hcode ?_) ?_ ?_
  · exact ⟨2, AlO.mk ⟨0, s, W, rfl, rfl, T0, Stq.refl _ _, ok, hkp⟩⟩
  rintro m _ fe H2 ⟨i, s2, W2, rfl, hmi, T2, Q2, ok2, kp2⟩
  (repeat first | refine HReg.step ?_ | refine HCode.step ?_)
  refine hif (fun h1 => ?_) (fun h1 => ?_)
  · have h1 := ltB_true.1 h1
    have wi : wr .i64 ((i : Int) + 1) = ((i + 1 : Nat) : Int) := by rw [wr_i64 (by omega) (by omega)]; omega
    obtain ⟨fl, B, T, rfl⟩ := T2
    (repeat first | refine HReg.step ?_ | refine HCode.step ?_)
    refine HCall.mk ⟨Try.f17, Try.func17, by rfl, by rfl⟩ ?_
    refine up_t T.p fun H3 P3 S3 => ?_
    obtain ⟨R3, ap3⟩ := T.prog S3
    (repeat first | refine HReg.step ?_ | refine HCode.step ?_)
    refine HCall.mk ⟨Try.f51, Try.func51, by rfl, by rfl⟩ ?_
    refine rup_t R3 fun H4 R4 S4 => ?_
    have T4 := two_ref P3 R3 ap3 R4 S4
    have Q4 := two_stq (fl'' := fl) S3 S4 (fun _ _ _ => trivial)
    have ok4 : s2.upp.Ok N := ok2.upp
    have kp4 : Kin s2.upp.d.keep := kp2
    have c4 : Cok s2.upp N := ⟨kp4.1, kp4.2, T4.p.lo, ok4, by omega⟩
    have kp5 : Kin s2.upp.call.d.keep := by rw [keep_call]; exact kp4
    (repeat first | refine HReg.step ?_ | refine HCode.step ?_)
    refine HCall.mk ⟨Try.f21, Try.func21, by rfl, by rfl⟩ ?_
    refine list_f T4.p ok4 (fun ho fl5 H5 P5 S5 => ?_) (fun ho a5 c5 ns fl5 H5 H6 P5 S5 nm hn16 m6 => ?_)
    · exfalso
      have e : s2.upp.call = s2.upp := St.call_idle rfl
      rw [e] at ho
      exact absurd ho (by show ¬ (false = true); decide)
    · obtain ⟨R5, ap5⟩ := T4.prog S5
      have R6 := R5.upd0 m6.upd
      (repeat first | refine HReg.step ?_ | refine HCode.step ?_)
      refine HCall.mk ⟨Try.f49, Try.func49, by rfl, by rfl⟩ ?_
      refine rlist_t R6 c4 (fun hf' => by rw [ho] at hf'; cases hf') (fun _ a7 c7 ns2 H7 H8 R7 S7 nm2 _ m8 => ?_)
      have en : ns2 = ns := Nms.uniq nm2 nm (fun k => Iff.rfl)
      subst en
      have w5 := (m6.own.rows.upd S7.upd (.inr fun p hp hb => R5.live _ hb (m6.new p hp))).upd (S := []) m8.upd (.inr (Off.nil _))
      (repeat first | refine HReg.step ?_ | refine HCode.step ?_)
      rw [eqB_self 0]
      (repeat first | refine HReg.step ?_ | refine HCode.step ?_)
      refine HCall.mk ⟨Try.f22, Try.func22, by rfl, by rfl⟩ ?_
      refine sameS_t w5 m8.own.rows rfl rfl (by omega) ?_
      have T8 := (two_ref (P5.upd0 m6.upd) R6 ap5 R7 S7).upd0 m8.upd
      have Q8 : Stq H4 H8 (dblk g r fl ++ B) (dblk g r fl5 ++ B) := by
        have := two_stq (fl'' := fl) (S5.fwd0 m6.upd) S7 (fun _ _ _ => trivial)
        exact ⟨this.upd.trans (m8.upd.mono (by simp)), this.sub⟩
      have TW : TAt H1 H8 g r q s2.upp.call (dblk g r fl5 ++ B) := ⟨fl5, B, T8, rfl⟩
      have aW : Off (dblk g r fl5 ++ B) a7 := fun p hp hb => by
        have hn := m8.new p hp
        rcases List.mem_append.1 hb with h | h
        · exact ((P5.upd0 m6.upd).upd S7.upd (fun b hb h => ap5 b h hb) R6.old).phys.live _ h hn
        · exact R7.live _ h hn
      (repeat first | refine HReg.step ?_ | refine HCode.step ?_)
      refine hloopC [4, 10, 11, 39, 40, 41, 42, 43, 44, 45, 46, 47, 48, 49, 50, 51, 52, 53, 54] [10] (AlI H1 H8 g r q N (dblk g r fl5 ++ B) ns2) rfl (by repeat' first | exact Resp.retD | exact Resp1.valuesK | refine Resp.blockD ?_ | refine Resp.thenD ?_ ?_ | refine Resp.hcode ?_) ?_ ?_
      · exact ⟨ns2.length, AlI.mk ⟨0, _, _, rfl, rfl, TW, Stq.refl _ _, ok4.call, kp5⟩⟩
      rintro m2 _ fe2 H9 ⟨j, s9, W9, rfl, hmj, T9, Q9, ok9, kp9⟩
      have row9 := m8.own.rows.upd Q9.upd (.inr aW)
      (repeat first | refine HReg.step ?_ | refine HCode.step ?_)
      refine hif (fun h2 => ?_) (fun h2 => ?_)
      · have h2 := ltB_true.1 h2
        have wj : wr .i64 ((j : Int) + 1) = ((j + 1 : Nat) : Int) := by rw [wr_i64 (by omega) (by omega)]; omega
        obtain ⟨t, ht⟩ : ∃ t, ns2[j]? = some t := ⟨ns2[j]'(by omega), by simp⟩
        have hx : (txts ns2)[j]? = some (.string (bs t)) := by unfold txts; rw [List.getElem?_map, ht]; rfl
        obtain ⟨ba, bo, rfl, _⟩ := row9 _ _ hx
        (repeat first | refine HReg.step ?_ | refine HCode.step ?_)
        refine HReq.mk ⟨by omega, by omega⟩ ?_
        (repeat first | refine HReg.step ?_ | refine HCode.step ?_)
        refine HLoad.one (v := .string (bs t)) (by exact row9.get hx) ?_
        (repeat first | refine HReg.step ?_ | refine HCode.step ?_)
        refine HCall.mk ⟨Try.f25, Try.func25, by rfl, by rfl⟩ ?_
        refine plays_t (o := rdOp t) (a := none) (c := 0) T9 ok9 (OwnRow.nil H1 5 1).rows (by show N + 0 ≤ _; omega) ⟨by show (-9223372036854775808 : Int) ≤ 0; decide, by show (0 : Int) ≤ 9223372036854775807; decide, by show (-9223372036854775808 : Int) ≤ 0; decide, by show (0 : Int) ≤ 9223372036854775807; decide⟩ kp9.1 kp9.2 fun W10 H10 T10 Q10 => ?_
        (repeat first | refine HReg.step ?_ | refine HCode.step ?_)
        rw [wj]
        exact ⟨m2 - 1, by omega, AlI.mk ⟨j + 1, _, W10, rfl, by omega, T10, Q9.trans Q10, ok9.does (rdOp t), keep_does _ _ kp9 ⟨by show (-9223372036854775808 : Int) ≤ 0; decide, by show (0 : Int) ≤ 9223372036854775807; decide⟩⟩⟩
      · have h2 := ltB_false.1 h2
        obtain ⟨fl9, B9, t9, rfl⟩ := T9
        (repeat first | refine HReg.step ?_ | refine HCode.step ?_)
        refine HCall.mk ⟨Try.f31, Try.func31, by rfl, by rfl⟩ ?_
        refine crash_t (keep := 0) t9.p fun fl10 H10 P10 S10 => ?_
        obtain ⟨R10, ap10⟩ := t9.prog S10
        (repeat first | refine HReg.step ?_ | refine HCode.step ?_)
        refine HCall.mk ⟨Try.f50, Try.func50, by rfl, by rfl⟩ ?_
        refine rcrash_t R10 (by decide) (by decide) (fun k x hx => by have := (ok9.le k x hx).1; omega) (by have := ok9.few; omega) fun H11 R11 S11 => ?_
        have t11 := two_ref P10 R10 ap10 R11 S11
        have Q11 := two_stq (fl'' := fl) S10 S11 (fun _ _ _ => trivial)
        (repeat first | refine HReg.step ?_ | refine HCode.step ?_)
        rw [wi]
        exact ⟨m - 1, by omega, AlO.mk ⟨i + 1, _, _, rfl, by omega, ⟨fl10, B9, t11, rfl⟩, (((Q2.trans Q4).trans Q8).trans Q9).trans Q11, ok9.crash 0, by rw [keep_crash]; exact kp9⟩⟩
  · (repeat first | refine HReg.step ?_ | refine HCode.step ?_)
    exact hk s2 W2 H2 T2 Q2
end
end Go.Proofs.Ytocejipjnklieaa
