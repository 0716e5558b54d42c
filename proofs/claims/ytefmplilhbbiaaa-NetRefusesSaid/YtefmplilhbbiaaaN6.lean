import Derived.Test.YtefmplilhbbiaaaN5
namespace Go.Proofs.Ytefmplilhbbiaaa
open Go Hv
set_option linter.unusedVariables false
set_option maxRecDepth 10000
set_option maxHeartbeats 2000000
structure CanJ (frm to : Int) (H0 : Heap) (vs : List Value) (H' : Heap) : Prop where
  ex : ∃ b : Bool, vs = [.bool b] ∧ (b = true ↔ can 3 2 frm to) ∧ H0 = H'
structure PlJ (H0 : Heap) (vs : List Value) (H' : Heap) : Prop where
  ex : ∃ p : Int, vs = [.int .i64 p] ∧ ¬ (0 ≤ p ∧ p < 2) ∧ H0 = H'
theorem netRefuses_t {frm to place : Int} {a0 : Option Addr} {n0 c0 : Nat} {ys : List UInt8} {H : Heap} (h0 : RowAt H a0 (u8s ys)) (l0 : ys.length = n0) (b0 : n0 ≤ 140737488351232) :
    HCalls Try.prog 3 [.int .i64 frm, .int .i64 to, .int .i64 place, .slice a0 n0 c0] H (fun v H' => v = .bool true ∧ Upd [] H H') := by
  refine hcalls (fn := Try.f3) [] mixed Try.func3 rfl rfl (by decide +kernel) ?_
  (repeat first | refine HReg.step ?_ | refine HCode.step ?_)
  refine HCall.mk ⟨Try.f7, Try.func7, by rfl, by rfl⟩ ?_
  refine alive_t fun H1 u1 => ?_
  (repeat first | refine HReg.step ?_ | refine HCode.step ?_)
  refine HCall.mk ⟨Try.f8, Try.func8, by rfl, by rfl⟩ ?_
  refine new_t (fun _ g H2 N2 u2 => ?_) (fun h => absurd ⟨by decide, by decide, by decide, by decide⟩ h)
  (repeat first | refine HReg.step ?_ | refine HCode.step ?_)
  refine hif (fun h => absurd rfl (not_eqB_true.1 h)) (fun _ => ?_)
  (repeat first | refine HReg.step ?_ | refine HCode.step ?_)
  refine HCall.mk ⟨Try.f10, Try.func10, by rfl, by rfl⟩ ?_
  refine own_t (h0.upd (u1.trans u2) (.inr (Off.nil _))) l0 (by omega) fun a3 c3 H3 m3 => ?_
  have N3 := N2.upd0 m3.upd
  (repeat first | refine HReg.step ?_ | refine HCode.step ?_)
  refine HCall.mk ⟨Try.f9, Try.func9, by rfl, by rfl⟩ ?_
  refine send_t N3 ⟨by decide, by decide⟩ ⟨by decide, by decide⟩ (by decide) (fun f hf => by simp at hf) m3.own.rows (N3.obj.offT m3.own (by decide)) l0 (by omega) (fun _ H4 l4 => ?_) (fun h => absurd (.inr ⟨by decide, by decide, by decide, by decide⟩) h)
  obtain ⟨v4, a4, cap4, N4, s4, w4, u4, f4⟩ := l4
  (repeat first | refine HReg.step ?_ | refine HCode.step ?_)
  refine HCall.mk ⟨Try.f10, Try.func10, by rfl, by rfl⟩ ?_
  refine own_t (h0.upd (u1.trans N4.base) (.inr (Off.nil _))) l0 (by omega) fun a5 c5 H5 m5 => ?_
  have N5 := N4.upd0 m5.upd
  have s5 := s4.upd m5.upd (by simp)
  (repeat first | refine HReg.step ?_ | refine HCode.step ?_)
  refine HCall.mk ⟨Try.f9, Try.func9, by rfl, by rfl⟩ ?_
  refine send_t N5 ⟨by decide, by decide⟩ ⟨by decide, by decide⟩ (by decide) (isSl_of (ls := [ys]) ⟨s5, trivial⟩) m5.own.rows (N5.obj.offT m5.own (by decide)) l0 (by omega) (fun _ H6 l6 => ?_) (fun h => absurd (.inl ⟨by decide, by decide, by decide, by decide⟩) h)
  obtain ⟨v6, a6, cap6, N6, s6, w6, u6, f6⟩ := l6
  have S6 : All2 (Sle 5 H6) [v4, v6] [ys, ys] := ⟨sle_net s5 N5 (by decide) (by decide) u6, s6, trivial⟩
  repeat refine HReg.step ?_
  refine hcutC [11, 41, 42, 43, 44, 45, 46, 47, 48, 49, 50, 51, 52, 53, 54, 55, 56, 57, 58, 59, 60, 61] [11] (CanJ frm to H6) rfl (by repeat' first | exact Resp.retD | exact Resp1.valuesK | refine Resp.blockD ?_ | refine Resp.thenD ?_ ?_ | refine Resp.hcode ?_) ?_ ?_
  · (repeat first | refine HReg.step ?_ | refine HCode.step ?_)
    refine hif (fun e1 => ?_) (fun e1 => ?_)
    · have e1 := not_ltB_true.1 e1
      (repeat first | refine HReg.step ?_ | refine HCode.step ?_)
      refine hif (fun e2 => ?_) (fun e2 => ?_)
      · have e2 := ltB_true.1 e2
        (repeat first | refine HReg.step ?_ | refine HCode.step ?_)
        refine hif (fun e3 => ?_) (fun e3 => ?_)
        · have e3 := not_ltB_true.1 e3
          (repeat first | refine HReg.step ?_ | refine HCode.step ?_)
          refine hif (fun e4 => ?_) (fun e4 => ?_)
          · have e4 := ltB_true.1 e4
            (repeat first | refine HReg.step ?_ | refine HCode.step ?_)
            refine CanJ.mk ⟨_, rfl, ?_, rfl⟩
            rw [ltB_eq, ltB_eq]
            unfold can
            by_cases x1 : frm < 0 <;> by_cases x2 : to < 0 <;> simp [x1, x2] <;> omega
          · have e4 := ltB_false.1 e4
            (repeat first | refine HReg.step ?_ | refine HCode.step ?_)
            exact CanJ.mk ⟨false, rfl, by unfold can; simp; omega, rfl⟩
        · have e3 := not_ltB_false.1 e3
          (repeat first | refine HReg.step ?_ | refine HCode.step ?_)
          exact CanJ.mk ⟨false, rfl, by unfold can; simp; omega, rfl⟩
      · have e2 := ltB_false.1 e2
        (repeat first | refine HReg.step ?_ | refine HCode.step ?_)
        exact CanJ.mk ⟨false, rfl, by unfold can; simp; omega, rfl⟩
    · have e1 := not_ltB_false.1 e1
      (repeat first | refine HReg.step ?_ | refine HCode.step ?_)
      exact CanJ.mk ⟨false, rfl, by unfold can; simp; omega, rfl⟩
  rintro _ f7 _ ⟨cn, rfl, hcn, rfl⟩
  (repeat first | refine HReg.step ?_ | refine HCode.step ?_)
  refine HCall.mk ⟨Try.f10, Try.func10, by rfl, by rfl⟩ ?_
  refine own_t (h0.upd (u1.trans N6.base) (.inr (Off.nil _))) l0 (by omega) fun a7 c7 H7 m7 => ?_
  have N7 := N6.upd0 m7.upd
  have S7 := all_upd S6 m7.upd
  (repeat first | refine HReg.step ?_ | refine HCode.step ?_)
  refine HCall.mk ⟨Try.f9, Try.func9, by rfl, by rfl⟩ ?_
  refine send_t N7 ⟨by decide, by decide⟩ ⟨by decide, by decide⟩ (by decide) (isSl_of (ls := [ys, ys]) S7) m7.own.rows (N7.obj.offT m7.own (by decide)) l0 (by omega) (fun hc H8 l8 => ?_) (fun hc => ?_)
  · obtain ⟨v8, a8, cap8, N8, s8, w8, u8', f8⟩ := l8
    have hcn' := hcn.2 hc
    subst hcn'
    (repeat first | refine HReg.step ?_ | refine HCode.step ?_)
    refine hif (fun _ => ?_) (fun h => absurd rfl (eqB_false.1 h))
    (repeat first | refine HReg.step ?_ | refine HCode.step ?_)
    refine hif (fun _ => ?_) (fun h => absurd rfl (eqB_false.1 h))
    (repeat first | refine HReg.step ?_ | refine HCode.step ?_)
    refine HCall.mk ⟨Try.f11, Try.func11, by rfl, by rfl⟩ ?_
    refine len_t N8 ?_
    (repeat first | refine HReg.step ?_ | refine HCode.step ?_)
    exact ⟨congrArg Value.bool (eqB_true.2 rfl), u1.trans N8.base⟩
  · have hcn' : cn = false := by
      cases cn
      · rfl
      · exact absurd (hcn.1 rfl) hc
    subst hcn'
    (repeat first | refine HReg.step ?_ | refine HCode.step ?_)
    refine hif (fun h => absurd rfl (not_eqB_true.1 h)) (fun _ => ?_)
    (repeat first | refine HReg.step ?_ | refine HCode.step ?_)
    refine hif (fun h => absurd rfl (not_eqB_true.1 h)) (fun _ => ?_)
    repeat refine HReg.step ?_
    iterate 1 refine HCode.step ?_
    refine hcutC [2, 89, 90, 91, 92, 93, 94] [2] (PlJ H7) rfl (by repeat' first | exact Resp.retD | exact Resp1.valuesK | refine Resp.blockD ?_ | refine Resp.thenD ?_ ?_ | refine Resp.hcode ?_) ?_ ?_
    · (repeat first | refine HReg.step ?_ | refine HCode.step ?_)
      refine hif (fun e1 => ?_) (fun e1 => ?_)
      · have e1 := not_ltB_true.1 e1
        (repeat first | refine HReg.step ?_ | refine HCode.step ?_)
        refine hif (fun e2 => ?_) (fun e2 => ?_)
        · (repeat first | refine HReg.step ?_ | refine HCode.step ?_)
          exact PlJ.mk ⟨2, rfl, by decide, rfl⟩
        · have e2 := ltB_false.1 e2
          (repeat first | refine HReg.step ?_ | refine HCode.step ?_)
          exact PlJ.mk ⟨place, rfl, by omega, rfl⟩
      · have e1 := not_ltB_false.1 e1
        (repeat first | refine HReg.step ?_ | refine HCode.step ?_)
        exact PlJ.mk ⟨place, rfl, by omega, rfl⟩
    rintro _ f8 _ ⟨p, rfl, hp, rfl⟩
    have hp' : ¬ (0 ≤ p ∧ p < ((0 + 1 + 1 : Nat) : Int)) := by omega
    (repeat first | refine HReg.step ?_ | refine HCode.step ?_)
    refine HCall.mk ⟨Try.f12, Try.func12, by rfl, by rfl⟩ ?_
    refine deliver_t N7 (isSl_of S7) (by decide) (fun i f H8 hi hf N8 u8 => absurd hf (by
      have : ¬ i < 2 := by omega
      rw [List.getElem?_eq_none (by show 2 ≤ i; omega)]; simp)) (fun _ H8 u8' => ?_)
    have N8 := N7.upd0 u8'
    have S8 := all_upd S7 u8'
    (repeat first | refine HReg.step ?_ | refine HCode.step ?_)
    refine HNew.mk fun b9 hb9 => ?_
    have u9 : Upd [] H8 (H8.upd b9 (.cells zfr.toArray 33)) := Upd.new hb9 _
    have o9 : OwnRow (H8.upd b9 (.cells zfr.toArray 33)) 33 1 (some ⟨b9, 0, none⟩) 4 4 zfr := OwnRow.lit (upd_same _ _ _) rfl
    (repeat first | refine HReg.step ?_ | refine HCode.step ?_)
    refine storeN_own (i := 0) zfr o9 rfl plain_zfr fun H10 o10 u10 => ?_
    have o10' : OwnRow H10 33 1 (some ⟨b9, 0, none⟩) 4 4 zfr := o10
    have u810 : Upd [] H8 H10 := Upd.drop u9 u10 fun z hz => by rw [List.mem_singleton.1 hz]; exact hb9
    have N10 := N8.upd0 u810
    have S10 := all_upd S8 u810
    (repeat first | refine HReg.step ?_ | refine HCode.step ?_)
    refine HCall.mk ⟨Try.f13, Try.func13, by rfl, by rfl⟩ ?_
    refine lose_t N10 (isSl_of S10) (by decide) (fun i f H8 hi hf N8 u8 => absurd hf (by
      have : ¬ i < 2 := by omega
      rw [List.getElem?_eq_none (by show 2 ≤ i; omega)]; simp)) (fun _ H11 u11 => ?_)
    have N11 := N10.upd0 u11
    have S11 := all_upd S10 u11
    (repeat first | refine HReg.step ?_ | refine HCode.step ?_)
    refine HCall.mk ⟨Try.f14, Try.func14, by rfl, by rfl⟩ ?_
    refine twin_t N11 S11 (fun l hl => by
      simp only [List.mem_cons, List.not_mem_nil, or_false] at hl
      rcases hl with rfl | rfl <;> omega) ⟨by decide, by decide⟩ (by decide) (fun i f l H5 hi hf hl l5 => absurd hf (by
      have : ¬ i < 2 := by omega
      rw [List.getElem?_eq_none (by show 2 ≤ i; omega)]; simp)) (fun _ => ?_)
    (repeat first | refine HReg.step ?_ | refine HCode.step ?_)
    refine HCall.mk ⟨Try.f9, Try.func9, by rfl, by rfl⟩ ?_
    refine send_t (ys := []) N11 ⟨by decide, by decide⟩ ⟨by decide, by decide⟩ (by decide) (isSl_of S11) (RowAt.nil _ _) (fun p hp => by cases hp) rfl (by decide) (fun _ H12 l12 => ?_) (fun h => absurd (.inr ⟨by decide, by decide, by decide, by decide⟩) h)
    have o11 := o10'.upd u11 (Off.nil _)
    obtain ⟨v12, a12, cap12, N12, s12, w12, u12, f12⟩ := l12
    have hg9 : b9 ∉ nblk g a6 := fun hb => by
      have := (N7.upd0 u8').live _ hb
      exact this hb9
    have o12 := o11.upd u12 (fun p hp hb => by cases hp; exact hg9 hb)
    (repeat first | refine HReg.step ?_ | refine HCode.step ?_)
    refine hif (fun _ => ?_) (fun h => absurd rfl (eqB_false.1 h))
    (repeat first | refine HReg.step ?_ | refine HCode.step ?_)
    refine hif (fun _ => ?_) (fun h => absurd rfl (eqB_false.1 h))
    (repeat first | refine HReg.step ?_ | refine HCode.step ?_)
    refine hif (fun _ => ?_) (fun h => absurd rfl (eqB_false.1 h))
    (repeat first | refine HReg.step ?_ | refine HCode.step ?_)
    refine HLoad.one (v := .int .i64 0) (by exact o12.rows.get (i := 0) rfl) ?_
    (repeat first | refine HReg.step ?_ | refine HCode.step ?_)
    refine hif (fun _ => ?_) (fun h => absurd rfl (eqB_false.1 h))
    (repeat first | refine HReg.step ?_ | refine HCode.step ?_)
    refine HLoad.one (v := .slice none 0 0) (by exact o12.rows.get (i := 3) rfl) ?_
    (repeat first | refine HReg.step ?_ | refine HCode.step ?_)
    refine hif (fun _ => ?_) (fun h => absurd rfl (eqB_false.1 h))
    (repeat first | refine HReg.step ?_ | refine HCode.step ?_)
    refine hif (fun _ => ?_) (fun h => absurd rfl (eqB_false.1 h))
    (repeat first | refine HReg.step ?_ | refine HCode.step ?_)
    refine HCall.mk ⟨Try.f11, Try.func11, by rfl, by rfl⟩ ?_
    refine len_t N12 ?_
    (repeat first | refine HReg.step ?_ | refine HCode.step ?_)
    refine hif (fun _ => ?_) (fun h => absurd rfl (eqB_false.1 h))
    (repeat first | refine HReg.step ?_ | refine HCode.step ?_)
    refine hif (fun _ => ?_) (fun h => absurd rfl (eqB_false.1 h))
    (repeat first | refine HReg.step ?_ | refine HCode.step ?_)
    exact ⟨congrArg Value.bool (eqB_true.2 rfl), u1.trans N12.base⟩
end Go.Proofs.Ytefmplilhbbiaaa
