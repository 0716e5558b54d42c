import Derived.Test.YtefmplilhbbiaaaN4
namespace Go.Proofs.Ytefmplilhbbiaaa
open Go Hv
set_option linter.unusedVariables false
set_option maxRecDepth 10000
set_option maxHeartbeats 2000000
theorem alive_t {H : Heap} {K : Value → Heap → Prop} (hk : ∀ H', Upd [] H H' → K (.bool true) H') : HCalls Try.prog 7 [] H K := by
  refine hcalls (fn := Try.f7) [] mixed Try.func7 rfl rfl (by decide +kernel) ?_
  (repeat first | refine HReg.step ?_ | refine HCode.step ?_)
  refine HCall.mk ⟨Try.f8, Try.func8, by rfl, by rfl⟩ ?_
  refine new_t (fun _ g H0 N0 u0 => ?_) (fun h => absurd ⟨by decide, by decide, by decide, by decide⟩ h)
  (repeat first | refine HReg.step ?_ | refine HCode.step ?_)
  refine hif (fun h => absurd rfl (not_eqB_true.1 h)) (fun _ => ?_)
  (repeat first | refine HReg.step ?_ | refine HCode.step ?_)
  refine HReq.mk (by decide) ?_
  (repeat first | refine HReg.step ?_ | refine HCode.step ?_)
  refine HNew.mk fun b1 hb1 => ?_
  (repeat first | refine HReg.step ?_ | refine HCode.step ?_)
  refine conv_mark Try.underlying22 Try.underlying5 (upd_same _ _ _) fun f1 => ?_
  rw [upd_upd]
  have u1 : Upd [] H0 (H0.upd b1 (.cells [u8 97].toArray 5 f1)) := Upd.new hb1 _
  have N1 := N0.upd0 u1
  (repeat first | refine HReg.step ?_ | refine HCode.step ?_)
  refine HCall.mk ⟨Try.f9, Try.func9, by rfl, by rfl⟩ ?_
  refine send_t (ys := [97]) N1 ⟨by decide, by decide⟩ ⟨by decide, by decide⟩ (by decide) (fun f hf => by simp at hf) (row_lit (upd_same _ _ _) rfl) (fun p hp hb => by
    cases hp
    exact N0.live g (mem_nblk_g _ _) (by rw [← List.mem_singleton.1 hb]; exact hb1)) rfl (by decide) (fun _ H2 l2 => ?_) (fun h => absurd (.inr ⟨by decide, by decide, by decide, by decide⟩) h)
  obtain ⟨v2, a2, cap2, N2, s2, w2, u2, f2⟩ := l2
  (repeat first | refine HReg.step ?_ | refine HCode.step ?_)
  refine HReq.mk (by decide) ?_
  (repeat first | refine HReg.step ?_ | refine HCode.step ?_)
  refine HNew.mk fun b3 hb3 => ?_
  (repeat first | refine HReg.step ?_ | refine HCode.step ?_)
  refine conv_mark Try.underlying22 Try.underlying5 (upd_same _ _ _) fun f3 => ?_
  rw [upd_upd]
  have u3 : Upd [] H2 (H2.upd b3 (.cells [u8 98].toArray 5 f3)) := Upd.new hb3 _
  have N3 := N2.upd0 u3
  have s3 := s2.upd u3 (by simp)
  (repeat first | refine HReg.step ?_ | refine HCode.step ?_)
  refine HCall.mk ⟨Try.f9, Try.func9, by rfl, by rfl⟩ ?_
  refine send_t (ys := [98]) N3 ⟨by decide, by decide⟩ ⟨by decide, by decide⟩ (by decide) (isSl_of (ls := [[97]]) ⟨s3, trivial⟩) (row_lit (upd_same _ _ _) rfl) (fun p hp hb => by
    cases hp
    exact N2.live g (mem_nblk_g _ _) (by rw [← List.mem_singleton.1 hb]; exact hb3)) rfl (by decide) (fun _ H4 l4 => ?_) (fun h => absurd (.inr ⟨by decide, by decide, by decide, by decide⟩) h)
  obtain ⟨v4, a4, cap4, N4, s4, w4, u4, f4⟩ := l4
  have S4 : All2 (Sle 5 H4) [v2, v4] [[97], [98]] := ⟨sle_net s3 N3 (by decide) (by decide) u4, s4, trivial⟩
  (repeat first | refine HReg.step ?_ | refine HCode.step ?_)
  refine HCall.mk ⟨Try.f14, Try.func14, by rfl, by rfl⟩ ?_
  refine twin_t (ls := [[97], [98]]) N4 S4 (fun l hl => by
    simp only [List.mem_cons, List.not_mem_nil, or_false] at hl
    rcases hl with rfl | rfl <;> decide) ⟨by decide, by decide⟩ (by decide) (fun i f l H5 hi hf hl l5 => ?_) (fun h => absurd ⟨by decide, by decide⟩ h)
  have hi0 : i = 0 := by omega
  subst hi0
  cases hf
  cases hl
  obtain ⟨v5, a5, cap5, N5, s5, w5, u5, f5⟩ := l5
  have S5 : All2 (Sle 5 H5) [v2, v4] [[97], [98]] := all_net S4 N4 (by decide) (by decide) u5
  (repeat first | refine HReg.step ?_ | refine HCode.step ?_)
  refine HCall.mk ⟨Try.f12, Try.func12, by rfl, by rfl⟩ ?_
  refine deliver_t N5 (isSl_of (ls := [[97], [98], [97]]) ⟨S5.1, S5.2.1, s5, trivial⟩) (by decide) (fun i f H6 hi hf N6 u6 => ?_) (fun h => absurd ⟨by decide, by decide⟩ h)
  have hi1 : i = 1 := by omega
  subst hi1
  cases hf
  have s6 : Sle 5 H6 v4 [98] := sle_net S5.2.1 N5 (by decide) (by decide) u6
  obtain ⟨b4, c4, rfl, o6⟩ := s6
  (repeat first | refine HReg.step ?_ | refine HCode.step ?_)
  refine HNew.mk fun b9 hb9 => ?_
  have u9 : Upd [] H6 (H6.upd b9 (.cells zfr.toArray 33)) := Upd.new hb9 _
  have o9 : OwnRow (H6.upd b9 (.cells zfr.toArray 33)) 33 1 (some ⟨b9, 0, none⟩) 4 4 zfr := OwnRow.lit (upd_same _ _ _) rfl
  (repeat first | refine HReg.step ?_ | refine HCode.step ?_)
  refine storeN_own (i := 0) (fcells ⟨0 + 1 + 1, -1, 1, .slice b4 [98].length c4⟩) o9 rfl (plain_fcells (f := ⟨0 + 1 + 1, -1, 1, .slice b4 [98].length c4⟩) ⟨b4, _, c4, rfl⟩) fun H10 o10 u10 => ?_
  have o10' : OwnRow H10 33 1 (some ⟨b9, 0, none⟩) 4 4 (fcells ⟨0 + 1 + 1, -1, 1, .slice b4 [98].length c4⟩) := o10
  have u610 : Upd [] H6 H10 := Upd.drop u9 u10 fun z hz => by rw [List.mem_singleton.1 hz]; exact hb9
  (repeat first | refine HReg.step ?_ | refine HCode.step ?_)
  refine hif (fun _ => ?_) (fun h => absurd rfl (eqB_false.1 h))
  (repeat first | refine HReg.step ?_ | refine HCode.step ?_)
  refine hif (fun _ => ?_) (fun h => absurd rfl (eqB_false.1 h))
  (repeat first | refine HReg.step ?_ | refine HCode.step ?_)
  refine hif (fun _ => ?_) (fun h => absurd rfl (eqB_false.1 h))
  (repeat first | refine HReg.step ?_ | refine HCode.step ?_)
  refine hif (fun _ => ?_) (fun h => absurd rfl (eqB_false.1 h))
  (repeat first | refine HReg.step ?_ | refine HCode.step ?_)
  refine HLoad.one (v := .int .i64 (0 + 1 + 1)) (by exact o10'.rows.get (i := 0) rfl) ?_
  (repeat first | refine HReg.step ?_ | refine HCode.step ?_)
  refine hif (fun _ => ?_) (fun h => absurd rfl (eqB_false.1 h))
  (repeat first | refine HReg.step ?_ | refine HCode.step ?_)
  refine HLoad.one (v := .int .i64 (-1)) (by exact o10'.rows.get (i := 1) rfl) ?_
  (repeat first | refine HReg.step ?_ | refine HCode.step ?_)
  refine hif (fun _ => ?_) (fun h => absurd rfl (eqB_false.1 h))
  (repeat first | refine HReg.step ?_ | refine HCode.step ?_)
  refine HLoad.one (v := .int .i64 1) (by exact o10'.rows.get (i := 2) rfl) ?_
  (repeat first | refine HReg.step ?_ | refine HCode.step ?_)
  refine hif (fun _ => ?_) (fun h => absurd rfl (eqB_false.1 h))
  (repeat first | refine HReg.step ?_ | refine HCode.step ?_)
  refine HLoad.one (v := .slice b4 [98].length c4) (by exact o10'.rows.get (i := 3) rfl) ?_
  (repeat first | refine HReg.step ?_ | refine HCode.step ?_)
  refine HBytes.row [98] rfl (by simpa using o6.rows.upd u610 (.inr (Off.nil _))) ?_ (by simp)
  have es : seqB (bs [98]) ⟨#[98]⟩ = true := by
    have := seqB_bs [98] [98]
    rw [decide_eq_true rfl] at this
    exact this
  (repeat first | refine HReg.step ?_ | refine HCode.step ?_)
  refine hif (fun _ => ?_) (fun h => absurd h (by rw [es]; decide))
  (repeat first | refine HReg.step ?_ | refine HCode.step ?_)
  refine HCall.mk ⟨Try.f11, Try.func11, by rfl, by rfl⟩ ?_
  refine len_t (N6.upd0 u610) ?_
  (repeat first | refine HReg.step ?_ | refine HCode.step ?_)
  have hkk := hk H10 (N6.base.trans u610)
  rw [show eqB ((0 + 1 + 1 + 1 - 1 : Nat) : Int) 2 = true from eqB_true.2 rfl]
  exact hkk
end Go.Proofs.Ytefmplilhbbiaaa
