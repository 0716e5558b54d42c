import Derived.Test.YtindnfcioibdnaaS5
namespace Go.Proofs.Ytindnfcioibdnaa
open Go Hv
set_option linter.unusedVariables false
set_option maxRecDepth 10000
theorem same_eqB {a b : Int} (h : a = b) : eqB a b = true := eqB_true.2 h

theorem framePlays_t {a0 a1 : Option Addr} {n0 c0 n1 c1 : Nat} {body stream : List UInt8} {H : Heap} (h0 : RowAt H a0 (u8s body)) (l0 : body.length = n0) (b0 : n0 ≤ 1048576) (h1 : RowAt H a1 (u8s stream)) (l1 : stream.length = n1) (d1 : n1 ≤ c1) (b1 : n1 ≤ 1048576) :
    HCalls Try.prog 3 [.slice a0 n0 c0, .slice a1 n1 c1] H (fun v H' => v = .bool true ∧ Upd [] H H') := by
  refine hcalls (fn := Try.f3) [] mixed Try.func3 rfl rfl (by decide +kernel) ?_
  (repeat first | refine HReg.step ?_ | refine HCode.step ?_)
  refine HCall.mk ⟨Try.f8, Try.func8, by rfl, by rfl⟩ ?_
  refine alive_t fun H1 u1 => ?_
  (repeat first | refine HReg.step ?_ | refine HCode.step ?_)
  refine HCall.mk ⟨Try.f10, Try.func10, by rfl, by rfl⟩ ?_
  refine own_t (h0.upd u1 (.inr (Off.nil _))) l0 (by omega) fun a2 k2 H2 m2 => ?_
  have u2 := u1.trans m2.upd
  (repeat first | refine HReg.step ?_ | refine HCode.step ?_)
  refine HCall.mk ⟨Try.f9, Try.func9, by rfl, by rfl⟩ ?_
  refine build_t m2.own.rows l0 (by omega) (fun h => absurd h (by omega)) fun _ a3 k3 H3 m3 => ?_
  have u3 := u2.trans m3.upd
  (repeat first | refine HReg.step ?_ | refine HCode.step ?_)
  refine HCall.mk ⟨Try.f11, Try.func11, by rfl, by rfl⟩ ?_
  refine bref_t (h0.upd u3 (.inr (Off.nil _))) l0 (by omega) (fun h => absurd h (by omega)) fun _ a4 k4 H4 m4 => ?_
  have u4 := u3.trans m4.upd
  (repeat first | refine HReg.step ?_ | refine HCode.step ?_)
  refine HCall.mk ⟨Try.f10, Try.func10, by rfl, by rfl⟩ ?_
  refine own_t (h1.upd u4 (.inr (Off.nil _))) l1 (by omega) fun a5 k5 H5 m5 => ?_
  have u5 := u4.trans m5.upd
  (repeat first | refine HReg.step ?_ | refine HCode.step ?_)
  refine HCall.mk ⟨Try.f12, Try.func12, by rfl, by rfl⟩ ?_
  refine (split_t m5.own.rows l1 m5.own.le (by omega)).mono fun v6 H6 p6 => ?_
  obtain ⟨u6', p6⟩ := p6
  have u6 := u5.trans u6'
  cases hs : splitA [] stream with
  | none =>
    rw [hs] at p6
    subst p6
    (repeat first | refine HReg.step ?_ | refine HCode.step ?_)
    refine HCall.mk ⟨Try.f13, Try.func13, by rfl, by rfl⟩ ?_
    refine (rsplit_t (h1.upd u6 (.inr (Off.nil _))) l1 d1 (by omega)).mono fun v7 H7 p7 => ?_
    obtain ⟨u7', p7⟩ := p7
    have u7 := u6.trans u7'
    rw [hs] at p7
    subst p7
    (repeat first | refine HReg.step ?_ | refine HCode.step ?_)
    refine hif (fun _ => ?_) (fun h => absurd h (by simp [eqB_false]))
    (repeat first | refine HReg.step ?_ | refine HCode.step ?_)
    refine HCall.mk ⟨Try.f14, Try.func14, by rfl, by rfl⟩ ?_
    have lh : (hd n0 ++ body).length = 4 + n0 := by rw [List.length_append, l0]; rfl
    have r3 := m3.own.rows.upd (m4.upd.trans (m5.upd.trans (u6'.trans u7'))) (.inr (Off.nil _))
    have r4 := m4.own.rows.upd (m5.upd.trans (u6'.trans u7')) (.inr (Off.nil _))
    refine same_eq r3 lh r4 lh rfl ?_
    (repeat first | refine HReg.step ?_ | refine HCode.step ?_)
    refine hif (fun _ => ?_) (fun h => absurd h (by simp [eqB_false]))
    (repeat first | refine HReg.step ?_ | refine HCode.step ?_)
    refine HCall.mk ⟨Try.f15, Try.func15, by rfl, by rfl⟩ ?_
    refine sameLists_t (xs := []) (ys := []) (hs := []) (ks := []) (RowAt.nil _ _) rfl trivial (RowAt.nil _ _) rfl trivial (by decide) ?_
    rw [decide_eq_true rfl]
    (repeat first | refine HReg.step ?_ | refine HCode.step ?_)
    refine HCall.mk ⟨Try.f14, Try.func14, by rfl, by rfl⟩ ?_
    refine same_eq (x := []) (y := []) (RowAt.nil _ _) rfl (RowAt.nil _ _) rfl rfl ?_
    (repeat first | refine HReg.step ?_ | refine HCode.step ?_)
    exact ⟨rfl, u7⟩
  | some r =>
    obtain ⟨out, rest⟩ := r
    rw [hs] at p6
    obtain ⟨ao, no, co, ar, cr, ls, rfl, ho, hl, hr, hno⟩ := p6.now
    (repeat first | refine HReg.step ?_ | refine HCode.step ?_)
    refine HCall.mk ⟨Try.f13, Try.func13, by rfl, by rfl⟩ ?_
    refine (rsplit_t (h1.upd u6 (.inr (Off.nil _))) l1 d1 (by omega)).mono fun v7 H7 p7 => ?_
    obtain ⟨u7', p7⟩ := p7
    have u7 := u6.trans u7'
    rw [hs] at p7
    obtain ⟨ao', no', co', ar', cr', ls', rfl, ho', hl', hr', _⟩ := p7.now
    (repeat first | refine HReg.step ?_ | refine HCode.step ?_)
    refine hif (fun _ => ?_) (fun h => absurd h (by simp [eqB_false]))
    (repeat first | refine HReg.step ?_ | refine HCode.step ?_)
    refine HCall.mk ⟨Try.f14, Try.func14, by rfl, by rfl⟩ ?_
    have lh : (hd n0 ++ body).length = 4 + n0 := by rw [List.length_append, l0]; rfl
    have r3 := m3.own.rows.upd (m4.upd.trans (m5.upd.trans (u6'.trans u7'))) (.inr (Off.nil _))
    have r4 := m4.own.rows.upd (m5.upd.trans (u6'.trans u7')) (.inr (Off.nil _))
    refine same_eq r3 lh r4 lh rfl ?_
    (repeat first | refine HReg.step ?_ | refine HCode.step ?_)
    refine hif (fun _ => ?_) (fun h => absurd h (by simp [eqB_false]))
    (repeat first | refine HReg.step ?_ | refine HCode.step ?_)
    refine HCall.mk ⟨Try.f15, Try.func15, by rfl, by rfl⟩ ?_
    have ll := ho.len
    have ll' := ho'.len
    have le1 := hl.length
    have le2 := hl'.length
    refine sameLists_t (xs := out) (ys := out) (ho.rows.upd u7' (.inr (Off.nil _))) (by omega) (hl.mono fun x y h => (h.upd u7' (by simp)).slr) ho'.rows (by omega) (hl'.mono fun x y h => h.slr) ?_ ?_
    · omega
    rw [decide_eq_true rfl]
    (repeat first | refine HReg.step ?_ | refine HCode.step ?_)
    refine HCall.mk ⟨Try.f14, Try.func14, by rfl, by rfl⟩ ?_
    refine same_eq (x := rest) (y := rest) (hr.rows.upd u7' (.inr (Off.nil _))) rfl hr'.rows rfl rfl ?_
    (repeat first | refine HReg.step ?_ | refine HCode.step ?_)
    exact ⟨rfl, u7⟩
end Go.Proofs.Ytindnfcioibdnaa
