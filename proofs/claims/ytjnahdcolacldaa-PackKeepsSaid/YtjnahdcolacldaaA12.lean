import Derived.Test.YtjnahdcolacldaaA10
namespace Go.Proofs.Ytjnahdcolacldaa
open Go Hv
set_option linter.unusedVariables false
set_option linter.unusedSimpArgs false
set_option maxRecDepth 10000
set_option maxHeartbeats 1000000
/-! PackWrites -/
theorem OpOk.upd0 {H H' : Heap} {o : Opk} (h : OpOk H o) (u : Upd [] H H') : OpOk H' o := ⟨h.v, h.row.upd (S := []) u (.inr (Off.nil _)), h.len, h.n, h.m, h.cap⟩
theorem WAt.back {H0 H1 H : Heap} {g : Nat} {S : List Nat} {w : W} (d : WAt H1 H g S w) (u : Upd [] H0 H1) : WAt H0 H g S w := ⟨d.ok, u.trans d.base, fun b hb => Upd.none (S := []) u (by simp) (d.new b hb), d.ex⟩
theorem VAt.back {H0 H1 H : Heap} {g : Nat} {S : List Nat} {w : W} (d : VAt H1 H g S w) (u : Upd [] H0 H1) : VAt H0 H g S w := ⟨d.ok, u.trans d.base, fun b hb => Upd.none (S := []) u (by simp) (d.new b hb), d.ex⟩
structure PwInv (H : Heap) (g g2 : Nat) (w0 : W) (ops : List Opk) (m : Nat) (vs : List Value) (H' : Heap) : Prop where
  ex : ∃ (i : Nat) (S T : List Nat), vs = [.int .i64 (i : Int)] ∧ m + i = ops.length ∧ WAt H H' g S (w0.ops (ops.take i)) ∧ VAt H H' g2 T (w0.ops (ops.take i)) ∧ Apart S T
theorem packWrites_t {limit : Int} {a : Option Addr} {k c : Nat} {ops : List Opk} {H : Heap} {K : Value → Heap → Prop} (hlimit : limit ≤ 9223372036854775807) (ro : RowAt H a (orow ops)) (lo : ops.length = k) (bo : ∀ o ∈ ops, OpOk H o) (bk : opsLen ops ≤ 4194304) (bl : k ≤ 1048576)
    (hk : ∀ H', Upd [] H H' → K (.bool true) H') : HCalls Try.prog 4 [.int .i64 limit, .slice a k c] H K := by
  refine hcalls (fn := Try.f4) [] mixed Try.func4 rfl rfl (by decide +kernel) ?_
  (repeat first | refine HReg.step ?_ | refine HCode.step ?_)
  refine HCall.mk ⟨Try.f8, Try.func8, by rfl, by rfl⟩ ?_
  refine newW_t hlimit fun g S1 H1 d1 => ?_
  (repeat first | refine HReg.step ?_ | refine HCode.step ?_)
  refine HCall.mk ⟨Try.f17, Try.func17, by rfl, by rfl⟩ ?_
  refine rnewW_t hlimit fun g2 T2 H2 e2 => ?_
  have ap : Apart S1 T2 := (Apart.new e2.new d1.live).symm
  have d2 := d1.upd0 e2.base
  have e2 := e2.back d1.base
  (repeat first | refine HReg.step ?_ | refine HCode.step ?_)
  refine HCall.mk ⟨Try.f10, Try.func10, by rfl, by rfl⟩ ?_
  refine known_t fun H3 u3 => ?_
  have d3 := d2.upd0 u3
  have e3 := e2.upd0 u3
  generalize hw0 : (⟨(max limit 0).toNat, [], 0⟩ : W) = w0 at *
  have hw0l : w0.out.length = 0 := by rw [← hw0]; rfl
  have fin : ∀ (S T : List Nat) (H4 : Heap) (w : W), WAt H H4 g S w → VAt H H4 g2 T w → w.out.length ≤ 140737488355328 → HCalls Try.prog 21 [.pointer (some ⟨g, 0, none⟩), .pointer (some ⟨g2, 0, none⟩)] H4 (fun v H' => v = .bool true ∧ Upd [] H4 H') := fun S T H4 w d e hl => outs_t d e hl fun H' u => ⟨rfl, u⟩
  (repeat first | refine HReg.step ?_ | refine HCode.step ?_)
  refine hloopC [4, 7, 18, 19, 20, 21, 22, 23, 24, 25, 26, 27, 28, 29, 30, 31, 32, 33, 34, 35, 36, 37, 38, 39, 40, 41, 42, 43, 44, 45, 46, 47, 48, 49, 50, 51] [7] (PwInv H g g2 w0 ops) rfl (by repeat' first | exact Resp.retD | exact Resp1.valuesK | refine Resp.blockD ?_ | refine Resp.thenD ?_ ?_ | refine Resp.hcode ?_) ?_ ?_
  · exact ⟨ops.length, PwInv.mk ⟨0, S1, T2, rfl, rfl, d3, e3, ap⟩⟩
  rintro m _ fe H4 ⟨i, S4, T4, rfl, hmi, d4, e4, ap4⟩
  have hlen := ops_len (ops.take i) w0
  have htk := opsLen_take ops i
  (repeat first | refine HReg.step ?_ | refine HCode.step ?_)
  refine hif (fun h1 => ?_) (fun h1 => ?_)
  · have h1 := ltB_true.1 h1
    obtain ⟨o, ho⟩ : ∃ o, ops[i]? = some o := ⟨ops[i]'(by omega), by simp⟩
    have hom := bo o (List.mem_of_getElem? ho)
    have hgo := opsLen_get ho
    have htk1 := opsLen_take ops (i + 1)
    have ro4 := ro.upd (S := []) d4.base (.inr (Off.nil _))
    obtain ⟨ba, bo', rfl, _⟩ := ro4 _ _ (orow_get ho 0 _ rfl)
    have w2 : wr .i64 ((i : Int) + 1) = ((i + 1 : Nat) : Int) := by rw [wr_i64 (by omega) (by omega)]; omega
    have hst := ops_take (w := w0) ho
    (repeat first | refine HReg.step ?_ | refine HCode.step ?_)
    refine HReq.mk ⟨by omega, by omega⟩ ?_
    (repeat first | refine HReg.step ?_ | refine HCode.step ?_)
    refine HLoadN_op ro4 ho ?_
    (repeat first | refine HReg.step ?_ | refine HCode.step ?_)
    refine HCall.mk ⟨Try.f12, Try.func12, by rfl, by rfl⟩ ?_
    refine write_t d4 hom (by omega) fun S5 H5 d5 f5 => ?_
    have e5 := e4.upd f5.upd (fun b hb => ap4.symm b hb) d4.new
    have ap5 := ap4.foot f5 e4.live
    have ro5 := ro.upd (S := []) d5.base (.inr (Off.nil _))
    (repeat first | refine HReg.step ?_ | refine HCode.step ?_)
    refine HReq.mk ⟨by omega, by omega⟩ ?_
    (repeat first | refine HReg.step ?_ | refine HCode.step ?_)
    refine HLoadN_op ro5 ho ?_
    (repeat first | refine HReg.step ?_ | refine HCode.step ?_)
    refine HCall.mk ⟨Try.f18, Try.func18, by rfl, by rfl⟩ ?_
    refine want_t e5 hom (by omega) fun T6 H6 e6 f6 => ?_
    have d6 := d5.upd f6.upd (fun b hb => ap5 b hb) e5.new
    have ap6 : Apart S5 T6 := (ap5.symm.foot f6 d5.live).symm
    rw [← hst] at d6 e6
    have hl6 := ops_len (ops.take (i + 1)) w0
    (repeat first | refine HReg.step ?_ | refine HCode.step ?_)
    refine HCall.mk ⟨Try.f19, Try.func19, by rfl, by rfl⟩ ?_
    refine len_t d6 ?_
    (repeat first | refine HReg.step ?_ | refine HCode.step ?_)
    refine HCall.mk ⟨Try.f20, Try.func20, by rfl, by rfl⟩ ?_
    refine dlen_t e6 ?_
    (repeat first | refine HReg.step ?_ | refine HCode.step ?_)
    refine hif (fun h => absurd rfl (not_eqB_true.1 h)) (fun _ => ?_)
    (repeat first | refine HReg.step ?_ | refine HCode.step ?_)
    refine HReq.mk (by decide) ?_
    (repeat first | refine HReg.step ?_ | refine HCode.step ?_)
    refine hif (fun h2 => ?_) (fun h2 => ?_)
    · (repeat first | refine HReg.step ?_ | refine HCode.step ?_)
      refine HCall.mk ⟨Try.f21, Try.func21, by rfl, by rfl⟩ ?_
      refine outs_t d6 e6 (by omega) fun H7 u7 => ?_
      (repeat first | refine HReg.step ?_ | refine HCode.step ?_)
      rw [w2]
      exact ⟨m - 1, by omega, PwInv.mk ⟨i + 1, S5, T6, rfl, by omega, d6.upd0 u7, e6.upd0 u7, ap6⟩⟩
    · (repeat first | refine HReg.step ?_ | refine HCode.step ?_)
      rw [w2]
      exact ⟨m - 1, by omega, PwInv.mk ⟨i + 1, S5, T6, rfl, by omega, d6, e6, ap6⟩⟩
  · have h1 := ltB_false.1 h1
    (repeat first | refine HReg.step ?_ | refine HCode.step ?_)
    refine HCall.mk ⟨Try.f21, Try.func21, by rfl, by rfl⟩ ?_
    refine outs_t d4 e4 (by omega) fun H7 u7 => ?_
    (repeat first | refine HReg.step ?_ | refine HCode.step ?_)
    exact hk H7 (d4.base.trans u7)
end Go.Proofs.Ytjnahdcolacldaa
