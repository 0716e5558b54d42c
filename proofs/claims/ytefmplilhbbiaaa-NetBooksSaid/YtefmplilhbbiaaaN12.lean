import Derived.Test.YtefmplilhbbiaaaN11
namespace Go.Proofs.Ytefmplilhbbiaaa
open Go Hv
set_option linter.unusedVariables false
set_option maxRecDepth 10000
set_option maxHeartbeats 1000000
theorem sameF_t {f f' : Fr} {l : List UInt8} {H : Heap} {K : Value → Heap → Prop} (hs : FrSame f f') (s : Sle 5 H f.v l) (s' : Sle 5 H f'.v l) (hk : ∀ H', Upd [] H H' → K (.bool true) H') : HCalls Try.prog 31 [.agg (fcells f).toArray, .agg (fcells f').toArray] H K := by
  obtain ⟨a, c, he, o⟩ := s
  obtain ⟨a', c', he', o'⟩ := s'
  refine hcalls (fn := Try.f31) [] mixed Try.func31 rfl rfl (by decide +kernel) ?_
  (repeat first | refine HReg.step ?_ | refine HCode.step ?_)
  refine HNew.mk fun b2 hb2 => ?_
  have u2 : Upd [] H (H.upd b2 (.cells (fcells f).toArray 33)) := Upd.new hb2 _
  have q2 : RowAt (H.upd b2 (.cells (fcells f).toArray 33)) (some ⟨b2, 0, none⟩) (fcells f) := RowAt.of_cells (upd_same _ _ _)
  (repeat first | refine HReg.step ?_ | refine HCode.step ?_)
  refine HNew.mk fun b3 hb3 => ?_
  have u3 : Upd [] (H.upd b2 (.cells (fcells f).toArray 33)) ((H.upd b2 (.cells (fcells f).toArray 33)).upd b3 (.cells (fcells f').toArray 67)) := Upd.new hb3 _
  have q3 : RowAt ((H.upd b2 (.cells (fcells f).toArray 33)).upd b3 (.cells (fcells f').toArray 67)) (some ⟨b3, 0, none⟩) (fcells f') := RowAt.of_cells (upd_same _ _ _)
  have q2' := q2.upd u3 (.inr (Off.nil _))
  (repeat first | refine HReg.step ?_ | refine HCode.step ?_)
  refine HLoad.one (v := .int .i64 f.num) (by exact q2'.get (i := 0) rfl) ?_
  (repeat first | refine HReg.step ?_ | refine HCode.step ?_)
  refine HLoad.one (v := .int .i64 f'.num) (by exact q3.get (i := 0) rfl) ?_
  (repeat first | refine HReg.step ?_ | refine HCode.step ?_)
  refine hif (fun _ => ?_) (fun h => absurd hs.1 (eqB_false.1 h))
  (repeat first | refine HReg.step ?_ | refine HCode.step ?_)
  refine HLoad.one (v := .int .i64 f.frm) (by exact q2'.get (i := 1) rfl) ?_
  (repeat first | refine HReg.step ?_ | refine HCode.step ?_)
  refine HLoad.one (v := .int .i64 f'.frm) (by exact q3.get (i := 1) rfl) ?_
  (repeat first | refine HReg.step ?_ | refine HCode.step ?_)
  refine hif (fun _ => ?_) (fun h => absurd hs.2.1 (eqB_false.1 h))
  (repeat first | refine HReg.step ?_ | refine HCode.step ?_)
  refine HLoad.one (v := .int .i64 f.to) (by exact q2'.get (i := 2) rfl) ?_
  (repeat first | refine HReg.step ?_ | refine HCode.step ?_)
  refine HLoad.one (v := .int .i64 f'.to) (by exact q3.get (i := 2) rfl) ?_
  (repeat first | refine HReg.step ?_ | refine HCode.step ?_)
  refine hif (fun _ => ?_) (fun h => absurd hs.2.2 (eqB_false.1 h))
  (repeat first | refine HReg.step ?_ | refine HCode.step ?_)
  refine HLoad.one (v := .slice a l.length c) (by rw [← he]; exact q2'.get (i := 3) rfl) ?_
  (repeat first | refine HReg.step ?_ | refine HCode.step ?_)
  refine HLoad.one (v := .slice a' l.length c') (by rw [← he']; exact q3.get (i := 3) rfl) ?_
  (repeat first | refine HReg.step ?_ | refine HCode.step ?_)
  refine HCall.mk ⟨Try.f16, Try.func16, by rfl, by rfl⟩ ?_
  refine same_eq (x := l) (y := l) (o.rows.upd (u2.trans u3) (.inr (Off.nil _))) rfl (o'.rows.upd (u2.trans u3) (.inr (Off.nil _))) rfl rfl ?_
  (repeat first | refine HReg.step ?_ | refine HCode.step ?_)
  exact hk _ (u2.trans u3)
theorem All2.geti {α β : Type} {R : α → β → Prop} {xs : List α} {ys : List β} (h : All2 R xs ys) {i : Nat} {x : α} {y : β} (hx : xs[i]? = some x) (hy : ys[i]? = some y) : R x y := by
  obtain ⟨x', h1, h2⟩ := h.get hy
  rw [hx] at h1; cases h1; exact h2
structure KuInv (n : Nat) (H0 : Heap) (m : Nat) (vs : List Value) (H' : Heap) : Prop where
  ex : ∃ j : Nat, vs = [.int .i64 (j : Int)] ∧ m + j = n ∧ Upd [] H0 H'
theorem sameFlight_t {x y : Option Addr} {n cx cy : Nat} {X Y : List Fr} {ls : List (List UInt8)} {H : Heap} {K : Value → Heap → Prop} (rX : OwnRow H 33 4 x n cx (frow X)) (rY : OwnRow H 67 4 y n cy (frow Y)) (hs : All2 FrSame X Y) (sX : All2 (Sle 5 H) (X.map Fr.v) ls) (sY : All2 (Sle 5 H) (Y.map Fr.v) ls) (hn : n ≤ 2932031007402)
    (hk : ∀ H', Upd [] H H' → K (.bool true) H') : HCalls Try.prog 21 [.slice x n cx, .slice y n cy] H K := by
  have lX : X.length = n := by have := rX.len; rw [frow_length] at this; omega
  have lY : Y.length = n := by have := rY.len; rw [frow_length] at this; omega
  have ll := sX.length
  rw [List.length_map] at ll
  refine hcalls (fn := Try.f21) [(6, [(0, 0), (1, 0), (2, 0), (3, 0), (4, 0), (5, 0), (6, 0), (7, 0), (8, 0), (9, 0)])] mixed Try.func21 rfl rfl (by decide +kernel) ?_
  (repeat first | refine HReg.step ?_ | refine HCode.step ?_)
  refine hif (fun h => absurd rfl (not_eqB_true.1 h)) (fun _ => ?_)
  (repeat first | refine HReg.step ?_ | refine HCode.step ?_)
  refine hloopC [4, 5, 11, 12, 13, 14, 15, 16, 17, 18, 19, 20, 21, 22, 23, 24, 25, 26] [5] (KuInv n H) rfl (by repeat' first | exact Resp.retD | exact Resp1.valuesK | refine Resp.blockD ?_ | refine Resp.thenD ?_ ?_ | refine Resp.hcode ?_) ?_ ?_
  · exact ⟨n, KuInv.mk ⟨0, rfl, rfl, Upd.refl _ _⟩⟩
  rintro m vs f H2 ⟨i, rfl, hmi, u2⟩
  (repeat first | refine HReg.step ?_ | refine HCode.step ?_)
  refine hif (fun h => ?_) (fun h => ?_)
  · have h := ltB_true.1 h
    obtain ⟨f, hf⟩ : ∃ f, X[i]? = some f := ⟨X[i]'(by omega), by simp⟩
    obtain ⟨f', hf'⟩ : ∃ f, Y[i]? = some f := ⟨Y[i]'(by omega), by simp⟩
    obtain ⟨l, hl⟩ : ∃ l, ls[i]? = some l := ⟨ls[i]'(by omega), by simp⟩
    obtain ⟨gx, rfl⟩ := rX.addr (by omega)
    obtain ⟨gy, rfl⟩ := rY.addr (by omega)
    have rX2 := rX.upd u2 (Off.nil _)
    have rY2 := rY.upd u2 (Off.nil _)
    have s1 : Sle 5 H f.v l := All2.geti sX (by rw [List.getElem?_map, hf]; rfl) hl
    have s2 : Sle 5 H f'.v l := All2.geti sY (by rw [List.getElem?_map, hf']; rfl) hl
    (repeat first | refine HReg.step ?_ | refine HCode.step ?_)
    refine HReq.mk ⟨by omega, by omega⟩ ?_
    (repeat first | refine HReg.step ?_ | refine HCode.step ?_)
    refine HLoadN.mk ⟨fcells f, fun Hx hx j v hv => ?_, rfl, ?_⟩
    · rw [List.mem_singleton.1 hx]
      exact fr_get rX2 hf hv
    (repeat first | refine HReg.step ?_ | refine HCode.step ?_)
    refine HReq.mk ⟨by omega, by omega⟩ ?_
    (repeat first | refine HReg.step ?_ | refine HCode.step ?_)
    refine HLoadN.mk ⟨fcells f', fun Hx hx j v hv => ?_, rfl, ?_⟩
    · rw [List.mem_singleton.1 hx]
      exact fr_get rY2 hf' hv
    (repeat first | refine HReg.step ?_ | refine HCode.step ?_)
    refine HCall.mk ⟨Try.f31, Try.func31, by rfl, by rfl⟩ ?_
    refine sameF_t (All2.geti hs hf hf') (s1.upd u2 (by simp)) (s2.upd u2 (by simp)) fun H3 u3 => ?_
    (repeat first | refine HReg.step ?_ | refine HCode.step ?_)
    have hw : wr .i64 ((i : Int) + 1) = ((i + 1 : Nat) : Int) := by rw [wr_i64 (by omega) (by omega)]; omega
    rw [hw]
    refine Exists.intro (m - 1) ?_
    refine And.intro (by omega) ?_
    exact KuInv.mk ⟨i + 1, rfl, by omega, u2.trans u3⟩
  · (repeat first | refine HReg.step ?_ | refine HCode.step ?_)
    exact hk H2 u2
end Go.Proofs.Ytefmplilhbbiaaa
