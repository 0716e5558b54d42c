import Derived.Test.YtlgncabjphokjaaG11
import Derived.Test.YtlgncabjphokjaaW1
namespace Go.Proofs.Ytlgncabjphokjaa
open Go Hv
set_option linter.unusedVariables false
set_option linter.unusedSimpArgs false
set_option maxRecDepth 10000
set_option maxHeartbeats 1000000
/-! MsgBack. CUT2 -/
section
variable {H : Heap} {K : Value → Heap → Prop}
theorem msgBack_t {x : MsgA} {a : Option Addr} {n c : Nat} {l : List UInt8} {cut_ : Int} (hx : MsgIn H x) (hf : Fit x.m) (hr : RowAt H a (u8s l)) (hl : l.length = n) (hlim : n ≤ 140737488351232) (hc0 : -9223372036854775808 ≤ cut_) (hc1 : cut_ ≤ 9223372036854775807)
    (hk : ∀ H', Upd [] H H' → K (.bool true) H') : HCalls Try.prog 4 [x.val, .int .i64 cut_, .slice a n c] H K := by
  refine hcalls (fn := Try.f4) [] mixed Try.func4 rfl rfl (by decide +kernel) ?_
  (repeat first | refine HReg.step ?_ | refine HCode.step ?_)
  refine HNew.mk fun b1 hb1 => ?_
  have u1 : Upd [] H (H.upd b1 (.cells x.cells.toArray 29)) := Upd.new hb1 _
  have o1 : RowAt (H.upd b1 (.cells x.cells.toArray 29)) (some ⟨b1, 0, none⟩) x.cells := RowAt.of_cells (upd_same _ _ _)
  have hH' : H.upd b1 (.cells [Value.int .i64 x.kind, .int .i64 x.client, .int .u64 (x.req : Int), .int .u64 (x.id : Int), .slice x.ap x.ps.length x.cp, .slice x.ak x.ks.length x.ck, .slice x.aw x.ws.length x.cw, .slice x.av x.vs.length x.cv].toArray 29) = H.upd b1 (.cells x.cells.toArray 29) := rfl
  rw [hH']
  generalize hH1 : H.upd b1 (.cells x.cells.toArray 29) = H1 at u1 o1
  have ro : ∀ {H'}, Upd [] H1 H' → RowAt H' (some ⟨b1, 0, none⟩) x.cells := fun u => o1.upd (S := []) u (.inr (Off.nil _))
  have rx : ∀ {H'}, Upd [] H1 H' → MsgIn H' x := fun u => hx.upd0 (u1.trans u)
  have fin : ∀ H', Upd [] H1 H' → K (.bool true) H' := fun H' u => hk H' (u1.trans u)
  (repeat first | refine HReg.step ?_ | refine HCode.step ?_)
  refine HCall.mk ⟨Try.f12, Try.func12, by rfl, by rfl⟩ ?_
  refine known_t fun H2 u2 => ?_
  (repeat first | refine HReg.step ?_ | refine HCode.step ?_)
  refine HLoadN_row (ro u2) rfl ?_
  (repeat first | refine HReg.step ?_ | refine HCode.step ?_)
  refine HCall.mk ⟨Try.f10, Try.func10, by rfl, by rfl⟩ ?_
  refine size_t (rx u2) fun H3 u3 => ?_
  have u3 := u2.trans u3
  (repeat first | refine HReg.step ?_ | refine HCode.step ?_)
  refine HLoadN_row (ro u3) rfl ?_
  (repeat first | refine HReg.step ?_ | refine HCode.step ?_)
  refine HCall.mk ⟨Try.f8, Try.func8, by rfl, by rfl⟩ ?_
  refine encode_t (rx u3) fun a4 c4 H4 m4 => ?_
  have u4 := u3.trans m4.upd
  by_cases hm : MayM x.m
  case neg =>
    rw [encode_no hm] at m4 ⊢
    rw [size_no hm]
    dsimp only at m4 ⊢
    (repeat first | refine HReg.step ?_ | refine HCode.step ?_)
    rw [show eqB 1 0 = false from eqB_false.2 (by decide)]
    (repeat first | refine HReg.step ?_ | refine HCode.step ?_)
    rw [eqB_self 1]
    (repeat first | refine HReg.step ?_ | refine HCode.step ?_)
    rw [eqB_self 1]
    (repeat first | refine HReg.step ?_ | refine HCode.step ?_)
    rw [show eqB ((0 : Nat) : Int) 0 = true from eqB_true.2 rfl]
    (repeat first | refine HReg.step ?_ | refine HCode.step ?_)
    rw [show eqB (([] : List UInt8).length : Int) 0 = true from eqB_true.2 rfl]
    (repeat first | refine HReg.step ?_ | refine HCode.step ?_)
    refine HLoadN_row (ro u4) rfl ?_
    (repeat first | refine HReg.step ?_ | refine HCode.step ?_)
    refine HCall.mk ⟨Try.f13, Try.func13, by rfl, by rfl⟩ ?_
    refine may_t (rx u4) fun t H5 ht u5 => ?_
    have htf : t = false := by
      cases t with
      | false => rfl
      | true => exact absurd (ht.1 rfl) hm
    subst htf
    (repeat first | refine HReg.step ?_ | refine HCode.step ?_)
    exact fin H5 (u4.trans u5)
  rw [size_ok hm]
  by_cases hlong : 1048576 < (body x.m).length
  · rw [encode_long hm hlong] at m4 ⊢
    dsimp only at m4 ⊢
    (repeat first | refine HReg.step ?_ | refine HCode.step ?_)
    rw [eqB_self 0]
    (repeat first | refine HReg.step ?_ | refine HCode.step ?_)
    rw [ltB_true.2 (by omega)]
    (repeat first | refine HReg.step ?_ | refine HCode.step ?_)
    rw [eqB_self 3]
    (repeat first | refine HReg.step ?_ | refine HCode.step ?_)
    rw [show eqB (([] : List UInt8).length : Int) 0 = true from eqB_true.2 rfl]
    (repeat first | refine HReg.step ?_ | refine HCode.step ?_)
    refine HLoadN_row (ro u4) rfl ?_
    (repeat first | refine HReg.step ?_ | refine HCode.step ?_)
    refine HCall.mk ⟨Try.f13, Try.func13, by rfl, by rfl⟩ ?_
    refine may_t (rx u4) fun t H5 ht u5 => ?_
    have htt : t = true := ht.2 hm
    subst htt
    (repeat first | refine HReg.step ?_ | refine HCode.step ?_)
    exact fin H5 (u4.trans u5)
  have hlong : (body x.m).length ≤ 1048576 := by omega
  have hdec := decode_encode hm hf hlong
  have hfl := frameM_len (body x.m)
  obtain ⟨B, hB⟩ : ∃ B, B = (body x.m).length := ⟨_, rfl⟩
  rw [encode_ok hm hlong] at m4 ⊢
  dsimp only at m4 ⊢
  rw [← hB] at hlong hfl ⊢
  have hle4 := m4.own.le
  (repeat first | refine HReg.step ?_ | refine HCode.step ?_)
  rw [eqB_self 0]
  (repeat first | refine HReg.step ?_ | refine HCode.step ?_)
  rw [ltB_false.2 (by omega)]
  (repeat first | refine HReg.step ?_ | refine HCode.step ?_)
  refine HCall.mk ⟨Try.f16, Try.func16, by rfl, by rfl⟩ ?_
  refine decode_t m4.own.rows rfl hle4 (by omega) fun x5 H5 hx5 n5 u5 => ?_
  rw [hdec] at hx5 ⊢
  dsimp only at hx5 ⊢
  have v45 := u5
  have u5 := u4.trans u5
  (repeat first | refine HReg.step ?_ | refine HCode.step ?_)
  refine HNew.mk fun b6 hb6 => ?_
  (repeat first | refine HReg.step ?_ | refine HCode.step ?_)
  refine store_msg (x := x5) (OwnRow.lit (upd_same _ _ _) rfl) rfl fun H6 o6 u6 => ?_
  have u56 : Upd [] H5 H6 := Upd.drop (Upd.new hb6 _) u6 (fun x hx => by rw [List.mem_singleton.1 hx]; exact hb6)
  have u6 := u5.trans u56
  (repeat first | refine HReg.step ?_ | refine HCode.step ?_)
  rw [eqB_self 0]
  (repeat first | refine HReg.step ?_ | refine HCode.step ?_)
  rw [eqB_self 0]
  (repeat first | refine HReg.step ?_ | refine HCode.step ?_)
  refine HLoadN_row o6.rows rfl ?_
  (repeat first | refine HReg.step ?_ | refine HCode.step ?_)
  refine HLoadN_row (ro u6) rfl ?_
  (repeat first | refine HReg.step ?_ | refine HCode.step ?_)
  refine HCall.mk ⟨Try.f17, Try.func17, by rfl, by rfl⟩ ?_
  refine same_t2 (x := x5) (y := x) (n5.upd0 u56).msgIn (rx u6) fun t H7 ht u7 => ?_
  have htt : t = true := ht.2 hx5
  subst htt
  have v47 := (v45.trans u56).trans u7
  have u7 := u6.trans u7
  have w4 : wr .i64 ((B : Int) + 4) = ((B + 4 : Nat) : Int) := by rw [wr_i64 (by omega) (by omega)]; omega
  (repeat first | refine HReg.step ?_ | refine HCode.step ?_)
  rw [hfl, w4]
  rw [show eqB ((4 + B : Nat) : Int) ((B + 4 : Nat) : Int) = true from eqB_true.2 (by omega)]
  (repeat first | refine HReg.step ?_ | refine HCode.step ?_)
  refine HLoadN_row (ro u7) rfl ?_
  (repeat first | refine HReg.step ?_ | refine HCode.step ?_)
  refine HCall.mk ⟨Try.f13, Try.func13, by rfl, by rfl⟩ ?_
  refine may_t (rx u7) fun t H8 ht u8_ => ?_
  have htt : t = true := ht.2 hm
  subst htt
  have v48 := v47.trans u8_
  have u8_ := u7.trans u8_
  (repeat first | refine HReg.step ?_ | refine HCode.step ?_)
  refine HReq.mk (by omega) ?_
  have tm1 := Int.tmod_lt_of_pos cut_ (b := ((4 + B : Nat) : Int)) (by omega)
  have tm2 := Int.lt_tmod_of_pos cut_ (b := ((4 + B : Nat) : Int)) (by omega)
  ((repeat refine HReg.step ?_); first | (show HCode _ _ _ (Code.seq (Code.seq (Code.region _ _ _) (Code.cond _ _ _)) _) _ _ _; refine hcutC (a := Code.seq (Code.region _ _ _) (Code.cond _ _ _)) [13, 98, 99, 100, 101, 102, 103] [13] (FrJ (4 + B) H8) rfl (by repeat' first | exact Resp.retD | exact Resp1.valuesK | refine Resp.blockD ?_ | refine Resp.thenD ?_ ?_ | refine Resp.hcode ?_) ?_ ?_) | (refine HCode.step ?_; (repeat refine HReg.step ?_); first | (show HCode _ _ _ (Code.seq (Code.seq (Code.region _ _ _) (Code.cond _ _ _)) _) _ _ _; refine hcutC (a := Code.seq (Code.region _ _ _) (Code.cond _ _ _)) [13, 98, 99, 100, 101, 102, 103] [13] (FrJ (4 + B) H8) rfl (by repeat' first | exact Resp.retD | exact Resp1.valuesK | refine Resp.blockD ?_ | refine Resp.thenD ?_ ?_ | refine Resp.hcode ?_) ?_ ?_) | (refine HCode.step ?_; (repeat refine HReg.step ?_); first | (show HCode _ _ _ (Code.seq (Code.seq (Code.region _ _ _) (Code.cond _ _ _)) _) _ _ _; refine hcutC (a := Code.seq (Code.region _ _ _) (Code.cond _ _ _)) [13, 98, 99, 100, 101, 102, 103] [13] (FrJ (4 + B) H8) rfl (by repeat' first | exact Resp.retD | exact Resp1.valuesK | refine Resp.blockD ?_ | refine Resp.thenD ?_ ?_ | refine Resp.hcode ?_) ?_ ?_) | (refine HCode.step ?_; (repeat refine HReg.step ?_); first | (show HCode _ _ _ (Code.seq (Code.seq (Code.region _ _ _) (Code.cond _ _ _)) _) _ _ _; refine hcutC (a := Code.seq (Code.region _ _ _) (Code.cond _ _ _)) [13, 98, 99, 100, 101, 102, 103] [13] (FrJ (4 + B) H8) rfl (by repeat' first | exact Resp.retD | exact Resp1.valuesK | refine Resp.blockD ?_ | refine Resp.thenD ?_ ?_ | refine Resp.hcode ?_) ?_ ?_) | (refine HCode.step ?_; (repeat refine HReg.step ?_); first | (show HCode _ _ _ (Code.seq (Code.seq (Code.region _ _ _) (Code.cond _ _ _)) _) _ _ _; refine hcutC (a := Code.seq (Code.region _ _ _) (Code.cond _ _ _)) [13, 98, 99, 100, 101, 102, 103] [13] (FrJ (4 + B) H8) rfl (by repeat' first | exact Resp.retD | exact Resp1.valuesK | refine Resp.blockD ?_ | refine Resp.thenD ?_ ?_ | refine Resp.hcode ?_) ?_ ?_) | (refine HCode.step ?_; (repeat refine HReg.step ?_); first | (show HCode _ _ _ (Code.seq (Code.seq (Code.region _ _ _) (Code.cond _ _ _)) _) _ _ _; refine hcutC (a := Code.seq (Code.region _ _ _) (Code.cond _ _ _)) [13, 98, 99, 100, 101, 102, 103] [13] (FrJ (4 + B) H8) rfl (by repeat' first | exact Resp.retD | exact Resp1.valuesK | refine Resp.blockD ?_ | refine Resp.thenD ?_ ?_ | refine Resp.hcode ?_) ?_ ?_) | (refine HCode.step ?_; (repeat refine HReg.step ?_); first | (show HCode _ _ _ (Code.seq (Code.seq (Code.region _ _ _) (Code.cond _ _ _)) _) _ _ _; refine hcutC (a := Code.seq (Code.region _ _ _) (Code.cond _ _ _)) [13, 98, 99, 100, 101, 102, 103] [13] (FrJ (4 + B) H8) rfl (by repeat' first | exact Resp.retD | exact Resp1.valuesK | refine Resp.blockD ?_ | refine Resp.thenD ?_ ?_ | refine Resp.hcode ?_) ?_ ?_) | (refine HCode.step ?_; (repeat refine HReg.step ?_); first | (show HCode _ _ _ (Code.seq (Code.seq (Code.region _ _ _) (Code.cond _ _ _)) _) _ _ _; refine hcutC (a := Code.seq (Code.region _ _ _) (Code.cond _ _ _)) [13, 98, 99, 100, 101, 102, 103] [13] (FrJ (4 + B) H8) rfl (by repeat' first | exact Resp.retD | exact Resp1.valuesK | refine Resp.blockD ?_ | refine Resp.thenD ?_ ?_ | refine Resp.hcode ?_) ?_ ?_) | (refine HCode.step ?_; (repeat refine HReg.step ?_); first | (show HCode _ _ _ (Code.seq (Code.seq (Code.region _ _ _) (Code.cond _ _ _)) _) _ _ _; refine hcutC (a := Code.seq (Code.region _ _ _) (Code.cond _ _ _)) [13, 98, 99, 100, 101, 102, 103] [13] (FrJ (4 + B) H8) rfl (by repeat' first | exact Resp.retD | exact Resp1.valuesK | refine Resp.blockD ?_ | refine Resp.thenD ?_ ?_ | refine Resp.hcode ?_) ?_ ?_) | (refine HCode.step ?_; (repeat refine HReg.step ?_); first | (show HCode _ _ _ (Code.seq (Code.seq (Code.region _ _ _) (Code.cond _ _ _)) _) _ _ _; refine hcutC (a := Code.seq (Code.region _ _ _) (Code.cond _ _ _)) [13, 98, 99, 100, 101, 102, 103] [13] (FrJ (4 + B) H8) rfl (by repeat' first | exact Resp.retD | exact Resp1.valuesK | refine Resp.blockD ?_ | refine Resp.thenD ?_ ?_ | refine Resp.hcode ?_) ?_ ?_) | (refine HCode.step ?_; (repeat refine HReg.step ?_); first | (show HCode _ _ _ (Code.seq (Code.seq (Code.region _ _ _) (Code.cond _ _ _)) _) _ _ _; refine hcutC (a := Code.seq (Code.region _ _ _) (Code.cond _ _ _)) [13, 98, 99, 100, 101, 102, 103] [13] (FrJ (4 + B) H8) rfl (by repeat' first | exact Resp.retD | exact Resp1.valuesK | refine Resp.blockD ?_ | refine Resp.thenD ?_ ?_ | refine Resp.hcode ?_) ?_ ?_) | (refine HCode.step ?_; (repeat refine HReg.step ?_); first | (show HCode _ _ _ (Code.seq (Code.seq (Code.region _ _ _) (Code.cond _ _ _)) _) _ _ _; refine hcutC (a := Code.seq (Code.region _ _ _) (Code.cond _ _ _)) [13, 98, 99, 100, 101, 102, 103] [13] (FrJ (4 + B) H8) rfl (by repeat' first | exact Resp.retD | exact Resp1.valuesK | refine Resp.blockD ?_ | refine Resp.thenD ?_ ?_ | refine Resp.hcode ?_) ?_ ?_) | (refine HCode.step ?_; (repeat refine HReg.step ?_); first | (show HCode _ _ _ (Code.seq (Code.seq (Code.region _ _ _) (Code.cond _ _ _)) _) _ _ _; refine hcutC (a := Code.seq (Code.region _ _ _) (Code.cond _ _ _)) [13, 98, 99, 100, 101, 102, 103] [13] (FrJ (4 + B) H8) rfl (by repeat' first | exact Resp.retD | exact Resp1.valuesK | refine Resp.blockD ?_ | refine Resp.thenD ?_ ?_ | refine Resp.hcode ?_) ?_ ?_) | (refine HCode.step ?_; (repeat refine HReg.step ?_); first | (show HCode _ _ _ (Code.seq (Code.seq (Code.region _ _ _) (Code.cond _ _ _)) _) _ _ _; refine hcutC (a := Code.seq (Code.region _ _ _) (Code.cond _ _ _)) [13, 98, 99, 100, 101, 102, 103] [13] (FrJ (4 + B) H8) rfl (by repeat' first | exact Resp.retD | exact Resp1.valuesK | refine Resp.blockD ?_ | refine Resp.thenD ?_ ?_ | refine Resp.hcode ?_) ?_ ?_) | (refine HCode.step ?_; (repeat refine HReg.step ?_); first | (show HCode _ _ _ (Code.seq (Code.seq (Code.region _ _ _) (Code.cond _ _ _)) _) _ _ _; refine hcutC (a := Code.seq (Code.region _ _ _) (Code.cond _ _ _)) [13, 98, 99, 100, 101, 102, 103] [13] (FrJ (4 + B) H8) rfl (by repeat' first | exact Resp.retD | exact Resp1.valuesK | refine Resp.blockD ?_ | refine Resp.thenD ?_ ?_ | refine Resp.hcode ?_) ?_ ?_) | (refine HCode.step ?_; (repeat refine HReg.step ?_); first | (show HCode _ _ _ (Code.seq (Code.seq (Code.region _ _ _) (Code.cond _ _ _)) _) _ _ _; refine hcutC (a := Code.seq (Code.region _ _ _) (Code.cond _ _ _)) [13, 98, 99, 100, 101, 102, 103] [13] (FrJ (4 + B) H8) rfl (by repeat' first | exact Resp.retD | exact Resp1.valuesK | refine Resp.blockD ?_ | refine Resp.thenD ?_ ?_ | refine Resp.hcode ?_) ?_ ?_) | (refine HCode.step ?_; (repeat refine HReg.step ?_); first | (show HCode _ _ _ (Code.seq (Code.seq (Code.region _ _ _) (Code.cond _ _ _)) _) _ _ _; refine hcutC (a := Code.seq (Code.region _ _ _) (Code.cond _ _ _)) [13, 98, 99, 100, 101, 102, 103] [13] (FrJ (4 + B) H8) rfl (by repeat' first | exact Resp.retD | exact Resp1.valuesK | refine Resp.blockD ?_ | refine Resp.thenD ?_ ?_ | refine Resp.hcode ?_) ?_ ?_) | (refine HCode.step ?_; (repeat refine HReg.step ?_); first | (show HCode _ _ _ (Code.seq (Code.seq (Code.region _ _ _) (Code.cond _ _ _)) _) _ _ _; refine hcutC (a := Code.seq (Code.region _ _ _) (Code.cond _ _ _)) [13, 98, 99, 100, 101, 102, 103] [13] (FrJ (4 + B) H8) rfl (by repeat' first | exact Resp.retD | exact Resp1.valuesK | refine Resp.blockD ?_ | refine Resp.thenD ?_ ?_ | refine Resp.hcode ?_) ?_ ?_) | (refine HCode.step ?_; (repeat refine HReg.step ?_); first | (show HCode _ _ _ (Code.seq (Code.seq (Code.region _ _ _) (Code.cond _ _ _)) _) _ _ _; refine hcutC (a := Code.seq (Code.region _ _ _) (Code.cond _ _ _)) [13, 98, 99, 100, 101, 102, 103] [13] (FrJ (4 + B) H8) rfl (by repeat' first | exact Resp.retD | exact Resp1.valuesK | refine Resp.blockD ?_ | refine Resp.thenD ?_ ?_ | refine Resp.hcode ?_) ?_ ?_) | (refine HCode.step ?_; (repeat refine HReg.step ?_); first | (show HCode _ _ _ (Code.seq (Code.seq (Code.region _ _ _) (Code.cond _ _ _)) _) _ _ _; refine hcutC (a := Code.seq (Code.region _ _ _) (Code.cond _ _ _)) [13, 98, 99, 100, 101, 102, 103] [13] (FrJ (4 + B) H8) rfl (by repeat' first | exact Resp.retD | exact Resp1.valuesK | refine Resp.blockD ?_ | refine Resp.thenD ?_ ?_ | refine Resp.hcode ?_) ?_ ?_) | (refine HCode.step ?_; (repeat refine HReg.step ?_); (show HCode _ _ _ (Code.seq (Code.seq (Code.region _ _ _) (Code.cond _ _ _)) _) _ _ _; refine hcutC (a := Code.seq (Code.region _ _ _) (Code.cond _ _ _)) [13, 98, 99, 100, 101, 102, 103] [13] (FrJ (4 + B) H8) rfl (by repeat' first | exact Resp.retD | exact Resp1.valuesK | refine Resp.blockD ?_ | refine Resp.thenD ?_ ?_ | refine Resp.hcode ?_) ?_ ?_))))))))))))))))))))))
  · (repeat first | refine HReg.step ?_ | refine HCode.step ?_)
    refine hif (fun h1 => ?_) (fun h1 => ?_)
    · have h1 := ltB_true.1 h1
      have w1 : wr .i64 (cut_.tmod ((4 + B : Nat) : Int) + ((4 + B : Nat) : Int)) = (((cut_.tmod ((4 + B : Nat) : Int) + ((4 + B : Nat) : Int)).toNat : Nat) : Int) := by rw [wr_i64 (by omega) (by omega)]; omega
      (repeat first | refine HReg.step ?_ | refine HCode.step ?_)
      rw [w1]
      exact FrJ.mk ⟨_, rfl, by omega, rfl⟩
    · have h1 := ltB_false.1 h1
      have w1 : cut_.tmod ((4 + B : Nat) : Int) = (((cut_.tmod ((4 + B : Nat) : Int)).toNat : Nat) : Int) := by omega
      (repeat first | refine HReg.step ?_ | refine HCode.step ?_)
      rw [w1]
      exact FrJ.mk ⟨_, rfl, by omega, rfl⟩
  rintro _ fe H9 ⟨j, rfl, hj, hH9⟩
  have hH9 := hH9.symm
  subst hH9
  have m8 : Made H3 H8 5 1 a4 (frameM (body x.m)).length c4 (u8s (frameM (body x.m))) := m4.step v48
  have r8 := m8.own.rows
  have hdc := decode_cut (p := body x.m) (j := j) (by omega) (by omega)
  rw [hfl] at m8
  (repeat first | refine HReg.step ?_ | refine HCode.step ?_)
  refine HReq.mk ⟨by omega, by omega⟩ ?_
  (repeat first | refine HReg.step ?_ | refine HCode.step ?_)
  refine HCall.mk ⟨Try.f16, Try.func16, by rfl, by rfl⟩ ?_
  have r8c := r8.take j
  rw [← u8s_take] at r8c
  refine decode_t (l := (frameM (body x.m)).take j) r8c (by rw [List.length_take]; omega) (by omega) (by omega) fun x10 H10 hx10 n10 u10 => ?_
  rw [hdc] at hx10 ⊢
  dsimp only at hx10 ⊢
  (repeat first | refine HReg.step ?_ | refine HCode.step ?_)
  refine HNew.mk fun b11 hb11 => ?_
  (repeat first | refine HReg.step ?_ | refine HCode.step ?_)
  refine store_msg (x := x10) (OwnRow.lit (upd_same _ _ _) rfl) rfl fun H11 o11 u11 => ?_
  have u11 : Upd [] H10 H11 := Upd.drop (Upd.new hb11 _) u11 (fun x hx => by rw [List.mem_singleton.1 hx]; exact hb11)
  have v811 := u10.trans u11
  (repeat first | refine HReg.step ?_ | refine HCode.step ?_)
  refine append_own (xs := []) (OwnRow.nil _ _ _) (r8.upd (S := []) v811 (.inr (Off.nil _))) (by omega) (by omega) fun a12 c12 H12 o12 u12 f12 => ?_
  rw [List.nil_append] at o12
  have m12 : Made H11 H12 5 1 a12 (0 + (4 + B)) c12 (u8s (frameM (body x.m))) := ⟨o12, u12, fun p hp => by
    rcases f12 p hp with h | h
    · cases h
    · exact h⟩
  (repeat first | refine HReg.step ?_ | refine HCode.step ?_)
  refine HReq.mk (by decide) ?_
  (repeat first | refine HReg.step ?_ | refine HCode.step ?_)
  refine HNew.mk fun b13 hb13 => ?_
  have m13 : Made H12 (H12.upd b13 (.cells [Value.int .u8 1].toArray 5)) 5 1 (some ⟨b13, 0, none⟩) 1 1 (u8s [1]) := ⟨OwnRow.lit (upd_same _ _ _) rfl, Upd.new hb13 _, fun p hp => by cases hp; exact hb13⟩
  generalize hH13 : H12.upd b13 (.cells [Value.int .u8 1].toArray 5) = H13 at m13
  have v1 := (u8_.trans v811).trans m12.upd
  (repeat first | refine HReg.step ?_ | refine HCode.step ?_)
  refine append_wide m13 (hr.upd (S := []) ((u1.trans v1).trans m13.upd) (.inr (Off.nil _))) hl (by omega) fun a14 c14 H14 m14 => ?_
  (repeat first | refine HReg.step ?_ | refine HCode.step ?_)
  refine append_wide (m12.step m14.upd) m14.own.rows (by rw [List.length_append]; show 1 + l.length = _; omega) (by omega) fun a15 c15 H15 m15 => ?_
  have hdt := decode_trail (p := body x.m) (t := [1] ++ l) (by omega) (by simp)
  have hle15 := m15.own.le
  (repeat first | refine HReg.step ?_ | refine HCode.step ?_)
  refine HCall.mk ⟨Try.f16, Try.func16, by rfl, by rfl⟩ ?_
  refine decode_t m15.own.rows (by rw [List.length_append, List.length_append, hfl]; show 4 + B + (1 + l.length) = _; omega) hle15 (by omega) fun x16 H16 hx16 n16 u16 => ?_
  rw [hdt] at hx16 ⊢
  dsimp only at hx16 ⊢
  (repeat first | refine HReg.step ?_ | refine HCode.step ?_)
  refine HNew.mk fun b17 hb17 => ?_
  (repeat first | refine HReg.step ?_ | refine HCode.step ?_)
  refine store_msg (x := x16) (OwnRow.lit (upd_same _ _ _) rfl) rfl fun H17 o17 u17 => ?_
  have u17 : Upd [] H16 H17 := Upd.drop (Upd.new hb17 _) u17 (fun x hx => by rw [List.mem_singleton.1 hx]; exact hb17)
  have v1117 := (m15.upd.trans u16).trans u17
  (repeat first | refine HReg.step ?_ | refine HCode.step ?_)
  rw [eqB_self 4]
  (repeat first | refine HReg.step ?_ | refine HCode.step ?_)
  rw [eqB_self 5]
  (repeat first | refine HReg.step ?_ | refine HCode.step ?_)
  refine HLoadN_row (o11.upd v1117 (Off.nil _)).rows rfl ?_
  (repeat first | refine HReg.step ?_ | refine HCode.step ?_)
  refine HCall.mk ⟨Try.f17, Try.func17, by rfl, by rfl⟩ ?_
  refine same_t2 (x := x10) (y := zeroA) (n10.upd0 (u11.trans v1117)).msgIn (zero_new H H17).msgIn fun t H18 ht u18 => ?_
  have htt : t = true := ht.2 hx10
  subst htt
  (repeat first | refine HReg.step ?_ | refine HCode.step ?_)
  refine HLoadN_row (o17.upd u18 (Off.nil _)).rows rfl ?_
  (repeat first | refine HReg.step ?_ | refine HCode.step ?_)
  refine HCall.mk ⟨Try.f17, Try.func17, by rfl, by rfl⟩ ?_
  refine same_t2 (x := x16) (y := zeroA) (n16.upd0 (u17.trans u18)).msgIn (zero_new H H18).msgIn fun t H19 ht u19 => ?_
  have htt : t = true := ht.2 hx16
  subst htt
  (repeat first | refine HReg.step ?_ | refine HCode.step ?_)
  exact fin H19 ((((u8_.trans v811).trans v1117).trans u18).trans u19)
end
end Go.Proofs.Ytlgncabjphokjaa
