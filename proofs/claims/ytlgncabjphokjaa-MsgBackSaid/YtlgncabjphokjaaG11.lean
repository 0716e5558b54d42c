import Derived.Test.YtlgncabjphokjaaG10
namespace Go.Proofs.Ytlgncabjphokjaa
open Go Hv
set_option linter.unusedVariables false
set_option linter.unusedSimpArgs false
set_option maxRecDepth 10000
set_option maxHeartbeats 1000000
/-! MsgForms. CUT2 -/
theorem xor8 (a b : UInt8) : bitsS .xor .u8 (a.toNat : Int) (b.toNat : Int) = ((a ^^^ b).toNat : Int) := by
  rw [bitsS_eq]
  have ofi : ∀ a : UInt8, BitVec.ofInt 8 (a.toNat : Int) = a.toBitVec := fun a => by
    rw [BitVec.ofInt_natCast]; apply BitVec.eq_of_toNat_eq; rw [BitVec.toNat_ofNat]; have := a.toNat_lt; exact Nat.mod_eq_of_lt this
  show IntKind.u8.wrap ((BitVec.ofInt 8 (a.toNat : Int) ^^^ BitVec.ofInt 8 (b.toNat : Int)).toNat : Int) = _
  rw [ofi, ofi, ← UInt8.toBitVec_xor]
  show IntKind.u8.wrap ((a ^^^ b).toNat : Int) = _
  rw [IntKind.wrap_u8]; have := (a ^^^ b).toNat_lt; omega
theorem mask_byte (mask : Int) : ∃ y : UInt8, y ≠ 0 ∧ wr .u8 (wr .i64 (1 + bitsS .and .i64 mask 127)) = (y.toNat : Int) := by
  have e := and_mask mask 7 (by decide)
  have e2 : (((2 ^ 7 - 1 : Nat) : Int)) = 127 := by decide
  have e3 : (((2 ^ 7 : Nat) : Int)) = 128 := by decide
  rw [e2, e3] at e
  rw [e]
  have h0 : 0 ≤ mask % 128 := Int.emod_nonneg _ (by decide)
  have h1 : mask % 128 < 128 := Int.emod_lt_of_pos _ (by decide)
  rw [wr_i64 (by omega) (by omega), wr_u8]
  refine ⟨UInt8.ofNat (1 + mask % 128).toNat, fun h => ?_, ?_⟩
  · have := congrArg UInt8.toNat h
    rw [UInt8.toNat_ofNat'] at this
    have h2 : (0 : UInt8).toNat = 0 := rfl
    rw [h2] at this
    omega
  · rw [UInt8.toNat_ofNat']; omega
theorem xor_ne {x y : UInt8} (h : y ≠ 0) : x ^^^ y ≠ x := fun e => h (by
  have e2 : x ^^^ (x ^^^ y) = x ^^^ x := by rw [e]
  rw [← UInt8.xor_assoc, UInt8.xor_self, UInt8.zero_xor] at e2
  exact e2)
structure FrJ (n : Nat) (H5 : Heap) (vs : List Value) (H' : Heap) : Prop where
  ex : ∃ j : Nat, vs = [.int .i64 (j : Int)] ∧ j < n ∧ H' = H5
section
variable {H : Heap} {K : Value → Heap → Prop}
theorem msgForms_t {a : Option Addr} {n c : Nat} {l : List UInt8} {at_ mask : Int} (hr : RowAt H a (u8s l)) (hl : l.length = n) (hc : n ≤ c) (hlim : n ≤ 140737488355328) (hat0 : -9223372036854775808 ≤ at_) (hat1 : at_ ≤ 9223372036854775807) (hmk0 : -9223372036854775808 ≤ mask) (hmk1 : mask ≤ 9223372036854775807)
    (hk : ∀ H', Upd [] H H' → K (.bool true) H') : HCalls Try.prog 5 [.slice a n c, .int .i64 at_, .int .i64 mask] H K := by
  refine hcalls (fn := Try.f5) [] mixed Try.func5 rfl rfl (by decide +kernel) ?_
  (repeat first | refine HReg.step ?_ | refine HCode.step ?_)
  refine HCall.mk ⟨Try.f16, Try.func16, by rfl, by rfl⟩ ?_
  refine decode_t hr hl hc (by omega) fun x1 H1 hx1 n1 u1 => ?_
  (repeat first | refine HReg.step ?_ | refine HCode.step ?_)
  refine HNew.mk fun b2 hb2 => ?_
  (repeat first | refine HReg.step ?_ | refine HCode.step ?_)
  refine store_msg (x := x1) (OwnRow.lit (upd_same _ _ _) rfl) rfl fun H2 o2 u2 => ?_
  have u12 : Upd [] H1 H2 := Upd.drop (Upd.new hb2 _) u2 (fun x hx => by rw [List.mem_singleton.1 hx]; exact hb2)
  have n2 := n1.upd0 u12
  (repeat first | refine HReg.step ?_ | refine HCode.step ?_)
  refine HCall.mk ⟨Try.f12, Try.func12, by rfl, by rfl⟩ ?_
  refine known_t fun H3 u3 => ?_
  have n3 := n2.upd0 u3
  have o3 := o2.upd u3 (Off.nil _)
  have u03 := u1.trans (u12.trans u3)
  (repeat first | refine HReg.step ?_ | refine HCode.step ?_)
  by_cases he : (decodeM l).2 = 0
  case neg =>
    obtain ⟨hz, hcode⟩ := decode_fail he
    rw [show eqB (decodeM l).2 0 = false from eqB_false.2 he]
    (repeat first | refine HReg.step ?_ | refine HCode.step ?_)
    refine HLoadN_row o3.rows rfl ?_
    (repeat first | refine HReg.step ?_ | refine HCode.step ?_)
    refine HCall.mk ⟨Try.f17, Try.func17, by rfl, by rfl⟩ ?_
    refine same_t2 (x := x1) (y := zeroA) n3.msgIn (zero_new H H3).msgIn fun t H4 ht u4 => ?_
    have ht : t = true := ht.2 (by rw [hx1, hz]; rfl)
    subst ht
    (repeat first | refine HReg.step ?_ | refine HCode.step ?_)
    have fin := hk H4 (u03.trans u4)
    rcases hcode with h | h | h | h
    · rw [h, eqB_self 2]
      (repeat first | refine HReg.step ?_ | refine HCode.step ?_)
      exact fin
    · rw [h, show eqB 3 2 = false from eqB_false.2 (by decide)]
      (repeat first | refine HReg.step ?_ | refine HCode.step ?_)
      rw [show eqB 3 4 = false from eqB_false.2 (by decide)]
      (repeat first | refine HReg.step ?_ | refine HCode.step ?_)
      rw [eqB_self 3]
      (repeat first | refine HReg.step ?_ | refine HCode.step ?_)
      exact fin
    · rw [h, show eqB 4 2 = false from eqB_false.2 (by decide)]
      (repeat first | refine HReg.step ?_ | refine HCode.step ?_)
      rw [eqB_self 4]
      (repeat first | refine HReg.step ?_ | refine HCode.step ?_)
      exact fin
    · rw [h, show eqB 5 2 = false from eqB_false.2 (by decide)]
      (repeat first | refine HReg.step ?_ | refine HCode.step ?_)
      rw [show eqB 5 4 = false from eqB_false.2 (by decide)]
      (repeat first | refine HReg.step ?_ | refine HCode.step ?_)
      rw [show eqB 5 3 = false from eqB_false.2 (by decide)]
      (repeat first | refine HReg.step ?_ | refine HCode.step ?_)
      rw [eqB_self 5]
      (repeat first | refine HReg.step ?_ | refine HCode.step ?_)
      exact fin
  rw [show eqB (decodeM l).2 0 = true from eqB_true.2 he]
  obtain ⟨henc, hmay, h5⟩ := encode_decode he
  (repeat first | refine HReg.step ?_ | refine HCode.step ?_)
  refine HLoadN_row o3.rows rfl ?_
  (repeat first | refine HReg.step ?_ | refine HCode.step ?_)
  refine HCall.mk ⟨Try.f8, Try.func8, by rfl, by rfl⟩ ?_
  refine encode_t n3.msgIn fun a4 c4 H4 m4 => ?_
  rw [hx1, henc] at m4 ⊢
  dsimp only at m4 ⊢
  have u04 := u03.trans m4.upd
  have o4 := o3.upd m4.upd (Off.nil _)
  have n4 := n3.upd0 m4.upd
  have hr4 := hr.upd (S := []) u04 (.inr (Off.nil _))
  (repeat first | refine HReg.step ?_ | refine HCode.step ?_)
  rw [eqB_self 0]
  (repeat first | refine HReg.step ?_ | refine HCode.step ?_)
  refine HCall.mk ⟨Try.f15, Try.func15, by rfl, by rfl⟩ ?_
  refine same_eq m4.own.rows rfl hr4 hl rfl ?_
  (repeat first | refine HReg.step ?_ | refine HCode.step ?_)
  refine HLoadN_row o4.rows rfl ?_
  (repeat first | refine HReg.step ?_ | refine HCode.step ?_)
  refine HCall.mk ⟨Try.f13, Try.func13, by rfl, by rfl⟩ ?_
  refine may_t n4.msgIn fun t H5 ht u5 => ?_
  have ht : t = true := ht.2 (by rw [hx1]; exact hmay)
  subst ht
  have n5 := n4.upd0 u5
  have o5 := o4.upd u5 (Off.nil _)
  have u05 := u04.trans u5
  (repeat first | refine HReg.step ?_ | refine HCode.step ?_)
  rw [ltB_false.2 (by omega)]
  (repeat first | refine HReg.step ?_ | refine HCode.step ?_)
  refine HReq.mk (by omega) ?_
  have tm1 := Int.tmod_lt_of_pos at_ (b := (n : Int)) (by omega)
  have tm2 := Int.lt_tmod_of_pos at_ (b := (n : Int)) (by omega)
  ((repeat refine HReg.step ?_); first | (show HCode _ _ _ (Code.seq (Code.seq (Code.region _ _ _) (Code.cond _ _ _)) _) _ _ _; refine hcutC (a := Code.seq (Code.region _ _ _) (Code.cond _ _ _)) [11, 70, 71, 72, 73, 74, 75] [11] (FrJ n H5) rfl (by repeat' first | exact Resp.retD | exact Resp1.valuesK | refine Resp.blockD ?_ | refine Resp.thenD ?_ ?_ | refine Resp.hcode ?_) ?_ ?_) | (refine HCode.step ?_; (repeat refine HReg.step ?_); first | (show HCode _ _ _ (Code.seq (Code.seq (Code.region _ _ _) (Code.cond _ _ _)) _) _ _ _; refine hcutC (a := Code.seq (Code.region _ _ _) (Code.cond _ _ _)) [11, 70, 71, 72, 73, 74, 75] [11] (FrJ n H5) rfl (by repeat' first | exact Resp.retD | exact Resp1.valuesK | refine Resp.blockD ?_ | refine Resp.thenD ?_ ?_ | refine Resp.hcode ?_) ?_ ?_) | (refine HCode.step ?_; (repeat refine HReg.step ?_); first | (show HCode _ _ _ (Code.seq (Code.seq (Code.region _ _ _) (Code.cond _ _ _)) _) _ _ _; refine hcutC (a := Code.seq (Code.region _ _ _) (Code.cond _ _ _)) [11, 70, 71, 72, 73, 74, 75] [11] (FrJ n H5) rfl (by repeat' first | exact Resp.retD | exact Resp1.valuesK | refine Resp.blockD ?_ | refine Resp.thenD ?_ ?_ | refine Resp.hcode ?_) ?_ ?_) | (refine HCode.step ?_; (repeat refine HReg.step ?_); first | (show HCode _ _ _ (Code.seq (Code.seq (Code.region _ _ _) (Code.cond _ _ _)) _) _ _ _; refine hcutC (a := Code.seq (Code.region _ _ _) (Code.cond _ _ _)) [11, 70, 71, 72, 73, 74, 75] [11] (FrJ n H5) rfl (by repeat' first | exact Resp.retD | exact Resp1.valuesK | refine Resp.blockD ?_ | refine Resp.thenD ?_ ?_ | refine Resp.hcode ?_) ?_ ?_) | (refine HCode.step ?_; (repeat refine HReg.step ?_); first | (show HCode _ _ _ (Code.seq (Code.seq (Code.region _ _ _) (Code.cond _ _ _)) _) _ _ _; refine hcutC (a := Code.seq (Code.region _ _ _) (Code.cond _ _ _)) [11, 70, 71, 72, 73, 74, 75] [11] (FrJ n H5) rfl (by repeat' first | exact Resp.retD | exact Resp1.valuesK | refine Resp.blockD ?_ | refine Resp.thenD ?_ ?_ | refine Resp.hcode ?_) ?_ ?_) | (refine HCode.step ?_; (repeat refine HReg.step ?_); first | (show HCode _ _ _ (Code.seq (Code.seq (Code.region _ _ _) (Code.cond _ _ _)) _) _ _ _; refine hcutC (a := Code.seq (Code.region _ _ _) (Code.cond _ _ _)) [11, 70, 71, 72, 73, 74, 75] [11] (FrJ n H5) rfl (by repeat' first | exact Resp.retD | exact Resp1.valuesK | refine Resp.blockD ?_ | refine Resp.thenD ?_ ?_ | refine Resp.hcode ?_) ?_ ?_) | (refine HCode.step ?_; (repeat refine HReg.step ?_); first | (show HCode _ _ _ (Code.seq (Code.seq (Code.region _ _ _) (Code.cond _ _ _)) _) _ _ _; refine hcutC (a := Code.seq (Code.region _ _ _) (Code.cond _ _ _)) [11, 70, 71, 72, 73, 74, 75] [11] (FrJ n H5) rfl (by repeat' first | exact Resp.retD | exact Resp1.valuesK | refine Resp.blockD ?_ | refine Resp.thenD ?_ ?_ | refine Resp.hcode ?_) ?_ ?_) | (refine HCode.step ?_; (repeat refine HReg.step ?_); first | (show HCode _ _ _ (Code.seq (Code.seq (Code.region _ _ _) (Code.cond _ _ _)) _) _ _ _; refine hcutC (a := Code.seq (Code.region _ _ _) (Code.cond _ _ _)) [11, 70, 71, 72, 73, 74, 75] [11] (FrJ n H5) rfl (by repeat' first | exact Resp.retD | exact Resp1.valuesK | refine Resp.blockD ?_ | refine Resp.thenD ?_ ?_ | refine Resp.hcode ?_) ?_ ?_) | (refine HCode.step ?_; (repeat refine HReg.step ?_); first | (show HCode _ _ _ (Code.seq (Code.seq (Code.region _ _ _) (Code.cond _ _ _)) _) _ _ _; refine hcutC (a := Code.seq (Code.region _ _ _) (Code.cond _ _ _)) [11, 70, 71, 72, 73, 74, 75] [11] (FrJ n H5) rfl (by repeat' first | exact Resp.retD | exact Resp1.valuesK | refine Resp.blockD ?_ | refine Resp.thenD ?_ ?_ | refine Resp.hcode ?_) ?_ ?_) | (refine HCode.step ?_; (repeat refine HReg.step ?_); first | (show HCode _ _ _ (Code.seq (Code.seq (Code.region _ _ _) (Code.cond _ _ _)) _) _ _ _; refine hcutC (a := Code.seq (Code.region _ _ _) (Code.cond _ _ _)) [11, 70, 71, 72, 73, 74, 75] [11] (FrJ n H5) rfl (by repeat' first | exact Resp.retD | exact Resp1.valuesK | refine Resp.blockD ?_ | refine Resp.thenD ?_ ?_ | refine Resp.hcode ?_) ?_ ?_) | (refine HCode.step ?_; (repeat refine HReg.step ?_); first | (show HCode _ _ _ (Code.seq (Code.seq (Code.region _ _ _) (Code.cond _ _ _)) _) _ _ _; refine hcutC (a := Code.seq (Code.region _ _ _) (Code.cond _ _ _)) [11, 70, 71, 72, 73, 74, 75] [11] (FrJ n H5) rfl (by repeat' first | exact Resp.retD | exact Resp1.valuesK | refine Resp.blockD ?_ | refine Resp.thenD ?_ ?_ | refine Resp.hcode ?_) ?_ ?_) | (refine HCode.step ?_; (repeat refine HReg.step ?_); first | (show HCode _ _ _ (Code.seq (Code.seq (Code.region _ _ _) (Code.cond _ _ _)) _) _ _ _; refine hcutC (a := Code.seq (Code.region _ _ _) (Code.cond _ _ _)) [11, 70, 71, 72, 73, 74, 75] [11] (FrJ n H5) rfl (by repeat' first | exact Resp.retD | exact Resp1.valuesK | refine Resp.blockD ?_ | refine Resp.thenD ?_ ?_ | refine Resp.hcode ?_) ?_ ?_) | (refine HCode.step ?_; (repeat refine HReg.step ?_); first | (show HCode _ _ _ (Code.seq (Code.seq (Code.region _ _ _) (Code.cond _ _ _)) _) _ _ _; refine hcutC (a := Code.seq (Code.region _ _ _) (Code.cond _ _ _)) [11, 70, 71, 72, 73, 74, 75] [11] (FrJ n H5) rfl (by repeat' first | exact Resp.retD | exact Resp1.valuesK | refine Resp.blockD ?_ | refine Resp.thenD ?_ ?_ | refine Resp.hcode ?_) ?_ ?_) | (refine HCode.step ?_; (repeat refine HReg.step ?_); first | (show HCode _ _ _ (Code.seq (Code.seq (Code.region _ _ _) (Code.cond _ _ _)) _) _ _ _; refine hcutC (a := Code.seq (Code.region _ _ _) (Code.cond _ _ _)) [11, 70, 71, 72, 73, 74, 75] [11] (FrJ n H5) rfl (by repeat' first | exact Resp.retD | exact Resp1.valuesK | refine Resp.blockD ?_ | refine Resp.thenD ?_ ?_ | refine Resp.hcode ?_) ?_ ?_) | (refine HCode.step ?_; (repeat refine HReg.step ?_); first | (show HCode _ _ _ (Code.seq (Code.seq (Code.region _ _ _) (Code.cond _ _ _)) _) _ _ _; refine hcutC (a := Code.seq (Code.region _ _ _) (Code.cond _ _ _)) [11, 70, 71, 72, 73, 74, 75] [11] (FrJ n H5) rfl (by repeat' first | exact Resp.retD | exact Resp1.valuesK | refine Resp.blockD ?_ | refine Resp.thenD ?_ ?_ | refine Resp.hcode ?_) ?_ ?_) | (refine HCode.step ?_; (repeat refine HReg.step ?_); first | (show HCode _ _ _ (Code.seq (Code.seq (Code.region _ _ _) (Code.cond _ _ _)) _) _ _ _; refine hcutC (a := Code.seq (Code.region _ _ _) (Code.cond _ _ _)) [11, 70, 71, 72, 73, 74, 75] [11] (FrJ n H5) rfl (by repeat' first | exact Resp.retD | exact Resp1.valuesK | refine Resp.blockD ?_ | refine Resp.thenD ?_ ?_ | refine Resp.hcode ?_) ?_ ?_) | (refine HCode.step ?_; (repeat refine HReg.step ?_); first | (show HCode _ _ _ (Code.seq (Code.seq (Code.region _ _ _) (Code.cond _ _ _)) _) _ _ _; refine hcutC (a := Code.seq (Code.region _ _ _) (Code.cond _ _ _)) [11, 70, 71, 72, 73, 74, 75] [11] (FrJ n H5) rfl (by repeat' first | exact Resp.retD | exact Resp1.valuesK | refine Resp.blockD ?_ | refine Resp.thenD ?_ ?_ | refine Resp.hcode ?_) ?_ ?_) | (refine HCode.step ?_; (repeat refine HReg.step ?_); first | (show HCode _ _ _ (Code.seq (Code.seq (Code.region _ _ _) (Code.cond _ _ _)) _) _ _ _; refine hcutC (a := Code.seq (Code.region _ _ _) (Code.cond _ _ _)) [11, 70, 71, 72, 73, 74, 75] [11] (FrJ n H5) rfl (by repeat' first | exact Resp.retD | exact Resp1.valuesK | refine Resp.blockD ?_ | refine Resp.thenD ?_ ?_ | refine Resp.hcode ?_) ?_ ?_) | (refine HCode.step ?_; (repeat refine HReg.step ?_); first | (show HCode _ _ _ (Code.seq (Code.seq (Code.region _ _ _) (Code.cond _ _ _)) _) _ _ _; refine hcutC (a := Code.seq (Code.region _ _ _) (Code.cond _ _ _)) [11, 70, 71, 72, 73, 74, 75] [11] (FrJ n H5) rfl (by repeat' first | exact Resp.retD | exact Resp1.valuesK | refine Resp.blockD ?_ | refine Resp.thenD ?_ ?_ | refine Resp.hcode ?_) ?_ ?_) | (refine HCode.step ?_; (repeat refine HReg.step ?_); first | (show HCode _ _ _ (Code.seq (Code.seq (Code.region _ _ _) (Code.cond _ _ _)) _) _ _ _; refine hcutC (a := Code.seq (Code.region _ _ _) (Code.cond _ _ _)) [11, 70, 71, 72, 73, 74, 75] [11] (FrJ n H5) rfl (by repeat' first | exact Resp.retD | exact Resp1.valuesK | refine Resp.blockD ?_ | refine Resp.thenD ?_ ?_ | refine Resp.hcode ?_) ?_ ?_) | (refine HCode.step ?_; (repeat refine HReg.step ?_); (show HCode _ _ _ (Code.seq (Code.seq (Code.region _ _ _) (Code.cond _ _ _)) _) _ _ _; refine hcutC (a := Code.seq (Code.region _ _ _) (Code.cond _ _ _)) [11, 70, 71, 72, 73, 74, 75] [11] (FrJ n H5) rfl (by repeat' first | exact Resp.retD | exact Resp1.valuesK | refine Resp.blockD ?_ | refine Resp.thenD ?_ ?_ | refine Resp.hcode ?_) ?_ ?_))))))))))))))))))))))
  · (repeat first | refine HReg.step ?_ | refine HCode.step ?_)
    refine hif (fun h1 => ?_) (fun h1 => ?_)
    · have h1 := ltB_true.1 h1
      have w1 : wr .i64 (at_.tmod (n : Int) + (n : Int)) = (((at_.tmod (n : Int) + (n : Int)).toNat : Nat) : Int) := by rw [wr_i64 (by omega) (by omega)]; omega
      (repeat first | refine HReg.step ?_ | refine HCode.step ?_)
      rw [w1]
      exact FrJ.mk ⟨_, rfl, by omega, rfl⟩
    · have h1 := ltB_false.1 h1
      have w1 : at_.tmod (n : Int) = (((at_.tmod (n : Int)).toNat : Nat) : Int) := by omega
      (repeat first | refine HReg.step ?_ | refine HCode.step ?_)
      rw [w1]
      exact FrJ.mk ⟨_, rfl, by omega, rfl⟩
  rintro _ fe H6 ⟨j, rfl, hj, hH6⟩
  have hH6 := hH6.symm
  subst hH6
  obtain ⟨y, hy, hy2⟩ := mask_byte mask
  obtain ⟨x, hx⟩ : ∃ x, l[j]? = some x := ⟨l[j]'(by omega), by simp⟩
  have hr5 := hr4.upd (S := []) u5 (.inr (Off.nil _))
  (repeat first | refine HReg.step ?_ | refine HCode.step ?_)
  refine append_own (xs := []) (OwnRow.nil _ _ _) hr5 hl (by omega) fun a6 c6 H6 o6 u6 f6 => ?_
  have u6' : Upd [] H5 H6 := u6
  rw [Nat.zero_add, List.nil_append] at o6
  rw [Nat.zero_add]
  obtain ⟨b6, rfl⟩ := o6.addr (by omega)
  have hb6 : H5 b6 = none := by
    rcases f6 _ rfl with h | h
    · cases h
    · exact h
  (repeat first | refine HReg.step ?_ | refine HCode.step ?_)
  refine HReq.mk ⟨by omega, by omega⟩ ?_
  (repeat first | refine HReg.step ?_ | refine HCode.step ?_)
  refine HLoad.one (v := u8 x) (by exact o6.rows.get (u8s_get hx)) ?_
  (repeat first | refine HReg.step ?_ | refine HCode.step ?_)
  rw [hy2, xor8]
  refine HReq.mk ⟨by omega, by omega⟩ ?_
  (repeat first | refine HReg.step ?_ | refine HCode.step ?_)
  refine store_row o6 (v := u8 (x ^^^ y)) rfl (i := j) (by omega) (by show 0 + (j : Int).toNat = _; omega) fun H7 o7 u7 => ?_
  have e7 : (u8s l).set j (u8 (x ^^^ y)) = u8s (l.set j (x ^^^ y)) := by unfold u8s; rw [List.map_set]
  rw [e7] at o7
  have hne : l.set j (x ^^^ y) ≠ l := fun e => by
    have h1 : (l.set j (x ^^^ y))[j]? = some (x ^^^ y) := by rw [List.getElem?_set_self (by omega)]
    rw [e, hx] at h1
    exact xor_ne hy (Option.some.inj h1).symm
  have hl7 : (l.set j (x ^^^ y)).length = n := by rw [List.length_set]; exact hl
  have u57 : Upd [] H5 H7 := Upd.drop u6' u7 (fun q hq => by rw [List.mem_singleton.1 hq]; exact hb6)
  have hc6 := o6.le
  (repeat first | refine HReg.step ?_ | refine HCode.step ?_)
  refine HCall.mk ⟨Try.f16, Try.func16, by rfl, by rfl⟩ ?_
  refine decode_t o7.rows (by omega) (by omega) (by omega) fun x8 H8 hx8 n8 u8_ => ?_
  (repeat first | refine HReg.step ?_ | refine HCode.step ?_)
  refine HNew.mk fun b9 hb9 => ?_
  (repeat first | refine HReg.step ?_ | refine HCode.step ?_)
  refine store_msg (x := x8) (OwnRow.lit (upd_same _ _ _) rfl) rfl fun H9 o9 u9 => ?_
  have u89 : Upd [] H8 H9 := Upd.drop (Upd.new hb9 _) u9 (fun x hx => by rw [List.mem_singleton.1 hx]; exact hb9)
  have u59 := u57.trans (u8_.trans u89)
  have n59 := n5.upd0 u59
  have o59 := o5.upd u59 (Off.nil _)
  (repeat first | refine HReg.step ?_ | refine HCode.step ?_)
  by_cases h9 : (decodeM (l.set j (x ^^^ y))).2 = 0
  · rw [show eqB (decodeM (l.set j (x ^^^ y))).2 0 = true from eqB_true.2 h9]
    (repeat first | refine HReg.step ?_ | refine HCode.step ?_)
    refine HLoadN_row o9.rows rfl ?_
    (repeat first | refine HReg.step ?_ | refine HCode.step ?_)
    refine HLoadN_row o59.rows rfl ?_
    (repeat first | refine HReg.step ?_ | refine HCode.step ?_)
    refine HCall.mk ⟨Try.f17, Try.func17, by rfl, by rfl⟩ ?_
    refine same_t2 (x := x8) (y := x1) (n8.upd0 u89).msgIn n59.msgIn fun t H10 ht u10 => ?_
    have htf : t = false := by
      cases t with
      | false => rfl
      | true =>
        have := ht.1 rfl
        rw [hx8, hx1] at this
        exact absurd (decode_inj h9 he this) hne
    subst htf
    (repeat first | refine HReg.step ?_ | refine HCode.step ?_)
    exact hk H10 ((u05.trans u59).trans u10)
  · rw [show eqB (decodeM (l.set j (x ^^^ y))).2 0 = false from eqB_false.2 h9]
    (repeat first | refine HReg.step ?_ | refine HCode.step ?_)
    exact hk H9 (u05.trans u59)
end
end Go.Proofs.Ytlgncabjphokjaa
