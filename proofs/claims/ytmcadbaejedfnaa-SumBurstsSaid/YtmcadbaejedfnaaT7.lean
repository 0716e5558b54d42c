import Derived.Test.YtmcadbaejedfnaaT5
import Derived.Test.YtmcadbaejedfnaaM2
namespace Go.Proofs.Ytmcadbaejedfnaa
open Go Hv Crc
set_option linter.unusedVariables false
set_option maxRecDepth 10000
set_option maxHeartbeats 2000000
theorem xor8 (a b : UInt8) : bitsS .xor .u8 (a.toNat : Int) (b.toNat : Int) = ((a ^^^ b).toNat : Int) := by
  rw [bitsS_eq]
  have ofi : ∀ a : UInt8, BitVec.ofInt 8 (a.toNat : Int) = a.toBitVec := fun a => by
    rw [BitVec.ofInt_natCast]; apply BitVec.eq_of_toNat_eq; rw [BitVec.toNat_ofNat]; have := a.toNat_lt; exact Nat.mod_eq_of_lt this
  show IntKind.u8.wrap ((BitVec.ofInt 8 (a.toNat : Int) ^^^ BitVec.ofInt 8 (b.toNat : Int)).toNat : Int) = _
  rw [ofi, ofi, ← UInt8.toBitVec_xor]
  show IntKind.u8.wrap ((a ^^^ b).toNat : Int) = _
  rw [IntKind.wrap_u8]; have := (a ^^^ b).toNat_lt; omega
theorem shl8 {j : Nat} (h : j < 8) : shlS .u8 1 (j : Int) = ((UInt8.ofNat (2 ^ j)).toNat : Int) := by
  rw [shlS_eq]
  have : ∀ j : Fin 8, IntKind.u8.wrap (1 * 2 ^ (min ((j.val : Int).toNat) IntKind.u8.bits)) = ((UInt8.ofNat (2 ^ j.val)).toNat : Int) := by decide
  exact this ⟨j, h⟩
structure BuInv (b : List UInt8) (n p : Nat) (a : Option Addr) (c : Nat) (H0 : Heap) (m : Nat) (vs : List Value) (H' : Heap) : Prop where
  ex : ∃ (i : Nat) (C : List UInt8) (M : W), vs = [.bool (decide (M ≠ 0#32)), .int .i64 (i : Int)] ∧ m + i = 32 ∧ C.length = n ∧ OwnRow H' 5 1 a n c (u8s C) ∧ M.toNat < 2 ^ i ∧ upd (~~~0#32) C = upd (~~~0#32) b ^^^ shn (8 * n - p) M ∧ Upd (blk a) H0 H'
structure BuJ (n : Nat) (a : Option Addr) (c : Nat) (H1 : Heap) (vs : List Value) (H' : Heap) : Prop where
  ex : ∃ C : List UInt8, vs = [] ∧ C.length = n ∧ OwnRow H' 5 1 a n c (u8s C) ∧ Upd [] H1 H'
structure B2Inv (n g : Nat) (H0 : Heap) (m : Nat) (vs : List Value) (H' : Heap) : Prop where
  ex : ∃ (i : Nat) (D : List UInt8), vs = [.int .i64 (i : Int)] ∧ m + i = n ∧ D.length = n ∧ OwnRow H' 5 1 (some ⟨g, 0, none⟩) n n (u8s D) ∧ Upd [g] H0 H'
structure B2J (n g : Nat) (H0 : Heap) (vs : List Value) (H' : Heap) : Prop where
  ex : ∃ D : List UInt8, vs = [] ∧ D.length = n ∧ OwnRow H' 5 1 (some ⟨g, 0, none⟩) n n (u8s D) ∧ Upd [g] H0 H'
theorem zip_get {b C D : List UInt8} {i : Nat} {x y z : UInt8} (h1 : b[i]? = some x) (h2 : C[i]? = some y) (h3 : D[i]? = some z) : (List.zipWith (· ^^^ ·) (List.zipWith (· ^^^ ·) b C) D)[i]? = some (x ^^^ y ^^^ z) := by
  rw [List.getElem?_zipWith, List.getElem?_zipWith, h1, h2, h3]
theorem own_zeros {H : Heap} {g n : Nat} (h : H g = some (.cells (repL n [Value.int .u8 0]).toArray 5 (0, 0))) : OwnRow H 5 1 (some ⟨g, 0, none⟩) n n (u8s (List.replicate n 0)) := by
  rw [zeros_row] at h
  exact OwnRow.lit h (by rw [u8s_length, List.length_replicate, Nat.mul_one])
structure B4Inv (b C D : List UInt8) (n g : Nat) (H0 : Heap) (m : Nat) (vs : List Value) (H' : Heap) : Prop where
  ex : ∃ (i : Nat) (E : List UInt8), vs = [.int .i64 (i : Int)] ∧ m + i = n ∧ E.length = n ∧ (∀ k, k < i → E[k]? = (List.zipWith (· ^^^ ·) (List.zipWith (· ^^^ ·) b C) D)[k]?) ∧ OwnRow H' 5 1 (some ⟨g, 0, none⟩) n n (u8s E) ∧ Upd [g] H0 H'
theorem sumBursts_t {a0 a3 : Option Addr} {n0 c0 n3 c3 : Nat} {b o : List UInt8} {at_ : Int} {mask : W} {H : Heap} (h0 : RowAt H a0 (u8s b)) (l0 : b.length = n0) (b0 : n0 ≤ 140737488351232) (h3 : RowAt H a3 (u8s o)) (l3 : o.length = n3) (b3 : n3 ≤ 140737488351232) :
    HCalls Try.prog 6 [.slice a0 n0 c0, .int .i64 at_, u32 mask, .slice a3 n3 c3] H (fun v H' => v = .bool true ∧ Upd [] H H') := by
  refine hcalls (fn := Try.f6) [(13, [(0, 0), (1, 0), (2, 0), (3, 0), (4, 0), (5, 0), (6, 0), (7, 0), (8, 0), (9, 0), (10, 0), (11, 0), (12, 0), (13, 0), (14, 0)]), (26, [(0, 0), (1, 0), (2, 0), (3, 0), (4, 0), (5, 0), (6, 0), (7, 0), (8, 0), (9, 0), (10, 0), (11, 0), (12, 0), (13, 0), (14, 0), (15, 0), (16, 0), (17, 0)])] mixed Try.func6 rfl rfl (by decide +kernel) ?_
  (repeat first | refine HReg.step ?_ | refine HCode.step ?_)
  refine HCall.mk ⟨Try.f7, Try.func7, by rfl, by rfl⟩ ?_
  refine alive_t fun H1 u1 => ?_
  (repeat first | refine HReg.step ?_ | refine HCode.step ?_)
  refine HCall.mk ⟨Try.f8, Try.func8, by rfl, by rfl⟩ ?_
  refine own_t (h0.upd u1 (.inr (Off.nil _))) l0 (by omega) fun a2 c2 H2 m2 => ?_
  have u2 := m2.upd
  have rb := h0.upd (u1.trans u2) (.inr (Off.nil _))
  repeat refine HReg.step ?_
  refine hcutC [1, 8, 12, 13, 25, 26, 27, 28, 29, 30, 31, 32, 33, 34, 35, 36, 37, 38, 39, 40, 41, 42, 43, 44, 45, 46, 47, 48, 49, 50, 51, 52, 53, 54, 55, 56, 57, 58, 59, 60, 61, 62, 63, 64, 65, 66, 67, 68, 69, 70, 71, 72, 73, 74, 75] [] (BuJ n0 a2 c2 H1) rfl (by repeat' first | exact Resp.retD | exact Resp1.valuesK | refine Resp.blockD ?_ | refine Resp.thenD ?_ ?_ | refine Resp.hcode ?_) ?_ ?_
  · (repeat first | refine HReg.step ?_ | refine HCode.step ?_)
    refine hif (fun h => ?_) (fun h => ?_)
    · have h := ltB_true.1 h
      (repeat first | refine HReg.step ?_ | refine HCode.step ?_)
      refine hif (fun hm => ?_) (fun hm => ?_)
      · have hw8 : wr .i64 (8 * (n0 : Int)) = ((8 * n0 : Nat) : Int) := by rw [wr_i64 (by omega) (by omega)]; omega
        have hw81 : wr .i64 (((8 * n0 : Nat) : Int) - 1) = ((8 * n0 - 1 : Nat) : Int) := by rw [wr_i64 (by omega) (by omega)]; omega
        (repeat first | refine HReg.step ?_ | refine HCode.step ?_)
        rw [hw8, hw81]
        refine HCall.mk ⟨Try.f19, Try.func19, by rfl, by rfl⟩ ?_
        refine rest_t (m := 8 * n0 - 1) (by omega) fun p hp => ?_
        (repeat first | refine HReg.step ?_ | refine HCode.step ?_)
        refine hloopC [12, 13, 36, 37, 38, 39, 40, 41, 42, 43, 44, 45, 46, 47, 48, 49, 50, 51, 52, 53, 54, 55, 56, 57, 58, 59, 60, 61, 62, 63, 64, 65, 66] [12, 13] (BuInv b n0 p a2 c2 H2) rfl (by repeat' first | exact Resp.retD | exact Resp1.valuesK | refine Resp.blockD ?_ | refine Resp.thenD ?_ ?_ | refine Resp.hcode ?_) ?_ ?_
        · exact ⟨32, BuInv.mk ⟨0, b, 0#32, rfl, rfl, l0, m2.own, by decide, by rw [shn_zero, BitVec.xor_zero], Upd.refl _ _⟩⟩
        rintro m vs f H3 ⟨i, C, M, rfl, hmi, lC, oC, hM, hU, uC⟩
        have uC2 : Upd (blk a2) H2 H3 := uC
        have uC1 : Upd [] H1 H3 := Upd.drop u2 uC fun k hk => by
          obtain ⟨q, hq, rfl⟩ := blk_of hk
          exact m2.new q hq
        (repeat first | refine HReg.step ?_ | refine HCode.step ?_)
        refine hif (fun h4 => ?_) (fun h4 => ?_)
        · have h4 := ltB_true.1 h4
          have hwp : wr .i64 ((p : Int) + (i : Int)) = ((p + i : Nat) : Int) := by rw [wr_i64 (by omega) (by omega)]; omega
          (repeat first | refine HReg.step ?_ | refine HCode.step ?_)
          rw [hwp, hw8]
          refine hif (fun h5 => ?_) (fun h5 => ?_)
          · have h5 := ltB_true.1 h5
            (repeat first | refine HReg.step ?_ | refine HCode.step ?_)
            refine HReq.mk (by omega) ?_
            (repeat first | refine HReg.step ?_ | refine HCode.step ?_)
            rw [shr32 mask i (by omega)]
            have hwi : wr .i64 ((i : Int) + 1) = ((i + 1 : Nat) : Int) := by rw [wr_i64 (by omega) (by omega)]; omega
            refine hif (fun h6 => ?_) (fun h6 => ?_)
            · obtain ⟨g2, rfl⟩ := oC.addr (by omega)
              obtain ⟨x, hx⟩ : ∃ x, C[(p + i) / 8]? = some x := ⟨C[(p + i) / 8]'(by omega), by simp⟩
              have hq : wr .i64 ((wr .i64 ((p : Int) + (i : Int))).tdiv 8) = (((p + i) / 8 : Nat) : Int) := by
                rw [hwp, Int.tdiv_eq_ediv_of_nonneg (by omega), wr_i64 (by omega) (by omega)]; omega
              have hr : (wr .i64 ((p : Int) + (i : Int))).tmod 8 = (((p + i) % 8 : Nat) : Int) := by
                rw [hwp, Int.tmod_eq_emod_of_nonneg (by omega)]; omega
              have hj : (p + i) % 8 < 8 := Nat.mod_lt _ (by decide)
              (repeat first | refine HReg.step ?_ | refine HCode.step ?_)
              refine HReq.mk (by decide) ?_
              (repeat first | refine HReg.step ?_ | refine HCode.step ?_)
              rw [hq]
              refine HReq.mk ⟨by omega, by omega⟩ ?_
              (repeat first | refine HReg.step ?_ | refine HCode.step ?_)
              refine HLoad.one (v := u8 x) (by exact oC.rows.get (u8s_get hx)) ?_
              (repeat first | refine HReg.step ?_ | refine HCode.step ?_)
              refine HReq.mk (by decide) ?_
              (repeat first | refine HReg.step ?_ | refine HCode.step ?_)
              rw [hr]
              refine HReq.mk (by omega) ?_
              (repeat first | refine HReg.step ?_ | refine HCode.step ?_)
              refine HReq.mk ⟨by omega, by omega⟩ ?_
              (repeat first | refine HReg.step ?_ | refine HCode.step ?_)
              rw [shl8 hj, xor8]
              have hbit := bit_lt (by omega : i < 32) hM
              refine store_row oC (v := u8 (x ^^^ UInt8.ofNat (2 ^ ((p + i) % 8)))) rfl (i := (p + i) / 8) (by omega) (by show 0 + (p + i) / 8 + 0 = (p + i) / 8; omega) fun H8 o8 u8' => ?_
              (repeat first | refine HReg.step ?_ | refine HCode.step ?_)
              rw [hwi]
              refine Exists.intro (m - 1) ?_
              refine And.intro (by omega) ?_
              refine BuInv.mk ⟨i + 1, C.set ((p + i) / 8) (x ^^^ UInt8.ofNat (2 ^ ((p + i) % 8))), M ^^^ 1#32 <<< i, by rw [decide_eq_true hbit.2], by omega, by rw [List.length_set]; exact lC, ?_, hbit.1, burst_step lC (by omega) (by omega) hx hU, uC.trans u8'⟩
              have e1 : u8s (C.set ((p + i) / 8) (x ^^^ UInt8.ofNat (2 ^ ((p + i) % 8)))) = (u8s C).set ((p + i) / 8) (u8 (x ^^^ UInt8.ofNat (2 ^ ((p + i) % 8)))) := by unfold u8s; rw [List.map_set]
              rw [e1]; exact o8
            · (repeat first | refine HReg.step ?_ | refine HCode.step ?_)
              rw [hwi]
              refine Exists.intro (m - 1) ?_
              refine And.intro (by omega) ?_
              exact BuInv.mk ⟨i + 1, C, M, rfl, by omega, lC, oC, Nat.lt_of_lt_of_le hM (Nat.pow_le_pow_right (by decide) (by omega)), hU, uC⟩
          · have h5 := ltB_false.1 h5
            (repeat first | refine HReg.step ?_ | refine HCode.step ?_)
            refine HCall.mk ⟨Try.f8, Try.func8, by rfl, by rfl⟩ ?_
            refine own_t oC.rows lC (by omega) fun a4 c4 H4 m4 => ?_
            (repeat first | refine HReg.step ?_ | refine HCode.step ?_)
            refine HCall.mk ⟨Try.f9, Try.func9, by rfl, by rfl⟩ ?_
            refine sum_t m4.own.rows lC (by omega) fun H5 u5 => ?_
            (repeat first | refine HReg.step ?_ | refine HCode.step ?_)
            refine HCall.mk ⟨Try.f8, Try.func8, by rfl, by rfl⟩ ?_
            refine own_t (h0.upd (u1.trans (uC1.trans (m4.upd.trans u5))) (.inr (Off.nil _))) l0 (by omega) fun a6 c6 H6 m6 => ?_
            (repeat first | refine HReg.step ?_ | refine HCode.step ?_)
            refine HCall.mk ⟨Try.f9, Try.func9, by rfl, by rfl⟩ ?_
            refine sum_t m6.own.rows l0 (by omega) fun H7 u7 => ?_
            (repeat first | refine HReg.step ?_ | refine HCode.step ?_)
            refine hif (fun hq => absurd hq (fun hq => by
              have he := burst_end hU
              by_cases hM0 : M = 0#32
              · rw [eqB_true.2 (congrArg (fun w : W => (w.toNat : Int)) (he.2 hM0)), decide_eq_false (fun h => h hM0)] at hq
                cases hq
              · rw [eqB_false.2 (fun e => hM0 (he.1 (u32_inj e))), decide_eq_true hM0] at hq
                cases hq)) (fun _ => ?_)
            (repeat first | refine HReg.step ?_ | refine HCode.step ?_)
            exact BuJ.mk ⟨C, rfl, lC, oC.upd (m4.upd.trans (u5.trans (m6.upd.trans u7))) (Off.nil _), uC1.trans (m4.upd.trans (u5.trans (m6.upd.trans u7)))⟩
        · have h4 := ltB_false.1 h4
          (repeat first | refine HReg.step ?_ | refine HCode.step ?_)
          refine HCall.mk ⟨Try.f8, Try.func8, by rfl, by rfl⟩ ?_
          refine own_t oC.rows lC (by omega) fun a4 c4 H4 m4 => ?_
          (repeat first | refine HReg.step ?_ | refine HCode.step ?_)
          refine HCall.mk ⟨Try.f9, Try.func9, by rfl, by rfl⟩ ?_
          refine sum_t m4.own.rows lC (by omega) fun H5 u5 => ?_
          (repeat first | refine HReg.step ?_ | refine HCode.step ?_)
          refine HCall.mk ⟨Try.f8, Try.func8, by rfl, by rfl⟩ ?_
          refine own_t (h0.upd (u1.trans (uC1.trans (m4.upd.trans u5))) (.inr (Off.nil _))) l0 (by omega) fun a6 c6 H6 m6 => ?_
          (repeat first | refine HReg.step ?_ | refine HCode.step ?_)
          refine HCall.mk ⟨Try.f9, Try.func9, by rfl, by rfl⟩ ?_
          refine sum_t m6.own.rows l0 (by omega) fun H7 u7 => ?_
          (repeat first | refine HReg.step ?_ | refine HCode.step ?_)
          refine hif (fun hq => absurd hq (fun hq => by
            have he := burst_end hU
            by_cases hM0 : M = 0#32
            · rw [eqB_true.2 (congrArg (fun w : W => (w.toNat : Int)) (he.2 hM0)), decide_eq_false (fun h => h hM0)] at hq
              cases hq
            · rw [eqB_false.2 (fun e => hM0 (he.1 (u32_inj e))), decide_eq_true hM0] at hq
              cases hq)) (fun _ => ?_)
          (repeat first | refine HReg.step ?_ | refine HCode.step ?_)
          exact BuJ.mk ⟨C, rfl, lC, oC.upd (m4.upd.trans (u5.trans (m6.upd.trans u7))) (Off.nil _), uC1.trans (m4.upd.trans (u5.trans (m6.upd.trans u7)))⟩
      · (repeat first | refine HReg.step ?_ | refine HCode.step ?_)
        exact BuJ.mk ⟨b, rfl, l0, m2.own, u2⟩
    · (repeat first | refine HReg.step ?_ | refine HCode.step ?_)
      exact BuJ.mk ⟨b, rfl, l0, m2.own, u2⟩
  rintro _ f5 H5 ⟨C, rfl, lC, oC, u5⟩
  (repeat first | refine HReg.step ?_ | refine HCode.step ?_)
  have cap : ∀ n : Nat, n ≤ 140737488351232 → ((1 : Nat) : Int) * (n : Int) ≤ cap48 ∧ (n : Int) < cap63 := fun n hn => by
    unfold cap48 cap63; omega
  refine HReq.mk ⟨by omega, by omega, (cap n0 b0).1, (cap n0 b0).2⟩ ?_
  (repeat first | refine HReg.step ?_ | refine HCode.step ?_)
  refine HNew.mk fun gd hgd => ?_
  (repeat first | refine HReg.step ?_ | refine HCode.step ?_)
  refine HReq.mk ⟨by omega, by omega, (cap n0 b0).1, (cap n0 b0).2⟩ ?_
  (repeat first | refine HReg.step ?_ | refine HCode.step ?_)
  refine HNew.mk fun ge hge => ?_
  have ud := Upd.new (S := []) hgd (.cells (repL (n0 : Int).toNat [Value.int .u8 0]).toArray 5)
  have ue := Upd.new (S := []) hge (.cells (repL (n0 : Int).toNat [Value.int .u8 0]).toArray 5)
  have od := (own_zeros (n := n0) (upd_same H5 gd _)).upd ue (Off.nil _)
  have oe := own_zeros (n := n0) (upd_same (H5.upd gd (.cells (repL (n0 : Int).toNat [Value.int .u8 0]).toArray 5)) ge _)
  have hne : ge ≠ gd := fun e => by subst e; rw [upd_same] at hge; cases hge
  have u15 : Upd [] H1 ((H5.upd gd (.cells (repL (n0 : Int).toNat [Value.int .u8 0]).toArray 5)).upd ge (.cells (repL (n0 : Int).toNat [Value.int .u8 0]).toArray 5)) := u5.trans (ud.trans ue)
  have oC6 := oC.upd (ud.trans ue) (Off.nil _)
  have hgd1 : H1 gd = none := Upd.none (S := []) u5 (by simp) hgd
  have hge1 : H1 ge = none := Upd.none (S := []) (u5.trans ud) (by simp) hge
  have offd : Off [gd] a2 := fun q hq hk => by
    have := oC.there hq
    rw [List.mem_singleton.1 hk] at this; exact this hgd
  have offe : Off [ge] a2 := fun q hq hk => by
    have := (oC.upd ud (Off.nil _)).there hq
    rw [List.mem_singleton.1 hk] at this; exact this hge
  repeat refine HReg.step ?_
  refine hcutC [16, 80, 81, 82, 83, 84, 85, 86, 87, 88, 89, 90, 91, 92, 93, 94, 95, 96, 97] [] (B2J n0 gd ((H5.upd gd (.cells (repL (n0 : Int).toNat [Value.int .u8 0]).toArray 5)).upd ge (.cells (repL (n0 : Int).toNat [Value.int .u8 0]).toArray 5))) rfl (by repeat' first | exact Resp.retD | exact Resp1.valuesK | refine Resp.blockD ?_ | refine Resp.thenD ?_ ?_ | refine Resp.hcode ?_) ?_ ?_
  · (repeat first | refine HReg.step ?_ | refine HCode.step ?_)
    refine hloopC [16, 80, 81, 82, 83, 84, 85, 86, 87, 88, 89, 90, 91, 92, 93, 94, 95, 96, 97] [16] (B2Inv n0 gd ((H5.upd gd (.cells (repL (n0 : Int).toNat [Value.int .u8 0]).toArray 5)).upd ge (.cells (repL (n0 : Int).toNat [Value.int .u8 0]).toArray 5))) rfl (by repeat' first | exact Resp.retD | exact Resp1.valuesK | refine Resp.blockD ?_ | refine Resp.thenD ?_ ?_ | refine Resp.hcode ?_) ?_ ?_
    · exact ⟨n0, B2Inv.mk ⟨0, _, rfl, rfl, by simp, od, Upd.refl _ _⟩⟩
    rintro m vs f H7 ⟨i, D, rfl, hmi, lD, oD, uD⟩
    (repeat first | refine HReg.step ?_ | refine HCode.step ?_)
    refine hif (fun h4 => ?_) (fun h4 => ?_)
    · have h4 := ltB_true.1 h4
      (repeat first | refine HReg.step ?_ | refine HCode.step ?_)
      refine hif (fun h5 => ?_) (fun h5 => ?_)
      · have h5 := ltB_true.1 h5
        obtain ⟨x, hx⟩ : ∃ x, o[i]? = some x := ⟨o[i]'(by omega), by simp⟩
        obtain ⟨b', off, rfl⟩ : ∃ b off, a3 = some ⟨b, off, none⟩ := by
          obtain ⟨b', off, hh, _⟩ := h3 i _ (u8s_get hx)
          exact ⟨b', off, hh⟩
        (repeat first | refine HReg.step ?_ | refine HCode.step ?_)
        refine HReq.mk ⟨by omega, by omega⟩ ?_
        (repeat first | refine HReg.step ?_ | refine HCode.step ?_)
        have r7 := h3.upd (u1.trans (Upd.drop u15 uD fun k hk => by rw [List.mem_singleton.1 hk]; exact hgd1)) (.inr (Off.nil _))
        refine HLoad.one (v := u8 x) (by exact r7.get (u8s_get hx)) ?_
        (repeat first | refine HReg.step ?_ | refine HCode.step ?_)
        refine HReq.mk ⟨by omega, by omega⟩ ?_
        (repeat first | refine HReg.step ?_ | refine HCode.step ?_)
        refine store_row oD rfl (i := i) (by omega) (by show 0 + i + 0 = i; omega) fun H8 o8 u8' => ?_
        (repeat first | refine HReg.step ?_ | refine HCode.step ?_)
        have hwi : wr .i64 ((i : Int) + 1) = ((i + 1 : Nat) : Int) := by rw [wr_i64 (by omega) (by omega)]; omega
        rw [hwi]
        refine Exists.intro (m - 1) ?_
        refine And.intro (by omega) ?_
        refine B2Inv.mk ⟨i + 1, D.set i x, rfl, by omega, by rw [List.length_set]; exact lD, ?_, uD.trans u8'⟩
        have e1 : u8s (D.set i x) = (u8s D).set i (u8 x) := by unfold u8s; rw [List.map_set]
        rw [e1]; exact o8
      · (repeat first | refine HReg.step ?_ | refine HCode.step ?_)
        exact B2J.mk ⟨D, rfl, lD, oD, uD⟩
    · (repeat first | refine HReg.step ?_ | refine HCode.step ?_)
      exact B2J.mk ⟨D, rfl, lD, oD, uD⟩
  rintro _ f6 H6 ⟨D, rfl, lD, oD, uD⟩
  have u16 : Upd [] H1 H6 := Upd.drop u15 uD fun k hk => by rw [List.mem_singleton.1 hk]; exact hgd1
  have oC7 := oC6.upd uD offd
  have oe7 := oe.upd uD (fun q hq hk => by cases hq; exact hne (List.mem_singleton.1 hk))
  (repeat first | refine HReg.step ?_ | refine HCode.step ?_)
  refine hloopC [17, 98, 99, 100, 101, 102, 103, 104, 105, 106, 107, 108, 109, 110, 111, 112, 113, 114, 115, 116, 117, 118, 119] [17] (B4Inv b C D n0 ge H6) rfl (by repeat' first | exact Resp.retD | exact Resp1.valuesK | refine Resp.blockD ?_ | refine Resp.thenD ?_ ?_ | refine Resp.hcode ?_) ?_ ?_
  · exact ⟨n0, B4Inv.mk ⟨0, _, rfl, rfl, by simp, fun k hk => by omega, oe7, Upd.refl _ _⟩⟩
  rintro m vs f H7 ⟨i, E, rfl, hmi, lE, hE, oE, uE⟩
  have u17 : Upd [] H1 H7 := Upd.drop u16 uE fun k hk => by rw [List.mem_singleton.1 hk]; exact hge1
  have rb7 := h0.upd (u1.trans u17) (.inr (Off.nil _))
  have oC8 := oC7.upd uE offe
  have oD8 := oD.upd uE (fun q hq hk => by cases hq; exact hne (List.mem_singleton.1 hk).symm)
  (repeat first | refine HReg.step ?_ | refine HCode.step ?_)
  refine hif (fun h4 => ?_) (fun h4 => ?_)
  · have h4 := ltB_true.1 h4
    obtain ⟨x, hx⟩ : ∃ x, b[i]? = some x := ⟨b[i]'(by omega), by simp⟩
    obtain ⟨y, hy⟩ : ∃ x, C[i]? = some x := ⟨C[i]'(by omega), by simp⟩
    obtain ⟨z, hz⟩ : ∃ x, D[i]? = some x := ⟨D[i]'(by omega), by simp⟩
    obtain ⟨b', off, rfl⟩ : ∃ b off, a0 = some ⟨b, off, none⟩ := by
      obtain ⟨b', off, hh, _⟩ := h0 i _ (u8s_get hx)
      exact ⟨b', off, hh⟩
    obtain ⟨gc, rfl⟩ := oC.addr (by omega)
    (repeat first | refine HReg.step ?_ | refine HCode.step ?_)
    refine HReq.mk ⟨by omega, by omega⟩ ?_
    (repeat first | refine HReg.step ?_ | refine HCode.step ?_)
    refine HLoad.one (v := u8 x) (by exact rb7.get (u8s_get hx)) ?_
    (repeat first | refine HReg.step ?_ | refine HCode.step ?_)
    refine HReq.mk ⟨by omega, by omega⟩ ?_
    (repeat first | refine HReg.step ?_ | refine HCode.step ?_)
    refine HLoad.one (v := u8 y) (by exact oC8.rows.get (u8s_get hy)) ?_
    (repeat first | refine HReg.step ?_ | refine HCode.step ?_)
    rw [xor8]
    refine HReq.mk ⟨by omega, by omega⟩ ?_
    (repeat first | refine HReg.step ?_ | refine HCode.step ?_)
    refine HLoad.one (v := u8 z) (by exact oD8.rows.get (u8s_get hz)) ?_
    (repeat first | refine HReg.step ?_ | refine HCode.step ?_)
    rw [xor8]
    refine HReq.mk ⟨by omega, by omega⟩ ?_
    (repeat first | refine HReg.step ?_ | refine HCode.step ?_)
    refine store_row oE (v := u8 (x ^^^ y ^^^ z)) rfl (i := i) (by omega) (by show 0 + i + 0 = i; omega) fun H8 o8 u8' => ?_
    (repeat first | refine HReg.step ?_ | refine HCode.step ?_)
    have hwi : wr .i64 ((i : Int) + 1) = ((i + 1 : Nat) : Int) := by rw [wr_i64 (by omega) (by omega)]; omega
    rw [hwi]
    refine Exists.intro (m - 1) ?_
    refine And.intro (by omega) ?_
    refine B4Inv.mk ⟨i + 1, E.set i (x ^^^ y ^^^ z), rfl, by omega, by rw [List.length_set]; exact lE, fun k hk => ?_, ?_, uE.trans u8'⟩
    · rw [List.getElem?_set]
      by_cases e : i = k
      · subst e
        rw [if_pos rfl, if_pos (by omega), zip_get hx hy hz]
      · rw [if_neg e]; exact hE k (by omega)
    · have e1 : u8s (E.set i (x ^^^ y ^^^ z)) = (u8s E).set i (u8 (x ^^^ y ^^^ z)) := by unfold u8s; rw [List.map_set]
      rw [e1]; exact o8
  have h4 := ltB_false.1 h4
  have lzip : (List.zipWith (· ^^^ ·) (List.zipWith (· ^^^ ·) b C) D).length = n0 := by simp [l0, lC, lD]
  have eE : E = List.zipWith (· ^^^ ·) (List.zipWith (· ^^^ ·) b C) D := by
    apply List.ext_getElem?
    intro k
    by_cases hk : k < n0
    · exact hE k (by omega)
    · rw [List.getElem?_eq_none (by omega), List.getElem?_eq_none (by omega)]
  (repeat first | refine HReg.step ?_ | refine HCode.step ?_)
  refine HCall.mk ⟨Try.f9, Try.func9, by rfl, by rfl⟩ ?_
  refine sum_t oE.rows lE (by omega) fun H8 u8' => ?_
  (repeat first | refine HReg.step ?_ | refine HCode.step ?_)
  refine HCall.mk ⟨Try.f8, Try.func8, by rfl, by rfl⟩ ?_
  refine own_t (rb7.upd u8' (.inr (Off.nil _))) l0 (by omega) fun a9 c9 H9 m9 => ?_
  (repeat first | refine HReg.step ?_ | refine HCode.step ?_)
  refine HCall.mk ⟨Try.f9, Try.func9, by rfl, by rfl⟩ ?_
  refine sum_t m9.own.rows l0 (by omega) fun H10 u10 => ?_
  (repeat first | refine HReg.step ?_ | refine HCode.step ?_)
  refine HCall.mk ⟨Try.f9, Try.func9, by rfl, by rfl⟩ ?_
  refine sum_t (oC8.rows.upd (u8'.trans (m9.upd.trans u10)) (.inr (Off.nil _))) lC (by omega) fun H11 u11 => ?_
  (repeat first | refine HReg.step ?_ | refine HCode.step ?_)
  rw [xor32]
  refine HCall.mk ⟨Try.f9, Try.func9, by rfl, by rfl⟩ ?_
  refine sum_t (oD8.rows.upd (u8'.trans (m9.upd.trans (u10.trans u11))) (.inr (Off.nil _))) lD (by omega) fun H12 u12 => ?_
  (repeat first | refine HReg.step ?_ | refine HCode.step ?_)
  rw [xor32]
  have hsum := crc_xor3 b C D (by omega) (by omega)
  rw [← eE] at hsum
  refine ⟨congrArg Value.bool (eqB_true.2 (by rw [hsum])), u1.trans (u17.trans (u8'.trans (m9.upd.trans (u10.trans (u11.trans u12)))))⟩
end Go.Proofs.Ytmcadbaejedfnaa
