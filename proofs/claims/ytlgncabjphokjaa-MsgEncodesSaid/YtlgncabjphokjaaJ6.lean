import Derived.Test.YtlgncabjphokjaaJ5
namespace Go.Proofs.Ytlgncabjphokjaa
open Go Hv
set_option linter.unusedVariables false
set_option linter.unusedSimpArgs false
set_option maxRecDepth 10000
set_option maxHeartbeats 1000000
/-! The document's Body. CUT2 -/
section
variable {H : Heap} {K : Value → Heap → Prop}
theorem rbody_t {x : MsgA} (hx : MsgIn H x) (hm : MayM x.m)
    (hk : ∀ a c H', Made H H' 5 1 a (body x.m).length c (u8s (body x.m)) → K (.slice a (body x.m).length c) H') : HCalls Try.prog 27 [x.val] H K := by
  refine hcalls (fn := Try.f27) [] mixed Try.func27 rfl rfl (by decide +kernel) ?_
  (repeat first | refine HReg.step ?_ | refine HCode.step ?_)
  refine HNew.mk fun b1 hb1 => ?_
  have u1 : Upd [] H (H.upd b1 (.cells x.cells.toArray 29)) := Upd.new hb1 _
  have o1 : RowAt (H.upd b1 (.cells x.cells.toArray 29)) (some ⟨b1, 0, none⟩) x.cells := RowAt.of_cells (upd_same _ _ _)
  have hH' : H.upd b1 (.cells [Value.int .i64 x.kind, .int .i64 x.client, .int .u64 (x.req : Int), .int .u64 (x.id : Int), .slice x.ap x.ps.length x.cp, .slice x.ak x.ks.length x.ck, .slice x.aw x.ws.length x.cw, .slice x.av x.vs.length x.cv].toArray 29) = H.upd b1 (.cells x.cells.toArray 29) := rfl
  rw [hH']
  generalize hH1 : H.upd b1 (.cells x.cells.toArray 29) = H1 at u1 o1
  have ro : ∀ {H'}, Upd [] H1 H' → RowAt H' (some ⟨b1, 0, none⟩) x.cells := fun u => o1.upd (S := []) u (.inr (Off.nil _))
  have rx : ∀ {H'}, Upd [] H1 H' → MsgIn H' x := fun u => hx.upd0 (u1.trans u)
  have hkk : 1 ≤ x.kind ∧ x.kind ≤ 8 := hm.kinds
  have hcc : 0 ≤ x.client ∧ x.client < 16 := ⟨hm.1.1, hm.1.2.1⟩
  obtain ⟨k, ek⟩ : ∃ k : Nat, x.kind = (k : Int) := ⟨x.kind.toNat, by omega⟩
  obtain ⟨cl, ec⟩ : ∃ c : Nat, x.client = (c : Int) := ⟨x.client.toNat, by omega⟩
  have wk : wr .u8 x.kind = ((k % 256 : Nat) : Int) := by rw [ek, wr8]
  have wc : wr .u8 x.client = ((cl % 256 : Nat) : Int) := by rw [ec, wr8]
  have hbody : body x.m = (num k 1 ++ num cl 1 ++ num x.req 8) ++ (kindPieces x.m).flatten := by
    rw [body_eq]
    have e1 : x.m.kind.toNat = k := by show x.kind.toNat = k; omega
    have e2 : x.m.client.toNat = cl := by show x.client.toNat = cl; omega
    rw [e1, e2]
    show _ = (num k 1 ++ num cl 1 ++ num x.m.req 8) ++ _
    simp
  have fin : ∀ a c H', Made H1 H' 5 1 a (body x.m).length c (u8s (body x.m)) → K (.slice a (body x.m).length c) H' := fun a c H' m => hk a c H' (m.back u1)
  clear hk
  (repeat first | refine HReg.step ?_ | refine HCode.step ?_)
  refine HLoad.one (v := .int .i64 x.kind) (by exact o1.get (i := 0) rfl) ?_
  (repeat first | refine HReg.step ?_ | refine HCode.step ?_)
  refine HLoad.one (v := .int .i64 x.client) (by exact o1.get (i := 1) rfl) ?_
  (repeat first | refine HReg.step ?_ | refine HCode.step ?_)
  rw [wk, wc]
  refine HReq.mk (by decide) ?_
  (repeat first | refine HReg.step ?_ | refine HCode.step ?_)
  refine HNew.mk fun b2 hb2 => ?_
  have m2 : Made H1 (H1.upd b2 (.cells [Value.int .u8 ((k % 256 : Nat) : Int), .int .u8 ((cl % 256 : Nat) : Int)].toArray 5)) 5 1 (some ⟨b2, 0, none⟩) 2 2 (u8s (num k 1 ++ num cl 1)) := by
    refine ⟨?_, Upd.new hb2 _, fun p hp => by cases hp; exact hb2⟩
    rw [← hd2]
    exact OwnRow.lit (upd_same _ _ _) rfl
  generalize hH2 : H1.upd b2 (.cells [Value.int .u8 ((k % 256 : Nat) : Int), .int .u8 ((cl % 256 : Nat) : Int)].toArray 5) = H2 at m2
  (repeat first | refine HReg.step ?_ | refine HCode.step ?_)
  refine HLoad.one (v := .int .u64 (x.req : Int)) (by exact (ro m2.upd).get (i := 2) rfl) ?_
  (repeat first | refine HReg.step ?_ | refine HCode.step ?_)
  refine HCall.mk ⟨Try.f28, Try.func28, by rfl, by rfl⟩ ?_
  refine Number_t (n := 8) (by decide) fun a3 c3 H3 m3 => ?_
  (repeat first | refine HReg.step ?_ | refine HCode.step ?_)
  refine append_made (m2.step m3.upd) m3.own.rows (num_length _ _) (by omega) fun a4 c4 H4 m4 => ?_
  have l4 : (num k 1 ++ num cl 1 ++ num x.req 8).length = 10 := by simp only [List.length_append, num_length]
  obtain ⟨h0, eh⟩ : ∃ h0, num k 1 ++ num cl 1 ++ num x.req 8 = h0 := ⟨_, rfl⟩
  rw [eh] at m4 l4 hbody
  have e10 : 2 + 8 = h0.length := by omega
  rw [e10] at m4 ⊢
  (repeat first | refine HReg.step ?_ | refine HCode.step ?_)
  refine HLoad.one (v := .int .i64 x.kind) (by exact (ro m4.upd).get (i := 0) rfl) ?_
  (repeat first | refine HReg.step ?_ | refine HCode.step ?_)
  by_cases h1 : x.kind = 1
  · rw [show eqB x.kind 1 = true from eqB_true.2 h1]
    obtain ⟨hid, ⟨hwh, hpo⟩, _⟩ := (kind1 h1).1 hm.2
    obtain ⟨hfp, hsp⟩ := hpo.few hwh
    have ts := textsB_small hwh.few
    have w1 : wr .u64 (x.ps.length : Int) = (x.ps.length : Int) := by rw [wr_u64]; omega
    have ekp : (kindPieces x.m).flatten = num x.id 8 ++ (textsB x.ks ++ (num x.ps.length 4 ++ (pairPieces x.ps).flatten)) := by
      rw [kp1 (m := x.m) h1]
      show ([num x.id 8, textsB x.ks, num x.ps.length 4] ++ pairPieces x.ps).flatten = _
      simp
    rw [ekp, ← List.append_assoc, ← List.append_assoc, ← List.append_assoc] at hbody
    rw [hbody] at fin
    (repeat first | refine HReg.step ?_ | refine HCode.step ?_)
    refine HLoad.one (v := .int .u64 (x.id : Int)) (by exact (ro m4.upd).get (i := 3) rfl) ?_
    (repeat first | refine HReg.step ?_ | refine HCode.step ?_)
    refine HCall.mk ⟨Try.f28, Try.func28, by rfl, by rfl⟩ ?_
    refine Number_t (n := 8) (by decide) fun a5 c5 H5 m5 => ?_
    (repeat first | refine HReg.step ?_ | refine HCode.step ?_)
    refine app_md (m4.step m5.upd) m5.own.rows (num_length _ _) (by omega) fun a6 c6 H6 m6 => ?_
    have l6 : (h0 ++ num x.id 8).length = 18 := by rw [List.length_append, num_length]; omega
    (repeat first | refine HReg.step ?_ | refine HCode.step ?_)
    refine HLoad.one (v := .slice x.ak x.ks.length x.ck) (by exact (ro m6.upd).get (i := 5) rfl) ?_
    (repeat first | refine HReg.step ?_ | refine HCode.step ?_)
    refine HCall.mk ⟨Try.f48, Try.func48, by rfl, by rfl⟩ ?_
    refine Texts_t (rx m6.upd).rk rfl (by omega) fun a7 c7 H7 m7 => ?_
    (repeat first | refine HReg.step ?_ | refine HCode.step ?_)
    refine app_md (m6.step m7.upd) m7.own.rows rfl (by omega) fun a8 c8 H8 m8 => ?_
    have l8 : (h0 ++ num x.id 8 ++ textsB x.ks).length ≤ 100000000 := by rw [List.length_append, l6]; omega
    (repeat first | refine HReg.step ?_ | refine HCode.step ?_)
    refine HLoad.one (v := .slice x.ap x.ps.length x.cp) (by exact (ro m8.upd).get (i := 4) rfl) ?_
    (repeat first | refine HReg.step ?_ | refine HCode.step ?_)
    rw [w1]
    refine HCall.mk ⟨Try.f28, Try.func28, by rfl, by rfl⟩ ?_
    refine Number_t (n := 4) (by decide) fun a9 c9 H9 m9 => ?_
    (repeat first | refine HReg.step ?_ | refine HCode.step ?_)
    refine app_md (m8.step m9.upd) m9.own.rows (num_length _ _) (by omega) fun a10 c10 H10 m10 => ?_
    have l10 : (h0 ++ num x.id 8 ++ textsB x.ks ++ num x.ps.length 4).length ≤ 100000100 := by rw [List.length_append, num_length]; omega
    obtain ⟨h5, eh5⟩ : ∃ h, h0 ++ num x.id 8 ++ textsB x.ks ++ num x.ps.length 4 = h := ⟨_, rfl⟩
    rw [eh5] at m10 l10 fin ⊢
    (repeat first | refine HReg.step ?_ | refine HCode.step ?_)
    refine hloopC [3, 4, 39, 40, 41, 42, 43, 44, 45, 46, 47, 48, 49, 50, 51, 52, 53, 54, 55, 56, 57, 58, 59, 60, 61, 62, 63] [3, 4] (BpInv H1 x.ps h5) rfl (by repeat' first | exact Resp.retD | exact Resp1.valuesK | refine Resp.blockD ?_ | refine Resp.thenD ?_ ?_ | refine Resp.hcode ?_) ?_ ?_
    · exact ⟨x.ps.length, BpInv.mk ⟨0, _, _, h5, rfl, rfl, by simp [pairPieces], m10⟩⟩
    rintro m _ fe H11 ⟨i, a11, c11, out, rfl, hmi, ho, m11⟩
    have wi : wr .i64 ((i : Int) + 1) = ((i + 1 : Nat) : Int) := by rw [wr_i64 (by omega) (by omega)]; omega
    (repeat first | refine HReg.step ?_ | refine HCode.step ?_)
    refine HLoad.one (v := .slice x.ap x.ps.length x.cp) (by exact (ro m11.upd).get (i := 4) rfl) ?_
    (repeat first | refine HReg.step ?_ | refine HCode.step ?_)
    refine hif (fun h2 => ?_) (fun h2 => ?_)
    · have h2 := ltB_true.1 h2
      obtain ⟨p, hp⟩ : ∃ p, x.ps[i]? = some p := ⟨x.ps[i]'(by omega), by simp⟩
      have hs := hsp p (List.mem_of_getElem? hp)
      have hpt := pieces_take hp
      have hbi : (pairPieces (x.ps.take i)).flatten.length ≤ 1024 * 131078 := by
        have := pairs_bound (ps := x.ps.take i) fun q hq => hsp q (List.mem_of_mem_take hq)
        refine Nat.le_trans this (Nat.mul_le_mul_right _ ?_)
        rw [List.length_take]; omega
      have lo : out.length ≤ 300000000 := by rw [ho, List.length_append]; omega
      have tl1 := textB_length p.1
      have rp := (rx m11.upd).rp
      obtain ⟨ba, bo, hap, _⟩ := rp _ _ (pairsV_get hp).1
      (repeat first | refine HReg.step ?_ | refine HCode.step ?_)
      refine HLoad.one (v := .slice x.ap x.ps.length x.cp) (by exact (ro m11.upd).get (i := 4) rfl) ?_
      rw [hap] at rp ⊢
      (repeat first | refine HReg.step ?_ | refine HCode.step ?_)
      refine HReq.mk ⟨by omega, by omega⟩ ?_
      (repeat first | refine HReg.step ?_ | refine HCode.step ?_)
      refine HLoad.one (v := .string (bs p.1)) (by exact rp.get (pairsV_get hp).1) ?_
      (repeat first | refine HReg.step ?_ | refine HCode.step ?_)
      refine HCall.mk ⟨Try.f49, Try.func49, by rfl, by rfl⟩ ?_
      refine Text_t (by omega) fun a12 c12 H12 m12 => ?_
      (repeat first | refine HReg.step ?_ | refine HCode.step ?_)
      refine app_md (m11.step m12.upd) m12.own.rows tl1 (by omega) fun a13 c13 H13 m13 => ?_
      have lo2 : (out ++ textB p.1).length ≤ 300100000 := by rw [List.length_append, tl1]; omega
      have rp13 := (rx m13.upd).rp
      rw [hap] at rp13
      (repeat first | refine HReg.step ?_ | refine HCode.step ?_)
      refine HLoad.one (v := .slice x.ap x.ps.length x.cp) (by exact (ro m13.upd).get (i := 4) rfl) ?_
      rw [hap]
      (repeat first | refine HReg.step ?_ | refine HCode.step ?_)
      refine HReq.mk ⟨by omega, by omega⟩ ?_
      (repeat first | refine HReg.step ?_ | refine HCode.step ?_)
      refine HLoad.one (v := .string (bs p.2)) (by rw [Nat.add_assoc]; exact rp13.get (pairsV_get hp).2) ?_
      (repeat first | refine HReg.step ?_ | refine HCode.step ?_)
      refine HCall.mk ⟨Try.f49, Try.func49, by rfl, by rfl⟩ ?_
      refine Text_t (by omega) fun a14 c14 H14 m14 => ?_
      (repeat first | refine HReg.step ?_ | refine HCode.step ?_)
      refine app_md (m13.step m14.upd) m14.own.rows (textB_length _) (by omega) fun a15 c15 H15 m15 => ?_
      (repeat first | refine HReg.step ?_ | refine HCode.step ?_)
      rw [wi]
      refine ⟨m - 1, by omega, BpInv.mk ⟨i + 1, a15, c15, _, rfl, by omega, ?_, m15⟩⟩
      rw [ho, hpt]; simp
    · have h2 := ltB_false.1 h2
      have hi : i = x.ps.length := by omega
      rw [hi, List.take_length] at ho
      rw [ho] at m11 ⊢
      (repeat first | refine HReg.step ?_ | refine HCode.step ?_)
      exact fin a11 c11 H11 m11
  rw [show eqB x.kind 1 = false from eqB_false.2 h1]
  (repeat first | refine HReg.step ?_ | refine HCode.step ?_)
  by_cases h3 : x.kind = 3
  · rw [show eqB x.kind 3 = true from eqB_true.2 h3]
    obtain ⟨_, hv, _⟩ := (kind3 h3).1 hm.2
    have ts := textsB_small ⟨hv.1.2.1, hv.1.2.2⟩
    have ekp : (kindPieces x.m).flatten = textsB x.ks := by rw [kp3 (m := x.m) h3]; simp; rfl
    rw [ekp] at hbody
    rw [hbody] at fin
    (repeat first | refine HReg.step ?_ | refine HCode.step ?_)
    refine HLoad.one (v := .slice x.ak x.ks.length x.ck) (by exact (ro m4.upd).get (i := 5) rfl) ?_
    (repeat first | refine HReg.step ?_ | refine HCode.step ?_)
    refine HCall.mk ⟨Try.f48, Try.func48, by rfl, by rfl⟩ ?_
    refine Texts_t (rx m4.upd).rk rfl (by omega) fun a7 c7 H7 m7 => ?_
    (repeat first | refine HReg.step ?_ | refine HCode.step ?_)
    refine app_md (m4.step m7.upd) m7.own.rows rfl (by omega) fun a8 c8 H8 m8 => ?_
    (repeat first | refine HReg.step ?_ | refine HCode.step ?_)
    exact fin a8 c8 H8 m8
  rw [show eqB x.kind 3 = false from eqB_false.2 h3]
  (repeat first | refine HReg.step ?_ | refine HCode.step ?_)
  by_cases h4 : x.kind = 4
  · rw [show eqB x.kind 4 = true from eqB_true.2 h4]
    obtain ⟨_, hwo, _⟩ := (kind4 h4).1 hm.2
    obtain ⟨hfp, hsp⟩ := hwo.few
    have w1 : wr .u64 (x.ws.length : Int) = (x.ws.length : Int) := by rw [wr_u64]; omega
    have ekp : (kindPieces x.m).flatten = num x.ws.length 4 ++ (wantPieces x.ws).flatten := by
      rw [kp4 (m := x.m) h4]
      show ([num x.ws.length 4] ++ wantPieces x.ws).flatten = _
      simp
    rw [ekp, ← List.append_assoc] at hbody
    rw [hbody] at fin
    (repeat first | refine HReg.step ?_ | refine HCode.step ?_)
    refine HLoad.one (v := .slice x.aw x.ws.length x.cw) (by exact (ro m4.upd).get (i := 6) rfl) ?_
    (repeat first | refine HReg.step ?_ | refine HCode.step ?_)
    rw [w1]
    refine HCall.mk ⟨Try.f28, Try.func28, by rfl, by rfl⟩ ?_
    refine Number_t (n := 4) (by decide) fun a9 c9 H9 m9 => ?_
    (repeat first | refine HReg.step ?_ | refine HCode.step ?_)
    refine app_md (m4.step m9.upd) m9.own.rows (num_length _ _) (by omega) fun a10 c10 H10 m10 => ?_
    have l10 : (h0 ++ num x.ws.length 4).length ≤ 100000100 := by rw [List.length_append, num_length]; omega
    obtain ⟨h5, eh5⟩ : ∃ h, h0 ++ num x.ws.length 4 = h := ⟨_, rfl⟩
    rw [eh5] at m10 l10 fin ⊢
    (repeat first | refine HReg.step ?_ | refine HCode.step ?_)
    refine hloopC [3, 5, 81, 82, 83, 84, 85, 86, 87, 88, 89, 90, 91, 92, 93, 94, 95, 96, 97, 98, 99, 100, 101, 102, 103, 104, 105] [3, 5] (BwInv H1 x.ws h5) rfl (by repeat' first | exact Resp.retD | exact Resp1.valuesK | refine Resp.blockD ?_ | refine Resp.thenD ?_ ?_ | refine Resp.hcode ?_) ?_ ?_
    · exact ⟨x.ws.length, BwInv.mk ⟨0, _, _, h5, rfl, rfl, by simp [wantPieces], m10⟩⟩
    rintro m _ fe H11 ⟨i, a11, c11, out, rfl, hmi, ho, m11⟩
    have wi : wr .i64 ((i : Int) + 1) = ((i + 1 : Nat) : Int) := by rw [wr_i64 (by omega) (by omega)]; omega
    (repeat first | refine HReg.step ?_ | refine HCode.step ?_)
    refine HLoad.one (v := .slice x.aw x.ws.length x.cw) (by exact (ro m11.upd).get (i := 6) rfl) ?_
    (repeat first | refine HReg.step ?_ | refine HCode.step ?_)
    refine hif (fun h2 => ?_) (fun h2 => ?_)
    · have h2 := ltB_true.1 h2
      obtain ⟨p, hp⟩ : ∃ p, x.ws[i]? = some p := ⟨x.ws[i]'(by omega), by simp⟩
      have hs := hsp p (List.mem_of_getElem? hp)
      have hpt := wpieces_take hp
      have hbi : (wantPieces (x.ws.take i)).flatten.length ≤ 1024 * 131078 := by
        have := wants_bound (ps := x.ws.take i) fun q hq => hsp q (List.mem_of_mem_take hq)
        refine Nat.le_trans this (Nat.mul_le_mul_right _ ?_)
        rw [List.length_take]; omega
      have lo : out.length ≤ 300000000 := by rw [ho, List.length_append]; omega
      have tl1 := textB_length p.1
      have rp := (rx m11.upd).rw
      obtain ⟨ba, bo, hap, _⟩ := rp _ _ (wantsV_get hp).1
      (repeat first | refine HReg.step ?_ | refine HCode.step ?_)
      refine HLoad.one (v := .slice x.aw x.ws.length x.cw) (by exact (ro m11.upd).get (i := 6) rfl) ?_
      rw [hap] at rp ⊢
      (repeat first | refine HReg.step ?_ | refine HCode.step ?_)
      refine HReq.mk ⟨by omega, by omega⟩ ?_
      (repeat first | refine HReg.step ?_ | refine HCode.step ?_)
      refine HLoad.one (v := .string (bs p.1)) (by exact rp.get (wantsV_get hp).1) ?_
      (repeat first | refine HReg.step ?_ | refine HCode.step ?_)
      refine HCall.mk ⟨Try.f49, Try.func49, by rfl, by rfl⟩ ?_
      refine Text_t (by omega) fun a12 c12 H12 m12 => ?_
      (repeat first | refine HReg.step ?_ | refine HCode.step ?_)
      refine app_md (m11.step m12.upd) m12.own.rows tl1 (by omega) fun a13 c13 H13 m13 => ?_
      have lo2 : (out ++ textB p.1).length ≤ 300100000 := by rw [List.length_append, tl1]; omega
      have rp13 := (rx m13.upd).rw
      rw [hap] at rp13
      (repeat first | refine HReg.step ?_ | refine HCode.step ?_)
      refine HLoad.one (v := .slice x.aw x.ws.length x.cw) (by exact (ro m13.upd).get (i := 6) rfl) ?_
      rw [hap]
      (repeat first | refine HReg.step ?_ | refine HCode.step ?_)
      refine HReq.mk ⟨by omega, by omega⟩ ?_
      (repeat first | refine HReg.step ?_ | refine HCode.step ?_)
      refine HLoad.one (v := .int .u64 (p.2 : Int)) (by rw [Nat.add_assoc]; exact rp13.get (wantsV_get hp).2) ?_
      (repeat first | refine HReg.step ?_ | refine HCode.step ?_)
      refine HCall.mk ⟨Try.f28, Try.func28, by rfl, by rfl⟩ ?_
      refine Number_t (n := 8) (by decide) fun a14 c14 H14 m14 => ?_
      (repeat first | refine HReg.step ?_ | refine HCode.step ?_)
      refine app_md (m13.step m14.upd) m14.own.rows (num_length _ _) (by omega) fun a15 c15 H15 m15 => ?_
      (repeat first | refine HReg.step ?_ | refine HCode.step ?_)
      rw [wi]
      refine ⟨m - 1, by omega, BwInv.mk ⟨i + 1, a15, c15, _, rfl, by omega, ?_, m15⟩⟩
      rw [ho, hpt]; simp
    · have h2 := ltB_false.1 h2
      have hi : i = x.ws.length := by omega
      rw [hi, List.take_length] at ho
      rw [ho] at m11 ⊢
      (repeat first | refine HReg.step ?_ | refine HCode.step ?_)
      exact fin a11 c11 H11 m11
  rw [show eqB x.kind 4 = false from eqB_false.2 h4]
  (repeat first | refine HReg.step ?_ | refine HCode.step ?_)
  by_cases h7 : x.kind = 7
  · rw [show eqB x.kind 7 = true from eqB_true.2 h7]
    obtain ⟨_, ⟨v, hvs, hcv⟩, _⟩ := (kind7 h7).1 hm.2
    have hv : x.vs[0]? = some v := by rw [hvs]; rfl
    have hvm := List.mem_of_getElem? hv
    have rv := (rx m4.upd).rv
    obtain ⟨ba, bo, hav, _⟩ := rv _ _ (versV_get hv 0 _ rfl)
    have ekp : (kindPieces x.m).flatten = (verPieces v.v).flatten := by
      rw [kp7 (m := x.m) h7]
      show (versPieces (x.vs.map VerA.v)).flatten = _
      rw [hvs]; rfl
    rw [ekp] at hbody
    rw [hbody] at fin
    have hvl := ver_len hcv
    (repeat first | refine HReg.step ?_ | refine HCode.step ?_)
    refine HLoad.one (v := .slice x.av x.vs.length x.cv) (by exact (ro m4.upd).get (i := 7) rfl) ?_
    rw [hav] at rv ⊢
    (repeat first | refine HReg.step ?_ | refine HCode.step ?_)
    refine HReq.mk (by have : x.vs.length = 1 := by rw [hvs]; rfl
                       omega) ?_
    (repeat first | refine HReg.step ?_ | refine HCode.step ?_)
    refine HLoadN_ver (i := 0) rv hv ?_
    (repeat first | refine HReg.step ?_ | refine HCode.step ?_)
    refine HCall.mk ⟨Try.f50, Try.func50, by rfl, by rfl⟩ ?_
    refine rverb_t ((rx m4.upd).vk v hvm) hcv fun a7 c7 H7 m7 => ?_
    (repeat first | refine HReg.step ?_ | refine HCode.step ?_)
    refine app_md (m4.step m7.upd) m7.own.rows rfl (by omega) fun a8 c8 H8 m8 => ?_
    (repeat first | refine HReg.step ?_ | refine HCode.step ?_)
    exact fin a8 c8 H8 m8
  rw [show eqB x.kind 7 = false from eqB_false.2 h7]
  have ekp : (kindPieces x.m).flatten = num x.id 8 := by
    rw [kpn (m := x.m) h1 h3 h4 h7]; simp; rfl
  rw [ekp] at hbody
  rw [hbody] at fin
  (repeat first | refine HReg.step ?_ | refine HCode.step ?_)
  refine HLoad.one (v := .int .u64 (x.id : Int)) (by exact (ro m4.upd).get (i := 3) rfl) ?_
  (repeat first | refine HReg.step ?_ | refine HCode.step ?_)
  refine HCall.mk ⟨Try.f28, Try.func28, by rfl, by rfl⟩ ?_
  refine Number_t (n := 8) (by decide) fun a7 c7 H7 m7 => ?_
  (repeat first | refine HReg.step ?_ | refine HCode.step ?_)
  refine app_md (m4.step m7.upd) m7.own.rows (num_length _ _) (by omega) fun a8 c8 H8 m8 => ?_
  (repeat first | refine HReg.step ?_ | refine HCode.step ?_)
  exact fin a8 c8 H8 m8
end
end Go.Proofs.Ytlgncabjphokjaa
