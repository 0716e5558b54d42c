import Derived.Test.YtlgncabjphokjaaGreatG5
namespace Go.Proofs.YtlgncabjphokjaaGreat
open Go Hv
set_option linter.unusedVariables false
set_option linter.unusedSimpArgs false
set_option maxRecDepth 10000
set_option maxHeartbeats 1000000
/-! Size, Encode. CUT2 -/
section
variable {H : Heap} {K : Value → Heap → Prop}
theorem ptext_t {s : Txt} (hs : s.length ≤ 4000000000000000000) (hk : K (.int .i64 ((textB s).length : Int)) H) : HCalls Tryz.prog 37 [.string (bs s)] H K := by
  refine hcalls (fn := Tryz.f37) [] mixed Tryz.func37 rfl rfl (by decide +kernel) ?_
  have w4 : wr .i64 (4 + (s.length : Int)) = ((textB s).length : Int) := by rw [wr_i64 (by omega) (by omega), textB_length]; omega
  (repeat first | refine HReg.step ?_ | refine HCode.step ?_)
  rw [bs_size, w4]
  exact hk
theorem ptexts_t {a : Option Addr} {n c : Nat} {l : List Txt} (hr : RowAt H a (txts l)) (hl : l.length = n) (hs : l.length ≤ 1024 ∧ ∀ s ∈ l, s.length ≤ 65535)
    (hk : K (.int .i64 ((textsB l).length : Int)) H) : HCalls Tryz.prog 36 [.slice a n c] H K := by
  refine hcalls (fn := Tryz.f36) [] mixed Tryz.func36 rfl rfl (by decide +kernel) ?_
  have hb := textsB_small hs
  have hbl := textsB_len l
  (repeat first | refine HReg.step ?_ | refine HCode.step ?_)
  refine hloopC [3, 5, 8, 9, 10, 11, 12, 13, 14, 15, 16] [3, 8] (TsI1 l H) rfl (by repeat' first | exact Resp.retD | exact Resp1.valuesK | refine Resp.blockD ?_ | refine Resp.thenD ?_ ?_ | refine Resp.hcode ?_) ?_ ?_
  · exact ⟨l.length, TsI1.mk ⟨0, rfl, rfl, rfl⟩⟩
  rintro m _ fe H1 ⟨i, rfl, hmi, rfl⟩
  (repeat first | refine HReg.step ?_ | refine HCode.step ?_)
  refine hif (fun h1 => ?_) (fun h1 => ?_)
  · have h1 := ltB_true.1 h1
    have w2 : wr .i64 ((i : Int) + 1) = ((i + 1 : Nat) : Int) := by rw [wr_i64 (by omega) (by omega)]; omega
    obtain ⟨s, hx⟩ : ∃ s, l[i]? = some s := ⟨l[i]'(by omega), by simp⟩
    obtain ⟨ba, bo, rfl, _⟩ := hr _ _ (txts_get hx)
    have hsl := hs.2 s (List.mem_of_getElem? hx)
    have hf := flat_take hx
    have hle := flat_le l i
    have w3 : wr .i64 (((4 + ((l.take i).flatMap textB).length : Nat) : Int) + ((textB s).length : Int)) = ((4 + ((l.take (i + 1)).flatMap textB).length : Nat) : Int) := by
      rw [hf, List.length_append, textB_length, wr_i64 (by omega) (by omega)]; omega
    (repeat first | refine HReg.step ?_ | refine HCode.step ?_)
    refine HReq.mk ⟨by omega, by omega⟩ ?_
    (repeat first | refine HReg.step ?_ | refine HCode.step ?_)
    refine HLoad.one (v := .string (bs s)) (by exact hr.get (txts_get hx)) ?_
    (repeat first | refine HReg.step ?_ | refine HCode.step ?_)
    refine HCall.mk ⟨Tryz.f37, Tryz.func37, by rfl, by rfl⟩ ?_
    refine ptext_t (by omega) ?_
    (repeat first | refine HReg.step ?_ | refine HCode.step ?_)
    rw [w3, w2]
    exact ⟨m - 1, by omega, TsI1.mk ⟨i + 1, rfl, by omega, rfl⟩⟩
  · have h1 := ltB_false.1 h1
    have hi : i = l.length := by omega
    subst hi
    (repeat first | refine HReg.step ?_ | refine HCode.step ?_)
    rw [List.take_length, ← hbl]
    exact hk
theorem pairs_bound {ps : List (Txt × Txt)} (h : ∀ p ∈ ps, p.1.length ≤ 65535 ∧ p.2.length ≤ 65535) : (pairPieces ps).flatten.length ≤ ps.length * 131078 := by
  induction ps with
  | nil => simp [pairPieces]
  | cons q ps ih =>
    have e : (pairPieces (q :: ps)).flatten = textB q.1 ++ (textB q.2 ++ (pairPieces ps).flatten) := by
      unfold pairPieces; rw [List.flatMap_cons]; simp
    have h1 := h q List.mem_cons_self
    have h2 := ih fun p hp => h p (List.mem_cons_of_mem _ hp)
    rw [e, List.length_append, List.length_append, textB_length, textB_length, List.length_cons]
    omega
theorem wants_bound {ps : List (Txt × Nat)} (h : ∀ p ∈ ps, p.1.length ≤ 65535) : (wantPieces ps).flatten.length ≤ ps.length * 131078 := by
  induction ps with
  | nil => simp [wantPieces]
  | cons q ps ih =>
    have e : (wantPieces (q :: ps)).flatten = textB q.1 ++ (num q.2 8 ++ (wantPieces ps).flatten) := by
      unfold wantPieces; rw [List.flatMap_cons]; simp
    have h1 := h q List.mem_cons_self
    have h2 := ih fun p hp => h p (List.mem_cons_of_mem _ hp)
    rw [e, List.length_append, List.length_append, textB_length, num_length, List.length_cons]
    omega
structure SpInv (H1 : Heap) (n0 : Nat) (ps : List (Txt × Txt)) (m : Nat) (vs : List Value) (H' : Heap) : Prop where
  ex : ∃ i : Nat, vs = [.int .i64 ((n0 + (pairPieces (ps.take i)).flatten.length : Nat) : Int), .int .i64 (i : Int)] ∧ m + i = ps.length ∧ Upd [] H1 H'
structure SwInv (H1 : Heap) (n0 : Nat) (ps : List (Txt × Nat)) (m : Nat) (vs : List Value) (H' : Heap) : Prop where
  ex : ∃ i : Nat, vs = [.int .i64 ((n0 + (wantPieces (ps.take i)).flatten.length : Nat) : Int), .int .i64 (i : Int)] ∧ m + i = ps.length ∧ Upd [] H1 H'
theorem head_len (m : Msg) : (body m).length = 10 + (kindPieces m).flatten.length := by
  rw [body_eq]
  simp only [List.length_append, num_length]
  omega
theorem size_t {x : MsgA} (hx : MsgIn H x)
    (hk : ∀ H', Upd [] H H' → K (.tuple #[.int .i64 ((sizeM x.m).1 : Int), .int .i64 (sizeM x.m).2]) H') : HCalls Tryz.prog 14 [x.val] H K := by
  refine hcalls (fn := Tryz.f14) [(11, [(1, 0), (2, 0), (3, 0), (4, 1), (5, 1), (6, 0), (0, 2), (7, 0), (8, 0), (9, 0)]), (26, [(1, 0), (2, 0), (3, 0), (4, 1), (5, 1), (6, 0), (0, 2), (7, 0), (8, 0), (9, 0)])] mixed Tryz.func14 rfl rfl (by decide +kernel) ?_
  (repeat first | refine HReg.step ?_ | refine HCode.step ?_)
  refine HNew.mk fun b1 hb1 => ?_
  have u1 : Upd [] H (H.upd b1 (.cells x.cells.toArray 30)) := Upd.new hb1 _
  have o1 : RowAt (H.upd b1 (.cells x.cells.toArray 30)) (some ⟨b1, 0, none⟩) x.cells := RowAt.of_cells (upd_same _ _ _)
  have hH' : H.upd b1 (.cells [Value.int .i64 x.kind, .int .i64 x.client, .int .u64 (x.req : Int), .int .u64 (x.id : Int), .slice x.ap x.ps.length x.cp, .slice x.ak x.ks.length x.ck, .slice x.aw x.ws.length x.cw, .slice x.av x.vs.length x.cv].toArray 30) = H.upd b1 (.cells x.cells.toArray 30) := rfl
  rw [hH']
  generalize hH1 : H.upd b1 (.cells x.cells.toArray 30) = H1 at u1 o1
  (repeat first | refine HReg.step ?_ | refine HCode.step ?_)
  refine HLoadN_row o1 rfl ?_
  (repeat first | refine HReg.step ?_ | refine HCode.step ?_)
  refine HCall.mk ⟨Tryz.f11, Tryz.func11, by rfl, by rfl⟩ ?_
  refine may_t (hx.upd0 u1) fun t H2 ht u2 => ?_
  have u12 := u1.trans u2
  cases t with
  | false =>
    have e := size_no (m := x.m) (fun h => by have := ht.2 h; cases this)
    rw [e] at hk
    (repeat first | refine HReg.step ?_ | refine HCode.step ?_)
    exact hk H2 u12
  | true =>
    have hm := ht.1 rfl
    have e := size_ok hm
    rw [e] at hk
    have hk : ∀ H', Upd [] H H' → K (.tuple #[.int .i64 ((10 + (kindPieces x.m).flatten.length : Nat) : Int), .int .i64 0]) H' := fun H' u => by have := hk H' u; rw [head_len] at this; exact this
    have hx2 := hx.upd0 u12
    have o2 := o1.upd (S := []) u2 (.inr (Off.nil _))
    (repeat first | refine HReg.step ?_ | refine HCode.step ?_)
    refine HLoad.one (v := .int .i64 x.kind) (by exact o2.get (i := 0) rfl) ?_
    (repeat first | refine HReg.step ?_ | refine HCode.step ?_)
    by_cases h1 : x.kind = 1
    · obtain ⟨hid, ⟨hwh, hpo⟩, _⟩ := (kind1 h1).1 hm.2
      obtain ⟨hfp, hsp⟩ := hpo.few hwh
      have hts := textsB_small hwh.few
      have hpb := pairs_bound hsp
      have ek : (kindPieces x.m).flatten.length = 8 + (textsB x.ks).length + 4 + (pairPieces x.ps).flatten.length := by
        rw [kp1 (m := x.m) h1]
        show ([num x.id 8, textsB x.ks, num x.ps.length 4] ++ pairPieces x.ps).flatten.length = _
        simp only [List.cons_append, List.nil_append, List.flatten_cons, List.length_append, num_length]; omega
      rw [ek] at hk
      obtain ⟨T, hT⟩ : ∃ T, T = (textsB x.ks).length := ⟨_, rfl⟩
      rw [← hT] at hts hk
      have w1 : wr .i64 (8 + (T : Int)) = ((8 + T : Nat) : Int) := by rw [wr_i64 (by omega) (by omega)]; omega
      have w2 : wr .i64 (((8 + T : Nat) : Int) + 4) = ((8 + T + 4 : Nat) : Int) := by rw [wr_i64 (by omega) (by omega)]; omega
      have w3 : wr .i64 (10 + ((8 + T + 4 : Nat) : Int)) = ((10 + (8 + T + 4) : Nat) : Int) := by rw [wr_i64 (by omega) (by omega)]; omega
      rw [show eqB x.kind 1 = true from eqB_true.2 h1]
      (repeat first | refine HReg.step ?_ | refine HCode.step ?_)
      refine HLoad.one (v := .slice x.ak x.ks.length x.ck) (by exact o2.get (i := 5) rfl) ?_
      (repeat first | refine HReg.step ?_ | refine HCode.step ?_)
      refine HCall.mk ⟨Tryz.f36, Tryz.func36, by rfl, by rfl⟩ ?_
      refine ptexts_t hx2.rk rfl hwh.few ?_
      rw [← hT]
      (repeat first | refine HReg.step ?_ | refine HCode.step ?_)
      rw [w1, w2, w3]
      refine HLoad.one (v := .slice x.ap x.ps.length x.cp) (by exact o2.get (i := 4) rfl) ?_
      (repeat first | refine HReg.step ?_ | refine HCode.step ?_)
      refine hloopC [4, 6, 29, 30, 31, 32, 33, 34, 35, 36, 37, 38, 39, 40, 41, 42] [4, 29] (SpInv H2 (10 + (8 + T + 4)) x.ps) rfl (by repeat' first | exact Resp.retD | exact Resp1.valuesK | refine Resp.blockD ?_ | refine Resp.thenD ?_ ?_ | refine Resp.hcode ?_) ?_ ?_
      · exact ⟨x.ps.length, SpInv.mk ⟨0, rfl, rfl, Upd.refl _ _⟩⟩
      rintro m _ fe H6 ⟨i, rfl, hmi, u6⟩
      (repeat first | refine HReg.step ?_ | refine HCode.step ?_)
      refine hif (fun h2 => ?_) (fun h2 => ?_)
      · have h2 := ltB_true.1 h2
        have wi : wr .i64 ((i : Int) + 1) = ((i + 1 : Nat) : Int) := by rw [wr_i64 (by omega) (by omega)]; omega
        obtain ⟨p, hp⟩ : ∃ p, x.ps[i]? = some p := ⟨x.ps[i]'(by omega), by simp⟩
        obtain ⟨hs1, hs2⟩ := hsp p (List.mem_of_getElem? hp)
        have hr6 := (hx2.upd0 u6).rp
        have hpt := pieces_take hp
        have hbi : (pairPieces (x.ps.take i)).flatten.length ≤ 1024 * 131078 := by
          have := pairs_bound (ps := x.ps.take i) fun q hq => hsp q (List.mem_of_mem_take hq)
          refine Nat.le_trans this (Nat.mul_le_mul_right _ ?_)
          rw [List.length_take]; omega
        obtain ⟨F, hF⟩ : ∃ F, F = (pairPieces (x.ps.take i)).flatten.length := ⟨_, rfl⟩
        have hF1 : (pairPieces (x.ps.take (i + 1))).flatten.length = F + ((textB p.1).length + (textB p.2).length) := by
          rw [hpt, List.flatten_append, List.length_append, ← hF]; simp
        rw [← hF] at hbi ⊢
        have tl1 := textB_length p.1
        have tl2 := textB_length p.2
        have wa : wr .i64 (((textB p.1).length : Int) + ((textB p.2).length : Int)) = (((textB p.1).length + (textB p.2).length : Nat) : Int) := by rw [wr_i64 (by omega) (by omega)]; omega
        have wb : wr .i64 (((10 + (8 + T + 4) + F : Nat) : Int) + (((textB p.1).length + (textB p.2).length : Nat) : Int)) = ((10 + (8 + T + 4) + (F + ((textB p.1).length + (textB p.2).length)) : Nat) : Int) := by rw [wr_i64 (by omega) (by omega)]; omega
        obtain ⟨ba, bo, hap, _⟩ := hx.rp _ _ (pairsV_get hp).1
        rw [hap] at hr6 ⊢
        (repeat first | refine HReg.step ?_ | refine HCode.step ?_)
        refine HReq.mk ⟨by omega, by omega⟩ ?_
        (repeat first | refine HReg.step ?_ | refine HCode.step ?_)
        refine HLoadN_pair hr6 hp ?_
        (repeat first | refine HReg.step ?_ | refine HCode.step ?_)
        refine HNew.mk fun b7 hb7 => ?_
        (repeat first | refine HReg.step ?_ | refine HCode.step ?_)
        refine store_pair (p := p) (OwnRow.lit (upd_same _ _ _) rfl) rfl fun H7 o7 u7 => ?_
        have u67 : Upd [] H6 H7 := Upd.drop (Upd.new hb7 _) u7 (fun x hx => by rw [List.mem_singleton.1 hx]; exact hb7)
        (repeat first | refine HReg.step ?_ | refine HCode.step ?_)
        refine HLoad.one (v := .string (bs p.1)) (by exact o7.rows.get (i := 0) rfl) ?_
        (repeat first | refine HReg.step ?_ | refine HCode.step ?_)
        refine HCall.mk ⟨Tryz.f37, Tryz.func37, by rfl, by rfl⟩ ?_
        refine ptext_t (by omega) ?_
        (repeat first | refine HReg.step ?_ | refine HCode.step ?_)
        refine HLoad_all (v := .string (bs p.2)) (fun Hx hh => by
          rcases List.mem_cons.1 hh with rfl | hh
          · exact o7.rows.get (i := 1) rfl
          · have hh := List.mem_of_mem_take hh
            simp only [List.mem_cons, List.not_mem_nil, or_false, or_self] at hh
            rw [hh]; exact o7.rows.get (i := 1) rfl) ?_
        (repeat first | refine HReg.step ?_ | refine HCode.step ?_)
        refine HCall.mk ⟨Tryz.f37, Tryz.func37, by rfl, by rfl⟩ ?_
        refine ptext_t (by omega) ?_
        (repeat first | refine HReg.step ?_ | refine HCode.step ?_)
        rw [wa, wb, wi, ← hF1]
        exact ⟨m - 1, by omega, SpInv.mk ⟨i + 1, rfl, by omega, u6.trans u67⟩⟩
      · have h2 := ltB_false.1 h2
        have hi : i = x.ps.length := by omega
        subst hi
        rw [List.take_length]
        (repeat first | refine HReg.step ?_ | refine HCode.step ?_)
        have := hk H6 (u12.trans u6)
        have e : 10 + (8 + T + 4 + (pairPieces x.ps).flatten.length) = 10 + (8 + T + 4) + (pairPieces x.ps).flatten.length := by omega
        rw [e] at this
        exact this
    rw [show eqB x.kind 1 = false from eqB_false.2 h1]
    (repeat first | refine HReg.step ?_ | refine HCode.step ?_)
    by_cases h3 : x.kind = 3
    · obtain ⟨hid, hva, _⟩ := (kind3 h3).1 hm.2
      have hts := textsB_small ⟨hva.1.2.1, hva.1.2.2⟩
      have ek : (kindPieces x.m).flatten.length = (textsB x.ks).length := by
        rw [kp3 (m := x.m) h3]
        show [textsB x.ks].flatten.length = _
        simp
      rw [ek] at hk
      have w1 : wr .i64 (10 + ((textsB x.ks).length : Int)) = ((10 + (textsB x.ks).length : Nat) : Int) := by rw [wr_i64 (by omega) (by omega)]; omega
      rw [show eqB x.kind 3 = true from eqB_true.2 h3]
      (repeat first | refine HReg.step ?_ | refine HCode.step ?_)
      refine HLoad.one (v := .slice x.ak x.ks.length x.ck) (by exact o2.get (i := 5) rfl) ?_
      (repeat first | refine HReg.step ?_ | refine HCode.step ?_)
      refine HCall.mk ⟨Tryz.f36, Tryz.func36, by rfl, by rfl⟩ ?_
      refine ptexts_t hx2.rk rfl ⟨hva.1.2.1, hva.1.2.2⟩ ?_
      (repeat first | refine HReg.step ?_ | refine HCode.step ?_)
      rw [w1]
      exact hk H2 u12
    rw [show eqB x.kind 3 = false from eqB_false.2 h3]
    (repeat first | refine HReg.step ?_ | refine HCode.step ?_)
    by_cases h4 : x.kind = 4
    · obtain ⟨hid, hwa, _⟩ := (kind4 h4).1 hm.2
      obtain ⟨hfw, hsw⟩ := hwa.few
      have ek : (kindPieces x.m).flatten.length = 4 + (wantPieces x.ws).flatten.length := by
        rw [kp4 (m := x.m) h4]
        show ([num x.ws.length 4] ++ wantPieces x.ws).flatten.length = _
        simp only [List.cons_append, List.nil_append, List.flatten_cons, List.length_append, num_length]
      rw [ek] at hk
      have w1 : wr .i64 (10 + 4) = ((14 : Nat) : Int) := by rw [wr_i64 (by omega) (by omega)]; omega
      rw [show eqB x.kind 4 = true from eqB_true.2 h4]
      (repeat first | refine HReg.step ?_ | refine HCode.step ?_)
      rw [w1]
      refine HLoad.one (v := .slice x.aw x.ws.length x.cw) (by exact o2.get (i := 6) rfl) ?_
      (repeat first | refine HReg.step ?_ | refine HCode.step ?_)
      refine hloopC [4, 8, 57, 58, 59, 60, 61, 62, 63, 64, 65, 66, 67] [4, 57] (SwInv H2 14 x.ws) rfl (by repeat' first | exact Resp.retD | exact Resp1.valuesK | refine Resp.blockD ?_ | refine Resp.thenD ?_ ?_ | refine Resp.hcode ?_) ?_ ?_
      · exact ⟨x.ws.length, SwInv.mk ⟨0, rfl, rfl, Upd.refl _ _⟩⟩
      rintro m _ fe H6 ⟨i, rfl, hmi, u6⟩
      (repeat first | refine HReg.step ?_ | refine HCode.step ?_)
      refine hif (fun h2 => ?_) (fun h2 => ?_)
      · have h2 := ltB_true.1 h2
        have wi : wr .i64 ((i : Int) + 1) = ((i + 1 : Nat) : Int) := by rw [wr_i64 (by omega) (by omega)]; omega
        obtain ⟨p, hp⟩ : ∃ p, x.ws[i]? = some p := ⟨x.ws[i]'(by omega), by simp⟩
        have hs1 := hsw p (List.mem_of_getElem? hp)
        have hr6 := (hx2.upd0 u6).rw
        have hpt := wpieces_take hp
        have hbi : (wantPieces (x.ws.take i)).flatten.length ≤ 1024 * 131078 := by
          have := wants_bound (ps := x.ws.take i) fun q hq => hsw q (List.mem_of_mem_take hq)
          refine Nat.le_trans this (Nat.mul_le_mul_right _ ?_)
          rw [List.length_take]; omega
        obtain ⟨F, hF⟩ : ∃ F, F = (wantPieces (x.ws.take i)).flatten.length := ⟨_, rfl⟩
        have hF1 : (wantPieces (x.ws.take (i + 1))).flatten.length = F + ((textB p.1).length + 8) := by
          rw [hpt, List.flatten_append, List.length_append, ← hF]; simp [num_length]
        rw [← hF] at hbi ⊢
        have tl1 := textB_length p.1
        have wa : wr .i64 (((textB p.1).length : Int) + 8) = (((textB p.1).length + 8 : Nat) : Int) := by rw [wr_i64 (by omega) (by omega)]; omega
        have wb : wr .i64 (((14 + F : Nat) : Int) + (((textB p.1).length + 8 : Nat) : Int)) = ((14 + (F + ((textB p.1).length + 8)) : Nat) : Int) := by rw [wr_i64 (by omega) (by omega)]; omega
        obtain ⟨ba, bo, hap, _⟩ := hx.rw _ _ (wantsV_get hp).1
        rw [hap] at hr6 ⊢
        (repeat first | refine HReg.step ?_ | refine HCode.step ?_)
        refine HReq.mk ⟨by omega, by omega⟩ ?_
        (repeat first | refine HReg.step ?_ | refine HCode.step ?_)
        refine HLoadN_want hr6 hp ?_
        (repeat first | refine HReg.step ?_ | refine HCode.step ?_)
        refine HNew.mk fun b7 hb7 => ?_
        (repeat first | refine HReg.step ?_ | refine HCode.step ?_)
        refine store_want (p := p) (OwnRow.lit (upd_same _ _ _) rfl) rfl fun H7 o7 u7 => ?_
        have u67 : Upd [] H6 H7 := Upd.drop (Upd.new hb7 _) u7 (fun x hx => by rw [List.mem_singleton.1 hx]; exact hb7)
        (repeat first | refine HReg.step ?_ | refine HCode.step ?_)
        refine HLoad.one (v := .string (bs p.1)) (by exact o7.rows.get (i := 0) rfl) ?_
        (repeat first | refine HReg.step ?_ | refine HCode.step ?_)
        refine HCall.mk ⟨Tryz.f37, Tryz.func37, by rfl, by rfl⟩ ?_
        refine ptext_t (by omega) ?_
        (repeat first | refine HReg.step ?_ | refine HCode.step ?_)
        rw [wa, wb, wi, ← hF1]
        exact ⟨m - 1, by omega, SwInv.mk ⟨i + 1, rfl, by omega, u6.trans u67⟩⟩
      · have h2 := ltB_false.1 h2
        have hi : i = x.ws.length := by omega
        subst hi
        rw [List.take_length]
        (repeat first | refine HReg.step ?_ | refine HCode.step ?_)
        have := hk H6 (u12.trans u6)
        have e : 10 + (4 + (wantPieces x.ws).flatten.length) = 14 + (wantPieces x.ws).flatten.length := by omega
        rw [e] at this
        exact this
    rw [show eqB x.kind 4 = false from eqB_false.2 h4]
    (repeat first | refine HReg.step ?_ | refine HCode.step ?_)
    by_cases h7 : x.kind = 7
    · obtain ⟨hid, ⟨v, hvs, hco⟩, _⟩ := (kind7 h7).1 hm.2
      have hv : x.vs[0]? = some v := by rw [hvs]; rfl
      have ev : versPieces x.m.vs = verPieces v.v := by show versPieces (x.vs.map VerA.v) = _; rw [hvs]; rfl
      rw [kp7 (m := x.m) h7, ev] at hk
      have hkey : v.v.key.length ≤ 65535 := by
        rcases hco with h | h
        · exact h.2.1
        · exact h.2.2.1.few.2 _ h.2.2.2
      obtain ⟨bv, ov, hav, _⟩ := hx.rv _ _ (versV_get hv 0 _ rfl)
      rw [show eqB x.kind 7 = true from eqB_true.2 h7]
      (repeat first | refine HReg.step ?_ | refine HCode.step ?_)
      refine HLoad.one (v := .slice x.av x.vs.length x.cv) (by exact o2.get (i := 7) rfl) ?_
      have hrv := hx2.rv
      rw [hav] at hrv ⊢
      have tl1 := textB_length v.v.key
      have w1 : wr .i64 (((textB v.v.key).length : Int) + 8) = (((textB v.v.key).length + 8 : Nat) : Int) := by rw [wr_i64 (by omega) (by omega)]; omega
      have w2 : wr .i64 (10 + (((textB v.v.key).length + 8 : Nat) : Int)) = ((10 + ((textB v.v.key).length + 8) : Nat) : Int) := by rw [wr_i64 (by omega) (by omega)]; omega
      (repeat first | refine HReg.step ?_ | refine HCode.step ?_)
      refine HReq.mk ⟨by omega, by rw [hvs]; simp⟩ ?_
      (repeat first | refine HReg.step ?_ | refine HCode.step ?_)
      refine HLoadN_ver (i := 0) hrv hv ?_
      (repeat first | refine HReg.step ?_ | refine HCode.step ?_)
      refine HNew.mk fun b7 hb7 => ?_
      (repeat first | refine HReg.step ?_ | refine HCode.step ?_)
      refine store_ver (x := v) (OwnRow.lit (upd_same _ _ _) rfl) rfl fun H7 o7 u7 => ?_
      have u67 : Upd [] H2 H7 := Upd.drop (Upd.new hb7 _) u7 (fun x hx => by rw [List.mem_singleton.1 hx]; exact hb7)
      (repeat first | refine HReg.step ?_ | refine HCode.step ?_)
      refine HLoad.one (v := .string (bs v.v.key)) (by exact o7.rows.get (i := 0) rfl) ?_
      (repeat first | refine HReg.step ?_ | refine HCode.step ?_)
      refine HCall.mk ⟨Tryz.f37, Tryz.func37, by rfl, by rfl⟩ ?_
      refine ptext_t (by omega) ?_
      (repeat first | refine HReg.step ?_ | refine HCode.step ?_)
      rw [w1, w2]
      refine HLoad.one (v := .int .u64 (v.v.id : Int)) (by exact o7.rows.get (i := 1) rfl) ?_
      (repeat first | refine HReg.step ?_ | refine HCode.step ?_)
      by_cases h0 : v.v.id = 0
      · have ek : (verPieces v.v).flatten.length = (textB v.v.key).length + 8 := by
          unfold verPieces; rw [if_pos h0]; simp [num_length]
        rw [ek] at hk
        rw [show eqB ((v.v.id : Nat) : Int) 0 = true from eqB_true.2 (by omega)]
        (repeat first | refine HReg.step ?_ | refine HCode.step ?_)
        exact hk H7 (u12.trans u67)
      · have hco : 65536 ≤ v.v.id ∧ v.v.val.length ≤ 65535 ∧ Whole v.v.ks ∧ v.v.key ∈ v.v.ks := by
          rcases hco with h | h
          · exact absurd h.1 h0
          · exact h
        have hts := textsB_small hco.2.2.1.few
        have tl2 := textB_length v.v.val
        have ek : (verPieces v.v).flatten.length = (textB v.v.key).length + 8 + ((textB v.v.val).length + (textsB v.v.ks).length) := by
          unfold verPieces; rw [if_neg h0]; simp [num_length]; omega
        rw [ek] at hk
        have w3 : wr .i64 (((textB v.v.val).length : Int) + ((textsB v.v.ks).length : Int)) = (((textB v.v.val).length + (textsB v.v.ks).length : Nat) : Int) := by rw [wr_i64 (by omega) (by omega)]; omega
        have w4 : wr .i64 (((10 + ((textB v.v.key).length + 8) : Nat) : Int) + (((textB v.v.val).length + (textsB v.v.ks).length : Nat) : Int)) = ((10 + ((textB v.v.key).length + 8 + ((textB v.v.val).length + (textsB v.v.ks).length)) : Nat) : Int) := by rw [wr_i64 (by omega) (by omega)]; omega
        rw [show eqB ((v.v.id : Nat) : Int) 0 = false from eqB_false.2 (by omega)]
        (repeat first | refine HReg.step ?_ | refine HCode.step ?_)
        refine HLoad.one (v := .string (bs v.v.val)) (by exact o7.rows.get (i := 2) rfl) ?_
        (repeat first | refine HReg.step ?_ | refine HCode.step ?_)
        refine HCall.mk ⟨Tryz.f37, Tryz.func37, by rfl, by rfl⟩ ?_
        refine ptext_t (by omega) ?_
        (repeat first | refine HReg.step ?_ | refine HCode.step ?_)
        refine HLoad_all (v := .slice v.a v.v.ks.length v.c) (fun Hx hh => by
          rcases List.mem_cons.1 hh with rfl | hh
          · exact o7.rows.get (i := 3) rfl
          · have hh := List.mem_of_mem_take hh
            simp only [List.mem_cons, List.not_mem_nil, or_false, or_self] at hh
            rw [hh]; exact o7.rows.get (i := 3) rfl) ?_
        (repeat first | refine HReg.step ?_ | refine HCode.step ?_)
        refine HCall.mk ⟨Tryz.f36, Tryz.func36, by rfl, by rfl⟩ ?_
        refine ptexts_t ((hx2.upd0 u67).vk v (List.mem_of_getElem? hv)) rfl hco.2.2.1.few ?_
        (repeat first | refine HReg.step ?_ | refine HCode.step ?_)
        rw [w3, w4]
        exact hk H7 (u12.trans u67)
    rw [show eqB x.kind 7 = false from eqB_false.2 h7]
    have ek : (kindPieces x.m).flatten.length = 8 := by
      rw [kpn (m := x.m) h1 h3 h4 h7]; simp [num_length]
    rw [ek] at hk
    have w1 : wr .i64 (10 + 8) = ((10 + 8 : Nat) : Int) := by rw [wr_i64 (by omega) (by omega)]; omega
    (repeat first | refine HReg.step ?_ | refine HCode.step ?_)
    rw [w1]
    exact hk H2 u12
theorem layW (m : Msg) (h : MayM m) : (layL ⟨1048576, [], 0⟩ (pieces m)).lim = 1048576 := layL_lim _ _
theorem encode_t {x : MsgA} (hx : MsgIn H x)
    (hk : ∀ a c H', Made H H' 5 1 a (encodeM x.m).1.length c (u8s (encodeM x.m).1) → K (.tuple #[.slice a (encodeM x.m).1.length c, .int .i64 (encodeM x.m).2]) H') : HCalls Tryz.prog 13 [x.val] H K := by
  refine hcalls (fn := Tryz.f13) [] mixed Tryz.func13 rfl rfl (by decide +kernel) ?_
  (repeat first | refine HReg.step ?_ | refine HCode.step ?_)
  refine HNew.mk fun b1 hb1 => ?_
  have u1 : Upd [] H (H.upd b1 (.cells x.cells.toArray 30)) := Upd.new hb1 _
  have o1 : RowAt (H.upd b1 (.cells x.cells.toArray 30)) (some ⟨b1, 0, none⟩) x.cells := RowAt.of_cells (upd_same _ _ _)
  have hH' : H.upd b1 (.cells [Value.int .i64 x.kind, .int .i64 x.client, .int .u64 (x.req : Int), .int .u64 (x.id : Int), .slice x.ap x.ps.length x.cp, .slice x.ak x.ks.length x.ck, .slice x.aw x.ws.length x.cw, .slice x.av x.vs.length x.cv].toArray 30) = H.upd b1 (.cells x.cells.toArray 30) := rfl
  rw [hH']
  generalize hH1 : H.upd b1 (.cells x.cells.toArray 30) = H1 at u1 o1
  (repeat first | refine HReg.step ?_ | refine HCode.step ?_)
  refine HLoadN_row o1 rfl ?_
  (repeat first | refine HReg.step ?_ | refine HCode.step ?_)
  refine HCall.mk ⟨Tryz.f11, Tryz.func11, by rfl, by rfl⟩ ?_
  refine may_t (hx.upd0 u1) fun t H2 ht u2 => ?_
  have u12 := u1.trans u2
  cases t with
  | false =>
    have e := encode_no (m := x.m) (fun h => by have := ht.2 h; cases this)
    rw [e] at hk
    (repeat first | refine HReg.step ?_ | refine HCode.step ?_)
    exact hk none 0 H2 ⟨OwnRow.nil _ _ _, u12, fun p hp => by cases hp⟩
  | true =>
    have hm := ht.1 rfl
    have o2 := o1.upd (S := []) u2 (.inr (Off.nil _))
    have hx2 := hx.upd0 u12
    (repeat first | refine HReg.step ?_ | refine HCode.step ?_)
    refine HCall.mk ⟨Tryz.f32, Tryz.func32, by rfl, by rfl⟩ ?_
    refine newW_t (by decide) fun g S3 H3 d3 => ?_
    have d3 : WAt H2 H3 g S3 ⟨1048576, [], 0⟩ := d3
    have o3 := o2.upd (S := []) d3.base (.inr (Off.nil _))
    (repeat first | refine HReg.step ?_ | refine HCode.step ?_)
    refine HLoadN_row o3 rfl ?_
    (repeat first | refine HReg.step ?_ | refine HCode.step ?_)
    refine HCall.mk ⟨Tryz.f33, Tryz.func33, by rfl, by rfl⟩ ?_
    refine lay_t hx2 hm d3 rfl fun S4 H4 d4 => ?_
    have hl4 := d4.lim
    rw [layW x.m hm] at hl4
    have eb : (pieces x.m).flatten = body x.m := rfl
    by_cases hlong : 1048576 < (body x.m).length
    · rw [encode_long hm hlong] at hk
      have he : (layL ⟨1048576, [], 0⟩ (pieces x.m)).err = 3 := layL_over _ rfl (Nat.zero_le _) (by rw [eb]; show 1048576 < 0 + _; omega)
      (repeat first | refine HReg.step ?_ | refine HCode.step ?_)
      refine HCall.mk ⟨Tryz.f34, Tryz.func34, by rfl, by rfl⟩ ?_
      refine out_t d4 (by omega) fun a5 c5 H5 m5 => ?_
      rw [he]
      (repeat first | refine HReg.step ?_ | refine HCode.step ?_)
      rw [show eqB (3 : Int) 0 = false from eqB_false.2 (by decide)]
      (repeat first | refine HReg.step ?_ | refine HCode.step ?_)
      exact hk none 0 H5 ⟨OwnRow.nil _ _ _, (u12.trans d4.base).trans m5.upd, fun p hp => by cases hp⟩
    · rw [encode_ok hm (by omega)] at hk
      have he : layL ⟨1048576, [], 0⟩ (pieces x.m) = ⟨1048576, body x.m, 0⟩ := by rw [layL_fit _ rfl (by rw [eb]; show 0 + _ ≤ 1048576; omega)]; rfl
      rw [he] at d4
      (repeat first | refine HReg.step ?_ | refine HCode.step ?_)
      refine HCall.mk ⟨Tryz.f34, Tryz.func34, by rfl, by rfl⟩ ?_
      refine out_t d4 (by show (body x.m).length ≤ _; omega) fun a5 c5 H5 m5 => ?_
      have et : (⟨1048576, body x.m, 0⟩ : W).told = body x.m := rfl
      rw [et] at m5 ⊢
      (repeat first | refine HReg.step ?_ | refine HCode.step ?_)
      rw [eqB_self 0]
      (repeat first | refine HReg.step ?_ | refine HCode.step ?_)
      refine HCall.mk ⟨Tryz.f35, Tryz.func35, by rfl, by rfl⟩ ?_
      refine build_t m5.own.rows rfl (by omega) fun a6 c6 H6 m6 => ?_
      have hfl := frameM_len (body x.m)
      rw [hfl] at hk
      (repeat first | refine HReg.step ?_ | refine HCode.step ?_)
      exact hk a6 c6 H6 (m6.back ((u12.trans d4.base).trans m5.upd))
end
end Go.Proofs.YtlgncabjphokjaaGreat
