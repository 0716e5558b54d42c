import Derived.Test.YtlgncabjphokjaaG13
namespace Go.Proofs.Ytlgncabjphokjaa
open Go Hv
set_option linter.unusedVariables false
set_option linter.unusedSimpArgs false
set_option maxRecDepth 10000
set_option maxHeartbeats 1000000
/-! MsgFits. CUT2 -/
theorem flatB_le : ∀ {l : List Txt}, (∀ s ∈ l, s.length ≤ 65535) → (l.flatMap textB).length ≤ l.length * 65539
  | [], _ => Nat.le_refl _
  | k :: l, h => by
    have := flatB_le (l := l) fun s hs => h s (List.mem_cons_of_mem _ hs)
    have := h k List.mem_cons_self
    rw [List.flatMap_cons, List.length_append, textB_length, List.length_cons]
    omega
theorem ask_small {m : Msg} (h : MayM m) (hk : m.kind = 3) : (body m).length ≤ 67111950 := by
  have hv : Valid m.ks := by
    rcases h.2 with h | h | h | h | h
    · have := h.1; omega
    · have := h.1; omega
    · exact h.2.2.1
    · have := h.1; omega
    · have := h.1; omega
  have h1 := flatB_le (l := m.ks) fun s hs => hv.1.2.2 s hs
  have h2 := hv.1.2.1
  have e2 : (kindPieces m).flatten = textsB m.ks := by
    rw [kp3 hk]
    simp
  rw [body_eq, e2]
  simp only [List.length_append, num_length, textsB_len]
  omega
structure FiInv (H1 : Heap) (n : Nat) (m : Nat) (vs : List Value) (H' : Heap) : Prop where
  ex : ∃ i : Nat, vs = [.int .i64 (i : Int)] ∧ m + i = n ∧ Upd [] H1 H'
structure AskInv (H1 : Heap) (b : Nat) (z : MsgA) (ks : List Txt) (id : Nat) (m : Nat) (vs : List Value) (H' : Heap) : Prop where
  ex : ∃ (i : Nat) (aw : Option Addr) (cw : Nat), vs = [.int .i64 (i : Int)] ∧ m + i = ks.length ∧
    OwnRow H' 29 1 (some ⟨b, 0, none⟩) 8 8 ({ z with ws := (ks.take i).map fun k => (k, id), aw := aw, cw := cw } : MsgA).cells ∧
    OwnRow H' 46 2 aw i cw (wantsV ((ks.take i).map fun k => (k, id))) ∧ (∀ q ∈ blk aw, H1 q = none) ∧ Upd [] H1 H'
section
variable {H : Heap} {K : Value → Heap → Prop}
theorem msgFits_t {x : MsgA} {cl : Int} {rq id : Nat} (hx : MsgIn H x)
    (hk : ∀ H', Upd [] H H' → K (.bool true) H') : HCalls Try.prog 6 [x.val, .int .i64 cl, .int .u64 (rq : Int), .int .u64 (id : Int)] H K := by
  refine hcalls (fn := Try.f6) [(19, [(2, 0), (3, 0), (4, 0), (5, 0), (6, 0), (7, 0), (8, 0), (9, 0), (10, 0), (0, 1), (1, 1), (11, 0), (12, 0), (13, 0)])] mixed Try.func6 rfl rfl (by decide +kernel) ?_
  (repeat first | refine HReg.step ?_ | refine HCode.step ?_)
  refine HNew.mk fun b1 hb1 => ?_
  have u1 : Upd [] H (H.upd b1 (.cells x.cells.toArray 29)) := Upd.new hb1 _
  have o1 : RowAt (H.upd b1 (.cells x.cells.toArray 29)) (some ⟨b1, 0, none⟩) x.cells := RowAt.of_cells (upd_same _ _ _)
  have hH' : H.upd b1 (.cells [Value.int .i64 x.kind, .int .i64 x.client, .int .u64 (x.req : Int), .int .u64 (x.id : Int), .slice x.ap x.ps.length x.cp, .slice x.ak x.ks.length x.ck, .slice x.aw x.ws.length x.cw, .slice x.av x.vs.length x.cv].toArray 29) = H.upd b1 (.cells x.cells.toArray 29) := rfl
  rw [hH']
  generalize hH1 : H.upd b1 (.cells x.cells.toArray 29) = H1 at u1 o1
  have ro : ∀ {H'}, Upd [] H1 H' → RowAt H' (some ⟨b1, 0, none⟩) x.cells := fun u => o1.upd (S := []) u (.inr (Off.nil _))
  have rx : ∀ {H'}, Upd [] H1 H' → MsgIn H' x := fun u => hx.upd0 (u1.trans u)
  have fin : ∀ H', Upd [] H1 H' → K (.bool true) H' := fun H' u => hk H' (u1.trans u)
  (repeat first | refine HReg.step ?_ | refine HCode.step ?_)
  refine HLoadN_row o1 rfl ?_
  (repeat first | refine HReg.step ?_ | refine HCode.step ?_)
  refine HCall.mk ⟨Try.f10, Try.func10, by rfl, by rfl⟩ ?_
  refine size_t (rx (Upd.refl _ _)) fun H2 u2 => ?_
  (repeat first | refine HReg.step ?_ | refine HCode.step ?_)
  refine HCall.mk ⟨Try.f12, Try.func12, by rfl, by rfl⟩ ?_
  refine known_t fun H3 u3 => ?_
  have u3 := u2.trans u3
  by_cases hm : MayM x.m
  case neg =>
    rw [size_no hm]
    dsimp only
    (repeat first | refine HReg.step ?_ | refine HCode.step ?_)
    rw [show eqB 1 0 = false from eqB_false.2 (by decide)]
    (repeat first | refine HReg.step ?_ | refine HCode.step ?_)
    exact fin H3 u3
  rw [size_ok hm]
  dsimp only
  (repeat first | refine HReg.step ?_ | refine HCode.step ?_)
  rw [eqB_self 0]
  (repeat first | refine HReg.step ?_ | refine HCode.step ?_)
  refine HLoad.one (v := .int .i64 x.kind) (by exact (ro u3).get (i := 0) rfl) ?_
  (repeat first | refine HReg.step ?_ | refine HCode.step ?_)
  by_cases h1 : x.kind = 1
  · rw [show eqB x.kind 1 = true from eqB_true.2 h1]
    (repeat first | refine HReg.step ?_ | refine HCode.step ?_)
    have hk1 : x.m.kind = 1 := h1
    refine hloopC [8, 11, 12, 13, 33, 34, 35, 36, 37, 38, 39, 40, 41, 42, 43, 44, 45, 46, 47, 48, 49, 50, 51, 52, 53, 54, 55, 56, 57, 58, 59] [11] (FiInv H1 x.ps.length) rfl (by repeat' first | exact Resp.retD | exact Resp1.valuesK | refine Resp.blockD ?_ | refine Resp.thenD ?_ ?_ | refine Resp.hcode ?_) ?_ ?_
    · exact ⟨x.ps.length, FiInv.mk ⟨0, rfl, rfl, u3⟩⟩
    rintro m _ fe H4 ⟨i, rfl, hmi, u4⟩
    have hnp := hx.np
    have wi : wr .i64 ((i : Int) + 1) = ((i + 1 : Nat) : Int) := by rw [wr_i64 (by omega) (by omega)]; omega
    (repeat first | refine HReg.step ?_ | refine HCode.step ?_)
    refine HLoad.one (v := .slice x.ap x.ps.length x.cp) (by exact (ro u4).get (i := 4) rfl) ?_
    (repeat first | refine HReg.step ?_ | refine HCode.step ?_)
    by_cases h2 : i < x.ps.length
    · rw [show ltB (i : Int) (x.ps.length : Int) = true from ltB_true.2 (by omega)]
      (repeat first | refine HReg.step ?_ | refine HCode.step ?_)
      refine hif (fun h5 => ?_) (fun h5 => ?_)
      · have h5 := ltB_true.1 h5
        obtain ⟨p, hp⟩ : ∃ p, x.ps[i]? = some p := ⟨x.ps[i]'(by omega), by simp⟩
        have hpm := List.mem_of_getElem? hp
        have may := answer_may (client := cl % 16) (req := max rq 1) hm hk1 hpm (Int.emod_nonneg _ (by decide)) (Int.emod_lt_of_pos _ (by decide)) (Nat.le_max_right _ _)
        have len := answer_len (client := cl % 16) (req := max rq 1) hm hk1 hpm
        (repeat first | refine HReg.step ?_ | refine HCode.step ?_)
        refine HLoadN_row (ro u4) rfl ?_
        (repeat first | refine HReg.step ?_ | refine HCode.step ?_)
        refine HCall.mk ⟨Try.f18, Try.func18, by rfl, by rfl⟩ ?_
        refine answer_t (rx u4) hp fun y H5 ey hy u5 => ?_
        (repeat first | refine HReg.step ?_ | refine HCode.step ?_)
        refine HCall.mk ⟨Try.f10, Try.func10, by rfl, by rfl⟩ ?_
        refine size_t hy fun H6 u6 => ?_
        rw [ey, size_ok may]
        dsimp only
        (repeat first | refine HReg.step ?_ | refine HCode.step ?_)
        rw [eqB_self 0]
        (repeat first | refine HReg.step ?_ | refine HCode.step ?_)
        rw [ltB_false.2 (show ((body (answerM x.m p (cl % 16) (max rq 1))).length : Int) ≤ ((body x.m).length : Int) by omega)]
        (repeat first | refine HReg.step ?_ | refine HCode.step ?_)
        rw [wi]
        exact ⟨m - 1, by omega, FiInv.mk ⟨i + 1, rfl, by omega, u4.trans (u5.trans u6)⟩⟩
      · (repeat first | refine HReg.step ?_ | refine HCode.step ?_)
        exact fin H4 u4
    · rw [show ltB (i : Int) (x.ps.length : Int) = false from ltB_false.2 (by omega)]
      (repeat first | refine HReg.step ?_ | refine HCode.step ?_)
      exact fin H4 u4
  rw [show eqB x.kind 1 = false from eqB_false.2 h1]
  (repeat first | refine HReg.step ?_ | refine HCode.step ?_)
  by_cases h3 : x.kind = 3
  · rw [show eqB x.kind 3 = true from eqB_true.2 h3]
    (repeat first | refine HReg.step ?_ | refine HCode.step ?_)
    have hk3 : x.m.kind = 3 := h3
    have hfew : x.ks.length ≤ 1024 := ask_few hm hk3
    have hsm := ask_small hm hk3
    have em := fmax_nat rq 1 (b := 1) rfl
    have ei := fmax_nat id 65536 (b := 65536) rfl
    refine HLoad.one (v := .int .i64 x.client) (by exact (ro u3).get (i := 1) rfl) ?_
    (repeat first | refine HReg.step ?_ | refine HCode.step ?_)
    refine HNew.mk fun b14 hb14 => ?_
    have n14 : H1 b14 = none := Upd.none (S := []) u3 (by simp) hb14
    (repeat first | refine HReg.step ?_ | refine HCode.step ?_)
    rw [em]
    obtain ⟨z, hz⟩ : ∃ z : MsgA, z = ⟨4, x.client, max rq 1, 0, [], none, 0, [], none, 0, [], none, 0, [], none, 0⟩ := ⟨_, rfl⟩
    refine store_msg (x := ⟨4, x.client, max rq 1, 0, [], none, 0, [], none, 0, [], none, 0, [], none, 0⟩) (OwnRow.lit (upd_same _ _ _) rfl) rfl fun H4 o4 u4 => ?_
    have u4 : Upd [] H3 H4 := Upd.drop (Upd.new hb14 _) u4 (fun q hq => by rw [List.mem_singleton.1 hq]; exact hb14)
    have u4 := u3.trans u4
    (repeat first | refine HReg.step ?_ | refine HCode.step ?_)
    refine hloopC [15, 67, 68, 69, 70, 71, 72, 73, 74, 75, 76, 77, 78, 79, 80, 81, 82, 83, 84, 85, 86] [15] (AskInv H1 b14 z x.ks (max id 65536)) rfl (by repeat' first | exact Resp.retD | exact Resp1.valuesK | refine Resp.blockD ?_ | refine Resp.thenD ?_ ?_ | refine Resp.hcode ?_) ?_ ?_
    · exact ⟨x.ks.length, AskInv.mk ⟨0, none, 0, rfl, rfl, by rw [hz]; exact o4, OwnRow.nil _ _ _, fun q hq => by simp [blk] at hq, u4⟩⟩
    rintro m _ fe H5 ⟨i, aw, cw, rfl, hmi, o5, w5, n5, u5⟩
    have wi : wr .i64 ((i : Int) + 1) = ((i + 1 : Nat) : Int) := by rw [wr_i64 (by omega) (by omega)]; omega
    (repeat first | refine HReg.step ?_ | refine HCode.step ?_)
    refine HLoad.one (v := .slice x.ak x.ks.length x.ck) (by exact (ro u5).get (i := 5) rfl) ?_
    (repeat first | refine HReg.step ?_ | refine HCode.step ?_)
    refine hif (fun h5 => ?_) (fun h5 => ?_)
    · have h5 := ltB_true.1 h5
      obtain ⟨k, hk'⟩ : ∃ k, x.ks[i]? = some k := ⟨x.ks[i]'(by omega), by simp⟩
      have rk := (rx u5).rk
      have hkx : (txts x.ks)[i]? = some (.string (bs k)) := by unfold txts; rw [List.getElem?_map, hk']; rfl
      obtain ⟨ba, bo, hak, _⟩ := rk _ _ hkx
      (repeat first | refine HReg.step ?_ | refine HCode.step ?_)
      refine HLoad.one (v := .slice x.ak x.ks.length x.ck) (by exact (ro u5).get (i := 5) rfl) ?_
      rw [hak] at rk ⊢
      (repeat first | refine HReg.step ?_ | refine HCode.step ?_)
      refine HReq.mk ⟨by omega, by omega⟩ ?_
      (repeat first | refine HReg.step ?_ | refine HCode.step ?_)
      refine HLoad.one (v := .string (bs k)) (by exact rk.get hkx) ?_
      (repeat first | refine HReg.step ?_ | refine HCode.step ?_)
      refine HReq.mk (by decide) ?_
      (repeat first | refine HReg.step ?_ | refine HCode.step ?_)
      refine HNew.mk fun b11 hb11 => ?_
      rw [ei]
      have u11 : Upd [] H5 (H5.upd b11 (.cells [Value.string (bs k), .int .u64 ((max id 65536 : Nat) : Int)].toArray 46)) := Upd.new hb11 _
      have r11 : RowAt (H5.upd b11 (.cells [Value.string (bs k), .int .u64 ((max id 65536 : Nat) : Int)].toArray 46)) (some ⟨b11, 0, none⟩) (wantsV [(k, max id 65536)]) := RowAt.of_cells (upd_same _ _ _)
      generalize hH11 : H5.upd b11 (.cells [Value.string (bs k), .int .u64 ((max id 65536 : Nat) : Int)].toArray 46) = H11 at u11 r11
      have o11 := o5.upd u11 (Off.nil _)
      have w11 := w5.upd u11 (Off.nil _)
      have hwl : ((x.ks.take i).map fun k => (k, max id 65536)).length = i := by rw [List.length_map, List.length_take]; omega
      have c5 := o5.rows.get (i := 6) rfl
      have c11 := o11.rows.get (i := 6) rfl
      rw [hwl] at c5 c11
      (repeat first | refine HReg.step ?_ | refine HCode.step ?_)
      refine HLoad_two (v := .slice aw i cw) (by exact c11) (by exact c5) ?_
      (repeat first | refine HReg.step ?_ | refine HCode.step ?_)
      refine append_rows (ie := Try.t46) (z := .agg #[.string ⟨#[]⟩, .int .u64 0]) (xs := wantsV ((x.ks.take i).map fun k => (k, max id 65536))) (ys := wantsV [(k, max id 65536)]) Try.underlying26 rfl rfl rfl (by decide) w11 r11 rfl (plain_wants _) (by show (i + 1) * 24 ≤ _; omega) (by omega) fun a12 c12 H12 o12 u12 f12 => ?_
      rw [← wantsV_append] at o12
      have et : (x.ks.take (i + 1)).map (fun k => (k, max id 65536)) = (x.ks.take i).map (fun k => (k, max id 65536)) ++ [(k, max id 65536)] := by rw [List.take_add_one, hk']; simp
      rw [← et] at o12
      have ox12 := o11.upd u12 (w11.offT o11 (by decide))
      have n12 := new_blk f12 n5 (u5.trans u11)
      (repeat first | refine HReg.step ?_ | refine HCode.step ?_)
      refine store_row ox12 (v := .slice a12 (i + 1) c12) rfl (i := 6) (by decide) (by rfl) fun H13 o13 u13 => ?_
      (repeat first | refine HReg.step ?_ | refine HCode.step ?_)
      rw [wi]
      refine ⟨m - 1, by omega, AskInv.mk ⟨i + 1, a12, c12, rfl, by omega, ?_, o12.upd u13 (ox12.offT o12 (by decide)), n12, ?_⟩⟩
      · have hwl2 : ((x.ks.take (i + 1)).map fun k => (k, max id 65536)).length = i + 1 := by rw [List.length_map, List.length_take]; omega
        unfold MsgA.cells
        rw [hwl2]
        exact o13
      · exact Upd.drop (Upd.drop (u5.trans u11) u12 n5) u13 (fun q hq => by rw [List.mem_singleton.1 hq]; exact n14)
    · have h5 := ltB_false.1 h5
      obtain rfl : i = x.ks.length := by omega
      rw [List.take_length] at o5 w5
      have may := ask_may (req := max rq 1) (id := max id 65536) hm hk3 (Nat.le_max_right _ _) (Nat.le_max_right _ _)
      have len := ask_len (req := max rq 1) (id := max id 65536) hm hk3
      obtain ⟨y, hy⟩ : ∃ y : MsgA, y = { z with ws := x.ks.map fun k => (k, max id 65536), aw := aw, cw := cw } := ⟨_, rfl⟩
      rw [← hy] at o5
      have ey : y.m = askM x.m (max rq 1) (max id 65536) := by rw [hy, hz]; rfl
      have iy : MsgIn H5 y := by
        rw [hy, hz]
        exact ⟨(OwnRow.nil H5 64 2).rows, (OwnRow.nil H5 9 1).rows, w5.rows, (OwnRow.nil H5 52 4).rows, fun v hv => (by cases hv), Nat.zero_le _, Nat.zero_le _, by show (x.ks.map _).length ≤ _; rw [List.length_map]; exact hx.nk, Nat.zero_le _, fun v hv => (by cases hv)⟩
      have hkl : x.m.ks.length = x.ks.length := rfl
      have w8 : wr .i64 (8 * (x.ks.length : Int)) = ((8 * x.ks.length : Nat) : Int) := by rw [wr_i64 (by omega) (by omega)]; omega
      have w9 : wr .i64 (((body x.m).length : Int) + ((8 * x.ks.length : Nat) : Int)) = (((body x.m).length + 8 * x.ks.length : Nat) : Int) := by rw [wr_i64 (by omega) (by omega)]; omega
      rw [hkl] at len
      (repeat first | refine HReg.step ?_ | refine HCode.step ?_)
      refine HLoadN_row o5.rows rfl ?_
      (repeat first | refine HReg.step ?_ | refine HCode.step ?_)
      refine HCall.mk ⟨Try.f10, Try.func10, by rfl, by rfl⟩ ?_
      refine size_t iy fun H6 u6 => ?_
      rw [ey, size_ok may]
      dsimp only
      (repeat first | refine HReg.step ?_ | refine HCode.step ?_)
      rw [eqB_self 0]
      (repeat first | refine HReg.step ?_ | refine HCode.step ?_)
      refine HLoad.one (v := .slice x.ak x.ks.length x.ck) (by exact (ro (u5.trans u6)).get (i := 5) rfl) ?_
      (repeat first | refine HReg.step ?_ | refine HCode.step ?_)
      rw [w8, w9, len]
      rw [eqB_self]
      (repeat first | refine HReg.step ?_ | refine HCode.step ?_)
      refine hif (fun h6 => ?_) (fun h6 => ?_)
      · have h6 := not_ltB_true.1 h6
        (repeat first | refine HReg.step ?_ | refine HCode.step ?_)
        refine HLoadN_row (o5.rows.upd (S := []) u6 (.inr (Off.nil _))) rfl ?_
        (repeat first | refine HReg.step ?_ | refine HCode.step ?_)
        refine HCall.mk ⟨Try.f8, Try.func8, by rfl, by rfl⟩ ?_
        refine encode_t (iy.upd0 u6) fun a7 c7 H7 m7 => ?_
        rw [ey, encode_ok may (by rw [len]; omega)]
        dsimp only
        (repeat first | refine HReg.step ?_ | refine HCode.step ?_)
        rw [eqB_self 0]
        exact fin H7 (u5.trans (u6.trans m7.upd))
      · (repeat first | refine HReg.step ?_ | refine HCode.step ?_)
        exact fin H6 (u5.trans u6)
  rw [show eqB x.kind 3 = false from eqB_false.2 h3]
  (repeat first | refine HReg.step ?_ | refine HCode.step ?_)
  exact fin H3 u3
end
end Go.Proofs.Ytlgncabjphokjaa
