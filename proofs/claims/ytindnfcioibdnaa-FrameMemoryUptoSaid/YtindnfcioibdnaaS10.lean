import Derived.Test.YtindnfcioibdnaaS9
namespace Go.Proofs.Ytindnfcioibdnaa
open Go Hv
set_option linter.unusedVariables false
set_option maxRecDepth 10000
theorem post_none {H : Heap} {ys : List UInt8} {v : Value} {H' : Heap} (hs : splitA [] ys = none) (h : SplitPost H ys v H') : Upd [] H H' ∧ v = .tuple #[.slice none 0 0, .slice none 0 0, .int .i64 3] := by
  unfold SplitPost at h; rw [hs] at h; exact h
theorem post_some {H : Heap} {ys r : List UInt8} {o : List (List UInt8)} {v : Value} {H' : Heap} (hs : splitA [] ys = some (o, r)) (h : SplitPost H ys v H') : Upd [] H H' ∧ SplitOk H o r v H' := by
  unfold SplitPost at h; rw [hs] at h; exact h
theorem frameLimit_t {d : Int} {H : Heap} : HCalls Try.prog 4 [.int .i64 d] H (fun v H' => v = .bool true ∧ Upd [] H H') := by
  refine hcalls (fn := Try.f4) [(13, [(0, 0), (1, 0), (2, 0), (3, 0), (4, 0), (5, 0), (6, 0), (7, 0), (11, 0), (12, 0), (8, 1), (9, 1), (10, 1), (13, 0), (14, 0), (15, 0), (17, 0), (16, 1), (18, 0), (19, 0), (20, 0), (21, 0), (22, 0), (23, 0), (24, 0), (25, 0), (26, 0), (27, 0), (28, 0), (29, 0), (30, 0), (31, 0), (32, 0), (33, 0), (34, 0), (35, 0), (36, 0), (37, 0)])] mixed Try.func4 rfl rfl (by decide +kernel) ?_
  (repeat first | refine HReg.step ?_ | refine HCode.step ?_)
  refine HCall.mk ⟨Try.f8, Try.func8, by rfl, by rfl⟩ ?_
  refine alive_t fun H1 u1 => ?_
  (repeat first | refine HReg.step ?_ | refine HCode.step ?_)
  refine HReq.mk (by decide) ?_
  obtain ⟨N, hN, n1, n2⟩ : ∃ N : Nat, wr .i64 (1048574 + wr .i64 ((wr .u64 d).tmod 6)) = (N : Int) ∧ 1048574 ≤ N ∧ N ≤ 1048579 := by
    have e1 : (wr .u64 d).tmod 6 = wr .u64 d % 6 := by rw [wr_u64, Int.tmod_eq_emod_of_nonneg (by omega)]
    have h1 : 0 ≤ wr .u64 d % 6 := by omega
    have h2 : wr .u64 d % 6 < 6 := by omega
    generalize wr .u64 d % 6 = j at e1 h1 h2
    rw [e1, wr_i64 (n := j) (by omega) (by omega), wr_i64 (by omega) (by omega)]
    exact ⟨(1048574 + j).toNat, by omega, by omega, by omega⟩
  (repeat first | refine HReg.step ?_ | refine HCode.step ?_)
  rw [hN]
  refine HCall.mk ⟨Try.f16, Try.func16, by rfl, by rfl⟩ ?_
  refine long_t (by omega) (by omega) fun a2 c2 H2 m2 => ?_
  have u2 := u1.trans m2.upd
  (repeat first | refine HReg.step ?_ | refine HCode.step ?_)
  refine HCall.mk ⟨Try.f9, Try.func9, by rfl, by rfl⟩ ?_
  refine build_t m2.own.rows (longL_length N) (by omega) (fun hl => ?_) (fun hs a3 c3 H3 m3 => ?_)
  · (repeat first | refine HReg.step ?_ | refine HCode.step ?_)
    refine hif (fun _ => ?_) (fun h => absurd (ltB_false.1 h) (by omega))
    (repeat first | refine HReg.step ?_ | refine HCode.step ?_)
    have hv : Value.int .u8 (wr .u8 (wr .i64 ((N : Int) - 1048576))) = u8 (UInt8.ofNat (N - 1048576)) := by
      have : wr .i64 ((N : Int) - 1048576) = ((N - 1048576 : Nat) : Int) := by rw [wr_i64 (by omega) (by omega)]; omega
      rw [this, byte_lo]
    refine HReq.mk (by decide) ?_
    (repeat first | refine HReg.step ?_ | refine HCode.step ?_)
    refine HNew.mk fun b4 hb4 => ?_
    (repeat first | refine HReg.step ?_ | refine HCode.step ?_)
    rw [hv]
    have u4 : Upd [] H2 (H2.upd b4 (.cells [Value.int .u8 0, Value.int .u8 16, Value.int .u8 0, u8 (UInt8.ofNat (N - 1048576))].toArray 5)) := Upd.new hb4 _
    have o4 : OwnRow (H2.upd b4 (.cells [Value.int .u8 0, Value.int .u8 16, Value.int .u8 0, u8 (UInt8.ofNat (N - 1048576))].toArray 5)) 5 1 (some ⟨b4, 0, none⟩) 4 4 (u8s [0, 16, 0, UInt8.ofNat (N - 1048576)]) := OwnRow.lit (upd_same _ _ _) rfl
    refine HCall.mk ⟨Try.f16, Try.func16, by rfl, by rfl⟩ ?_
    refine long_t (by omega) (by omega) fun a5 c5 H5 m5 => ?_
    (repeat first | refine HReg.step ?_ | refine HCode.step ?_)
    refine append_own (o4.upd m5.upd (Off.nil _)) m5.own.rows (longL_length N) (by omega) fun a6 c6 H6 o6 u6 f6 => ?_
    have u26 : Upd [] H2 H6 := by
      refine Upd.drop (u4.trans m5.upd) u6 fun b hb => ?_
      simp only [blk, List.mem_singleton] at hb
      subst hb; exact hb4
    (repeat first | refine HReg.step ?_ | refine HCode.step ?_)
    refine HCall.mk ⟨Try.f12, Try.func12, by rfl, by rfl⟩ ?_
    have l6 : ([0, 16, 0, UInt8.ofNat (N - 1048576)] ++ longL N).length = 4 + N := by rw [List.length_append, longL_length]; rfl
    refine (split_t o6.rows l6 o6.le (by omega)).mono fun v7 H7 p7 => ?_
    have hnum : num ([0, 16, 0, UInt8.ofNat (N - 1048576)] ++ longL N) = N := by
      simp only [num, List.cons_append, List.nil_append, List.getD_cons_zero, List.getD_cons_succ, UInt8.toNat_ofNat']
      have e0 : (0 : UInt8).toNat = 0 := rfl
      have e16 : (16 : UInt8).toNat = 16 := rfl
      rw [e0, e16]; omega
    have hsp : splitA [] ([0, 16, 0, UInt8.ofNat (N - 1048576)] ++ longL N) = none := splitA_long (by omega) (by rw [hnum]; omega)
    obtain ⟨u7, rfl⟩ := post_none hsp p7
    (repeat first | refine HReg.step ?_ | refine HCode.step ?_)
    refine hif (fun _ => ?_) (fun h => absurd h (by simp [eqB_false]))
    (repeat first | refine HReg.step ?_ | refine HCode.step ?_)
    refine hif (fun _ => ?_) (fun h => absurd h (by simp [eqB_false]))
    (repeat first | refine HReg.step ?_ | refine HCode.step ?_)
    refine hif (fun _ => ?_) (fun h => absurd h (by simp [eqB_false]))
    (repeat first | refine HReg.step ?_ | refine HCode.step ?_)
    exact ⟨congrArg Value.bool (eqB_true.2 rfl), u2.trans (u26.trans u7)⟩
  · (repeat first | refine HReg.step ?_ | refine HCode.step ?_)
    refine hif (fun h => absurd (ltB_true.1 h) (by omega)) (fun _ => ?_)
    (repeat first | refine HReg.step ?_ | refine HCode.step ?_)
    have u3 := u2.trans m3.upd
    refine hif (fun h => absurd rfl (not_eqB_true.1 h)) (fun _ => ?_)
    (repeat first | refine HReg.step ?_ | refine HCode.step ?_)
    have hw4 : wr .i64 ((N : Int) + 4) = ((4 + N : Nat) : Int) := by rw [wr_i64 (by omega) (by omega)]; omega
    refine hif (fun h => absurd hw4.symm (not_eqB_true.1 h)) (fun _ => ?_)
    (repeat first | refine HReg.step ?_ | refine HCode.step ?_)
    have lb : (hd N ++ longL N).length = 4 + N := by rw [List.length_append, longL_length]; rfl
    refine HCall.mk ⟨Try.f10, Try.func10, by rfl, by rfl⟩ ?_
    refine own_t m3.own.rows lb (by omega) fun a4 c4 H4 m4 => ?_
    (repeat first | refine HReg.step ?_ | refine HCode.step ?_)
    refine HReq.mk (by decide) ?_
    (repeat first | refine HReg.step ?_ | refine HCode.step ?_)
    refine HNew.mk fun b5 hb5 => ?_
    (repeat first | refine HReg.step ?_ | refine HCode.step ?_)
    have u5 : Upd [] H4 (H4.upd b5 (.cells [Value.int .u8 7].toArray 5)) := Upd.new hb5 _
    refine append_own (ys := [7]) (m4.own.upd u5 (Off.nil _)) (row_lit (upd_same _ _ _) rfl) rfl (by omega) fun a6 c6 H6 o6 u6 f6 => ?_
    have u36 : Upd [] H3 H6 := by
      refine Upd.drop (m4.upd.trans u5) u6 fun b hb => ?_
      obtain ⟨p, hp, rfl⟩ := blk_of hb
      exact m4.new p hp
    (repeat first | refine HReg.step ?_ | refine HCode.step ?_)
    refine HCall.mk ⟨Try.f12, Try.func12, by rfl, by rfl⟩ ?_
    have l6 : (hd N ++ longL N ++ [7]).length = 4 + N + 1 := by rw [List.length_append, lb]; rfl
    refine (split_t o6.rows l6 o6.le (by omega)).mono fun v7 H7 p7 => ?_
    have hsp7 : splitA [] (hd N ++ longL N ++ [7]) = some ([longL N], [7]) := by
      have := splitA_frame [] (longL N) [7] (by rw [longL_length]; omega)
      rw [longL_length] at this
      rw [List.append_assoc, this, splitA_short (by decide)]
      rfl
    obtain ⟨u7, k7⟩ := post_some hsp7 p7
    obtain ⟨ao, no, co, ar, cr, ls, rfl, ho, hl, hr, _⟩ := k7.now
    have u37 := u36.trans u7
    (repeat first | refine HReg.step ?_ | refine HCode.step ?_)
    have hw3 : wr .i64 ((N : Int) + 3) = ((N + 3 : Nat) : Int) := by rw [wr_i64 (by omega) (by omega)]; omega
    have hc3 := m3.own.le
    refine HReq.mk ⟨by rw [hw3]; omega, by rw [hw3]; omega⟩ ?_
    (repeat first | refine HReg.step ?_ | refine HCode.step ?_)
    rw [hw3]
    have r8 := (m3.own.rows.upd u37 (.inr (Off.nil _))).take (N + 3)
    rw [← u8s_take] at r8
    have l8 : ((hd N ++ longL N).take (N + 3)).length = N + 3 := by rw [List.length_take, lb]; omega
    refine HCall.mk ⟨Try.f10, Try.func10, by rfl, by rfl⟩ ?_
    refine own_t r8 l8 (by show N + 3 ≤ _; omega) fun a8 c8 H8 m8 => ?_
    (repeat first | refine HReg.step ?_ | refine HCode.step ?_)
    refine HCall.mk ⟨Try.f12, Try.func12, by rfl, by rfl⟩ ?_
    refine (split_t m8.own.rows l8 m8.own.le (by show N + 3 ≤ _; omega)).mono fun v9 H9 p9 => ?_
    have hsp9 : splitA [] ((hd N ++ longL N).take (N + 3)) = some ([], (hd N ++ longL N).take (N + 3)) := by
      have e : (hd N ++ longL N).take (N + 3) = hd N ++ (longL N).take (N - 1) := by
        have e0 : N + 3 - 4 = N - 1 := by omega
        rw [List.take_append, hd_length, List.take_of_length_le (by rw [hd_length]; omega), e0]
      have hn : num (hd N ++ (longL N).take (N - 1)) = N := num_hd N (by omega) _
      rw [e] at l8 ⊢
      exact splitA_part (by omega) (by rw [hn]; omega) (by rw [hn]; omega)
    obtain ⟨u9, k9⟩ := post_some hsp9 p9
    obtain ⟨ao', no', co', ar', cr', ls', rfl, ho', hl', hr', _⟩ := k9.now
    have u79 := m8.upd.trans u9
    have hno : no = 1 := by
      have h1 := ho.len
      have h2 := hl.length
      rw [List.length_singleton] at h2
      omega
    have hno' : no' = 0 := by
      have h1 := ho'.len
      have h2 := hl'.length
      rw [List.length_nil] at h2
      omega
    subst hno
    subst hno'
    have rl := ho.rows.upd u79 (.inr (Off.nil _))
    obtain ⟨g, rfl⟩ := ho.addr (by decide)
    obtain ⟨w0, hw0, hs0⟩ := hl.get (i := 0) rfl
    obtain ⟨ax, cx, rfl, ox⟩ := hs0
    (repeat first | refine HReg.step ?_ | refine HCode.step ?_)
    refine hif (fun _ => ?_) (fun h => absurd h (by simp [eqB_false]))
    (repeat first | refine HReg.step ?_ | refine HCode.step ?_)
    refine hif (fun _ => ?_) (fun h => absurd h (by simp [eqB_false]))
    (repeat first | refine HReg.step ?_ | refine HCode.step ?_)
    refine HCall.mk ⟨Try.f16, Try.func16, by rfl, by rfl⟩ ?_
    refine long_t (by omega) (by omega) fun a10 c10 H10 m10 => ?_
    (repeat first | refine HReg.step ?_ | refine HCode.step ?_)
    refine HReq.mk ⟨by decide, by decide⟩ ?_
    (repeat first | refine HReg.step ?_ | refine HCode.step ?_)
    have g0 := rl.get (i := 0) hw0
    refine HLoad.mk ⟨.slice ax (longL N).length cx, fun Hx hx => ?_, ?_⟩
    · simp only [List.mem_cons] at hx
      rcases hx with rfl | hx
      · exact (rl.upd m10.upd (.inr (Off.nil _))).get (i := 0) hw0
      · have hx' : Hx = H9 := by simpa using hx
        subst hx'
        exact g0
    (repeat first | refine HReg.step ?_ | refine HCode.step ?_)
    refine HCall.mk ⟨Try.f14, Try.func14, by rfl, by rfl⟩ ?_
    refine same_eq (x := longL N) (y := longL N) (ox.rows.upd (u79.trans m10.upd) (.inr (Off.nil _))) rfl m10.own.rows (longL_length N) rfl ?_
    (repeat first | refine HReg.step ?_ | refine HCode.step ?_)
    refine HReq.mk (by decide) ?_
    (repeat first | refine HReg.step ?_ | refine HCode.step ?_)
    refine HNew.mk fun b11 hb11 => ?_
    (repeat first | refine HReg.step ?_ | refine HCode.step ?_)
    have u11 : Upd [] H10 (H10.upd b11 (.cells [Value.int .u8 7].toArray 5)) := Upd.new hb11 _
    refine HCall.mk ⟨Try.f14, Try.func14, by rfl, by rfl⟩ ?_
    refine same_eq (x := [7]) (y := [7]) (hr.rows.upd (u79.trans (m10.upd.trans u11)) (.inr (Off.nil _))) rfl (row_lit (upd_same _ _ _) rfl) rfl rfl ?_
    (repeat first | refine HReg.step ?_ | refine HCode.step ?_)
    refine hif (fun _ => ?_) (fun h => absurd h (by simp [eqB_false]))
    (repeat first | refine HReg.step ?_ | refine HCode.step ?_)
    refine hif (fun _ => ?_) (fun h => absurd h (by simp [eqB_false]))
    (repeat first | refine HReg.step ?_ | refine HCode.step ?_)
    refine HReq.mk ⟨by rw [hw3]; omega, by rw [hw3]; omega⟩ ?_
    (repeat first | refine HReg.step ?_ | refine HCode.step ?_)
    rw [hw3]
    refine HCall.mk ⟨Try.f14, Try.func14, by rfl, by rfl⟩ ?_
    have r12 := (m3.own.rows.upd (u37.trans (u79.trans (m10.upd.trans u11))) (.inr (Off.nil _))).take (N + 3)
    rw [← u8s_take] at r12
    refine same_eq (x := (hd N ++ longL N).take (N + 3)) (y := (hd N ++ longL N).take (N + 3)) (hr'.rows.upd (m10.upd.trans u11) (.inr (Off.nil _))) rfl r12 l8 rfl ?_
    (repeat first | refine HReg.step ?_ | refine HCode.step ?_)
    exact ⟨rfl, u3.trans (u37.trans (u79.trans (m10.upd.trans u11)))⟩
end Go.Proofs.Ytindnfcioibdnaa
