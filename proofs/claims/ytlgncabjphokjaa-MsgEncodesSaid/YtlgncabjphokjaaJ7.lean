import Derived.Test.YtlgncabjphokjaaJ6
namespace Go.Proofs.Ytlgncabjphokjaa
open Go Hv
set_option linter.unusedVariables false
set_option linter.unusedSimpArgs false
set_option maxRecDepth 10000
set_option maxHeartbeats 1000000
/-! The document's Encode, Size; MsgEncodes. CUT2 -/
theorem HLoadN_two {H H' : Heap} {b n : Nat} {vs : List Value} {K : List Value → Prop} (h : RowAt H (some ⟨b, 0, none⟩) vs) (h' : RowAt H' (some ⟨b, 0, none⟩) vs) (hl : vs.length = n) (hk : K vs) : HLoadN [H, H'] b 0 n K :=
  ⟨vs, fun H2 hH j v hv => by
    rcases List.mem_cons.1 hH with rfl | hH
    · exact h.get hv
    · rw [List.mem_singleton.1 hH]; exact h'.get hv, hl, hk⟩
section
variable {H : Heap} {K : Value → Heap → Prop}
theorem rencode_t {x : MsgA} (hx : MsgIn H x)
    (hk : ∀ a c H', Made H H' 5 1 a (encodeM x.m).1.length c (u8s (encodeM x.m).1) → K (.tuple #[.slice a (encodeM x.m).1.length c, .int .i64 (encodeM x.m).2]) H') : HCalls Try.prog 9 [x.val] H K := by
  refine hcalls (fn := Try.f9) [] mixed Try.func9 rfl rfl (by decide +kernel) ?_
  (repeat first | refine HReg.step ?_ | refine HCode.step ?_)
  refine HNew.mk fun b1 hb1 => ?_
  have u1 : Upd [] H (H.upd b1 (.cells x.cells.toArray 29)) := Upd.new hb1 _
  have o1 : RowAt (H.upd b1 (.cells x.cells.toArray 29)) (some ⟨b1, 0, none⟩) x.cells := RowAt.of_cells (upd_same _ _ _)
  have hH' : H.upd b1 (.cells [Value.int .i64 x.kind, .int .i64 x.client, .int .u64 (x.req : Int), .int .u64 (x.id : Int), .slice x.ap x.ps.length x.cp, .slice x.ak x.ks.length x.ck, .slice x.aw x.ws.length x.cw, .slice x.av x.vs.length x.cv].toArray 29) = H.upd b1 (.cells x.cells.toArray 29) := rfl
  rw [hH']
  generalize hH1 : H.upd b1 (.cells x.cells.toArray 29) = H1 at u1 o1
  have ro : ∀ {H'}, Upd [] H1 H' → RowAt H' (some ⟨b1, 0, none⟩) x.cells := fun u => o1.upd (S := []) u (.inr (Off.nil _))
  have rx : ∀ {H'}, Upd [] H1 H' → MsgIn H' x := fun u => hx.upd0 (u1.trans u)
  (repeat first | refine HReg.step ?_ | refine HCode.step ?_)
  refine HLoadN_row o1 rfl ?_
  (repeat first | refine HReg.step ?_ | refine HCode.step ?_)
  refine HCall.mk ⟨Try.f14, Try.func14, by rfl, by rfl⟩ ?_
  refine rmay_t (rx (Upd.refl _ _)) fun t H2 ht u2 => ?_
  cases t with
  | false =>
    have hm : ¬ MayM x.m := fun h => by have := ht.2 h; cases this
    rw [encode_no hm] at hk
    (repeat first | refine HReg.step ?_ | refine HCode.step ?_)
    exact hk none 0 H2 ((made_nil H2 5 1).back (u1.trans u2))
  | true =>
  have hm := ht.1 rfl
  (repeat first | refine HReg.step ?_ | refine HCode.step ?_)
  refine HLoadN_row (ro u2) rfl ?_
  (repeat first | refine HReg.step ?_ | refine HCode.step ?_)
  refine HCall.mk ⟨Try.f27, Try.func27, by rfl, by rfl⟩ ?_
  refine rbody_t (rx u2) hm fun a3 c3 H3 m3 => ?_
  (repeat first | refine HReg.step ?_ | refine HCode.step ?_)
  refine hif (fun h1 => ?_) (fun h1 => ?_)
  · have h1 := ltB_true.1 h1
    rw [encode_long hm (by omega)] at hk
    (repeat first | refine HReg.step ?_ | refine HCode.step ?_)
    exact hk none 0 H3 ((made_nil H3 5 1).back ((u1.trans u2).trans m3.upd))
  · have h1 := ltB_false.1 h1
    rw [encode_ok hm (by omega)] at hk
    have w1 : wr .u64 ((body x.m).length : Int) = ((body x.m).length : Int) := by rw [wr_u64]; omega
    (repeat first | refine HReg.step ?_ | refine HCode.step ?_)
    rw [w1]
    refine HCall.mk ⟨Try.f28, Try.func28, by rfl, by rfl⟩ ?_
    refine Number_t (n := 4) (by decide) fun a4 c4 H4 m4 => ?_
    have e4 : 4 = (num (body x.m).length 4).length := (num_length _ _).symm
    have m4' : Made H3 H4 5 1 a4 (num (body x.m).length 4).length c4 (u8s (num (body x.m).length 4)) := by rw [← e4]; exact m4
    (repeat first | refine HReg.step ?_ | refine HCode.step ?_)
    refine append_made m4 (m3.own.rows.upd (S := []) m4.upd (.inr (Off.nil _))) rfl (by omega) fun a5 c5 H5 m5 => ?_
    have e5 : (frameM (body x.m)).length = 4 + (body x.m).length := frameM_len _
    have hf : num (body x.m).length 4 ++ body x.m = frameM (body x.m) := rfl
    rw [hf, ← e5] at m5
    rw [← e5]
    (repeat first | refine HReg.step ?_ | refine HCode.step ?_)
    exact hk a5 c5 H5 (m5.back ((u1.trans u2).trans m3.upd))
theorem rsize_t {x : MsgA} (hx : MsgIn H x)
    (hk : ∀ H', Upd [] H H' → K (.tuple #[.int .i64 ((sizeM x.m).1 : Int), .int .i64 (sizeM x.m).2]) H') : HCalls Try.prog 11 [x.val] H K := by
  refine hcalls (fn := Try.f11) [] mixed Try.func11 rfl rfl (by decide +kernel) ?_
  (repeat first | refine HReg.step ?_ | refine HCode.step ?_)
  refine HNew.mk fun b1 hb1 => ?_
  have u1 : Upd [] H (H.upd b1 (.cells x.cells.toArray 29)) := Upd.new hb1 _
  have o1 : RowAt (H.upd b1 (.cells x.cells.toArray 29)) (some ⟨b1, 0, none⟩) x.cells := RowAt.of_cells (upd_same _ _ _)
  have hH' : H.upd b1 (.cells [Value.int .i64 x.kind, .int .i64 x.client, .int .u64 (x.req : Int), .int .u64 (x.id : Int), .slice x.ap x.ps.length x.cp, .slice x.ak x.ks.length x.ck, .slice x.aw x.ws.length x.cw, .slice x.av x.vs.length x.cv].toArray 29) = H.upd b1 (.cells x.cells.toArray 29) := rfl
  rw [hH']
  generalize hH1 : H.upd b1 (.cells x.cells.toArray 29) = H1 at u1 o1
  have ro : ∀ {H'}, Upd [] H1 H' → RowAt H' (some ⟨b1, 0, none⟩) x.cells := fun u => o1.upd (S := []) u (.inr (Off.nil _))
  have rx : ∀ {H'}, Upd [] H1 H' → MsgIn H' x := fun u => hx.upd0 (u1.trans u)
  (repeat first | refine HReg.step ?_ | refine HCode.step ?_)
  refine HLoadN_row o1 rfl ?_
  (repeat first | refine HReg.step ?_ | refine HCode.step ?_)
  refine HCall.mk ⟨Try.f14, Try.func14, by rfl, by rfl⟩ ?_
  refine rmay_t (rx (Upd.refl _ _)) fun t H2 ht u2 => ?_
  cases t with
  | false =>
    have hm : ¬ MayM x.m := fun h => by have := ht.2 h; cases this
    rw [size_no hm] at hk
    (repeat first | refine HReg.step ?_ | refine HCode.step ?_)
    exact hk H2 (u1.trans u2)
  | true =>
  have hm := ht.1 rfl
  rw [size_ok hm] at hk
  (repeat first | refine HReg.step ?_ | refine HCode.step ?_)
  refine HLoadN_row (ro u2) rfl ?_
  (repeat first | refine HReg.step ?_ | refine HCode.step ?_)
  refine HCall.mk ⟨Try.f27, Try.func27, by rfl, by rfl⟩ ?_
  refine rbody_t (rx u2) hm fun a3 c3 H3 m3 => ?_
  (repeat first | refine HReg.step ?_ | refine HCode.step ?_)
  exact hk H3 ((u1.trans u2).trans m3.upd)
theorem msgEncodes_t {x : MsgA} (hx : MsgIn H x)
    (hk : ∀ H', Upd [] H H' → K (.bool true) H') : HCalls Try.prog 3 [x.val] H K := by
  refine hcalls (fn := Try.f3) [(5, [(0, 0), (1, 0), (2, 0), (3, 0), (4, 1), (5, 0), (6, 0), (7, 0), (8, 0), (9, 0), (10, 0), (11, 0), (12, 0), (13, 0), (14, 0), (15, 0), (16, 0), (17, 0), (18, 0), (19, 0), (20, 0), (21, 0), (22, 0), (23, 0), (24, 0), (25, 0), (26, 0), (27, 0), (28, 0)])] mixed Try.func3 rfl rfl (by decide +kernel) ?_
  (repeat first | refine HReg.step ?_ | refine HCode.step ?_)
  refine HNew.mk fun b1 hb1 => ?_
  have u1 : Upd [] H (H.upd b1 (.cells x.cells.toArray 29)) := Upd.new hb1 _
  have o1 : RowAt (H.upd b1 (.cells x.cells.toArray 29)) (some ⟨b1, 0, none⟩) x.cells := RowAt.of_cells (upd_same _ _ _)
  have hH' : H.upd b1 (.cells [Value.int .i64 x.kind, .int .i64 x.client, .int .u64 (x.req : Int), .int .u64 (x.id : Int), .slice x.ap x.ps.length x.cp, .slice x.ak x.ks.length x.ck, .slice x.aw x.ws.length x.cw, .slice x.av x.vs.length x.cv].toArray 29) = H.upd b1 (.cells x.cells.toArray 29) := rfl
  rw [hH']
  generalize hH1 : H.upd b1 (.cells x.cells.toArray 29) = H1 at u1 o1
  have ro : ∀ {H'}, Upd [] H1 H' → RowAt H' (some ⟨b1, 0, none⟩) x.cells := fun u => o1.upd (S := []) u (.inr (Off.nil _))
  have rx : ∀ {H'}, Upd [] H1 H' → MsgIn H' x := fun u => hx.upd0 (u1.trans u)
  (repeat first | refine HReg.step ?_ | refine HCode.step ?_)
  refine HLoadN_row o1 rfl ?_
  (repeat first | refine HReg.step ?_ | refine HCode.step ?_)
  refine HCall.mk ⟨Try.f8, Try.func8, by rfl, by rfl⟩ ?_
  refine encode_t (rx (Upd.refl _ _)) fun a2 c2 H2 m2 => ?_
  (repeat first | refine HReg.step ?_ | refine HCode.step ?_)
  refine HLoadN_row (ro m2.upd) rfl ?_
  (repeat first | refine HReg.step ?_ | refine HCode.step ?_)
  refine HCall.mk ⟨Try.f9, Try.func9, by rfl, by rfl⟩ ?_
  refine rencode_t (rx m2.upd) fun a3 c3 H3 m3 => ?_
  have u3 := m2.upd.trans m3.upd
  (repeat first | refine HReg.step ?_ | refine HCode.step ?_)
  refine HLoadN_row (ro u3) rfl ?_
  (repeat first | refine HReg.step ?_ | refine HCode.step ?_)
  refine HCall.mk ⟨Try.f10, Try.func10, by rfl, by rfl⟩ ?_
  refine size_t (rx u3) fun H4 u4 => ?_
  have u14 := u3.trans u4
  (repeat first | refine HReg.step ?_ | refine HCode.step ?_)
  refine HLoadN_row (ro u14) rfl ?_
  (repeat first | refine HReg.step ?_ | refine HCode.step ?_)
  refine HCall.mk ⟨Try.f11, Try.func11, by rfl, by rfl⟩ ?_
  refine rsize_t (rx u14) fun H5 u5 => ?_
  have u15 := u14.trans u5
  (repeat first | refine HReg.step ?_ | refine HCode.step ?_)
  refine HCall.mk ⟨Try.f12, Try.func12, by rfl, by rfl⟩ ?_
  refine known_t fun H6 u6 => ?_
  have u16 := u15.trans u6
  (repeat first | refine HReg.step ?_ | refine HCode.step ?_)
  refine HLoadN_row (ro u16) rfl ?_
  (repeat first | refine HReg.step ?_ | refine HCode.step ?_)
  refine HCall.mk ⟨Try.f13, Try.func13, by rfl, by rfl⟩ ?_
  refine may_t (rx u16) fun t7 H7 ht7 u7 => ?_
  have u17 := u16.trans u7
  (repeat first | refine HReg.step ?_ | refine HCode.step ?_)
  refine HLoadN_two (ro u17) (ro u16) rfl ?_
  (repeat first | refine HReg.step ?_ | refine HCode.step ?_)
  refine HCall.mk ⟨Try.f14, Try.func14, by rfl, by rfl⟩ ?_
  refine rmay_t (rx u17) fun t8 H8 ht8 u8_ => ?_
  have u38 : Upd [] H3 H8 := (((u4.trans u5).trans u6).trans u7).trans u8_
  have e8 : t8 = t7 := by
    cases t7 <;> cases t8
    · rfl
    · exact absurd (ht7.2 (ht8.1 rfl)) (by decide)
    · exact absurd (ht8.2 (ht7.1 rfl)) (by decide)
    · rfl
  subst e8
  have r2 := m2.own.rows.upd (S := []) (m3.upd.trans u38) (.inr (Off.nil _))
  have r3 := m3.own.rows.upd (S := []) u38 (.inr (Off.nil _))
  cases t8 with
  | false =>
    (repeat first | refine HReg.step ?_ | refine HCode.step ?_)
    rw [eqB_self (encodeM x.m).2]
    (repeat first | refine HReg.step ?_ | refine HCode.step ?_)
    refine HCall.mk ⟨Try.f15, Try.func15, by rfl, by rfl⟩ ?_
    refine same_t r2 rfl r3 rfl ?_
    rw [decide_eq_true rfl]
    (repeat first | refine HReg.step ?_ | refine HCode.step ?_)
    rw [eqB_self ((sizeM x.m).1 : Int)]
    (repeat first | refine HReg.step ?_ | refine HCode.step ?_)
    rw [eqB_self (sizeM x.m).2]
    (repeat first | refine HReg.step ?_ | refine HCode.step ?_)
    exact hk H8 (u1.trans (u17.trans u8_))
  | true =>
    (repeat first | refine HReg.step ?_ | refine HCode.step ?_)
    rw [eqB_self (encodeM x.m).2]
    (repeat first | refine HReg.step ?_ | refine HCode.step ?_)
    refine HCall.mk ⟨Try.f15, Try.func15, by rfl, by rfl⟩ ?_
    refine same_t r2 rfl r3 rfl ?_
    rw [decide_eq_true rfl]
    (repeat first | refine HReg.step ?_ | refine HCode.step ?_)
    rw [eqB_self ((sizeM x.m).1 : Int)]
    (repeat first | refine HReg.step ?_ | refine HCode.step ?_)
    rw [eqB_self (sizeM x.m).2]
    (repeat first | refine HReg.step ?_ | refine HCode.step ?_)
    exact hk H8 (u1.trans (u17.trans u8_))
end
end Go.Proofs.Ytlgncabjphokjaa
