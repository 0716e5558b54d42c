import Derived.Test.YtlgncabjphokjaaGreatG9
namespace Go.Proofs.YtlgncabjphokjaaGreat
open Go Hv
set_option linter.unusedVariables false
set_option linter.unusedSimpArgs false
set_option maxRecDepth 10000
set_option maxHeartbeats 1000000
/-! The chapter's first two examples. CUT2 -/
def exC : MsgA := msg0 2 3 5 65539
def exB : List UInt8 := [0, 0, 0, 18, 2, 3, 0, 0, 0, 0, 0, 0, 0, 5, 0, 0, 0, 0, 0, 1, 0, 3]
theorem exC_may : MayM exC.m := ⟨⟨by decide, by decide, by decide⟩, .inr (.inl ⟨.inl rfl, by decide, rfl, rfl, rfl, rfl⟩)⟩
theorem exC_fit : Fit exC.m := ⟨by decide, by decide, fun w hw => (by cases hw), fun v hv => (by cases hv)⟩
theorem exC_len : (body exC.m).length = 18 := by decide +kernel
theorem exC_bytes : frameM (body exC.m) = exB := by decide +kernel
theorem exC_enc : encodeM exC.m = (exB, 0) := by rw [encode_ok exC_may (by rw [exC_len]; decide), exC_bytes]
theorem exC_dec : decodeM exB = (exC.m, 0) := by rw [← exC_bytes]; exact decode_encode exC_may exC_fit (by rw [exC_len]; decide)
def exP : Msg := ⟨1, 0, 1, 65536, [([97], [120])], [[97], [98]], [], []⟩
theorem exP_may : MayM exP := by
  refine ⟨⟨by decide, by decide, by decide⟩, .inl ⟨rfl, by decide, ⟨⟨⟨by decide, by decide, fun s hs => ?_⟩, Rising.of_pairwise (by decide)⟩, by decide, Rising.of_pairwise (by decide), fun p hp => ?_⟩, rfl, rfl⟩⟩
  · simp [exP] at hs
    rcases hs with rfl | rfl <;> decide
  · simp [exP] at hp
    subst hp
    exact ⟨by decide, by decide⟩
theorem exP_len : (body exP).length = 46 := by decide +kernel
section
variable {H : Heap} {K : Value → Heap → Prop}
theorem known_t (hk : ∀ H', Upd [] H H' → K (.bool true) H') : HCalls Tryz.prog 6 [] H K := by
  refine hcalls (fn := Tryz.f6) [] mixed Tryz.func6 rfl rfl (by decide +kernel) ?_
  (repeat first | refine HReg.step ?_ | refine HCode.step ?_)
  refine HNew.mk fun b1 hb1 => ?_
  (repeat first | refine HReg.step ?_ | refine HCode.step ?_)
  refine store_msg (x := exC) (OwnRow.lit (upd_same _ _ _) rfl) rfl fun H1 o1 u1 => ?_
  have u01 : Upd [] H H1 := Upd.drop (Upd.new hb1 _) u1 (fun x hx => by rw [List.mem_singleton.1 hx]; exact hb1)
  (repeat first | refine HReg.step ?_ | refine HCode.step ?_)
  refine HLoadN_row o1.rows rfl ?_
  (repeat first | refine HReg.step ?_ | refine HCode.step ?_)
  refine HCall.mk ⟨Tryz.f13, Tryz.func13, by rfl, by rfl⟩ ?_
  refine encode_t (x := exC) (msg0_new H H1 2 3 5 65539).msgIn fun a2 c2 H2 m2 => ?_
  rw [exC_enc] at m2 ⊢
  dsimp only at m2 ⊢
  have hl : exB.length = 22 := rfl
  have hc2 := m2.own.le
  (repeat first | refine HReg.step ?_ | refine HCode.step ?_)
  refine HCall.mk ⟨Tryz.f4, Tryz.func4, by rfl, by rfl⟩ ?_
  refine decode_t m2.own.rows rfl hc2 (by decide) fun x3 H3 hx3 n3 u3 => ?_
  rw [exC_dec] at hx3 ⊢
  dsimp only at hx3 ⊢
  (repeat first | refine HReg.step ?_ | refine HCode.step ?_)
  refine HNew.mk fun b4 hb4 => ?_
  (repeat first | refine HReg.step ?_ | refine HCode.step ?_)
  refine store_msg (x := x3) (OwnRow.lit (upd_same _ _ _) rfl) rfl fun H4 o4 u4 => ?_
  have u34 : Upd [] H3 H4 := Upd.drop (Upd.new hb4 _) u4 (fun x hx => by rw [List.mem_singleton.1 hx]; exact hb4)
  have n4 := n3.upd0 u34
  (repeat first | refine HReg.step ?_ | refine HCode.step ?_)
  refine HReq.mk (by decide) ?_
  (repeat first | refine HReg.step ?_ | refine HCode.step ?_)
  refine HNew.mk fun b5 hb5 => ?_
  have u45 : Upd [] H4 (H4.upd b5 (.cells [Value.string ⟨#[97]⟩, Value.string ⟨#[98]⟩].toArray 9)) := Upd.new hb5 _
  have r5 : RowAt (H4.upd b5 (.cells [Value.string ⟨#[97]⟩, Value.string ⟨#[98]⟩].toArray 9)) (some ⟨b5, 0, none⟩) (txts [[97], [98]]) := RowAt.of_cells (upd_same _ _ _)
  generalize hH5 : H4.upd b5 (.cells [Value.string ⟨#[97]⟩, Value.string ⟨#[98]⟩].toArray 9) = H5 at u45 r5
  (repeat first | refine HReg.step ?_ | refine HCode.step ?_)
  refine HReq.mk (by decide) ?_
  (repeat first | refine HReg.step ?_ | refine HCode.step ?_)
  refine HNew.mk fun b6 hb6 => ?_
  have u56 : Upd [] H5 (H5.upd b6 (.cells [Value.string ⟨#[97]⟩, Value.string ⟨#[120]⟩].toArray 50)) := Upd.new hb6 _
  have r6 : RowAt (H5.upd b6 (.cells [Value.string ⟨#[97]⟩, Value.string ⟨#[120]⟩].toArray 50)) (some ⟨b6, 0, none⟩) (pairsV [([97], [120])]) := RowAt.of_cells (upd_same _ _ _)
  generalize hH6 : H5.upd b6 (.cells [Value.string ⟨#[97]⟩, Value.string ⟨#[120]⟩].toArray 50) = H6 at u56 r6
  have r56 := r5.upd (S := []) u56 (.inr (Off.nil _))
  (repeat first | refine HReg.step ?_ | refine HCode.step ?_)
  refine HCall.mk ⟨Tryz.f14, Tryz.func14, by rfl, by rfl⟩ ?_
  refine size_t (x := { msg0 1 0 1 65536 with ks := [[97], [98]], ak := some ⟨b5, 0, none⟩, ck := 2, ps := [([97], [120])], ap := some ⟨b6, 0, none⟩, cp := 1 }) ⟨r6, r56, (OwnRow.nil H6 46 2).rows, (OwnRow.nil H6 52 4).rows, fun v hv => (by cases hv), by show 1 ≤ _; decide, by show 2 ≤ _; decide, Nat.zero_le _, Nat.zero_le _, fun v hv => (by cases hv)⟩ fun H7 u7 => ?_
  have es : sizeM ({ msg0 1 0 1 65536 with ks := [[97], [98]], ak := some ⟨b5, 0, none⟩, ck := 2, ps := [([97], [120])], ap := some ⟨b6, 0, none⟩, cp := 1 } : MsgA).m = (46, 0) := by
    show sizeM exP = (46, 0)
    rw [size_ok exP_may, exP_len]
  rw [es]
  dsimp only
  have u47 := (u45.trans u56).trans u7
  have n7 := n4.upd0 u47
  have o17 := ((o1.upd m2.upd (Off.nil _)).upd u3 (Off.nil _)).upd (u34.trans u47) (Off.nil _)
  have o47 := o4.upd u47 (Off.nil _)
  have m27 := ((m2.own.upd u3 (Off.nil _)).upd u34 (Off.nil _)).upd u47 (Off.nil _)
  (repeat first | refine HReg.step ?_ | refine HCode.step ?_)
  rw [eqB_self 0]
  (repeat first | refine HReg.step ?_ | refine HCode.step ?_)
  rw [eqB_self 0]
  (repeat first | refine HReg.step ?_ | refine HCode.step ?_)
  rw [eqB_self 0]
  (repeat first | refine HReg.step ?_ | refine HCode.step ?_)
  rw [show eqB ((46 : Nat) : Int) 46 = true from eqB_true.2 rfl]
  (repeat first | refine HReg.step ?_ | refine HCode.step ?_)
  refine HLoadN_row o17.rows rfl ?_
  (repeat first | refine HReg.step ?_ | refine HCode.step ?_)
  refine HLoadN_row o47.rows rfl ?_
  (repeat first | refine HReg.step ?_ | refine HCode.step ?_)
  refine HCall.mk ⟨Tryz.f7, Tryz.func7, by rfl, by rfl⟩ ?_
  refine same_t2 (x := exC) (y := x3) (msg0_new H H7 2 3 5 65539).msgIn n7.msgIn fun t H8 ht u8_ => ?_
  have ht : t = true := ht.2 hx3.symm
  subst ht
  (repeat first | refine HReg.step ?_ | refine HCode.step ?_)
  refine HReq.mk (by decide) ?_
  (repeat first | refine HReg.step ?_ | refine HCode.step ?_)
  refine HNew.mk fun b9 hb9 => ?_
  have u89 : Upd [] H8 (H8.upd b9 (.cells (u8s exB).toArray 5)) := Upd.new hb9 _
  have r9 : RowAt (H8.upd b9 (.cells (u8s exB).toArray 5)) (some ⟨b9, 0, none⟩) (u8s exB) := RowAt.of_cells (upd_same _ _ _)
  have m29 := (m27.upd u8_ (Off.nil _)).upd u89 (Off.nil _)
  (repeat first | refine HReg.step ?_ | refine HCode.step ?_)
  refine HCall.mk ⟨Tryz.f15, Tryz.func15, by rfl, by rfl⟩ ?_
  refine same_eq m29.rows rfl r9 rfl rfl ?_
  (repeat first | refine HReg.step ?_ | refine HCode.step ?_)
  exact hk _ ((((u01.trans m2.upd).trans u3).trans (u34.trans u47)).trans (u8_.trans u89))
end
end Go.Proofs.YtlgncabjphokjaaGreat
