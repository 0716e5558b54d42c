import Derived.Test.YtlgncabjphokjaaY1
namespace Go.Proofs.Ytlgncabjphokjaa
open Go Hv
set_option linter.unusedVariables false
set_option linter.unusedSimpArgs false
set_option maxRecDepth 10000
set_option maxHeartbeats 1000000
/-! MsgKeeps: spared. CUT2 -/
def spareS : Txt := [115, 112, 97, 114, 101]
/-- Lists with marked room behind them. -/
structure Spd (H : Heap) (y : MsgA) : Prop where
  p : RowAt H y.ap (pairsV (y.ps ++ [(spareS, [])]))
  k : RowAt H y.ak (txts (y.ks ++ [spareS]))
  w : RowAt H y.aw (wantsV (y.ws ++ [(spareS, 0)]))
  v : RowAt H y.av (versV (y.vs ++ [⟨⟨spareS, 0, [], []⟩, none, 0⟩]))
  vk : ∀ v ∈ y.vs, RowAt H v.a (txts (v.v.ks ++ [spareS])) ∧ v.v.ks.length + 1 ≤ v.c
  cp : y.ps.length + 1 ≤ y.cp
  ck : y.ks.length + 1 ≤ y.ck
  cw : y.ws.length + 1 ≤ y.cw
  cv : y.vs.length + 1 ≤ y.cv
theorem Spd.upd0 {H H' : Heap} {y : MsgA} (h : Spd H y) (u : Upd [] H H') : Spd H' y :=
  ⟨h.p.upd (S := []) u (.inr (Off.nil _)), h.k.upd (S := []) u (.inr (Off.nil _)), h.w.upd (S := []) u (.inr (Off.nil _)), h.v.upd (S := []) u (.inr (Off.nil _)), fun v hv => ⟨(h.vk v hv).1.upd (S := []) u (.inr (Off.nil _)), (h.vk v hv).2⟩, h.cp, h.ck, h.cw, h.cv⟩
theorem spare_self : seqB (bs spareS) (⟨#[115, 112, 97, 114, 101]⟩ : ByteArray) = true := by
  have h := seqB_bs spareS spareS
  rw [decide_eq_true rfl] at h
  exact h
structure SpI (H1 : Heap) (n : Nat) (m : Nat) (vs : List Value) (H' : Heap) : Prop where
  ex : ∃ i : Nat, vs = [.int .i64 (i : Int)] ∧ m + i = n ∧ H' = H1
section
variable {H : Heap} {K : Value → Heap → Prop}
theorem spared_t {x : MsgA} (hs : Spd H x) (hx : MsgIn H x)
    (hk : ∀ H', Upd [] H H' → K (.bool true) H') : HCalls Try.prog 20 [x.val] H K := by
  refine hcalls (fn := Try.f20) [(8, [(0, 0), (1, 0), (2, 0), (3, 0), (4, 0), (5, 0), (6, 0), (7, 0), (8, 0), (9, 0), (10, 0), (11, 0), (12, 0), (13, 0), (14, 0), (15, 0), (16, 0), (17, 0), (18, 0), (19, 0), (20, 0), (21, 0), (22, 0), (23, 0), (24, 0), (25, 0), (26, 0), (27, 0), (28, 0), (29, 0), (30, 0), (31, 0), (32, 0), (33, 0), (34, 0), (35, 0), (36, 0), (37, 0), (38, 0), (39, 0), (40, 0), (41, 0), (42, 0), (43, 0), (44, 0), (45, 0), (46, 0), (47, 0), (48, 0), (49, 0), (50, 0), (51, 0), (52, 0), (53, 0), (54, 0), (55, 0), (56, 0), (57, 0)])] mixed Try.func20 rfl rfl (by decide +kernel) ?_
  (repeat first | refine HReg.step ?_ | refine HCode.step ?_)
  refine HNew.mk fun b1 hb1 => ?_
  have u1 : Upd [] H (H.upd b1 (.cells x.cells.toArray 29)) := Upd.new hb1 _
  have o1 : RowAt (H.upd b1 (.cells x.cells.toArray 29)) (some ⟨b1, 0, none⟩) x.cells := RowAt.of_cells (upd_same _ _ _)
  have hH' : H.upd b1 (.cells [Value.int .i64 x.kind, .int .i64 x.client, .int .u64 (x.req : Int), .int .u64 (x.id : Int), .slice x.ap x.ps.length x.cp, .slice x.ak x.ks.length x.ck, .slice x.aw x.ws.length x.cw, .slice x.av x.vs.length x.cv].toArray 29) = H.upd b1 (.cells x.cells.toArray 29) := rfl
  rw [hH']
  generalize hH1 : H.upd b1 (.cells x.cells.toArray 29) = H1 at u1 o1
  have ro : ∀ {H'}, Upd [] H1 H' → RowAt H' (some ⟨b1, 0, none⟩) x.cells := fun u => o1.upd (S := []) u (.inr (Off.nil _))
  have rx : ∀ {H'}, Upd [] H1 H' → MsgIn H' x := fun u => hx.upd0 (u1.trans u)
  have s1 := hs.upd0 u1
  have hnv := hx.nv
  have hnk := hx.nk
  have hnw := hx.nw
  have hnp := hx.np
  (repeat first | refine HReg.step ?_ | refine HCode.step ?_)
  refine HLoad.one (v := .slice x.av x.vs.length x.cv) (by exact o1.get (i := 7) rfl) ?_
  (repeat first | refine HReg.step ?_ | refine HCode.step ?_)
  refine hloopC [2, 4, 5, 9, 10, 11, 12, 13, 14, 15, 16, 17, 18, 19, 20, 21, 22, 23, 24, 25, 26, 27, 28, 29, 30, 31, 32, 33] [4] (SpI H1 x.vs.length) rfl (by repeat' first | exact Resp.retD | exact Resp1.valuesK | refine Resp.blockD ?_ | refine Resp.thenD ?_ ?_ | refine Resp.hcode ?_) ?_ ?_
  · exact ⟨x.vs.length, SpI.mk ⟨0, rfl, rfl, rfl⟩⟩
  rintro m _ fe H2 ⟨i, rfl, hmi, rfl⟩
  have wi : wr .i64 ((i : Int) + 1) = ((i + 1 : Nat) : Int) := by rw [wr_i64 (by omega) (by omega)]; omega
  (repeat first | refine HReg.step ?_ | refine HCode.step ?_)
  refine hif (fun h1 => ?_) (fun h1 => ?_)
  · have h1 := ltB_true.1 h1
    obtain ⟨v, hv⟩ : ∃ v, x.vs[i]? = some v := ⟨x.vs[i]'(by omega), by simp⟩
    have hvm := List.mem_of_getElem? hv
    have hv2 : (x.vs ++ [⟨⟨spareS, 0, [], []⟩, none, 0⟩])[i]? = some v := by rw [List.getElem?_append_left (by omega)]; exact hv
    have rv := s1.v
    obtain ⟨rk, hc⟩ := s1.vk v hvm
    have hvk := hx.nvk v hvm
    have wk : wr .i64 ((v.v.ks.length : Int) + 1) = ((v.v.ks.length + 1 : Nat) : Int) := by rw [wr_i64 (by omega) (by omega)]; omega
    have hsp : (txts (v.v.ks ++ [spareS]))[v.v.ks.length]? = some (.string (bs spareS)) := txts_get (by simp)
    obtain ⟨ba, bo, hav, _⟩ := rv _ _ (versV_get hv2 0 _ rfl)
    obtain ⟨bk, bp, hak, _⟩ := rk _ _ hsp
    (repeat first | refine HReg.step ?_ | refine HCode.step ?_)
    refine HLoad.one (v := .slice x.av x.vs.length x.cv) (by exact o1.get (i := 7) rfl) ?_
    rw [hav] at rv ⊢
    (repeat first | refine HReg.step ?_ | refine HCode.step ?_)
    refine HReq.mk ⟨by omega, by omega⟩ ?_
    (repeat first | refine HReg.step ?_ | refine HCode.step ?_)
    refine HLoad.one (v := .slice v.a v.v.ks.length v.c) (by rw [Nat.add_assoc]; exact rv.get (versV_get hv2 3 _ rfl)) ?_
    (repeat first | refine HReg.step ?_ | refine HCode.step ?_)
    refine HLoad.one (v := .slice x.av x.vs.length x.cv) (by exact o1.get (i := 7) rfl) ?_
    rw [hav]
    (repeat first | refine HReg.step ?_ | refine HCode.step ?_)
    refine HReq.mk ⟨by omega, by omega⟩ ?_
    (repeat first | refine HReg.step ?_ | refine HCode.step ?_)
    refine HLoad.one (v := .slice v.a v.v.ks.length v.c) (by rw [Nat.add_assoc]; exact rv.get (versV_get hv2 3 _ rfl)) ?_
    rw [hak] at rk ⊢
    (repeat first | refine HReg.step ?_ | refine HCode.step ?_)
    rw [wk]
    refine HReq.mk ⟨by omega, by omega⟩ ?_
    (repeat first | refine HReg.step ?_ | refine HCode.step ?_)
    refine HReq.mk ⟨by omega, by omega⟩ ?_
    (repeat first | refine HReg.step ?_ | refine HCode.step ?_)
    refine HLoad.one (v := .string (bs spareS)) (by exact rk.get hsp) ?_
    (repeat first | refine HReg.step ?_ | refine HCode.step ?_)
    rw [spare_self]
    (repeat first | refine HReg.step ?_ | refine HCode.step ?_)
    rw [wi]
    exact ⟨m - 1, by omega, SpI.mk ⟨i + 1, rfl, by omega, rfl⟩⟩
  · have h1 := ltB_false.1 h1
    (repeat first | refine HReg.step ?_ | refine HCode.step ?_)
    have e5 := (txts_get (ls := x.ks ++ [spareS]) (i := x.ks.length) (l := spareS) (by simp))
    obtain ⟨ba5, bo5, ha5, _⟩ := s1.k _ _ e5
    have r5 := s1.k
    have c5 := s1.ck
    have w5 : wr .i64 ((x.ks.length : Int) + 1) = ((x.ks.length + 1 : Nat) : Int) := by rw [wr_i64 (by omega) (by omega)]; omega
    refine HLoad.one (v := .slice x.ak x.ks.length x.ck) (by exact o1.get (i := 5) rfl) ?_
    (repeat first | refine HReg.step ?_ | refine HCode.step ?_)
    refine HLoad.one (v := .slice x.ak x.ks.length x.ck) (by exact o1.get (i := 5) rfl) ?_
    rw [ha5] at r5 ⊢
    (repeat first | refine HReg.step ?_ | refine HCode.step ?_)
    rw [w5]
    refine HReq.mk ⟨by omega, by omega⟩ ?_
    (repeat first | refine HReg.step ?_ | refine HCode.step ?_)
    refine HLoad.one (v := .slice x.ak x.ks.length x.ck) (by exact o1.get (i := 5) rfl) ?_
    (repeat first | refine HReg.step ?_ | refine HCode.step ?_)
    refine HReq.mk ⟨by omega, by omega⟩ ?_
    (repeat first | refine HReg.step ?_ | refine HCode.step ?_)
    refine HLoad.one (v := .string (bs spareS)) (by exact r5.get e5) ?_
    (repeat first | refine HReg.step ?_ | refine HCode.step ?_)
    rw [spare_self]
    (repeat first | refine HReg.step ?_ | refine HCode.step ?_)
    have e4 := (pairsV_get (ps := x.ps ++ [(spareS, [])]) (i := x.ps.length) (p := (spareS, [])) (by simp)).1
    obtain ⟨ba4, bo4, ha4, _⟩ := s1.p _ _ e4
    have r4 := s1.p
    have c4 := s1.cp
    have w4 : wr .i64 ((x.ps.length : Int) + 1) = ((x.ps.length + 1 : Nat) : Int) := by rw [wr_i64 (by omega) (by omega)]; omega
    refine HLoad.one (v := .slice x.ap x.ps.length x.cp) (by exact o1.get (i := 4) rfl) ?_
    (repeat first | refine HReg.step ?_ | refine HCode.step ?_)
    refine HLoad.one (v := .slice x.ap x.ps.length x.cp) (by exact o1.get (i := 4) rfl) ?_
    rw [ha4] at r4 ⊢
    (repeat first | refine HReg.step ?_ | refine HCode.step ?_)
    rw [w4]
    refine HReq.mk ⟨by omega, by omega⟩ ?_
    (repeat first | refine HReg.step ?_ | refine HCode.step ?_)
    refine HLoad.one (v := .slice x.ap x.ps.length x.cp) (by exact o1.get (i := 4) rfl) ?_
    (repeat first | refine HReg.step ?_ | refine HCode.step ?_)
    refine HReq.mk ⟨by omega, by omega⟩ ?_
    (repeat first | refine HReg.step ?_ | refine HCode.step ?_)
    refine HLoad.one (v := .string (bs spareS)) (by exact r4.get e4) ?_
    (repeat first | refine HReg.step ?_ | refine HCode.step ?_)
    rw [spare_self]
    (repeat first | refine HReg.step ?_ | refine HCode.step ?_)
    have e6 := (wantsV_get (ps := x.ws ++ [(spareS, 0)]) (i := x.ws.length) (p := (spareS, 0)) (by simp)).1
    obtain ⟨ba6, bo6, ha6, _⟩ := s1.w _ _ e6
    have r6 := s1.w
    have c6 := s1.cw
    have w6 : wr .i64 ((x.ws.length : Int) + 1) = ((x.ws.length + 1 : Nat) : Int) := by rw [wr_i64 (by omega) (by omega)]; omega
    refine HLoad.one (v := .slice x.aw x.ws.length x.cw) (by exact o1.get (i := 6) rfl) ?_
    (repeat first | refine HReg.step ?_ | refine HCode.step ?_)
    refine HLoad.one (v := .slice x.aw x.ws.length x.cw) (by exact o1.get (i := 6) rfl) ?_
    rw [ha6] at r6 ⊢
    (repeat first | refine HReg.step ?_ | refine HCode.step ?_)
    rw [w6]
    refine HReq.mk ⟨by omega, by omega⟩ ?_
    (repeat first | refine HReg.step ?_ | refine HCode.step ?_)
    refine HLoad.one (v := .slice x.aw x.ws.length x.cw) (by exact o1.get (i := 6) rfl) ?_
    (repeat first | refine HReg.step ?_ | refine HCode.step ?_)
    refine HReq.mk ⟨by omega, by omega⟩ ?_
    (repeat first | refine HReg.step ?_ | refine HCode.step ?_)
    refine HLoad.one (v := .string (bs spareS)) (by exact r6.get e6) ?_
    (repeat first | refine HReg.step ?_ | refine HCode.step ?_)
    rw [spare_self]
    (repeat first | refine HReg.step ?_ | refine HCode.step ?_)
    have e7 := versV_get (xs := x.vs ++ [⟨⟨spareS, 0, [], []⟩, none, 0⟩]) (i := x.vs.length) (x := ⟨⟨spareS, 0, [], []⟩, none, 0⟩) (by simp) 0 _ rfl
    obtain ⟨ba7, bo7, ha7, _⟩ := s1.v _ _ e7
    have r7 := s1.v
    have c7 := s1.cv
    have w7 : wr .i64 ((x.vs.length : Int) + 1) = ((x.vs.length + 1 : Nat) : Int) := by rw [wr_i64 (by omega) (by omega)]; omega
    refine HLoad.one (v := .slice x.av x.vs.length x.cv) (by exact o1.get (i := 7) rfl) ?_
    rw [ha7] at r7 ⊢
    (repeat first | refine HReg.step ?_ | refine HCode.step ?_)
    rw [w7]
    refine HReq.mk ⟨by omega, by omega⟩ ?_
    (repeat first | refine HReg.step ?_ | refine HCode.step ?_)
    refine HReq.mk ⟨by omega, by omega⟩ ?_
    (repeat first | refine HReg.step ?_ | refine HCode.step ?_)
    refine HLoad.one (v := .string (bs spareS)) (by exact r7.get e7) ?_
    (repeat first | refine HReg.step ?_ | refine HCode.step ?_)
    rw [spare_self]
    (repeat first | refine HReg.step ?_ | refine HCode.step ?_)
    exact hk H2 u1
end
end Go.Proofs.Ytlgncabjphokjaa
