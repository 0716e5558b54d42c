import Derived.Test.YtlgncabjphokjaaG10
namespace Go.Proofs.Ytlgncabjphokjaa
open Go Hv
set_option linter.unusedVariables false
set_option linter.unusedSimpArgs false
set_option maxRecDepth 10000
set_option maxHeartbeats 1000000
/-! A version's answer; MsgFits. CUT2 -/
theorem and15 (w : Int) : bitsS .and .i64 w 15 = w % 16 := by
  have e := and_mask w 4 (by decide)
  exact e
theorem fmax_nat (a c : Nat) {b : Int} (h : b = (c : Int)) : (if Builtin.max = Builtin.max then (if b > (a : Int) then b else (a : Int)) else (if b < (a : Int) then b else (a : Int))) = ((max a c : Nat) : Int) := by
  rw [if_pos rfl]
  split <;> omega
structure AnJ (H1 : Heap) (v : Ver) (vs : List Value) (H' : Heap) : Prop where
  ex : ∃ (b : Nat) (a : Option Addr) (c : Nat), vs = [.pointer (some ⟨b, 0, none⟩)] ∧ Upd [] H1 H' ∧ RowAt H' (some ⟨b, 0, none⟩) (VerA.cells ⟨v, a, c⟩) ∧ RowAt H' a (txts v.ks) ∧ ∀ q, a = some q → H1 q.block = none
section
variable {H : Heap} {K : Value → Heap → Prop}
theorem answer_t {x : MsgA} {i : Nat} {p : Txt × Txt} {cl : Int} {rq : Nat} (hx : MsgIn H x) (hp : x.ps[i]? = some p)
    (hk : ∀ (y : MsgA) H', y.m = answerM x.m p (cl % 16) (max rq 1) → MsgIn H' y → Upd [] H H' → K y.val H') : HCalls Try.prog 18 [x.val, .int .i64 (i : Int), .int .i64 cl, .int .u64 (rq : Int)] H K := by
  refine hcalls (fn := Try.f18) [(1, [(14, 0), (15, 0), (16, 0), (18, 0), (0, 2), (1, 2), (2, 2), (3, 2), (4, 2), (5, 2), (6, 2), (7, 2), (8, 2), (9, 2), (10, 2), (11, 2), (12, 2), (13, 2), (17, 1), (19, 0)]), (1001, [(18, 0), (14, 1), (15, 1), (16, 0), (0, 2), (1, 2), (2, 2), (3, 2), (4, 2), (5, 2), (6, 2), (7, 2), (8, 2), (9, 2), (10, 2), (11, 2), (12, 2), (13, 2), (17, 1), (19, 0)]), (2001, [(16, 18)])] mixed Try.func18 rfl rfl (by decide +kernel) ?_
  (repeat first | refine HReg.step ?_ | refine HCode.step ?_)
  refine HNew.mk fun b1 hb1 => ?_
  have u1 : Upd [] H (H.upd b1 (.cells x.cells.toArray 29)) := Upd.new hb1 _
  have o1 : RowAt (H.upd b1 (.cells x.cells.toArray 29)) (some ⟨b1, 0, none⟩) x.cells := RowAt.of_cells (upd_same _ _ _)
  have hH' : H.upd b1 (.cells [Value.int .i64 x.kind, .int .i64 x.client, .int .u64 (x.req : Int), .int .u64 (x.id : Int), .slice x.ap x.ps.length x.cp, .slice x.ak x.ks.length x.ck, .slice x.aw x.ws.length x.cw, .slice x.av x.vs.length x.cv].toArray 29) = H.upd b1 (.cells x.cells.toArray 29) := rfl
  rw [hH']
  generalize hH1 : H.upd b1 (.cells x.cells.toArray 29) = H1 at u1 o1
  (repeat first | refine HReg.step ?_ | refine HCode.step ?_)
  refine HNew.mk fun b8 hb8 => ?_
  have u2 : Upd [] H1 (H1.upd b8 (.cells (msg0 0 0 0 0).cells.toArray 29)) := Upd.new hb8 _
  have o8 : OwnRow (H1.upd b8 (.cells (msg0 0 0 0 0).cells.toArray 29)) 29 1 (some ⟨b8, 0, none⟩) 8 8 (msg0 0 0 0 0).cells := OwnRow.lit (upd_same _ _ _) rfl
  have hH2' : H1.upd b8 (.cells [Value.int .i64 0, .int .i64 0, .int .u64 0, .int .u64 0, .slice none 0 0, .slice none 0 0, .slice none 0 0, .slice none 0 0].toArray 29) = H1.upd b8 (.cells (msg0 0 0 0 0).cells.toArray 29) := rfl
  rw [hH2']
  have o1 := o1.upd (S := []) u2 (.inr (Off.nil _))
  have hx2 := hx.upd0 (u1.trans u2)
  generalize hH2 : H1.upd b8 (.cells (msg0 0 0 0 0).cells.toArray 29) = H2 at u2 o8 o1 hx2
  obtain ⟨ba, bo, hap, _⟩ := hx2.rp _ _ (pairsV_get hp).1
  have hil : i < x.ps.length := (List.getElem?_eq_some_iff.1 hp).1
  have hnk := hx.nk
  obtain ⟨Z, hZ⟩ : ∃ Z : List Value, [Value.string ⟨#[]⟩, .int .u64 0, .string ⟨#[]⟩, .slice none 0 0] = Z := ⟨_, rfl⟩
  ((repeat refine HReg.step ?_); first | (show HCode _ _ _ (Code.seq (Code.region _ _ _) _) _ _ _; refine hcutC (a := Code.region _ _ _) [9, 10, 11, 12, 13, 14, 15, 16, 17, 18, 19, 20, 21, 22, 23, 24, 25, 26, 27] [9] (AnJ H2 ⟨p.1, x.id, p.2, x.ks⟩) rfl (by repeat' first | exact Resp.retD | exact Resp1.valuesK | refine Resp.blockD ?_ | refine Resp.thenD ?_ ?_ | refine Resp.hcode ?_) ?_ ?_) | (refine HCode.step ?_; (repeat refine HReg.step ?_); first | (show HCode _ _ _ (Code.seq (Code.region _ _ _) _) _ _ _; refine hcutC (a := Code.region _ _ _) [9, 10, 11, 12, 13, 14, 15, 16, 17, 18, 19, 20, 21, 22, 23, 24, 25, 26, 27] [9] (AnJ H2 ⟨p.1, x.id, p.2, x.ks⟩) rfl (by repeat' first | exact Resp.retD | exact Resp1.valuesK | refine Resp.blockD ?_ | refine Resp.thenD ?_ ?_ | refine Resp.hcode ?_) ?_ ?_) | (refine HCode.step ?_; (repeat refine HReg.step ?_); first | (show HCode _ _ _ (Code.seq (Code.region _ _ _) _) _ _ _; refine hcutC (a := Code.region _ _ _) [9, 10, 11, 12, 13, 14, 15, 16, 17, 18, 19, 20, 21, 22, 23, 24, 25, 26, 27] [9] (AnJ H2 ⟨p.1, x.id, p.2, x.ks⟩) rfl (by repeat' first | exact Resp.retD | exact Resp1.valuesK | refine Resp.blockD ?_ | refine Resp.thenD ?_ ?_ | refine Resp.hcode ?_) ?_ ?_) | (refine HCode.step ?_; (repeat refine HReg.step ?_); first | (show HCode _ _ _ (Code.seq (Code.region _ _ _) _) _ _ _; refine hcutC (a := Code.region _ _ _) [9, 10, 11, 12, 13, 14, 15, 16, 17, 18, 19, 20, 21, 22, 23, 24, 25, 26, 27] [9] (AnJ H2 ⟨p.1, x.id, p.2, x.ks⟩) rfl (by repeat' first | exact Resp.retD | exact Resp1.valuesK | refine Resp.blockD ?_ | refine Resp.thenD ?_ ?_ | refine Resp.hcode ?_) ?_ ?_) | (refine HCode.step ?_; (repeat refine HReg.step ?_); first | (show HCode _ _ _ (Code.seq (Code.region _ _ _) _) _ _ _; refine hcutC (a := Code.region _ _ _) [9, 10, 11, 12, 13, 14, 15, 16, 17, 18, 19, 20, 21, 22, 23, 24, 25, 26, 27] [9] (AnJ H2 ⟨p.1, x.id, p.2, x.ks⟩) rfl (by repeat' first | exact Resp.retD | exact Resp1.valuesK | refine Resp.blockD ?_ | refine Resp.thenD ?_ ?_ | refine Resp.hcode ?_) ?_ ?_) | (refine HCode.step ?_; (repeat refine HReg.step ?_); first | (show HCode _ _ _ (Code.seq (Code.region _ _ _) _) _ _ _; refine hcutC (a := Code.region _ _ _) [9, 10, 11, 12, 13, 14, 15, 16, 17, 18, 19, 20, 21, 22, 23, 24, 25, 26, 27] [9] (AnJ H2 ⟨p.1, x.id, p.2, x.ks⟩) rfl (by repeat' first | exact Resp.retD | exact Resp1.valuesK | refine Resp.blockD ?_ | refine Resp.thenD ?_ ?_ | refine Resp.hcode ?_) ?_ ?_) | (refine HCode.step ?_; (repeat refine HReg.step ?_); first | (show HCode _ _ _ (Code.seq (Code.region _ _ _) _) _ _ _; refine hcutC (a := Code.region _ _ _) [9, 10, 11, 12, 13, 14, 15, 16, 17, 18, 19, 20, 21, 22, 23, 24, 25, 26, 27] [9] (AnJ H2 ⟨p.1, x.id, p.2, x.ks⟩) rfl (by repeat' first | exact Resp.retD | exact Resp1.valuesK | refine Resp.blockD ?_ | refine Resp.thenD ?_ ?_ | refine Resp.hcode ?_) ?_ ?_) | (refine HCode.step ?_; (repeat refine HReg.step ?_); first | (show HCode _ _ _ (Code.seq (Code.region _ _ _) _) _ _ _; refine hcutC (a := Code.region _ _ _) [9, 10, 11, 12, 13, 14, 15, 16, 17, 18, 19, 20, 21, 22, 23, 24, 25, 26, 27] [9] (AnJ H2 ⟨p.1, x.id, p.2, x.ks⟩) rfl (by repeat' first | exact Resp.retD | exact Resp1.valuesK | refine Resp.blockD ?_ | refine Resp.thenD ?_ ?_ | refine Resp.hcode ?_) ?_ ?_) | (refine HCode.step ?_; (repeat refine HReg.step ?_); first | (show HCode _ _ _ (Code.seq (Code.region _ _ _) _) _ _ _; refine hcutC (a := Code.region _ _ _) [9, 10, 11, 12, 13, 14, 15, 16, 17, 18, 19, 20, 21, 22, 23, 24, 25, 26, 27] [9] (AnJ H2 ⟨p.1, x.id, p.2, x.ks⟩) rfl (by repeat' first | exact Resp.retD | exact Resp1.valuesK | refine Resp.blockD ?_ | refine Resp.thenD ?_ ?_ | refine Resp.hcode ?_) ?_ ?_) | (refine HCode.step ?_; (repeat refine HReg.step ?_); first | (show HCode _ _ _ (Code.seq (Code.region _ _ _) _) _ _ _; refine hcutC (a := Code.region _ _ _) [9, 10, 11, 12, 13, 14, 15, 16, 17, 18, 19, 20, 21, 22, 23, 24, 25, 26, 27] [9] (AnJ H2 ⟨p.1, x.id, p.2, x.ks⟩) rfl (by repeat' first | exact Resp.retD | exact Resp1.valuesK | refine Resp.blockD ?_ | refine Resp.thenD ?_ ?_ | refine Resp.hcode ?_) ?_ ?_) | (refine HCode.step ?_; (repeat refine HReg.step ?_); first | (show HCode _ _ _ (Code.seq (Code.region _ _ _) _) _ _ _; refine hcutC (a := Code.region _ _ _) [9, 10, 11, 12, 13, 14, 15, 16, 17, 18, 19, 20, 21, 22, 23, 24, 25, 26, 27] [9] (AnJ H2 ⟨p.1, x.id, p.2, x.ks⟩) rfl (by repeat' first | exact Resp.retD | exact Resp1.valuesK | refine Resp.blockD ?_ | refine Resp.thenD ?_ ?_ | refine Resp.hcode ?_) ?_ ?_) | (refine HCode.step ?_; (repeat refine HReg.step ?_); first | (show HCode _ _ _ (Code.seq (Code.region _ _ _) _) _ _ _; refine hcutC (a := Code.region _ _ _) [9, 10, 11, 12, 13, 14, 15, 16, 17, 18, 19, 20, 21, 22, 23, 24, 25, 26, 27] [9] (AnJ H2 ⟨p.1, x.id, p.2, x.ks⟩) rfl (by repeat' first | exact Resp.retD | exact Resp1.valuesK | refine Resp.blockD ?_ | refine Resp.thenD ?_ ?_ | refine Resp.hcode ?_) ?_ ?_) | (refine HCode.step ?_; (repeat refine HReg.step ?_); first | (show HCode _ _ _ (Code.seq (Code.region _ _ _) _) _ _ _; refine hcutC (a := Code.region _ _ _) [9, 10, 11, 12, 13, 14, 15, 16, 17, 18, 19, 20, 21, 22, 23, 24, 25, 26, 27] [9] (AnJ H2 ⟨p.1, x.id, p.2, x.ks⟩) rfl (by repeat' first | exact Resp.retD | exact Resp1.valuesK | refine Resp.blockD ?_ | refine Resp.thenD ?_ ?_ | refine Resp.hcode ?_) ?_ ?_) | (refine HCode.step ?_; (repeat refine HReg.step ?_); first | (show HCode _ _ _ (Code.seq (Code.region _ _ _) _) _ _ _; refine hcutC (a := Code.region _ _ _) [9, 10, 11, 12, 13, 14, 15, 16, 17, 18, 19, 20, 21, 22, 23, 24, 25, 26, 27] [9] (AnJ H2 ⟨p.1, x.id, p.2, x.ks⟩) rfl (by repeat' first | exact Resp.retD | exact Resp1.valuesK | refine Resp.blockD ?_ | refine Resp.thenD ?_ ?_ | refine Resp.hcode ?_) ?_ ?_) | (refine HCode.step ?_; (repeat refine HReg.step ?_); first | (show HCode _ _ _ (Code.seq (Code.region _ _ _) _) _ _ _; refine hcutC (a := Code.region _ _ _) [9, 10, 11, 12, 13, 14, 15, 16, 17, 18, 19, 20, 21, 22, 23, 24, 25, 26, 27] [9] (AnJ H2 ⟨p.1, x.id, p.2, x.ks⟩) rfl (by repeat' first | exact Resp.retD | exact Resp1.valuesK | refine Resp.blockD ?_ | refine Resp.thenD ?_ ?_ | refine Resp.hcode ?_) ?_ ?_) | (refine HCode.step ?_; (repeat refine HReg.step ?_); first | (show HCode _ _ _ (Code.seq (Code.region _ _ _) _) _ _ _; refine hcutC (a := Code.region _ _ _) [9, 10, 11, 12, 13, 14, 15, 16, 17, 18, 19, 20, 21, 22, 23, 24, 25, 26, 27] [9] (AnJ H2 ⟨p.1, x.id, p.2, x.ks⟩) rfl (by repeat' first | exact Resp.retD | exact Resp1.valuesK | refine Resp.blockD ?_ | refine Resp.thenD ?_ ?_ | refine Resp.hcode ?_) ?_ ?_) | (refine HCode.step ?_; (repeat refine HReg.step ?_); first | (show HCode _ _ _ (Code.seq (Code.region _ _ _) _) _ _ _; refine hcutC (a := Code.region _ _ _) [9, 10, 11, 12, 13, 14, 15, 16, 17, 18, 19, 20, 21, 22, 23, 24, 25, 26, 27] [9] (AnJ H2 ⟨p.1, x.id, p.2, x.ks⟩) rfl (by repeat' first | exact Resp.retD | exact Resp1.valuesK | refine Resp.blockD ?_ | refine Resp.thenD ?_ ?_ | refine Resp.hcode ?_) ?_ ?_) | (refine HCode.step ?_; (repeat refine HReg.step ?_); first | (show HCode _ _ _ (Code.seq (Code.region _ _ _) _) _ _ _; refine hcutC (a := Code.region _ _ _) [9, 10, 11, 12, 13, 14, 15, 16, 17, 18, 19, 20, 21, 22, 23, 24, 25, 26, 27] [9] (AnJ H2 ⟨p.1, x.id, p.2, x.ks⟩) rfl (by repeat' first | exact Resp.retD | exact Resp1.valuesK | refine Resp.blockD ?_ | refine Resp.thenD ?_ ?_ | refine Resp.hcode ?_) ?_ ?_) | (refine HCode.step ?_; (repeat refine HReg.step ?_); first | (show HCode _ _ _ (Code.seq (Code.region _ _ _) _) _ _ _; refine hcutC (a := Code.region _ _ _) [9, 10, 11, 12, 13, 14, 15, 16, 17, 18, 19, 20, 21, 22, 23, 24, 25, 26, 27] [9] (AnJ H2 ⟨p.1, x.id, p.2, x.ks⟩) rfl (by repeat' first | exact Resp.retD | exact Resp1.valuesK | refine Resp.blockD ?_ | refine Resp.thenD ?_ ?_ | refine Resp.hcode ?_) ?_ ?_) | (refine HCode.step ?_; (repeat refine HReg.step ?_); first | (show HCode _ _ _ (Code.seq (Code.region _ _ _) _) _ _ _; refine hcutC (a := Code.region _ _ _) [9, 10, 11, 12, 13, 14, 15, 16, 17, 18, 19, 20, 21, 22, 23, 24, 25, 26, 27] [9] (AnJ H2 ⟨p.1, x.id, p.2, x.ks⟩) rfl (by repeat' first | exact Resp.retD | exact Resp1.valuesK | refine Resp.blockD ?_ | refine Resp.thenD ?_ ?_ | refine Resp.hcode ?_) ?_ ?_) | (refine HCode.step ?_; (repeat refine HReg.step ?_); (show HCode _ _ _ (Code.seq (Code.region _ _ _) _) _ _ _; refine hcutC (a := Code.region _ _ _) [9, 10, 11, 12, 13, 14, 15, 16, 17, 18, 19, 20, 21, 22, 23, 24, 25, 26, 27] [9] (AnJ H2 ⟨p.1, x.id, p.2, x.ks⟩) rfl (by repeat' first | exact Resp.retD | exact Resp1.valuesK | refine Resp.blockD ?_ | refine Resp.thenD ?_ ?_ | refine Resp.hcode ?_) ?_ ?_))))))))))))))))))))))
  · (repeat first | refine HReg.step ?_ | refine HCode.step ?_)
    refine And.intro ?_ ?_
    · (repeat first | refine HReg.step ?_ | refine HCode.step ?_)
      refine HLoad.one (v := .slice x.ak x.ks.length x.ck) (by exact o1.get (i := 5) rfl) ?_
      (repeat first | refine HReg.step ?_ | refine HCode.step ?_)
      refine app_textsZ (xs := []) (made_nil H2 9 1) hx2.rk rfl (by omega) fun a3 c3 H4 m4 => ?_
      rw [Nat.zero_add, List.nil_append] at m4
      rw [Nat.zero_add x.ks.length]
      (repeat first | refine HReg.step ?_ | refine HCode.step ?_)
      refine HNew.mk fun b9 hb9 => ?_
      have u45 : Upd [] H4 (H4.upd b9 (.cells Z.toArray 52)) := Upd.new hb9 _
      have oz : OwnRow (H4.upd b9 (.cells Z.toArray 52)) 52 1 (some ⟨b9, 0, none⟩) 4 4 Z := OwnRow.lit (upd_same _ _ _) (by rw [← hZ]; rfl)
      rw [hZ]
      generalize hH5 : H4.upd b9 (.cells Z.toArray 52) = H5 at oz u45
      have u24 : Upd [] H2 H4 := m4.upd
      have u25 := u24.trans u45
      have rp := hx2.rp
      have rp4 := rp.upd (S := []) u24 (.inr (Off.nil _))
      have rp5 := rp.upd (S := []) u25 (.inr (Off.nil _))
      (repeat first | refine HReg.step ?_ | refine HCode.step ?_)
      refine HLoad_three (v := .slice x.ap x.ps.length x.cp) (by exact (o1.upd (S := []) u25 (.inr (Off.nil _))).get (i := 4) rfl) (by exact (o1.upd (S := []) u24 (.inr (Off.nil _))).get (i := 4) rfl) (by exact o1.get (i := 4) rfl) ?_
      rw [hap] at rp rp4 rp5 ⊢
      (repeat first | refine HReg.step ?_ | refine HCode.step ?_)
      refine HReq.mk ⟨by omega, by omega⟩ ?_
      (repeat first | refine HReg.step ?_ | refine HCode.step ?_)
      refine HLoad_three (v := .string (bs p.1)) (by exact rp5.get (pairsV_get hp).1) (by exact rp4.get (pairsV_get hp).1) (by exact rp.get (pairsV_get hp).1) ?_
      (repeat first | refine HReg.step ?_ | refine HCode.step ?_)
      refine HLoad_three (v := .int .u64 (x.id : Int)) (by exact (o1.upd (S := []) u25 (.inr (Off.nil _))).get (i := 3) rfl) (by exact (o1.upd (S := []) u24 (.inr (Off.nil _))).get (i := 3) rfl) (by exact o1.get (i := 3) rfl) ?_
      (repeat first | refine HReg.step ?_ | refine HCode.step ?_)
      refine HLoad_three (v := .slice x.ap x.ps.length x.cp) (by exact (o1.upd (S := []) u25 (.inr (Off.nil _))).get (i := 4) rfl) (by exact (o1.upd (S := []) u24 (.inr (Off.nil _))).get (i := 4) rfl) (by exact o1.get (i := 4) rfl) ?_
      rw [hap]
      (repeat first | refine HReg.step ?_ | refine HCode.step ?_)
      refine HReq.mk ⟨by omega, by omega⟩ ?_
      (repeat first | refine HReg.step ?_ | refine HCode.step ?_)
      refine HLoad_three (v := .string (bs p.2)) (by rw [Nat.add_assoc]; exact rp5.get (pairsV_get hp).2) (by rw [Nat.add_assoc]; exact rp4.get (pairsV_get hp).2) (by rw [Nat.add_assoc]; exact rp.get (pairsV_get hp).2) ?_
      (repeat first | refine HReg.step ?_ | refine HCode.step ?_)
      refine store_ver (x := ⟨⟨p.1, x.id, p.2, x.ks⟩, a3, c3⟩) oz (by rw [← hZ]; rfl) fun H6 o6 u6 => ?_
      (repeat first | refine HReg.step ?_ | refine HCode.step ?_)
      have ra : Off [b9] a3 := fun q hq hb => (m4.own.there hq) (by rw [List.mem_singleton.1 hb]; exact hb9)
      exact AnJ.mk ⟨b9, a3, c3, rfl, Upd.drop u25 u6 (fun q hq => by rw [List.mem_singleton.1 hq]; exact Upd.none (S := []) u24 (by simp) hb9), o6.rows, ((m4.own.rows.upd (S := []) u45 (.inr (Off.nil _))).upd u6 (.inr ra)), m4.new⟩
    · (repeat first | refine HReg.step ?_ | refine HCode.step ?_)
      refine HNew.mk fun b9 hb9 => ?_
      have u24 : Upd [] H2 (H2.upd b9 (.cells Z.toArray 52)) := Upd.new hb9 _
      have oz : OwnRow (H2.upd b9 (.cells Z.toArray 52)) 52 1 (some ⟨b9, 0, none⟩) 4 4 Z := OwnRow.lit (upd_same _ _ _) (by rw [← hZ]; rfl)
      rw [hZ]
      generalize hH4 : H2.upd b9 (.cells Z.toArray 52) = H4 at oz u24
      (repeat first | refine HReg.step ?_ | refine HCode.step ?_)
      refine HLoad_two (v := .slice x.ak x.ks.length x.ck) (by exact (o1.upd (S := []) u24 (.inr (Off.nil _))).get (i := 5) rfl) (by exact o1.get (i := 5) rfl) ?_
      (repeat first | refine HReg.step ?_ | refine HCode.step ?_)
      refine app_textsZ (xs := []) (made_nil H4 9 1) (hx2.rk.upd (S := []) u24 (.inr (Off.nil _))) rfl (by omega) fun a3 c3 H5 m5 => ?_
      rw [Nat.zero_add, List.nil_append] at m5
      rw [Nat.zero_add x.ks.length]
      have u45 := m5.upd
      have u25 := u24.trans u45
      have rp := hx2.rp
      have rp4 := rp.upd (S := []) u24 (.inr (Off.nil _))
      have rp5 := rp.upd (S := []) u25 (.inr (Off.nil _))
      have h9 : H4 b9 ≠ none := oz.there rfl
      have oz := oz.upd u45 (Off.nil _)
      (repeat first | refine HReg.step ?_ | refine HCode.step ?_)
      refine HLoad_three (v := .slice x.ap x.ps.length x.cp) (by exact (o1.upd (S := []) u25 (.inr (Off.nil _))).get (i := 4) rfl) (by exact (o1.upd (S := []) u24 (.inr (Off.nil _))).get (i := 4) rfl) (by exact o1.get (i := 4) rfl) ?_
      rw [hap] at rp rp4 rp5 ⊢
      (repeat first | refine HReg.step ?_ | refine HCode.step ?_)
      refine HReq.mk ⟨by omega, by omega⟩ ?_
      (repeat first | refine HReg.step ?_ | refine HCode.step ?_)
      refine HLoad_three (v := .string (bs p.1)) (by exact rp5.get (pairsV_get hp).1) (by exact rp4.get (pairsV_get hp).1) (by exact rp.get (pairsV_get hp).1) ?_
      (repeat first | refine HReg.step ?_ | refine HCode.step ?_)
      refine HLoad_three (v := .int .u64 (x.id : Int)) (by exact (o1.upd (S := []) u25 (.inr (Off.nil _))).get (i := 3) rfl) (by exact (o1.upd (S := []) u24 (.inr (Off.nil _))).get (i := 3) rfl) (by exact o1.get (i := 3) rfl) ?_
      (repeat first | refine HReg.step ?_ | refine HCode.step ?_)
      refine HLoad_three (v := .slice x.ap x.ps.length x.cp) (by exact (o1.upd (S := []) u25 (.inr (Off.nil _))).get (i := 4) rfl) (by exact (o1.upd (S := []) u24 (.inr (Off.nil _))).get (i := 4) rfl) (by exact o1.get (i := 4) rfl) ?_
      rw [hap]
      (repeat first | refine HReg.step ?_ | refine HCode.step ?_)
      refine HReq.mk ⟨by omega, by omega⟩ ?_
      (repeat first | refine HReg.step ?_ | refine HCode.step ?_)
      refine HLoad_three (v := .string (bs p.2)) (by rw [Nat.add_assoc]; exact rp5.get (pairsV_get hp).2) (by rw [Nat.add_assoc]; exact rp4.get (pairsV_get hp).2) (by rw [Nat.add_assoc]; exact rp.get (pairsV_get hp).2) ?_
      (repeat first | refine HReg.step ?_ | refine HCode.step ?_)
      refine store_ver (x := ⟨⟨p.1, x.id, p.2, x.ks⟩, a3, c3⟩) oz (by rw [← hZ]; rfl) fun H6 o6 u6 => ?_
      (repeat first | refine HReg.step ?_ | refine HCode.step ?_)
      have ra : Off [b9] a3 := fun q hq hb => h9 (by have := m5.new q hq; rw [List.mem_singleton.1 hb] at this; exact this)
      exact AnJ.mk ⟨b9, a3, c3, rfl, Upd.drop u25 u6 (fun q hq => by rw [List.mem_singleton.1 hq]; exact hb9), o6.rows, (m5.own.rows.upd u6 (.inr ra)), fun q hq => Upd.none (S := []) u24 (by simp) (m5.new q hq)⟩
  rintro _ fe H3 ⟨b9, a3, c3, rfl, u3, r9, r3, n3⟩
  have hx3 := hx2.upd0 u3
  have l8 : H2 b8 ≠ none := o8.there rfl
  have o8 := o8.upd u3 (Off.nil _)
  have l8' : H3 b8 ≠ none := o8.there rfl
  have em := fmax_nat rq 1 (b := 1) rfl
  (repeat first | refine HReg.step ?_ | refine HCode.step ?_)
  refine HLoadN_row r9 rfl ?_
  (repeat first | refine HReg.step ?_ | refine HCode.step ?_)
  refine HReq.mk (by decide) ?_
  (repeat first | refine HReg.step ?_ | refine HCode.step ?_)
  refine HNew.mk fun b10 hb10 => ?_
  have hl10 : ∀ V : VerA, RowAt (H3.upd b10 (.cells V.cells.toArray 52)) (some ⟨b10, 0, none⟩) (versV [V]) := fun V => by
    show RowAt _ _ (V.cells ++ [])
    rw [List.append_nil]; exact RowAt.of_cells (upd_same _ _ _)
  have r10 := hl10 ⟨⟨p.1, x.id, p.2, x.ks⟩, a3, c3⟩
  have u10 : Upd [] H3 (H3.upd b10 (.cells (VerA.cells ⟨⟨p.1, x.id, p.2, x.ks⟩, a3, c3⟩).toArray 52)) := Upd.new hb10 _
  have hH4' : H3.upd b10 (.cells [Value.string (bs p.1), .int .u64 (x.id : Int), .string (bs p.2), .slice a3 x.ks.length c3].toArray 52) = H3.upd b10 (.cells (VerA.cells ⟨⟨p.1, x.id, p.2, x.ks⟩, a3, c3⟩).toArray 52) := rfl
  rw [hH4']
  generalize hH4 : H3.upd b10 (.cells (VerA.cells ⟨⟨p.1, x.id, p.2, x.ks⟩, a3, c3⟩).toArray 52) = H4 at r10 u10
  have hx4 := hx3.upd0 u10
  have o8 := o8.upd u10 (Off.nil _)
  have r3 := r3.upd (S := []) u10 (.inr (Off.nil _))
  (repeat first | refine HReg.step ?_ | refine HCode.step ?_)
  rw [and15, em]
  refine store_msg (x := ⟨7, cl % 16, max rq 1, 0, [], none, 0, [], none, 0, [], none, 0, [⟨⟨p.1, x.id, p.2, x.ks⟩, a3, c3⟩], some ⟨b10, 0, none⟩, 1⟩) o8 rfl fun H5 o5 u5 => ?_
  (repeat first | refine HReg.step ?_ | refine HCode.step ?_)
  refine HLoadN_row o5.rows rfl ?_
  have off3 : Off [b8] a3 := fun q hq hb => l8 (by rw [← List.mem_singleton.1 hb]; exact n3 q hq)
  have off10 : Off [b8] (some ⟨b10, 0, none⟩) := fun q hq hb => by
    cases hq
    have e : b10 = b8 := List.mem_singleton.1 hb
    rw [e] at hb10
    exact l8' hb10
  refine hk ⟨7, cl % 16, max rq 1, 0, [], none, 0, [], none, 0, [], none, 0, [⟨⟨p.1, x.id, p.2, x.ks⟩, a3, c3⟩], some ⟨b10, 0, none⟩, 1⟩ H5 rfl ⟨(OwnRow.nil H5 64 2).rows, (OwnRow.nil H5 9 1).rows, (OwnRow.nil H5 46 2).rows, ?_, fun v hv => ?_, Nat.zero_le _, Nat.zero_le _, Nat.zero_le _, by show 1 ≤ _; omega, fun v hv => ?_⟩ ?_
  · exact r10.upd u5 (.inr off10)
  · rw [List.mem_singleton.1 hv]
    exact r3.upd u5 (.inr off3)
  · rw [List.mem_singleton.1 hv]
    exact hnk
  · exact u1.trans (Upd.drop (u2.trans (u3.trans u10)) u5 (fun q hq => by rw [List.mem_singleton.1 hq]; exact hb8))
end
end Go.Proofs.Ytlgncabjphokjaa
