import Derived.Test.YtfcmjomnpahllaaW7
namespace Go.Proofs.Ytfcmjomnpahllaa
open Go Hv
set_option linter.unusedVariables false
set_option linter.unusedSimpArgs false
set_option maxRecDepth 10000
set_option maxHeartbeats 4000000
/-! WalTorn. CUT2 -/
abbrev d0 : Fd := ⟨false, false, 0, 0, 0⟩
def lgN : ByteArray := ⟨#[108, 111, 103]⟩
theorem lgN_ok : 1 ≤ lgN.size ∧ lgN.size ≤ 32 := by decide
theorem frG_len {rs : List Rec} (h : ∀ r ∈ rs, Good r) : (frG rs).length ≤ rs.length * 1048584 := by
  induction rs with
  | nil => exact Nat.zero_le _
  | cons r rs ih =>
    have h1 := ih fun x hx => h x (List.mem_cons_of_mem _ hx)
    have h2 := (h r (by simp)).len
    rw [frG_cons, List.length_append, frame_len, List.length_cons]
    omega
theorem HLoadN_rows {Hs : List Heap} {b off n : Nat} {vs : List Value} {K : List Value → Prop} (h : ∀ H ∈ Hs, RowAt H (some ⟨b, off, none⟩) vs) (hl : vs.length = n) (hk : K vs) : HLoadN Hs b off n K :=
  ⟨vs, fun H' hH j v hv => by exact (h H' hH).get hv, hl, hk⟩
/-- What a log's bytes are before a row of records is told of them. -/
structure TwS (L1 : Heap) (qs : List PRec) (g r : Nat) (aW : Option Addr) (cW : Nat) (W : List PRec) (fl : List Fl) (H : Heap) : Prop where
  D : ∃ v, DiskAt eH H g r (one d0 lgN v) fl ∧ v.getD ([], 0) = (frG (W.map PRec.r), 0)
  row : OwnRow (offD H g r fl) 28 4 aW W.length cW (recsV W)
  new : ∀ b ∈ blk aW, L1 b = none
  u : Upd [] L1 (offD H g r fl)
  mem : ∀ q ∈ W, q ∈ qs ∧ Good q.r
structure TwInv (L1 : Heap) (qs : List PRec) (g r : Nat) (m : Nat) (vs : List Value) (H : Heap) : Prop where
  ex : ∃ (i : Nat) (aW : Option Addr) (cW : Nat) (W : List PRec) (fl : List Fl), vs = [.slice aW W.length cW, .int .i64 ((frG (W.map PRec.r)).length : Int), .int .i64 (i : Int)] ∧ m + i = qs.length ∧ W.length ≤ i ∧ i ≤ 100 ∧ TwS L1 qs g r aW cW W fl H
structure TwEnd (L1 : Heap) (qs : List PRec) (g r : Nat) (vs : List Value) (H : Heap) : Prop where
  ex : ∃ (aW : Option Addr) (cW : Nat) (W : List PRec) (fl : List Fl), vs = [.slice aW W.length cW, .int .i64 ((frG (W.map PRec.r)).length : Int)] ∧ W.length ≤ 100 ∧ TwS L1 qs g r aW cW W fl H
structure TlJ (L1 : Heap) (g r : Nat) (b4 : Nat) (s : St) (fl : List Fl) (vs : List Value) (H : Heap) : Prop where
  ex : ∃ (x : Rec) (ap : Option Addr) (cp : Nat) (ak : Option Addr) (ck : Nat) (aB : Option Addr) (cB : Nat), vs = [.slice aB (frameR (pay x)).length cB, .int .i64 0] ∧ Good x ∧ DiskAt eH H g r s fl ∧ OwnRow (offD H g r fl) 28 1 (some ⟨b4, 0, none⟩) 4 4 (rcells x ap cp ak ck) ∧ RecIn (offD H g r fl) x ap ak ∧ Upd [b4] L1 (offD H g r fl) ∧ RowAt (offD H g r fl) aB (u8s (frameR (pay x))) ∧ (frameR (pay x)).length ≤ cB ∧ ∀ b ∈ blk aB, b ∉ dblk g r fl
section
variable {H : Heap} {K : Value → Heap → Prop}
theorem walTorn_t {a ap ak : Option Addr} {n c cp ck : Nat} {qs : List PRec} {x : Rec} {z : Int} (hq : Recs H a qs) (hn : qs.length = n) (hnl : n ≤ 4000000000000000000) (hid : ∀ q ∈ qs, q.r.id < 18446744073709551616) (hx : RecIn H x ap ak) (hxi : x.id < 18446744073709551616) (hz1 : -9223372036854775808 ≤ z) (hz2 : z ≤ 9223372036854775807)
    (hk : ∀ H', Upd [] H H' → K (.bool true) H') : HCalls Try.prog 3 [.slice a n c, rv x ap cp ak ck, .int .i64 z] H K := by
  subst hn
  refine hcalls (fn := Try.f3) [(31, [(0, 0), (1, 0), (2, 0), (4, 0), (5, 1), (6, 0), (7, 2), (8, 0), (9, 0), (3, 4), (10, 0), (11, 0), (12, 0)]), (1031, [(0, 0), (1, 0), (2, 0), (4, 0), (7, 1), (8, 0), (5, 2), (6, 0), (9, 0), (3, 4), (10, 0), (11, 0), (12, 0)]), (3031, [(0, 0), (1, 0), (2, 0), (7, 0), (8, 0), (4, 0), (5, 2), (6, 0), (9, 0), (3, 4), (10, 0), (11, 0), (12, 0)])] mixed Try.func3 rfl rfl (by decide +kernel) ?_
  (repeat first | refine HReg.step ?_ | refine HCode.step ?_)
  refine HNew.mk fun b4 hb4 => ?_
  have hH' : H.upd b4 (.cells [Value.int .i64 x.kind, .int .u64 (x.id : Int), .slice ap x.ps.length cp, .slice ak x.ks.length ck].toArray 28) = H.upd b4 (.cells (rcells x ap cp ak ck).toArray 28) := rfl
  have m4 : Made H (H.upd b4 (.cells (rcells x ap cp ak ck).toArray 28)) 28 1 (some ⟨b4, 0, none⟩) 4 4 (rcells x ap cp ak ck) := ⟨OwnRow.lit (upd_same _ _ _) rfl, Upd.new hb4 _, fun q hq => by cases hq; exact hb4⟩
  rw [hH']
  generalize hH0 : H.upd b4 (.cells (rcells x ap cp ak ck).toArray 28) = H0 at m4
  (repeat first | refine HReg.step ?_ | refine HCode.step ?_)
  refine HCall.mk ⟨Try.f7, Try.func7, by rfl, by rfl⟩ ?_
  refine alive_t fun H1 u1 => ?_
  (repeat first | refine HReg.step ?_ | refine HCode.step ?_)
  refine HCall.mk ⟨Try.f8, Try.func8, by rfl, by rfl⟩ ?_
  refine wnew_t fun g r H2 D2 u2 => ?_
  rw [one_zero lgN] at D2
  have w02 := (m4.upd.trans u1).trans u2
  obtain ⟨L1, hL1⟩ : ∃ L, L = offD H2 g r [] := ⟨_, rfl⟩
  rw [← hL1] at w02
  have hqL : Recs L1 a qs := hq.upd0 w02
  have hxL : RecIn L1 x ap ak := hx.upd0 w02
  have oB : OwnRow L1 28 1 (some ⟨b4, 0, none⟩) 4 4 (rcells x ap cp ak ck) := by rw [hL1]; exact (m4.own.upd u1 (Off.nil _)).upd u2 (Off.nil _)
  ((repeat refine HReg.step ?_); first | (show HCode _ _ _ (Code.seq (Code.seq (Code.region _ _ _) (Code.block _ _)) _) _ _ _; refine hcutC (a := Code.seq (Code.region _ _ _) (Code.block _ _)) [6, 9, 10, 11, 12, 13, 28, 29, 30, 31, 32, 33, 34, 35, 36, 37, 38, 39, 40, 41, 42, 43, 44, 45, 46, 47, 48, 49, 50, 51, 52, 53, 54, 55, 56, 57, 58, 59, 60, 61, 62, 63] [9, 10] (TwEnd L1 qs g r) rfl (by repeat' first | exact Resp.retD | exact Resp1.valuesK | refine Resp.blockD ?_ | refine Resp.thenD ?_ ?_ | refine Resp.hcode ?_) ?_ ?_) | (refine HCode.step ?_; (repeat refine HReg.step ?_); first | (show HCode _ _ _ (Code.seq (Code.seq (Code.region _ _ _) (Code.block _ _)) _) _ _ _; refine hcutC (a := Code.seq (Code.region _ _ _) (Code.block _ _)) [6, 9, 10, 11, 12, 13, 28, 29, 30, 31, 32, 33, 34, 35, 36, 37, 38, 39, 40, 41, 42, 43, 44, 45, 46, 47, 48, 49, 50, 51, 52, 53, 54, 55, 56, 57, 58, 59, 60, 61, 62, 63] [9, 10] (TwEnd L1 qs g r) rfl (by repeat' first | exact Resp.retD | exact Resp1.valuesK | refine Resp.blockD ?_ | refine Resp.thenD ?_ ?_ | refine Resp.hcode ?_) ?_ ?_) | (refine HCode.step ?_; (repeat refine HReg.step ?_); first | (show HCode _ _ _ (Code.seq (Code.seq (Code.region _ _ _) (Code.block _ _)) _) _ _ _; refine hcutC (a := Code.seq (Code.region _ _ _) (Code.block _ _)) [6, 9, 10, 11, 12, 13, 28, 29, 30, 31, 32, 33, 34, 35, 36, 37, 38, 39, 40, 41, 42, 43, 44, 45, 46, 47, 48, 49, 50, 51, 52, 53, 54, 55, 56, 57, 58, 59, 60, 61, 62, 63] [9, 10] (TwEnd L1 qs g r) rfl (by repeat' first | exact Resp.retD | exact Resp1.valuesK | refine Resp.blockD ?_ | refine Resp.thenD ?_ ?_ | refine Resp.hcode ?_) ?_ ?_) | (refine HCode.step ?_; (repeat refine HReg.step ?_); first | (show HCode _ _ _ (Code.seq (Code.seq (Code.region _ _ _) (Code.block _ _)) _) _ _ _; refine hcutC (a := Code.seq (Code.region _ _ _) (Code.block _ _)) [6, 9, 10, 11, 12, 13, 28, 29, 30, 31, 32, 33, 34, 35, 36, 37, 38, 39, 40, 41, 42, 43, 44, 45, 46, 47, 48, 49, 50, 51, 52, 53, 54, 55, 56, 57, 58, 59, 60, 61, 62, 63] [9, 10] (TwEnd L1 qs g r) rfl (by repeat' first | exact Resp.retD | exact Resp1.valuesK | refine Resp.blockD ?_ | refine Resp.thenD ?_ ?_ | refine Resp.hcode ?_) ?_ ?_) | (refine HCode.step ?_; (repeat refine HReg.step ?_); first | (show HCode _ _ _ (Code.seq (Code.seq (Code.region _ _ _) (Code.block _ _)) _) _ _ _; refine hcutC (a := Code.seq (Code.region _ _ _) (Code.block _ _)) [6, 9, 10, 11, 12, 13, 28, 29, 30, 31, 32, 33, 34, 35, 36, 37, 38, 39, 40, 41, 42, 43, 44, 45, 46, 47, 48, 49, 50, 51, 52, 53, 54, 55, 56, 57, 58, 59, 60, 61, 62, 63] [9, 10] (TwEnd L1 qs g r) rfl (by repeat' first | exact Resp.retD | exact Resp1.valuesK | refine Resp.blockD ?_ | refine Resp.thenD ?_ ?_ | refine Resp.hcode ?_) ?_ ?_) | (refine HCode.step ?_; (repeat refine HReg.step ?_); first | (show HCode _ _ _ (Code.seq (Code.seq (Code.region _ _ _) (Code.block _ _)) _) _ _ _; refine hcutC (a := Code.seq (Code.region _ _ _) (Code.block _ _)) [6, 9, 10, 11, 12, 13, 28, 29, 30, 31, 32, 33, 34, 35, 36, 37, 38, 39, 40, 41, 42, 43, 44, 45, 46, 47, 48, 49, 50, 51, 52, 53, 54, 55, 56, 57, 58, 59, 60, 61, 62, 63] [9, 10] (TwEnd L1 qs g r) rfl (by repeat' first | exact Resp.retD | exact Resp1.valuesK | refine Resp.blockD ?_ | refine Resp.thenD ?_ ?_ | refine Resp.hcode ?_) ?_ ?_) | (refine HCode.step ?_; (repeat refine HReg.step ?_); first | (show HCode _ _ _ (Code.seq (Code.seq (Code.region _ _ _) (Code.block _ _)) _) _ _ _; refine hcutC (a := Code.seq (Code.region _ _ _) (Code.block _ _)) [6, 9, 10, 11, 12, 13, 28, 29, 30, 31, 32, 33, 34, 35, 36, 37, 38, 39, 40, 41, 42, 43, 44, 45, 46, 47, 48, 49, 50, 51, 52, 53, 54, 55, 56, 57, 58, 59, 60, 61, 62, 63] [9, 10] (TwEnd L1 qs g r) rfl (by repeat' first | exact Resp.retD | exact Resp1.valuesK | refine Resp.blockD ?_ | refine Resp.thenD ?_ ?_ | refine Resp.hcode ?_) ?_ ?_) | (refine HCode.step ?_; (repeat refine HReg.step ?_); first | (show HCode _ _ _ (Code.seq (Code.seq (Code.region _ _ _) (Code.block _ _)) _) _ _ _; refine hcutC (a := Code.seq (Code.region _ _ _) (Code.block _ _)) [6, 9, 10, 11, 12, 13, 28, 29, 30, 31, 32, 33, 34, 35, 36, 37, 38, 39, 40, 41, 42, 43, 44, 45, 46, 47, 48, 49, 50, 51, 52, 53, 54, 55, 56, 57, 58, 59, 60, 61, 62, 63] [9, 10] (TwEnd L1 qs g r) rfl (by repeat' first | exact Resp.retD | exact Resp1.valuesK | refine Resp.blockD ?_ | refine Resp.thenD ?_ ?_ | refine Resp.hcode ?_) ?_ ?_) | (refine HCode.step ?_; (repeat refine HReg.step ?_); first | (show HCode _ _ _ (Code.seq (Code.seq (Code.region _ _ _) (Code.block _ _)) _) _ _ _; refine hcutC (a := Code.seq (Code.region _ _ _) (Code.block _ _)) [6, 9, 10, 11, 12, 13, 28, 29, 30, 31, 32, 33, 34, 35, 36, 37, 38, 39, 40, 41, 42, 43, 44, 45, 46, 47, 48, 49, 50, 51, 52, 53, 54, 55, 56, 57, 58, 59, 60, 61, 62, 63] [9, 10] (TwEnd L1 qs g r) rfl (by repeat' first | exact Resp.retD | exact Resp1.valuesK | refine Resp.blockD ?_ | refine Resp.thenD ?_ ?_ | refine Resp.hcode ?_) ?_ ?_) | (refine HCode.step ?_; (repeat refine HReg.step ?_); first | (show HCode _ _ _ (Code.seq (Code.seq (Code.region _ _ _) (Code.block _ _)) _) _ _ _; refine hcutC (a := Code.seq (Code.region _ _ _) (Code.block _ _)) [6, 9, 10, 11, 12, 13, 28, 29, 30, 31, 32, 33, 34, 35, 36, 37, 38, 39, 40, 41, 42, 43, 44, 45, 46, 47, 48, 49, 50, 51, 52, 53, 54, 55, 56, 57, 58, 59, 60, 61, 62, 63] [9, 10] (TwEnd L1 qs g r) rfl (by repeat' first | exact Resp.retD | exact Resp1.valuesK | refine Resp.blockD ?_ | refine Resp.thenD ?_ ?_ | refine Resp.hcode ?_) ?_ ?_) | (refine HCode.step ?_; (repeat refine HReg.step ?_); first | (show HCode _ _ _ (Code.seq (Code.seq (Code.region _ _ _) (Code.block _ _)) _) _ _ _; refine hcutC (a := Code.seq (Code.region _ _ _) (Code.block _ _)) [6, 9, 10, 11, 12, 13, 28, 29, 30, 31, 32, 33, 34, 35, 36, 37, 38, 39, 40, 41, 42, 43, 44, 45, 46, 47, 48, 49, 50, 51, 52, 53, 54, 55, 56, 57, 58, 59, 60, 61, 62, 63] [9, 10] (TwEnd L1 qs g r) rfl (by repeat' first | exact Resp.retD | exact Resp1.valuesK | refine Resp.blockD ?_ | refine Resp.thenD ?_ ?_ | refine Resp.hcode ?_) ?_ ?_) | (refine HCode.step ?_; (repeat refine HReg.step ?_); first | (show HCode _ _ _ (Code.seq (Code.seq (Code.region _ _ _) (Code.block _ _)) _) _ _ _; refine hcutC (a := Code.seq (Code.region _ _ _) (Code.block _ _)) [6, 9, 10, 11, 12, 13, 28, 29, 30, 31, 32, 33, 34, 35, 36, 37, 38, 39, 40, 41, 42, 43, 44, 45, 46, 47, 48, 49, 50, 51, 52, 53, 54, 55, 56, 57, 58, 59, 60, 61, 62, 63] [9, 10] (TwEnd L1 qs g r) rfl (by repeat' first | exact Resp.retD | exact Resp1.valuesK | refine Resp.blockD ?_ | refine Resp.thenD ?_ ?_ | refine Resp.hcode ?_) ?_ ?_) | (refine HCode.step ?_; (repeat refine HReg.step ?_); first | (show HCode _ _ _ (Code.seq (Code.seq (Code.region _ _ _) (Code.block _ _)) _) _ _ _; refine hcutC (a := Code.seq (Code.region _ _ _) (Code.block _ _)) [6, 9, 10, 11, 12, 13, 28, 29, 30, 31, 32, 33, 34, 35, 36, 37, 38, 39, 40, 41, 42, 43, 44, 45, 46, 47, 48, 49, 50, 51, 52, 53, 54, 55, 56, 57, 58, 59, 60, 61, 62, 63] [9, 10] (TwEnd L1 qs g r) rfl (by repeat' first | exact Resp.retD | exact Resp1.valuesK | refine Resp.blockD ?_ | refine Resp.thenD ?_ ?_ | refine Resp.hcode ?_) ?_ ?_) | (refine HCode.step ?_; (repeat refine HReg.step ?_); first | (show HCode _ _ _ (Code.seq (Code.seq (Code.region _ _ _) (Code.block _ _)) _) _ _ _; refine hcutC (a := Code.seq (Code.region _ _ _) (Code.block _ _)) [6, 9, 10, 11, 12, 13, 28, 29, 30, 31, 32, 33, 34, 35, 36, 37, 38, 39, 40, 41, 42, 43, 44, 45, 46, 47, 48, 49, 50, 51, 52, 53, 54, 55, 56, 57, 58, 59, 60, 61, 62, 63] [9, 10] (TwEnd L1 qs g r) rfl (by repeat' first | exact Resp.retD | exact Resp1.valuesK | refine Resp.blockD ?_ | refine Resp.thenD ?_ ?_ | refine Resp.hcode ?_) ?_ ?_) | (refine HCode.step ?_; (repeat refine HReg.step ?_); first | (show HCode _ _ _ (Code.seq (Code.seq (Code.region _ _ _) (Code.block _ _)) _) _ _ _; refine hcutC (a := Code.seq (Code.region _ _ _) (Code.block _ _)) [6, 9, 10, 11, 12, 13, 28, 29, 30, 31, 32, 33, 34, 35, 36, 37, 38, 39, 40, 41, 42, 43, 44, 45, 46, 47, 48, 49, 50, 51, 52, 53, 54, 55, 56, 57, 58, 59, 60, 61, 62, 63] [9, 10] (TwEnd L1 qs g r) rfl (by repeat' first | exact Resp.retD | exact Resp1.valuesK | refine Resp.blockD ?_ | refine Resp.thenD ?_ ?_ | refine Resp.hcode ?_) ?_ ?_) | (refine HCode.step ?_; (repeat refine HReg.step ?_); first | (show HCode _ _ _ (Code.seq (Code.seq (Code.region _ _ _) (Code.block _ _)) _) _ _ _; refine hcutC (a := Code.seq (Code.region _ _ _) (Code.block _ _)) [6, 9, 10, 11, 12, 13, 28, 29, 30, 31, 32, 33, 34, 35, 36, 37, 38, 39, 40, 41, 42, 43, 44, 45, 46, 47, 48, 49, 50, 51, 52, 53, 54, 55, 56, 57, 58, 59, 60, 61, 62, 63] [9, 10] (TwEnd L1 qs g r) rfl (by repeat' first | exact Resp.retD | exact Resp1.valuesK | refine Resp.blockD ?_ | refine Resp.thenD ?_ ?_ | refine Resp.hcode ?_) ?_ ?_) | (refine HCode.step ?_; (repeat refine HReg.step ?_); first | (show HCode _ _ _ (Code.seq (Code.seq (Code.region _ _ _) (Code.block _ _)) _) _ _ _; refine hcutC (a := Code.seq (Code.region _ _ _) (Code.block _ _)) [6, 9, 10, 11, 12, 13, 28, 29, 30, 31, 32, 33, 34, 35, 36, 37, 38, 39, 40, 41, 42, 43, 44, 45, 46, 47, 48, 49, 50, 51, 52, 53, 54, 55, 56, 57, 58, 59, 60, 61, 62, 63] [9, 10] (TwEnd L1 qs g r) rfl (by repeat' first | exact Resp.retD | exact Resp1.valuesK | refine Resp.blockD ?_ | refine Resp.thenD ?_ ?_ | refine Resp.hcode ?_) ?_ ?_) | (refine HCode.step ?_; (repeat refine HReg.step ?_); first | (show HCode _ _ _ (Code.seq (Code.seq (Code.region _ _ _) (Code.block _ _)) _) _ _ _; refine hcutC (a := Code.seq (Code.region _ _ _) (Code.block _ _)) [6, 9, 10, 11, 12, 13, 28, 29, 30, 31, 32, 33, 34, 35, 36, 37, 38, 39, 40, 41, 42, 43, 44, 45, 46, 47, 48, 49, 50, 51, 52, 53, 54, 55, 56, 57, 58, 59, 60, 61, 62, 63] [9, 10] (TwEnd L1 qs g r) rfl (by repeat' first | exact Resp.retD | exact Resp1.valuesK | refine Resp.blockD ?_ | refine Resp.thenD ?_ ?_ | refine Resp.hcode ?_) ?_ ?_) | (refine HCode.step ?_; (repeat refine HReg.step ?_); first | (show HCode _ _ _ (Code.seq (Code.seq (Code.region _ _ _) (Code.block _ _)) _) _ _ _; refine hcutC (a := Code.seq (Code.region _ _ _) (Code.block _ _)) [6, 9, 10, 11, 12, 13, 28, 29, 30, 31, 32, 33, 34, 35, 36, 37, 38, 39, 40, 41, 42, 43, 44, 45, 46, 47, 48, 49, 50, 51, 52, 53, 54, 55, 56, 57, 58, 59, 60, 61, 62, 63] [9, 10] (TwEnd L1 qs g r) rfl (by repeat' first | exact Resp.retD | exact Resp1.valuesK | refine Resp.blockD ?_ | refine Resp.thenD ?_ ?_ | refine Resp.hcode ?_) ?_ ?_) | (refine HCode.step ?_; (repeat refine HReg.step ?_); first | (show HCode _ _ _ (Code.seq (Code.seq (Code.region _ _ _) (Code.block _ _)) _) _ _ _; refine hcutC (a := Code.seq (Code.region _ _ _) (Code.block _ _)) [6, 9, 10, 11, 12, 13, 28, 29, 30, 31, 32, 33, 34, 35, 36, 37, 38, 39, 40, 41, 42, 43, 44, 45, 46, 47, 48, 49, 50, 51, 52, 53, 54, 55, 56, 57, 58, 59, 60, 61, 62, 63] [9, 10] (TwEnd L1 qs g r) rfl (by repeat' first | exact Resp.retD | exact Resp1.valuesK | refine Resp.blockD ?_ | refine Resp.thenD ?_ ?_ | refine Resp.hcode ?_) ?_ ?_) | (refine HCode.step ?_; (repeat refine HReg.step ?_); (show HCode _ _ _ (Code.seq (Code.seq (Code.region _ _ _) (Code.block _ _)) _) _ _ _; refine hcutC (a := Code.seq (Code.region _ _ _) (Code.block _ _)) [6, 9, 10, 11, 12, 13, 28, 29, 30, 31, 32, 33, 34, 35, 36, 37, 38, 39, 40, 41, 42, 43, 44, 45, 46, 47, 48, 49, 50, 51, 52, 53, 54, 55, 56, 57, 58, 59, 60, 61, 62, 63] [9, 10] (TwEnd L1 qs g r) rfl (by repeat' first | exact Resp.retD | exact Resp1.valuesK | refine Resp.blockD ?_ | refine Resp.thenD ?_ ?_ | refine Resp.hcode ?_) ?_ ?_))))))))))))))))))))))
  rotate_left
  · rintro _ fe H3 ⟨aW, cW, W, fl, rfl, hW, s⟩
    obtain ⟨v, D3, hv⟩ := s.D
    have u13 := s.u
    have hWg : ∀ y ∈ W.map PRec.r, Good y := fun y hy => by
      obtain ⟨q, hq, rfl⟩ := List.mem_map.1 hy
      exact (s.mem q hq).2
    have hWl := frG_len hWg
    rw [List.length_map] at hWl
    have o4 := oB.upd u13 (Off.nil _)
    have n4 : b4 ∉ dblk g r fl := (off_live D3 (o4.there rfl)).1
    have hx3 : RecIn H3 x ap ak := (hxL.upd0 u13).upd0 (offD_up H3)
    (repeat first | refine HReg.step ?_ | refine HCode.step ?_)
    refine HLoadN_row (ownrow_up o4).rows rfl ?_
    (repeat first | refine HReg.step ?_ | refine HCode.step ?_)
    refine HCall.mk ⟨Try.f10, Try.func10, by rfl, by rfl⟩ ?_
    refine own_t hx3 fun bp dp bk dk H4 O4 u4 => ?_
    (repeat first | refine HReg.step ?_ | refine HCode.step ?_)
    refine HCall.mk ⟨Try.f9, Try.func9, by rfl, by rfl⟩ ?_
    refine build_t O4.recIn fun aB cB H5 m5 => ?_
    have D5 := D3.upd0 (u4.trans m5.upd)
    have u35 := less0 (B := dblk g r fl) (u4.trans m5.upd)
    have o5 := o4.upd u35 (Off.nil _)
    have fB : ∀ b ∈ blk aB, b ∉ dblk g r fl := fun b hb => by
      obtain ⟨p, hp, rfl⟩ := blk_of hb
      exact (D3.upd0 u4).fresh (m5.new p hp)
    ((repeat refine HReg.step ?_); first | (show HCode _ _ _ (Code.seq (Code.seq (Code.region _ _ _) (Code.cond _ _ _)) _) _ _ _; refine hcutC (a := Code.seq (Code.region _ _ _) (Code.cond _ _ _)) [14, 15, 70, 71, 72, 73, 74, 75, 76, 77, 78] [14, 15] (TlJ (offD H3 g r fl) g r b4 (one d0 lgN v) fl) rfl (by repeat' first | exact Resp.retD | exact Resp1.valuesK | refine Resp.blockD ?_ | refine Resp.thenD ?_ ?_ | refine Resp.hcode ?_) ?_ ?_) | (refine HCode.step ?_; (repeat refine HReg.step ?_); first | (show HCode _ _ _ (Code.seq (Code.seq (Code.region _ _ _) (Code.cond _ _ _)) _) _ _ _; refine hcutC (a := Code.seq (Code.region _ _ _) (Code.cond _ _ _)) [14, 15, 70, 71, 72, 73, 74, 75, 76, 77, 78] [14, 15] (TlJ (offD H3 g r fl) g r b4 (one d0 lgN v) fl) rfl (by repeat' first | exact Resp.retD | exact Resp1.valuesK | refine Resp.blockD ?_ | refine Resp.thenD ?_ ?_ | refine Resp.hcode ?_) ?_ ?_) | (refine HCode.step ?_; (repeat refine HReg.step ?_); first | (show HCode _ _ _ (Code.seq (Code.seq (Code.region _ _ _) (Code.cond _ _ _)) _) _ _ _; refine hcutC (a := Code.seq (Code.region _ _ _) (Code.cond _ _ _)) [14, 15, 70, 71, 72, 73, 74, 75, 76, 77, 78] [14, 15] (TlJ (offD H3 g r fl) g r b4 (one d0 lgN v) fl) rfl (by repeat' first | exact Resp.retD | exact Resp1.valuesK | refine Resp.blockD ?_ | refine Resp.thenD ?_ ?_ | refine Resp.hcode ?_) ?_ ?_) | (refine HCode.step ?_; (repeat refine HReg.step ?_); first | (show HCode _ _ _ (Code.seq (Code.seq (Code.region _ _ _) (Code.cond _ _ _)) _) _ _ _; refine hcutC (a := Code.seq (Code.region _ _ _) (Code.cond _ _ _)) [14, 15, 70, 71, 72, 73, 74, 75, 76, 77, 78] [14, 15] (TlJ (offD H3 g r fl) g r b4 (one d0 lgN v) fl) rfl (by repeat' first | exact Resp.retD | exact Resp1.valuesK | refine Resp.blockD ?_ | refine Resp.thenD ?_ ?_ | refine Resp.hcode ?_) ?_ ?_) | (refine HCode.step ?_; (repeat refine HReg.step ?_); first | (show HCode _ _ _ (Code.seq (Code.seq (Code.region _ _ _) (Code.cond _ _ _)) _) _ _ _; refine hcutC (a := Code.seq (Code.region _ _ _) (Code.cond _ _ _)) [14, 15, 70, 71, 72, 73, 74, 75, 76, 77, 78] [14, 15] (TlJ (offD H3 g r fl) g r b4 (one d0 lgN v) fl) rfl (by repeat' first | exact Resp.retD | exact Resp1.valuesK | refine Resp.blockD ?_ | refine Resp.thenD ?_ ?_ | refine Resp.hcode ?_) ?_ ?_) | (refine HCode.step ?_; (repeat refine HReg.step ?_); first | (show HCode _ _ _ (Code.seq (Code.seq (Code.region _ _ _) (Code.cond _ _ _)) _) _ _ _; refine hcutC (a := Code.seq (Code.region _ _ _) (Code.cond _ _ _)) [14, 15, 70, 71, 72, 73, 74, 75, 76, 77, 78] [14, 15] (TlJ (offD H3 g r fl) g r b4 (one d0 lgN v) fl) rfl (by repeat' first | exact Resp.retD | exact Resp1.valuesK | refine Resp.blockD ?_ | refine Resp.thenD ?_ ?_ | refine Resp.hcode ?_) ?_ ?_) | (refine HCode.step ?_; (repeat refine HReg.step ?_); first | (show HCode _ _ _ (Code.seq (Code.seq (Code.region _ _ _) (Code.cond _ _ _)) _) _ _ _; refine hcutC (a := Code.seq (Code.region _ _ _) (Code.cond _ _ _)) [14, 15, 70, 71, 72, 73, 74, 75, 76, 77, 78] [14, 15] (TlJ (offD H3 g r fl) g r b4 (one d0 lgN v) fl) rfl (by repeat' first | exact Resp.retD | exact Resp1.valuesK | refine Resp.blockD ?_ | refine Resp.thenD ?_ ?_ | refine Resp.hcode ?_) ?_ ?_) | (refine HCode.step ?_; (repeat refine HReg.step ?_); first | (show HCode _ _ _ (Code.seq (Code.seq (Code.region _ _ _) (Code.cond _ _ _)) _) _ _ _; refine hcutC (a := Code.seq (Code.region _ _ _) (Code.cond _ _ _)) [14, 15, 70, 71, 72, 73, 74, 75, 76, 77, 78] [14, 15] (TlJ (offD H3 g r fl) g r b4 (one d0 lgN v) fl) rfl (by repeat' first | exact Resp.retD | exact Resp1.valuesK | refine Resp.blockD ?_ | refine Resp.thenD ?_ ?_ | refine Resp.hcode ?_) ?_ ?_) | (refine HCode.step ?_; (repeat refine HReg.step ?_); first | (show HCode _ _ _ (Code.seq (Code.seq (Code.region _ _ _) (Code.cond _ _ _)) _) _ _ _; refine hcutC (a := Code.seq (Code.region _ _ _) (Code.cond _ _ _)) [14, 15, 70, 71, 72, 73, 74, 75, 76, 77, 78] [14, 15] (TlJ (offD H3 g r fl) g r b4 (one d0 lgN v) fl) rfl (by repeat' first | exact Resp.retD | exact Resp1.valuesK | refine Resp.blockD ?_ | refine Resp.thenD ?_ ?_ | refine Resp.hcode ?_) ?_ ?_) | (refine HCode.step ?_; (repeat refine HReg.step ?_); first | (show HCode _ _ _ (Code.seq (Code.seq (Code.region _ _ _) (Code.cond _ _ _)) _) _ _ _; refine hcutC (a := Code.seq (Code.region _ _ _) (Code.cond _ _ _)) [14, 15, 70, 71, 72, 73, 74, 75, 76, 77, 78] [14, 15] (TlJ (offD H3 g r fl) g r b4 (one d0 lgN v) fl) rfl (by repeat' first | exact Resp.retD | exact Resp1.valuesK | refine Resp.blockD ?_ | refine Resp.thenD ?_ ?_ | refine Resp.hcode ?_) ?_ ?_) | (refine HCode.step ?_; (repeat refine HReg.step ?_); first | (show HCode _ _ _ (Code.seq (Code.seq (Code.region _ _ _) (Code.cond _ _ _)) _) _ _ _; refine hcutC (a := Code.seq (Code.region _ _ _) (Code.cond _ _ _)) [14, 15, 70, 71, 72, 73, 74, 75, 76, 77, 78] [14, 15] (TlJ (offD H3 g r fl) g r b4 (one d0 lgN v) fl) rfl (by repeat' first | exact Resp.retD | exact Resp1.valuesK | refine Resp.blockD ?_ | refine Resp.thenD ?_ ?_ | refine Resp.hcode ?_) ?_ ?_) | (refine HCode.step ?_; (repeat refine HReg.step ?_); first | (show HCode _ _ _ (Code.seq (Code.seq (Code.region _ _ _) (Code.cond _ _ _)) _) _ _ _; refine hcutC (a := Code.seq (Code.region _ _ _) (Code.cond _ _ _)) [14, 15, 70, 71, 72, 73, 74, 75, 76, 77, 78] [14, 15] (TlJ (offD H3 g r fl) g r b4 (one d0 lgN v) fl) rfl (by repeat' first | exact Resp.retD | exact Resp1.valuesK | refine Resp.blockD ?_ | refine Resp.thenD ?_ ?_ | refine Resp.hcode ?_) ?_ ?_) | (refine HCode.step ?_; (repeat refine HReg.step ?_); first | (show HCode _ _ _ (Code.seq (Code.seq (Code.region _ _ _) (Code.cond _ _ _)) _) _ _ _; refine hcutC (a := Code.seq (Code.region _ _ _) (Code.cond _ _ _)) [14, 15, 70, 71, 72, 73, 74, 75, 76, 77, 78] [14, 15] (TlJ (offD H3 g r fl) g r b4 (one d0 lgN v) fl) rfl (by repeat' first | exact Resp.retD | exact Resp1.valuesK | refine Resp.blockD ?_ | refine Resp.thenD ?_ ?_ | refine Resp.hcode ?_) ?_ ?_) | (refine HCode.step ?_; (repeat refine HReg.step ?_); first | (show HCode _ _ _ (Code.seq (Code.seq (Code.region _ _ _) (Code.cond _ _ _)) _) _ _ _; refine hcutC (a := Code.seq (Code.region _ _ _) (Code.cond _ _ _)) [14, 15, 70, 71, 72, 73, 74, 75, 76, 77, 78] [14, 15] (TlJ (offD H3 g r fl) g r b4 (one d0 lgN v) fl) rfl (by repeat' first | exact Resp.retD | exact Resp1.valuesK | refine Resp.blockD ?_ | refine Resp.thenD ?_ ?_ | refine Resp.hcode ?_) ?_ ?_) | (refine HCode.step ?_; (repeat refine HReg.step ?_); first | (show HCode _ _ _ (Code.seq (Code.seq (Code.region _ _ _) (Code.cond _ _ _)) _) _ _ _; refine hcutC (a := Code.seq (Code.region _ _ _) (Code.cond _ _ _)) [14, 15, 70, 71, 72, 73, 74, 75, 76, 77, 78] [14, 15] (TlJ (offD H3 g r fl) g r b4 (one d0 lgN v) fl) rfl (by repeat' first | exact Resp.retD | exact Resp1.valuesK | refine Resp.blockD ?_ | refine Resp.thenD ?_ ?_ | refine Resp.hcode ?_) ?_ ?_) | (refine HCode.step ?_; (repeat refine HReg.step ?_); first | (show HCode _ _ _ (Code.seq (Code.seq (Code.region _ _ _) (Code.cond _ _ _)) _) _ _ _; refine hcutC (a := Code.seq (Code.region _ _ _) (Code.cond _ _ _)) [14, 15, 70, 71, 72, 73, 74, 75, 76, 77, 78] [14, 15] (TlJ (offD H3 g r fl) g r b4 (one d0 lgN v) fl) rfl (by repeat' first | exact Resp.retD | exact Resp1.valuesK | refine Resp.blockD ?_ | refine Resp.thenD ?_ ?_ | refine Resp.hcode ?_) ?_ ?_) | (refine HCode.step ?_; (repeat refine HReg.step ?_); first | (show HCode _ _ _ (Code.seq (Code.seq (Code.region _ _ _) (Code.cond _ _ _)) _) _ _ _; refine hcutC (a := Code.seq (Code.region _ _ _) (Code.cond _ _ _)) [14, 15, 70, 71, 72, 73, 74, 75, 76, 77, 78] [14, 15] (TlJ (offD H3 g r fl) g r b4 (one d0 lgN v) fl) rfl (by repeat' first | exact Resp.retD | exact Resp1.valuesK | refine Resp.blockD ?_ | refine Resp.thenD ?_ ?_ | refine Resp.hcode ?_) ?_ ?_) | (refine HCode.step ?_; (repeat refine HReg.step ?_); first | (show HCode _ _ _ (Code.seq (Code.seq (Code.region _ _ _) (Code.cond _ _ _)) _) _ _ _; refine hcutC (a := Code.seq (Code.region _ _ _) (Code.cond _ _ _)) [14, 15, 70, 71, 72, 73, 74, 75, 76, 77, 78] [14, 15] (TlJ (offD H3 g r fl) g r b4 (one d0 lgN v) fl) rfl (by repeat' first | exact Resp.retD | exact Resp1.valuesK | refine Resp.blockD ?_ | refine Resp.thenD ?_ ?_ | refine Resp.hcode ?_) ?_ ?_) | (refine HCode.step ?_; (repeat refine HReg.step ?_); first | (show HCode _ _ _ (Code.seq (Code.seq (Code.region _ _ _) (Code.cond _ _ _)) _) _ _ _; refine hcutC (a := Code.seq (Code.region _ _ _) (Code.cond _ _ _)) [14, 15, 70, 71, 72, 73, 74, 75, 76, 77, 78] [14, 15] (TlJ (offD H3 g r fl) g r b4 (one d0 lgN v) fl) rfl (by repeat' first | exact Resp.retD | exact Resp1.valuesK | refine Resp.blockD ?_ | refine Resp.thenD ?_ ?_ | refine Resp.hcode ?_) ?_ ?_) | (refine HCode.step ?_; (repeat refine HReg.step ?_); first | (show HCode _ _ _ (Code.seq (Code.seq (Code.region _ _ _) (Code.cond _ _ _)) _) _ _ _; refine hcutC (a := Code.seq (Code.region _ _ _) (Code.cond _ _ _)) [14, 15, 70, 71, 72, 73, 74, 75, 76, 77, 78] [14, 15] (TlJ (offD H3 g r fl) g r b4 (one d0 lgN v) fl) rfl (by repeat' first | exact Resp.retD | exact Resp1.valuesK | refine Resp.blockD ?_ | refine Resp.thenD ?_ ?_ | refine Resp.hcode ?_) ?_ ?_) | (refine HCode.step ?_; (repeat refine HReg.step ?_); (show HCode _ _ _ (Code.seq (Code.seq (Code.region _ _ _) (Code.cond _ _ _)) _) _ _ _; refine hcutC (a := Code.seq (Code.region _ _ _) (Code.cond _ _ _)) [14, 15, 70, 71, 72, 73, 74, 75, 76, 77, 78] [14, 15] (TlJ (offD H3 g r fl) g r b4 (one d0 lgN v) fl) rfl (by repeat' first | exact Resp.retD | exact Resp1.valuesK | refine Resp.blockD ?_ | refine Resp.thenD ?_ ?_ | refine Resp.hcode ?_) ?_ ?_))))))))))))))))))))))
    · (repeat first | refine HReg.step ?_ | refine HCode.step ?_)
      by_cases he : (buildR x).2 = 0
      · have hg := good_build hxi he
        have hbq := build_good hg
        rw [hbq] at m5 ⊢
        dsimp only at m5 ⊢
        rw [eqB_self 0]
        (repeat first | refine HReg.step ?_ | refine HCode.step ?_)
        exact TlJ.mk ⟨x, ap, cp, ak, ck, aB, cB, rfl, hg, D5, o5, (hxL.upd0 u13).upd0 u35, u35.mono (by simp), (m5.own.less fB).rows, m5.own.le, fB⟩
      rw [show eqB (buildR x).2 0 = false from eqB_false.2 he]
      (repeat first | refine HReg.step ?_ | refine HCode.step ?_)
      refine HCall.mk ⟨Try.f12, Try.func12, by rfl, by rfl⟩ ?_
      refine commit_t (by decide) fun H6 u6 => ?_
      have D6 := D5.upd0 u6
      have o6 := o5.upd (less0 (B := dblk g r fl) u6) (Off.nil _)
      (repeat first | refine HReg.step ?_ | refine HCode.step ?_)
      refine store_rec (ownrow_up o6) rfl fun H7 o7 u7 => ?_
      have D7 := D6.upd u7 (fun b hb => by rw [List.mem_singleton.1 hb]; exact n4) (fun b hb => rfl)
      have ri : ∀ (H : Heap), RecIn H (commitR 7) none none := fun H => ⟨RowAt.nil _ _, RowAt.nil _ _, Nat.zero_le _, Nat.zero_le _⟩
      have G7 : Good (commitR 7) := commit_good (by decide) (by decide)
      (repeat first | refine HReg.step ?_ | refine HCode.step ?_)
      refine HLoadN_row o7.rows rfl ?_
      (repeat first | refine HReg.step ?_ | refine HCode.step ?_)
      refine HCall.mk ⟨Try.f10, Try.func10, by rfl, by rfl⟩ ?_
      refine own_t (ri H7) fun bp dp bk dk H8 O8 u8_ => ?_
      (repeat first | refine HReg.step ?_ | refine HCode.step ?_)
      refine HCall.mk ⟨Try.f9, Try.func9, by rfl, by rfl⟩ ?_
      refine build_t O8.recIn fun aC cC H9 m9 => ?_
      rw [build_good G7] at m9 ⊢
      dsimp only at m9 ⊢
      have D9 := D7.upd0 (u8_.trans m9.upd)
      have fC : ∀ b ∈ blk aC, b ∉ dblk g r fl := fun b hb => by
        obtain ⟨p, hp, rfl⟩ := blk_of hb
        exact (D7.upd0 u8_).fresh (m9.new p hp)
      (repeat first | refine HReg.step ?_ | refine HCode.step ?_)
      exact TlJ.mk ⟨commitR 7, none, 0, none, 0, aC, cC, rfl, G7, D9, (o7.upd (u8_.trans m9.upd) (Off.nil _)).less (fun b hb => by
        have e : b = b4 := by simpa [blk] using hb
        rw [e]; exact n4), ri _, ((u35.trans (less0 u6)).mono (by simp)).trans ((less0 u7).trans ((less0 (u8_.trans m9.upd)).mono (by simp))), (m9.own.less fC).rows, m9.own.le, fC⟩
    rintro _ fe2 H6 ⟨y, ap', cp', ak', ck', aC, cC, rfl, hg, D6, o6, i6, u16, rC, hcC, fC⟩
    have ylen : (frameR (pay y)).length ≤ 1048584 := by have := hg.len; rw [frame_len]; omega
    have ypos := frame_pos (pay y)
    (repeat first | refine HReg.step ?_ | refine HCode.step ?_)
    rw [eqB_self 0]
    (repeat first | refine HReg.step ?_ | refine HCode.step ?_)
    rw [show eqB (((frameR (pay y)).length : Nat) : Int) 0 = false from eqB_false.2 (by omega)]
    obtain ⟨j, hj, hjl⟩ : ∃ j : Nat, wr .i64 ((wr .u64 z).tmod (((frameR (pay y)).length : Nat) : Int)) = (j : Int) ∧ j < (frameR (pay y)).length := by
      have e1 : (wr .u64 z).tmod (((frameR (pay y)).length : Nat) : Int) = wr .u64 z % (((frameR (pay y)).length : Nat) : Int) := by rw [wr_u64, Int.tmod_eq_emod_of_nonneg (by omega)]
      have h1 : 0 ≤ wr .u64 z % (((frameR (pay y)).length : Nat) : Int) := Int.emod_nonneg _ (by omega)
      have h2 : wr .u64 z % (((frameR (pay y)).length : Nat) : Int) < (((frameR (pay y)).length : Nat) : Int) := Int.emod_lt_of_pos _ (by omega)
      generalize wr .u64 z % (((frameR (pay y)).length : Nat) : Int) = j at e1 h1 h2
      refine ⟨j.toNat, ?_, by omega⟩
      rw [e1, wr_i64 (by omega) (by omega)]; omega
    have wy : wr .u64 (((frameR (pay y)).length : Nat) : Int) = (((frameR (pay y)).length : Nat) : Int) := by rw [wr_u64]; omega
    (repeat first | refine HReg.step ?_ | refine HCode.step ?_)
    rw [wy]
    refine HReq.mk (by omega) ?_
    (repeat first | refine HReg.step ?_ | refine HCode.step ?_)
    rw [hj]
    refine HReq.mk ⟨by omega, by omega⟩ ?_
    (repeat first | refine HReg.step ?_ | refine HCode.step ?_)
    rw [Int.toNat_natCast]
    have hWlen : (frG (W.map PRec.r)).length ≤ 104858400 := by omega
    generalize hWr : W.map PRec.r = Wr at hv hWg hWlen ⊢
    have tkl : ((frameR (pay y)).take j).length = j := by rw [List.length_take]; omega
    have oW6 : OwnRow (offD H6 g r fl) 28 4 aW W.length cW (recsV W) := s.row.upd u16 (off_notin fun b hb hb' => by
      have e : b = b4 := by simpa using hb'
      have h1 := s.new b hb
      rw [e] at h1
      exact oB.there rfl h1)
    have uH6 : Upd [] H (offD H6 g r fl) := Upd.drop (w02.trans u13) u16 (fun b hb => by rw [List.mem_singleton.1 hb]; exact hb4)
    refine HCall.mk ⟨Try.f11, Try.func11, by rfl, by rfl⟩ ?_
    refine append_w (ys := (frameR (pay y)).take j) D6 (by rw [u8s_take]; exact (RowAt.up rC).take j) tkl (off_notin fC) (fun a b hab => ?_) (by omega) (one_append (one_call rfl) rfl lgN_ok (fun h => by have := h.2; simp at this)) fun fl7 H7 D7 u67 => ?_
    · change (one d0 lgN v).call.fs lgN = _ at hab
      rw [one_call rfl, one_fs] at hab
      have this : a = frG Wr := by
        rw [hab] at hv
        exact congrArg Prod.fst hv
      rw [this]; omega
    rw [hv] at D7
    dsimp only at D7
    have oW7 := oW6.upd u67 (Off.nil _)
    have uH7 := uH6.trans u67
    have o47 := o6.upd u67 (Off.nil _)
    have i7 := i6.upd0 u67
    have hsc : scanR (frG Wr ++ (frameR (pay y)).take j) = (Wr, (frG Wr).length) := scan_frames Wr hWg _ (parse_torn hg hjl)
    have hop : openW (one d0 lgN (some (frG Wr ++ (frameR (pay y)).take j, 0))) lgN = (0, (Wr, (frG Wr).length), one d0 lgN (some (frG Wr, 0))) := by
      have h := one_open (d := d0) (n := lgN) (y := 0) rfl rfl hsc (by rw [List.length_append]; omega) (Nat.zero_le _)
      rw [List.take_left, Nat.zero_min] at h
      exact h
    (repeat first | refine HReg.step ?_ | refine HCode.step ?_)
    rw [eqB_self 0]
    (repeat first | refine HReg.step ?_ | refine HCode.step ?_)
    refine HCall.mk ⟨Try.f13, Try.func13, by rfl, by rfl⟩ ?_
    refine open_w (n := lgN) D7 (by rw [one_readF rfl rfl]; show (frG Wr ++ (frameR (pay y)).take j).length ≤ _; rw [List.length_append]; omega) hop fun p8 a8 c8 qs8 fl8 H8 hq8 D8 u78 lg8 np8 R8 => ?_
    (repeat first | refine HReg.step ?_ | refine HCode.step ?_)
    refine HCall.mk ⟨Try.f14, Try.func14, by rfl, by rfl⟩ ?_
    refine size_w (n := lgN) (e := 0) (l := frG Wr) D8 (one_readF rfl rfl) (one_call rfl) fun fl9 H9 D9 u89 => ?_
    have lg9 := lg8.upd0 u89
    have R9 := R8.upd0 u89
    have oW9 := (oW7.upd u78 (Off.nil _)).upd u89 (Off.nil _)
    have uH9 := uH7.trans (u78.trans u89)
    have o49 := (o47.upd u78 (Off.nil _)).upd u89 (Off.nil _)
    have i9 := i7.upd0 (u78.trans u89)
    have n49 := (off_live D9 (o49.there rfl)).1
    have hW9 : Recs (offD H9 g r fl9) aW W := ⟨oW9.rows, fun q hq' => (hq.upd0 uH9).each q (s.mem q hq').1⟩
    (repeat first | refine HReg.step ?_ | refine HCode.step ?_)
    rw [eqB_self 0]
    (repeat first | refine HReg.step ?_ | refine HCode.step ?_)
    have l8 : qs8.length = W.length := by have := congrArg List.length (hWr.trans hq8); simpa using this.symm
    refine HCall.mk ⟨Try.f15, Try.func15, by rfl, by rfl⟩ ?_
    refine sameRs_t R9.up (hW9.upd0 (offD_up H9)) rfl rfl (by omega) (by rw [hWr]; exact hq8.symm) fun H10 u10 => ?_
    have D10 := D9.upd0 u10
    have lg10 := lg9.upd0 (less0 (B := dblk g r fl9) u10)
    have v710 := u78.trans (u89.trans (less0 (B := dblk g r fl9) u10))
    have o410 := o47.upd v710 (Off.nil _)
    have i10 := i7.upd0 v710
    (repeat first | refine HReg.step ?_ | refine HCode.step ?_)
    rw [eqB_self 0]
    (repeat first | refine HReg.step ?_ | refine HCode.step ?_)
    rw [eqB_self (((frG Wr).length : Nat) : Int)]
    (repeat first | refine HReg.step ?_ | refine HCode.step ?_)
    refine HCall.mk ⟨Try.f16, Try.func16, by rfl, by rfl⟩ ?_
    refine sizeL_t lg10 ?_
    (repeat first | refine HReg.step ?_ | refine HCode.step ?_)
    rw [eqB_self (((frG Wr).length : Nat) : Int)]
    (repeat first | refine HReg.step ?_ | refine HCode.step ?_)
    refine HLoadN_row (ownrow_up o410).rows rfl ?_
    (repeat first | refine HReg.step ?_ | refine HCode.step ?_)
    refine HCall.mk ⟨Try.f10, Try.func10, by rfl, by rfl⟩ ?_
    refine own_t (i10.upd0 (offD_up H10)) fun bp2 dp2 bk2 dk2 H11 O11 u11 => ?_
    have D11 := D10.upd0 u11
    have lg11 := lg10.upd0 (less0 (B := dblk g r fl9) u11)
    have i11 : RecIn (offD H11 g r fl9) y bp2 bk2 := ⟨(O11.p.less fun b hb => D10.fresh (O11.pn b hb)).rows, (O11.k.less fun b hb => D10.fresh (O11.kn b hb)).rows, O11.np, O11.nk⟩
    (repeat first | refine HReg.step ?_ | refine HCode.step ?_)
    refine HCall.mk ⟨Try.f17, Try.func17, by rfl, by rfl⟩ ?_
    refine appendL_w (x := y) D11 lg11 i11 (fun a b h => by rw [one_call rfl, one_fs] at h; cases h; omega) (by omega) (one_appendW (c := frG Wr) rfl rfl (by decide) lgN_ok hg rfl) fun fl12 H12 D12 u12 lg12 => ?_
    have v712 := Upd.drop (v710.trans (less0 (B := dblk g r fl9) u11)) u12 (fun b hb => by rw [List.mem_singleton.1 hb]; exact np8)
    have efr : frG Wr ++ frameR (pay y) = frG (Wr ++ [y]) := by rw [frG_append, frG_one]
    rw [efr] at D12
    have hWg2 : ∀ x ∈ Wr ++ [y], Good x := fun x hx => by
      rcases List.mem_append.1 hx with h | h
      · exact hWg x h
      · rw [List.mem_singleton.1 h]; exact hg
    have fl2 : (frG (Wr ++ [y])).length ≤ 110000000 := by rw [← efr, List.length_append]; omega
    generalize hW2 : Wr ++ [y] = W2 at D12 hWg2 fl2
    have hop2 : openW (one d0 lgN (some (frG W2, (frG W2).length))) lgN = (0, (W2, (frG W2).length), one d0 lgN (some (frG W2, (frG W2).length))) := by
      have h := one_open (d := d0) (n := lgN) (y := (frG W2).length) rfl rfl (scan_all hWg2) (Nat.le_refl _) (Nat.le_refl _)
      rw [List.take_length, Nat.min_self] at h
      exact h
    (repeat first | refine HReg.step ?_ | refine HCode.step ?_)
    rw [eqB_self 0]
    (repeat first | refine HReg.step ?_ | refine HCode.step ?_)
    refine HCall.mk ⟨Try.f13, Try.func13, by rfl, by rfl⟩ ?_
    refine open_w (n := lgN) D12 (by rw [one_readF rfl rfl]; show (frG W2).length ≤ _; omega) hop2 fun p13 a13 c13 qs13 fl13 H13 hq13 D13 u13' lg13 np13 R13 => ?_
    have v713 := v712.trans u13'
    have oW13 := ownrow_up (oW7.upd v713 (Off.nil _))
    have o413 := ownrow_up (o47.upd v713 (Off.nil _))
    have i13 := (i7.upd0 v713).upd0 (offD_up H13)
    have uH13 : Upd [] H H13 := (uH7.trans v713).trans (offD_up H13)
    have hW13 : Recs H13 aW W := ⟨oW13.rows, fun q hq' => (hq.upd0 uH13).each q (s.mem q hq').1⟩
    have hR13 := R13.up
    have l13 : qs13.length = W.length + 1 := by
      have h := congrArg List.length hq13
      rw [← hW2, ← hWr] at h
      simpa using h.symm
    have eq13 : ∀ q : PRec, q.r = y → qs13.map PRec.r = (W ++ [q]).map PRec.r := fun q hq => by
      rw [← hq13, ← hW2, ← hWr, List.map_append, List.map_cons, List.map_nil, hq]
    (repeat first | refine HReg.step ?_ | refine HCode.step ?_)
    refine And.intro (And.intro ?_ ?_) ?_
    · (repeat first | refine HReg.step ?_ | refine HCode.step ?_)
      rw [eqB_self 0]
      (repeat first | refine HReg.step ?_ | refine HCode.step ?_)
      refine HReq.mk (by decide) ?_
      (repeat first | refine HReg.step ?_ | refine HCode.step ?_)
      refine HNew.mk fun b14 hb14 => ?_
      have m14 : Made H13 (H13.upd b14 (.cells (#[] : Array Value) 28)) 28 4 (some ⟨b14, 0, none⟩) 0 0 [] := ⟨OwnRow.lit (upd_same _ _ _) rfl, Upd.new hb14 _, fun q hq => by cases hq; exact hb14⟩
      generalize hH14 : H13.upd b14 (.cells (#[] : Array Value) 28) = H14 at m14
      (repeat first | refine HReg.step ?_ | refine HCode.step ?_)
      refine append_madeG (ie := Try.t28) (z := .agg #[.int .i64 0, .int .u64 0, .slice none 0 0, .slice none 0 0]) (xs := []) (ys := recsV W) Try.underlying22 rfl rfl rfl (by decide) m14 (hW13.row.upd (S := []) (Made.upd m14) (.inr (Off.nil _))) (recsV_length _) (plain_recs _) (by show (0 + W.length) * 64 ≤ _; omega) (by omega) fun aE cE H15 m15 => ?_
      rw [Nat.zero_add] at m15 ⊢
      rw [List.nil_append] at m15
      (repeat first | refine HReg.step ?_ | refine HCode.step ?_)
      refine HLoadN_rows (vs := rcells y ap' cp' ak' ck') (fun Hx hx => ?_) rfl ?_
      · have hx : Hx ∈ [H15, H14, H13] := hx
        simp only [List.mem_cons, List.not_mem_nil, or_false] at hx
        rcases hx with rfl | rfl | rfl
        · exact o413.rows.upd (S := []) m15.upd (.inr (Off.nil _))
        · exact o413.rows.upd (S := []) m14.upd (.inr (Off.nil _))
        · exact o413.rows
      (repeat first | refine HReg.step ?_ | refine HCode.step ?_)
      refine HReq.mk (by decide) ?_
      (repeat first | refine HReg.step ?_ | refine HCode.step ?_)
      refine HNew.mk fun b16 hb16 => ?_
      have u16 : Upd [] H15 (H15.upd b16 (.cells (recsV [⟨y, ap', cp', ak', ck'⟩]).toArray 28)) := Upd.new hb16 _
      have r16 : RowAt (H15.upd b16 (.cells (recsV [⟨y, ap', cp', ak', ck'⟩]).toArray 28)) (some ⟨b16, 0, none⟩) (recsV [⟨y, ap', cp', ak', ck'⟩]) := RowAt.of_cells (upd_same _ _ _)
      have hH' : H15.upd b16 (.cells [Value.int .i64 y.kind, .int .u64 (y.id : Int), .slice ap' y.ps.length cp', .slice ak' y.ks.length ck'].toArray 28) = H15.upd b16 (.cells (recsV [⟨y, ap', cp', ak', ck'⟩]).toArray 28) := rfl
      rw [hH']
      generalize hH16 : H15.upd b16 (.cells (recsV [⟨y, ap', cp', ak', ck'⟩]).toArray 28) = H16 at u16 r16
      (repeat first | refine HReg.step ?_ | refine HCode.step ?_)
      refine append_madeG (ie := Try.t28) (z := .agg #[.int .i64 0, .int .u64 0, .slice none 0 0, .slice none 0 0]) (xs := recsV W) (ys := recsV [⟨y, ap', cp', ak', ck'⟩]) Try.underlying22 rfl rfl rfl (by decide) ⟨m15.own.upd u16 (Off.nil _), m15.upd.trans u16, m15.new⟩ r16 rfl (plain_recs _) (by show (W.length + 1) * 64 ≤ _; omega) (by omega) fun aF cF H17 m17 => ?_
      rw [← recsV_append] at m17
      (repeat first | refine HReg.step ?_ | refine HCode.step ?_)
      refine HCall.mk ⟨Try.f15, Try.func15, by rfl, by rfl⟩ ?_
      refine sameRs_t (hR13.upd0 m17.upd) (ps := W ++ [⟨y, ap', cp', ak', ck'⟩]) ⟨m17.own.rows, fun q hq => ?_⟩ rfl (by simp) (by omega) (eq13 _ rfl) fun H18 u18 => ?_
      · rcases List.mem_append.1 hq with h | h
        · exact (hW13.upd0 m17.upd).each q h
        · rw [List.mem_singleton.1 h]; exact i13.upd0 m17.upd
      (repeat first | refine HReg.step ?_ | refine HCode.step ?_)
      exact hk H18 (uH13.trans (m17.upd.trans u18))
    · (repeat first | refine HReg.step ?_ | refine HCode.step ?_)
      rw [eqB_self 0]
      (repeat first | refine HReg.step ?_ | refine HCode.step ?_)
      refine HReq.mk (by decide) ?_
      (repeat first | refine HReg.step ?_ | refine HCode.step ?_)
      refine HNew.mk fun b14 hb14 => ?_
      have m14 : Made H13 (H13.upd b14 (.cells (#[] : Array Value) 28)) 28 4 (some ⟨b14, 0, none⟩) 0 0 [] := ⟨OwnRow.lit (upd_same _ _ _) rfl, Upd.new hb14 _, fun q hq => by cases hq; exact hb14⟩
      generalize hH14 : H13.upd b14 (.cells (#[] : Array Value) 28) = H14 at m14
      (repeat first | refine HReg.step ?_ | refine HCode.step ?_)
      refine HLoadN_rows (vs := rcells y ap' cp' ak' ck') (fun Hx hx => ?_) rfl ?_
      · have hx : Hx ∈ [H14, H13] := hx
        simp only [List.mem_cons, List.not_mem_nil, or_false] at hx
        rcases hx with rfl | rfl
        · exact o413.rows.upd (S := []) m14.upd (.inr (Off.nil _))
        · exact o413.rows
      (repeat first | refine HReg.step ?_ | refine HCode.step ?_)
      refine HReq.mk (by decide) ?_
      (repeat first | refine HReg.step ?_ | refine HCode.step ?_)
      refine HNew.mk fun b16 hb16 => ?_
      have u16 : Upd [] H14 (H14.upd b16 (.cells (recsV [⟨y, ap', cp', ak', ck'⟩]).toArray 28)) := Upd.new hb16 _
      have r16 : RowAt (H14.upd b16 (.cells (recsV [⟨y, ap', cp', ak', ck'⟩]).toArray 28)) (some ⟨b16, 0, none⟩) (recsV [⟨y, ap', cp', ak', ck'⟩]) := RowAt.of_cells (upd_same _ _ _)
      have hH' : H14.upd b16 (.cells [Value.int .i64 y.kind, .int .u64 (y.id : Int), .slice ap' y.ps.length cp', .slice ak' y.ks.length ck'].toArray 28) = H14.upd b16 (.cells (recsV [⟨y, ap', cp', ak', ck'⟩]).toArray 28) := rfl
      rw [hH']
      generalize hH16 : H14.upd b16 (.cells (recsV [⟨y, ap', cp', ak', ck'⟩]).toArray 28) = H16 at u16 r16
      have m14o := m14.own
      have m14 : Made H13 H16 28 4 (some ⟨b14, 0, none⟩) 0 0 [] := ⟨m14.own.upd u16 (Off.nil _), m14.upd.trans u16, m14.new⟩
      have ne : ¬ b16 = b14 := fun e => by
        rw [e] at hb16
        exact m14o.there rfl hb16
      (repeat first | refine HReg.step ?_ | refine HCode.step ?_)
      refine append_rows (ie := Try.t28) (z := .agg #[.int .i64 0, .int .u64 0, .slice none 0 0, .slice none 0 0]) (xs := []) (ys := recsV W) Try.underlying22 rfl rfl rfl (by decide) m14.own (hW13.row.upd (S := []) (Made.upd m14) (.inr (Off.nil _))) (recsV_length _) (plain_recs _) (by show (0 + W.length) * 64 ≤ _; omega) (by omega) fun aE cE H15 o15 u15 f15 => ?_
      rw [Nat.zero_add] at o15 ⊢
      rw [List.nil_append] at o15
      have h14 : H13 b14 = none := m14.new _ rfl
      have m15 : Made H13 H15 28 4 aE W.length cE (recsV W) := ⟨o15, Upd.drop m14.upd u15 (fun b hb => by
        have e : b = b14 := by simpa [blk] using hb
        rw [e]; exact h14), fun p hp => by
        rcases f15 p hp with h | h
        · cases h; exact h14
        · exact Upd.none (S := []) m14.upd (by simp) h⟩
      have r15 : RowAt H15 (some ⟨b16, 0, none⟩) (recsV [⟨y, ap', cp', ak', ck'⟩]) := r16.upd u15 (.inr (fun p hp hb => by
        have e : p.block = b14 := by simpa [blk] using hb
        cases hp
        exact ne e))
      (repeat first | refine HReg.step ?_ | refine HCode.step ?_)
      refine append_madeG (ie := Try.t28) (z := .agg #[.int .i64 0, .int .u64 0, .slice none 0 0, .slice none 0 0]) (xs := recsV W) (ys := recsV [⟨y, ap', cp', ak', ck'⟩]) Try.underlying22 rfl rfl rfl (by decide) m15 r15 rfl (plain_recs _) (by show (W.length + 1) * 64 ≤ _; omega) (by omega) fun aF cF H17 m17 => ?_
      rw [← recsV_append] at m17
      (repeat first | refine HReg.step ?_ | refine HCode.step ?_)
      refine HCall.mk ⟨Try.f15, Try.func15, by rfl, by rfl⟩ ?_
      refine sameRs_t (hR13.upd0 m17.upd) (ps := W ++ [⟨y, ap', cp', ak', ck'⟩]) ⟨m17.own.rows, fun q hq => ?_⟩ rfl (by simp) (by omega) (eq13 _ rfl) fun H18 u18 => ?_
      · rcases List.mem_append.1 hq with h | h
        · exact (hW13.upd0 m17.upd).each q h
        · rw [List.mem_singleton.1 h]; exact i13.upd0 m17.upd
      (repeat first | refine HReg.step ?_ | refine HCode.step ?_)
      exact hk H18 (uH13.trans (m17.upd.trans u18))
    · (repeat first | refine HReg.step ?_ | refine HCode.step ?_)
      rw [eqB_self 0]
      (repeat first | refine HReg.step ?_ | refine HCode.step ?_)
      refine HLoadN_rows (vs := rcells y ap' cp' ak' ck') (fun Hx hx => ?_) rfl ?_
      · have hx : Hx ∈ [H13] := hx
        simp only [List.mem_cons, List.not_mem_nil, or_false] at hx
        rcases hx with rfl
        · exact o413.rows
      (repeat first | refine HReg.step ?_ | refine HCode.step ?_)
      refine HReq.mk (by decide) ?_
      (repeat first | refine HReg.step ?_ | refine HCode.step ?_)
      refine HNew.mk fun b16 hb16 => ?_
      have u16 : Upd [] H13 (H13.upd b16 (.cells (recsV [⟨y, ap', cp', ak', ck'⟩]).toArray 28)) := Upd.new hb16 _
      have r16 : RowAt (H13.upd b16 (.cells (recsV [⟨y, ap', cp', ak', ck'⟩]).toArray 28)) (some ⟨b16, 0, none⟩) (recsV [⟨y, ap', cp', ak', ck'⟩]) := RowAt.of_cells (upd_same _ _ _)
      have hH' : H13.upd b16 (.cells [Value.int .i64 y.kind, .int .u64 (y.id : Int), .slice ap' y.ps.length cp', .slice ak' y.ks.length ck'].toArray 28) = H13.upd b16 (.cells (recsV [⟨y, ap', cp', ak', ck'⟩]).toArray 28) := rfl
      rw [hH']
      generalize hH16 : H13.upd b16 (.cells (recsV [⟨y, ap', cp', ak', ck'⟩]).toArray 28) = H16 at u16 r16
      (repeat first | refine HReg.step ?_ | refine HCode.step ?_)
      refine HReq.mk (by decide) ?_
      (repeat first | refine HReg.step ?_ | refine HCode.step ?_)
      refine HNew.mk fun b14 hb14 => ?_
      have m14 : Made H13 (H16.upd b14 (.cells (#[] : Array Value) 28)) 28 4 (some ⟨b14, 0, none⟩) 0 0 [] := ⟨OwnRow.lit (upd_same _ _ _) rfl, u16.trans (Upd.new hb14 _), fun q hq => by cases hq; exact Upd.none (S := []) u16 (by simp) hb14⟩
      have ne : ¬ b16 = b14 := fun e => by
        rw [← e] at hb14
        rw [← hH16, upd_same] at hb14
        cases hb14
      have r16 := r16.upd (S := []) (Upd.new hb14 (.cells (#[] : Array Value) 28)) (.inr (Off.nil _))
      generalize hH14 : H16.upd b14 (.cells (#[] : Array Value) 28) = H14 at m14 r16
      (repeat first | refine HReg.step ?_ | refine HCode.step ?_)
      refine append_rows (ie := Try.t28) (z := .agg #[.int .i64 0, .int .u64 0, .slice none 0 0, .slice none 0 0]) (xs := []) (ys := recsV W) Try.underlying22 rfl rfl rfl (by decide) m14.own (hW13.row.upd (S := []) (Made.upd m14) (.inr (Off.nil _))) (recsV_length _) (plain_recs _) (by show (0 + W.length) * 64 ≤ _; omega) (by omega) fun aE cE H15 o15 u15 f15 => ?_
      rw [Nat.zero_add] at o15 ⊢
      rw [List.nil_append] at o15
      have h14 : H13 b14 = none := m14.new _ rfl
      have m15 : Made H13 H15 28 4 aE W.length cE (recsV W) := ⟨o15, Upd.drop m14.upd u15 (fun b hb => by
        have e : b = b14 := by simpa [blk] using hb
        rw [e]; exact h14), fun p hp => by
        rcases f15 p hp with h | h
        · cases h; exact h14
        · exact Upd.none (S := []) m14.upd (by simp) h⟩
      have r15 : RowAt H15 (some ⟨b16, 0, none⟩) (recsV [⟨y, ap', cp', ak', ck'⟩]) := r16.upd u15 (.inr (fun p hp hb => by
        have e : p.block = b14 := by simpa [blk] using hb
        cases hp
        exact ne e))
      (repeat first | refine HReg.step ?_ | refine HCode.step ?_)
      refine append_madeG (ie := Try.t28) (z := .agg #[.int .i64 0, .int .u64 0, .slice none 0 0, .slice none 0 0]) (xs := recsV W) (ys := recsV [⟨y, ap', cp', ak', ck'⟩]) Try.underlying22 rfl rfl rfl (by decide) m15 r15 rfl (plain_recs _) (by show (W.length + 1) * 64 ≤ _; omega) (by omega) fun aF cF H17 m17 => ?_
      rw [← recsV_append] at m17
      (repeat first | refine HReg.step ?_ | refine HCode.step ?_)
      refine HCall.mk ⟨Try.f15, Try.func15, by rfl, by rfl⟩ ?_
      refine sameRs_t (hR13.upd0 m17.upd) (ps := W ++ [⟨y, ap', cp', ak', ck'⟩]) ⟨m17.own.rows, fun q hq => ?_⟩ rfl (by simp) (by omega) (eq13 _ rfl) fun H18 u18 => ?_
      · rcases List.mem_append.1 hq with h | h
        · exact (hW13.upd0 m17.upd).each q h
        · rw [List.mem_singleton.1 h]; exact i13.upd0 m17.upd
      (repeat first | refine HReg.step ?_ | refine HCode.step ?_)
      exact hk H18 (uH13.trans (m17.upd.trans u18))
  (repeat first | refine HReg.step ?_ | refine HCode.step ?_)
  refine hloopC [6, 9, 10, 11, 12, 13, 28, 29, 30, 31, 32, 33, 34, 35, 36, 37, 38, 39, 40, 41, 42, 43, 44, 45, 46, 47, 48, 49, 50, 51, 52, 53, 54, 55, 56, 57, 58, 59, 60, 61, 62, 63] [9, 10, 11] (TwInv L1 qs g r) rfl (by repeat' first | exact Resp.retD | exact Resp1.valuesK | refine Resp.blockD ?_ | refine Resp.thenD ?_ ?_ | refine Resp.hcode ?_) ?_ ?_
  · exact ⟨qs.length, TwInv.mk ⟨0, none, 0, [], [], rfl, rfl, Nat.le_refl _, by decide, ⟨⟨none, D2, rfl⟩, OwnRow.nil _ _ _, fun b hb => by simp [blk] at hb, by rw [hL1]; exact Upd.refl _ _, fun q hq => by simp at hq⟩⟩⟩
  rintro m _ fe H3 ⟨i, aW, cW, W, fl, rfl, hmi, hWi, hi100, s⟩
  obtain ⟨v, D3, hv⟩ := s.D
  have u13 := s.u
  have hWg : ∀ y ∈ W.map PRec.r, Good y := fun y hy => by
    obtain ⟨q, hq, rfl⟩ := List.mem_map.1 hy
    exact (s.mem q hq).2
  have hWl := frG_len hWg
  rw [List.length_map] at hWl
  (repeat first | refine HReg.step ?_ | refine HCode.step ?_)
  refine hif (fun h1 => ?_) (fun h1 => ?_)
  · have h1 := ltB_true.1 h1
    (repeat first | refine HReg.step ?_ | refine HCode.step ?_)
    by_cases h100 : i = 100
    · subst h100
      rw [show ltB ((100 : Nat) : Int) 100 = false from ltB_false.2 (by omega)]
      (repeat first | refine HReg.step ?_ | refine HCode.step ?_)
      exact TwEnd.mk ⟨aW, cW, W, fl, rfl, hWi, s⟩
    rw [show ltB ((i : Nat) : Int) 100 = true from ltB_true.2 (by omega)]
    have hqi : qs[i]? = some qs[i] := List.getElem?_eq_getElem (by omega)
    have hqm : qs[i] ∈ qs := List.getElem_mem _
    generalize qs[i] = q at hqi hqm
    have hq3 : Recs H3 a qs := (hqL.upd0 u13).upd0 (offD_up H3)
    obtain ⟨ba, bo, rfl, _⟩ := hq3.row _ _ (recsV_get hqi 0 _ rfl)
    (repeat first | refine HReg.step ?_ | refine HCode.step ?_)
    refine HReq.mk ⟨by omega, by omega⟩ ?_
    (repeat first | refine HReg.step ?_ | refine HCode.step ?_)
    refine HLoadN_rec hq3.row (by simpa using hqi) ?_
    (repeat first | refine HReg.step ?_ | refine HCode.step ?_)
    refine HCall.mk ⟨Try.f10, Try.func10, by rfl, by rfl⟩ ?_
    refine own_t (hq3.each q hqm) fun bp dp bk dk H4 O4 u4 => ?_
    (repeat first | refine HReg.step ?_ | refine HCode.step ?_)
    refine HCall.mk ⟨Try.f9, Try.func9, by rfl, by rfl⟩ ?_
    refine build_t O4.recIn fun aB cB H5 m5 => ?_
    have D5 := D3.upd0 (u4.trans m5.upd)
    have u35 := less0 (B := dblk g r fl) (u4.trans m5.upd)
    have o5 : OwnRow (offD H5 g r fl) 28 4 aW W.length cW (recsV W) := s.row.upd u35 (Off.nil _)
    have ub := build_len q.r
    (repeat first | refine HReg.step ?_ | refine HCode.step ?_)
    by_cases he : (buildR q.r).2 = 0
    rotate_left
    · rw [show eqB (buildR q.r).2 0 = false from eqB_false.2 he]
      (repeat first | refine HReg.step ?_ | refine HCode.step ?_)
      rw [wr_i64 (by omega) (by omega)]
      refine Exists.intro (m - 1) ?_
      refine And.intro (by omega) ?_
      exact TwInv.mk ⟨i + 1, aW, cW, W, fl, by rw [show ((i : Int) + 1) = ((i + 1 : Nat) : Int) by omega], by omega, by omega, by omega, ⟨⟨v, D5, hv⟩, o5, s.new, u13.trans u35, s.mem⟩⟩
    have hg := good_build (hid q hqm) he
    have hbq := build_good hg
    rw [hbq] at m5 ub ⊢
    dsimp only at m5 ub ⊢
    rw [eqB_self 0]
    have hq5 := (hq3.upd0 u4).upd0 m5.upd
    (repeat first | refine HReg.step ?_ | refine HCode.step ?_)
    refine HReq.mk ⟨by omega, by omega⟩ ?_
    (repeat first | refine HReg.step ?_ | refine HCode.step ?_)
    refine HLoadN_rec hq5.row (by simpa using hqi) ?_
    (repeat first | refine HReg.step ?_ | refine HCode.step ?_)
    refine HReq.mk (by decide) ?_
    (repeat first | refine HReg.step ?_ | refine HCode.step ?_)
    refine HNew.mk fun b7 hb7 => ?_
    have u7 : Upd [] H5 (H5.upd b7 (.cells (recsV [q]).toArray 28)) := Upd.new hb7 _
    have r7 : RowAt (H5.upd b7 (.cells (recsV [q]).toArray 28)) (some ⟨b7, 0, none⟩) (recsV [q]) := RowAt.of_cells (upd_same _ _ _)
    have hH' : H5.upd b7 (.cells [Value.int .i64 q.r.kind, .int .u64 (q.r.id : Int), .slice q.ap q.r.ps.length q.cp, .slice q.ak q.r.ks.length q.ck].toArray 28) = H5.upd b7 (.cells (recsV [q]).toArray 28) := rfl
    rw [hH']
    generalize hH7 : H5.upd b7 (.cells (recsV [q]).toArray 28) = H7 at u7 r7
    have o7 := (ownrow_up o5).upd u7 (Off.nil _)
    have offW : ∀ b ∈ blk aW, b ∉ dblk g r fl ∧ H3 b ≠ none := fun b hb => by
      obtain ⟨p, hp, rfl⟩ := blk_of hb
      exact off_live D3 (s.row.there hp)
    have D7 := D5.upd0 u7
    have ub7 := u13.trans (u35.trans (less0 u7))
    (repeat first | refine HReg.step ?_ | refine HCode.step ?_)
    refine append_rows (ie := Try.t28) (z := .agg #[.int .i64 0, .int .u64 0, .slice none 0 0, .slice none 0 0]) (xs := recsV W) (ys := recsV [q]) Try.underlying22 rfl rfl rfl (by decide) o7 r7 rfl (plain_recs _) (by show (W.length + 1) * 64 ≤ _; omega) (by omega) fun a8 c8 H8 o8 u8_ f8 => ?_
    rw [← recsV_append] at o8
    have hlen : (W ++ [q]).length = W.length + 1 := by simp
    have D8 := D7.upd u8_ (fun b hb => (offW b hb).1) (fun b hb => rfl)
    have ub8 := Upd.drop ub7 (less0 (B := dblk g r fl) u8_) s.new
    have o8' : OwnRow (offD H8 g r fl) 28 4 a8 (W.length + 1) c8 (recsV (W ++ [q])) := o8.less fun b hb => by
      obtain ⟨p, hp, rfl⟩ := blk_of hb
      rcases f8 p hp with h | h
      · exact (offW _ (by rw [h]; simp [blk])).1
      · exact D7.fresh h
    have new8 : ∀ b ∈ blk a8, L1 b = none := fun b hb => by
      obtain ⟨p, hp, rfl⟩ := blk_of hb
      rcases f8 p hp with h | h
      · exact s.new _ (by rw [h]; simp [blk])
      · exact Upd.none (S := []) ub7 (by simp) (less_nn h)
    have fB : ∀ b ∈ blk aB, H4 b = none := fun b hb => by
      obtain ⟨p, hp, rfl⟩ := blk_of hb
      exact m5.new p hp
    have rB : RowAt H8 aB (u8s (frameR (pay q.r))) := ((m5.own.upd u7 (Off.nil _)).upd u8_ (off_notin fun b hb hb' => by
      have h1 := (offW b hb').2
      have h2 := u4 b (by simp) h1
      rw [fB b hb] at h2
      exact h1 h2.symm)).rows
    have wl : wr .i64 (((frG (W.map PRec.r)).length : Int) + ((frameR (pay q.r)).length : Int)) = ((frG ((W ++ [q]).map PRec.r)).length : Int) := by
      rw [List.map_append, frG_append, List.length_append]
      show _ = (((frG (W.map PRec.r)).length + (frG [q.r]).length : Nat) : Int)
      rw [frG_one, wr_i64 (by omega) (by omega)]; omega
    (repeat first | refine HReg.step ?_ | refine HCode.step ?_)
    rw [wl]
    refine HCall.mk ⟨Try.f11, Try.func11, by rfl, by rfl⟩ ?_
    refine append_w D8 rB rfl (off_notin fun b hb => (D3.upd0 u4).fresh (fB b hb)) (fun x y hxy => ?_) (by omega) (one_append (one_call rfl) rfl lgN_ok (fun h => by have := h.2; simp at this)) fun fl' H9 D9 u9 => ?_
    · change (one d0 lgN v).call.fs lgN = _ at hxy
      rw [one_call rfl, one_fs] at hxy
      have this : x = frG (W.map PRec.r) := by
        rw [hxy] at hv
        exact congrArg Prod.fst hv
      rw [this]; omega
    (repeat first | refine HReg.step ?_ | refine HCode.step ?_)
    rw [eqB_self 0]
    (repeat first | refine HReg.step ?_ | refine HCode.step ?_)
    rw [wr_i64 (by omega) (by omega)]
    refine Exists.intro (m - 1) ?_
    refine And.intro (by omega) ?_
    refine TwInv.mk ⟨i + 1, a8, c8, W ++ [q], fl', by rw [hlen, show ((i : Int) + 1) = ((i + 1 : Nat) : Int) by omega], by omega, by rw [hlen]; omega, by omega, ⟨⟨_, D9, ?_⟩, by rw [hlen]; exact o8'.upd u9 (Off.nil _), new8, ub8.trans u9, fun z hz => ?_⟩⟩
    · rw [hv, List.map_append, frG_append]
      show (_, _) = _
      rw [show frG (List.map PRec.r [q]) = frameR (pay q.r) from frG_one q.r]
    · rcases List.mem_append.1 hz with h | h
      · exact s.mem z h
      · rw [List.mem_singleton.1 h]; exact ⟨hqm, hg⟩
  · (repeat first | refine HReg.step ?_ | refine HCode.step ?_)
    exact TwEnd.mk ⟨aW, cW, W, fl, rfl, by omega, s⟩
end
end Go.Proofs.Ytfcmjomnpahllaa
