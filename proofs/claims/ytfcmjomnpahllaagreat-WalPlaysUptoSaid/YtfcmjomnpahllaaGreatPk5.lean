import Derived.Test.YtfcmjomnpahllaaGreatPk4
import Derived.Test.YtfcmjomnpahllaaGreatPk3
namespace Go.Proofs.YtfcmjomnpahllaaGreat
open Go Hv
set_option linter.unusedVariables false
set_option linter.unusedSimpArgs false
set_option maxRecDepth 10000
set_option maxHeartbeats 4000000
/-! The document's read, walked -/
structure RqN (H0 H : Heap) (x : Rec) (ap : Option Addr) (cp : Nat) (ak : Option Addr) (ck : Nat) : Prop where
  p : OwnRow H 100 2 ap x.ps.length cp (pairsV x.ps)
  k : OwnRow H 9 1 ak x.ks.length ck (txts x.ks)
  pn : ∀ b ∈ blk ap, H0 b = none
  kn : ∀ b ∈ blk ak, H0 b = none
  np : x.ps.length ≤ 2000000
  nk : x.ks.length ≤ 2000000
structure RqJ (H : Heap) (b2 b4 : Nat) (l : List UInt8) (vs : List Value) (H' : Heap) : Prop where
  ex : ∃ ap cp ak ck, vs = [] ∧ RqS H b2 b4 (candR l) ap cp ak ck H'
structure Rq1 (H : Heap) (b2 b4 : Nat) (l : List UInt8) (id n : Nat) (m : Nat) (vs : List Value) (H' : Heap) : Prop where
  ex : ∃ (i p : Nat) (ps : List (Txt × Txt)) (ap : Option Addr) (cp : Nat), vs = [.int .i64 (p : Int), .int .i64 (i : Int)] ∧ m + i = n ∧ prR l n 13 = (ps ++ (prR l m p).1, (prR l m p).2) ∧ ps.length ≤ p ∧ ps.length ≤ 1048577 ∧ p ≤ 20000000000 ∧ RqS H b2 b4 ⟨1, id, ps, []⟩ ap cp none 0 H'
structure Rq1J (H : Heap) (b2 b4 : Nat) (l : List UInt8) (id n : Nat) (vs : List Value) (H' : Heap) : Prop where
  ex : ∃ (ap : Option Addr) (cp : Nat), vs = [.int .i64 ((prR l n 13).2 : Int)] ∧ (prR l n 13).2 ≤ 20000000000 ∧ RqS H b2 b4 ⟨1, id, (prR l n 13).1, []⟩ ap cp none 0 H'
structure Rq2 (H : Heap) (b2 b4 : Nat) (l : List UInt8) (id : Nat) (ps : List (Txt × Txt)) (n a0 : Nat) (m : Nat) (vs : List Value) (H' : Heap) : Prop where
  ex : ∃ (i p : Nat) (ks : List Txt) (ap : Option Addr) (cp : Nat) (ak : Option Addr) (ck : Nat), vs = [.int .i64 (p : Int), .int .i64 (i : Int)] ∧ m + i = n ∧ ksR l n a0 = (ks ++ (ksR l m p).1, (ksR l m p).2) ∧ ks.length ≤ p ∧ ks.length ≤ 1048577 ∧ p ≤ 40000000000 ∧ RqS H b2 b4 ⟨1, id, ps, ks⟩ ap cp ak ck H'
theorem piece_pos (l : List UInt8) (p : Nat) : p + 4 ≤ (pieceR l p).2 ∧ (pieceR l p).2 < p + 4 + 4294967296 := by
  have h := getR_lt l p 4
  have h : getR l p 4 < 4294967296 := h
  show p + 4 ≤ p + 4 + getR l p 4 ∧ p + 4 + getR l p 4 < _
  omega
section
variable {H : Heap} {K : Value → Heap → Prop}
theorem rrec_t {a : Option Addr} {L c : Nat} {l : List UInt8} (hr : RowAt H a (u8s l)) (hl : l.length = L) (hc : L ≤ c) (hlim : L ≤ 1048576)
    (hk : ∀ (t : Bool) x ap cp ak ck H', (t = true ↔ ReadOk l) → (t = true → x = (readR l).1) → (t = false → x = zeroRec) → RqN H H' x ap cp ak ck → Upd [] H H' → K (.tuple #[rv x ap cp ak ck, .bool t]) H') : HCalls Tryz.prog 75 [.slice a L c] H K := by
  refine hcalls (fn := Tryz.f75) [(22, [(0, 0), (1, 0), (2, 0), (3, 1), (4, 1), (5, 0)])] mixed Tryz.func75 rfl rfl (by decide +kernel) ?_
  subst hl
  (repeat first | refine HReg.step ?_ | refine HCode.step ?_)
  refine HNew.mk fun b2 hb2 => ?_
  have u2 : Upd [] H (H.upd b2 (.cells [Value.int .i64 0, .int .u64 0, .slice none 0 0, .slice none 0 0].toArray 41)) := Upd.new hb2 _
  have o2 : OwnRow (H.upd b2 (.cells [Value.int .i64 0, .int .u64 0, .slice none 0 0, .slice none 0 0].toArray 41)) 41 1 (some ⟨b2, 0, none⟩) 4 4 zeroR := OwnRow.lit (upd_same _ _ _) rfl
  generalize hH2 : H.upd b2 (.cells [Value.int .i64 0, .int .u64 0, .slice none 0 0, .slice none 0 0].toArray 41) = H2 at u2 o2
  have hr2 := hr.upd (S := []) u2 (.inr (Off.nil _))
  have hg0 := getR_lt l 0 1
  have hg0 : getR l 0 1 < 256 := hg0
  have hg1 := getR8_lt l 1
  have w0 : wr .i64 (getR l 0 1 : Int) = (getR l 0 1 : Int) := by rw [wr_i64 (by omega) (by omega)]
  (repeat first | refine HReg.step ?_ | refine HCode.step ?_)
  refine HCall.mk ⟨Tryz.f74, Tryz.func74, by rfl, by rfl⟩ ?_
  refine get_t (p := 0) (n := 1) hr2 rfl (by omega) (by omega) (by decide) ?_
  (repeat first | refine HReg.step ?_ | refine HCode.step ?_)
  refine HCall.mk ⟨Tryz.f74, Tryz.func74, by rfl, by rfl⟩ ?_
  refine get_t (p := 1) (n := 8) hr2 rfl (by omega) (by omega) (by decide) ?_
  (repeat first | refine HReg.step ?_ | refine HCode.step ?_)
  rw [w0]
  refine HNew.mk fun b4 hb4 => ?_
  (repeat first | refine HReg.step ?_ | refine HCode.step ?_)
  refine store_rec (x := ⟨(getR l 0 1 : Int), getR l 1 8, [], []⟩) (ap := none) (cp := 0) (ak := none) (ck := 0) (OwnRow.lit (upd_same _ _ _) rfl) rfl fun H4 o4 u4 => ?_
  have u4 : Upd [] H2 H4 := Upd.drop (Upd.new hb4 _) u4 (fun q hq => by rw [List.mem_singleton.1 hq]; exact hb4)
  have s4 : RqS H b2 b4 ⟨(getR l 0 1 : Int), getR l 1 8, [], []⟩ none 0 none 0 H4 :=
    ⟨o4, o2.upd u4 (Off.nil _), OwnRow.nil _ _ _, OwnRow.nil _ _ _, fun b hb => (by simp [blk] at hb), fun b hb => (by simp [blk] at hb), hb2, Upd.none (S := []) u2 (by simp) hb4, fun e => by subst e; exact o2.there rfl hb4, u2.trans u4, Nat.zero_le _, Nat.zero_le _⟩
  first | refine hcutC (a := Code.seq (Code.region _ _ _) (Code.cond _ _ _)) [5, 6, 7, 8, 9, 10, 11, 18, 19, 20, 21, 22, 23, 24, 25, 26, 27, 28, 29, 30, 31, 32, 33, 34, 35, 36, 37, 38, 39, 40, 41, 42, 43, 44, 45, 46, 47, 48, 49, 50, 51, 52, 53, 54, 55, 56, 57, 58, 59, 60, 61, 62, 63, 64, 65, 66, 67, 68, 69, 70, 71, 72, 73, 74, 75, 76, 77, 78, 79, 80, 81, 82, 83] [] (RqJ H b2 b4 l) rfl (by repeat' first | exact Resp.retD | exact Resp1.valuesK | refine Resp.blockD ?_ | refine Resp.thenD ?_ ?_ | refine Resp.hcode ?_) ?_ ?_ | ((first | refine HReg.step ?_ | refine HCode.step ?_); first | refine hcutC (a := Code.seq (Code.region _ _ _) (Code.cond _ _ _)) [5, 6, 7, 8, 9, 10, 11, 18, 19, 20, 21, 22, 23, 24, 25, 26, 27, 28, 29, 30, 31, 32, 33, 34, 35, 36, 37, 38, 39, 40, 41, 42, 43, 44, 45, 46, 47, 48, 49, 50, 51, 52, 53, 54, 55, 56, 57, 58, 59, 60, 61, 62, 63, 64, 65, 66, 67, 68, 69, 70, 71, 72, 73, 74, 75, 76, 77, 78, 79, 80, 81, 82, 83] [] (RqJ H b2 b4 l) rfl (by repeat' first | exact Resp.retD | exact Resp1.valuesK | refine Resp.blockD ?_ | refine Resp.thenD ?_ ?_ | refine Resp.hcode ?_) ?_ ?_ | ((first | refine HReg.step ?_ | refine HCode.step ?_); first | refine hcutC (a := Code.seq (Code.region _ _ _) (Code.cond _ _ _)) [5, 6, 7, 8, 9, 10, 11, 18, 19, 20, 21, 22, 23, 24, 25, 26, 27, 28, 29, 30, 31, 32, 33, 34, 35, 36, 37, 38, 39, 40, 41, 42, 43, 44, 45, 46, 47, 48, 49, 50, 51, 52, 53, 54, 55, 56, 57, 58, 59, 60, 61, 62, 63, 64, 65, 66, 67, 68, 69, 70, 71, 72, 73, 74, 75, 76, 77, 78, 79, 80, 81, 82, 83] [] (RqJ H b2 b4 l) rfl (by repeat' first | exact Resp.retD | exact Resp1.valuesK | refine Resp.blockD ?_ | refine Resp.thenD ?_ ?_ | refine Resp.hcode ?_) ?_ ?_ | ((first | refine HReg.step ?_ | refine HCode.step ?_); first | refine hcutC (a := Code.seq (Code.region _ _ _) (Code.cond _ _ _)) [5, 6, 7, 8, 9, 10, 11, 18, 19, 20, 21, 22, 23, 24, 25, 26, 27, 28, 29, 30, 31, 32, 33, 34, 35, 36, 37, 38, 39, 40, 41, 42, 43, 44, 45, 46, 47, 48, 49, 50, 51, 52, 53, 54, 55, 56, 57, 58, 59, 60, 61, 62, 63, 64, 65, 66, 67, 68, 69, 70, 71, 72, 73, 74, 75, 76, 77, 78, 79, 80, 81, 82, 83] [] (RqJ H b2 b4 l) rfl (by repeat' first | exact Resp.retD | exact Resp1.valuesK | refine Resp.blockD ?_ | refine Resp.thenD ?_ ?_ | refine Resp.hcode ?_) ?_ ?_ | ((first | refine HReg.step ?_ | refine HCode.step ?_); first | refine hcutC (a := Code.seq (Code.region _ _ _) (Code.cond _ _ _)) [5, 6, 7, 8, 9, 10, 11, 18, 19, 20, 21, 22, 23, 24, 25, 26, 27, 28, 29, 30, 31, 32, 33, 34, 35, 36, 37, 38, 39, 40, 41, 42, 43, 44, 45, 46, 47, 48, 49, 50, 51, 52, 53, 54, 55, 56, 57, 58, 59, 60, 61, 62, 63, 64, 65, 66, 67, 68, 69, 70, 71, 72, 73, 74, 75, 76, 77, 78, 79, 80, 81, 82, 83] [] (RqJ H b2 b4 l) rfl (by repeat' first | exact Resp.retD | exact Resp1.valuesK | refine Resp.blockD ?_ | refine Resp.thenD ?_ ?_ | refine Resp.hcode ?_) ?_ ?_ | ((first | refine HReg.step ?_ | refine HCode.step ?_); first | refine hcutC (a := Code.seq (Code.region _ _ _) (Code.cond _ _ _)) [5, 6, 7, 8, 9, 10, 11, 18, 19, 20, 21, 22, 23, 24, 25, 26, 27, 28, 29, 30, 31, 32, 33, 34, 35, 36, 37, 38, 39, 40, 41, 42, 43, 44, 45, 46, 47, 48, 49, 50, 51, 52, 53, 54, 55, 56, 57, 58, 59, 60, 61, 62, 63, 64, 65, 66, 67, 68, 69, 70, 71, 72, 73, 74, 75, 76, 77, 78, 79, 80, 81, 82, 83] [] (RqJ H b2 b4 l) rfl (by repeat' first | exact Resp.retD | exact Resp1.valuesK | refine Resp.blockD ?_ | refine Resp.thenD ?_ ?_ | refine Resp.hcode ?_) ?_ ?_ | ((first | refine HReg.step ?_ | refine HCode.step ?_); first | refine hcutC (a := Code.seq (Code.region _ _ _) (Code.cond _ _ _)) [5, 6, 7, 8, 9, 10, 11, 18, 19, 20, 21, 22, 23, 24, 25, 26, 27, 28, 29, 30, 31, 32, 33, 34, 35, 36, 37, 38, 39, 40, 41, 42, 43, 44, 45, 46, 47, 48, 49, 50, 51, 52, 53, 54, 55, 56, 57, 58, 59, 60, 61, 62, 63, 64, 65, 66, 67, 68, 69, 70, 71, 72, 73, 74, 75, 76, 77, 78, 79, 80, 81, 82, 83] [] (RqJ H b2 b4 l) rfl (by repeat' first | exact Resp.retD | exact Resp1.valuesK | refine Resp.blockD ?_ | refine Resp.thenD ?_ ?_ | refine Resp.hcode ?_) ?_ ?_ | ((first | refine HReg.step ?_ | refine HCode.step ?_); first | refine hcutC (a := Code.seq (Code.region _ _ _) (Code.cond _ _ _)) [5, 6, 7, 8, 9, 10, 11, 18, 19, 20, 21, 22, 23, 24, 25, 26, 27, 28, 29, 30, 31, 32, 33, 34, 35, 36, 37, 38, 39, 40, 41, 42, 43, 44, 45, 46, 47, 48, 49, 50, 51, 52, 53, 54, 55, 56, 57, 58, 59, 60, 61, 62, 63, 64, 65, 66, 67, 68, 69, 70, 71, 72, 73, 74, 75, 76, 77, 78, 79, 80, 81, 82, 83] [] (RqJ H b2 b4 l) rfl (by repeat' first | exact Resp.retD | exact Resp1.valuesK | refine Resp.blockD ?_ | refine Resp.thenD ?_ ?_ | refine Resp.hcode ?_) ?_ ?_ | ((first | refine HReg.step ?_ | refine HCode.step ?_); first | refine hcutC (a := Code.seq (Code.region _ _ _) (Code.cond _ _ _)) [5, 6, 7, 8, 9, 10, 11, 18, 19, 20, 21, 22, 23, 24, 25, 26, 27, 28, 29, 30, 31, 32, 33, 34, 35, 36, 37, 38, 39, 40, 41, 42, 43, 44, 45, 46, 47, 48, 49, 50, 51, 52, 53, 54, 55, 56, 57, 58, 59, 60, 61, 62, 63, 64, 65, 66, 67, 68, 69, 70, 71, 72, 73, 74, 75, 76, 77, 78, 79, 80, 81, 82, 83] [] (RqJ H b2 b4 l) rfl (by repeat' first | exact Resp.retD | exact Resp1.valuesK | refine Resp.blockD ?_ | refine Resp.thenD ?_ ?_ | refine Resp.hcode ?_) ?_ ?_ | ((first | refine HReg.step ?_ | refine HCode.step ?_); first | refine hcutC (a := Code.seq (Code.region _ _ _) (Code.cond _ _ _)) [5, 6, 7, 8, 9, 10, 11, 18, 19, 20, 21, 22, 23, 24, 25, 26, 27, 28, 29, 30, 31, 32, 33, 34, 35, 36, 37, 38, 39, 40, 41, 42, 43, 44, 45, 46, 47, 48, 49, 50, 51, 52, 53, 54, 55, 56, 57, 58, 59, 60, 61, 62, 63, 64, 65, 66, 67, 68, 69, 70, 71, 72, 73, 74, 75, 76, 77, 78, 79, 80, 81, 82, 83] [] (RqJ H b2 b4 l) rfl (by repeat' first | exact Resp.retD | exact Resp1.valuesK | refine Resp.blockD ?_ | refine Resp.thenD ?_ ?_ | refine Resp.hcode ?_) ?_ ?_ | ((first | refine HReg.step ?_ | refine HCode.step ?_); first | refine hcutC (a := Code.seq (Code.region _ _ _) (Code.cond _ _ _)) [5, 6, 7, 8, 9, 10, 11, 18, 19, 20, 21, 22, 23, 24, 25, 26, 27, 28, 29, 30, 31, 32, 33, 34, 35, 36, 37, 38, 39, 40, 41, 42, 43, 44, 45, 46, 47, 48, 49, 50, 51, 52, 53, 54, 55, 56, 57, 58, 59, 60, 61, 62, 63, 64, 65, 66, 67, 68, 69, 70, 71, 72, 73, 74, 75, 76, 77, 78, 79, 80, 81, 82, 83] [] (RqJ H b2 b4 l) rfl (by repeat' first | exact Resp.retD | exact Resp1.valuesK | refine Resp.blockD ?_ | refine Resp.thenD ?_ ?_ | refine Resp.hcode ?_) ?_ ?_ | ((first | refine HReg.step ?_ | refine HCode.step ?_); first | refine hcutC (a := Code.seq (Code.region _ _ _) (Code.cond _ _ _)) [5, 6, 7, 8, 9, 10, 11, 18, 19, 20, 21, 22, 23, 24, 25, 26, 27, 28, 29, 30, 31, 32, 33, 34, 35, 36, 37, 38, 39, 40, 41, 42, 43, 44, 45, 46, 47, 48, 49, 50, 51, 52, 53, 54, 55, 56, 57, 58, 59, 60, 61, 62, 63, 64, 65, 66, 67, 68, 69, 70, 71, 72, 73, 74, 75, 76, 77, 78, 79, 80, 81, 82, 83] [] (RqJ H b2 b4 l) rfl (by repeat' first | exact Resp.retD | exact Resp1.valuesK | refine Resp.blockD ?_ | refine Resp.thenD ?_ ?_ | refine Resp.hcode ?_) ?_ ?_ | ((first | refine HReg.step ?_ | refine HCode.step ?_); first | refine hcutC (a := Code.seq (Code.region _ _ _) (Code.cond _ _ _)) [5, 6, 7, 8, 9, 10, 11, 18, 19, 20, 21, 22, 23, 24, 25, 26, 27, 28, 29, 30, 31, 32, 33, 34, 35, 36, 37, 38, 39, 40, 41, 42, 43, 44, 45, 46, 47, 48, 49, 50, 51, 52, 53, 54, 55, 56, 57, 58, 59, 60, 61, 62, 63, 64, 65, 66, 67, 68, 69, 70, 71, 72, 73, 74, 75, 76, 77, 78, 79, 80, 81, 82, 83] [] (RqJ H b2 b4 l) rfl (by repeat' first | exact Resp.retD | exact Resp1.valuesK | refine Resp.blockD ?_ | refine Resp.thenD ?_ ?_ | refine Resp.hcode ?_) ?_ ?_ | ((first | refine HReg.step ?_ | refine HCode.step ?_); first | refine hcutC (a := Code.seq (Code.region _ _ _) (Code.cond _ _ _)) [5, 6, 7, 8, 9, 10, 11, 18, 19, 20, 21, 22, 23, 24, 25, 26, 27, 28, 29, 30, 31, 32, 33, 34, 35, 36, 37, 38, 39, 40, 41, 42, 43, 44, 45, 46, 47, 48, 49, 50, 51, 52, 53, 54, 55, 56, 57, 58, 59, 60, 61, 62, 63, 64, 65, 66, 67, 68, 69, 70, 71, 72, 73, 74, 75, 76, 77, 78, 79, 80, 81, 82, 83] [] (RqJ H b2 b4 l) rfl (by repeat' first | exact Resp.retD | exact Resp1.valuesK | refine Resp.blockD ?_ | refine Resp.thenD ?_ ?_ | refine Resp.hcode ?_) ?_ ?_ | ((first | refine HReg.step ?_ | refine HCode.step ?_); first | refine hcutC (a := Code.seq (Code.region _ _ _) (Code.cond _ _ _)) [5, 6, 7, 8, 9, 10, 11, 18, 19, 20, 21, 22, 23, 24, 25, 26, 27, 28, 29, 30, 31, 32, 33, 34, 35, 36, 37, 38, 39, 40, 41, 42, 43, 44, 45, 46, 47, 48, 49, 50, 51, 52, 53, 54, 55, 56, 57, 58, 59, 60, 61, 62, 63, 64, 65, 66, 67, 68, 69, 70, 71, 72, 73, 74, 75, 76, 77, 78, 79, 80, 81, 82, 83] [] (RqJ H b2 b4 l) rfl (by repeat' first | exact Resp.retD | exact Resp1.valuesK | refine Resp.blockD ?_ | refine Resp.thenD ?_ ?_ | refine Resp.hcode ?_) ?_ ?_ | ((first | refine HReg.step ?_ | refine HCode.step ?_); first | refine hcutC (a := Code.seq (Code.region _ _ _) (Code.cond _ _ _)) [5, 6, 7, 8, 9, 10, 11, 18, 19, 20, 21, 22, 23, 24, 25, 26, 27, 28, 29, 30, 31, 32, 33, 34, 35, 36, 37, 38, 39, 40, 41, 42, 43, 44, 45, 46, 47, 48, 49, 50, 51, 52, 53, 54, 55, 56, 57, 58, 59, 60, 61, 62, 63, 64, 65, 66, 67, 68, 69, 70, 71, 72, 73, 74, 75, 76, 77, 78, 79, 80, 81, 82, 83] [] (RqJ H b2 b4 l) rfl (by repeat' first | exact Resp.retD | exact Resp1.valuesK | refine Resp.blockD ?_ | refine Resp.thenD ?_ ?_ | refine Resp.hcode ?_) ?_ ?_ | ((first | refine HReg.step ?_ | refine HCode.step ?_); first | refine hcutC (a := Code.seq (Code.region _ _ _) (Code.cond _ _ _)) [5, 6, 7, 8, 9, 10, 11, 18, 19, 20, 21, 22, 23, 24, 25, 26, 27, 28, 29, 30, 31, 32, 33, 34, 35, 36, 37, 38, 39, 40, 41, 42, 43, 44, 45, 46, 47, 48, 49, 50, 51, 52, 53, 54, 55, 56, 57, 58, 59, 60, 61, 62, 63, 64, 65, 66, 67, 68, 69, 70, 71, 72, 73, 74, 75, 76, 77, 78, 79, 80, 81, 82, 83] [] (RqJ H b2 b4 l) rfl (by repeat' first | exact Resp.retD | exact Resp1.valuesK | refine Resp.blockD ?_ | refine Resp.thenD ?_ ?_ | refine Resp.hcode ?_) ?_ ?_ | ((first | refine HReg.step ?_ | refine HCode.step ?_); first | refine hcutC (a := Code.seq (Code.region _ _ _) (Code.cond _ _ _)) [5, 6, 7, 8, 9, 10, 11, 18, 19, 20, 21, 22, 23, 24, 25, 26, 27, 28, 29, 30, 31, 32, 33, 34, 35, 36, 37, 38, 39, 40, 41, 42, 43, 44, 45, 46, 47, 48, 49, 50, 51, 52, 53, 54, 55, 56, 57, 58, 59, 60, 61, 62, 63, 64, 65, 66, 67, 68, 69, 70, 71, 72, 73, 74, 75, 76, 77, 78, 79, 80, 81, 82, 83] [] (RqJ H b2 b4 l) rfl (by repeat' first | exact Resp.retD | exact Resp1.valuesK | refine Resp.blockD ?_ | refine Resp.thenD ?_ ?_ | refine Resp.hcode ?_) ?_ ?_ | ((first | refine HReg.step ?_ | refine HCode.step ?_); first | refine hcutC (a := Code.seq (Code.region _ _ _) (Code.cond _ _ _)) [5, 6, 7, 8, 9, 10, 11, 18, 19, 20, 21, 22, 23, 24, 25, 26, 27, 28, 29, 30, 31, 32, 33, 34, 35, 36, 37, 38, 39, 40, 41, 42, 43, 44, 45, 46, 47, 48, 49, 50, 51, 52, 53, 54, 55, 56, 57, 58, 59, 60, 61, 62, 63, 64, 65, 66, 67, 68, 69, 70, 71, 72, 73, 74, 75, 76, 77, 78, 79, 80, 81, 82, 83] [] (RqJ H b2 b4 l) rfl (by repeat' first | exact Resp.retD | exact Resp1.valuesK | refine Resp.blockD ?_ | refine Resp.thenD ?_ ?_ | refine Resp.hcode ?_) ?_ ?_ | ((first | refine HReg.step ?_ | refine HCode.step ?_); first | refine hcutC (a := Code.seq (Code.region _ _ _) (Code.cond _ _ _)) [5, 6, 7, 8, 9, 10, 11, 18, 19, 20, 21, 22, 23, 24, 25, 26, 27, 28, 29, 30, 31, 32, 33, 34, 35, 36, 37, 38, 39, 40, 41, 42, 43, 44, 45, 46, 47, 48, 49, 50, 51, 52, 53, 54, 55, 56, 57, 58, 59, 60, 61, 62, 63, 64, 65, 66, 67, 68, 69, 70, 71, 72, 73, 74, 75, 76, 77, 78, 79, 80, 81, 82, 83] [] (RqJ H b2 b4 l) rfl (by repeat' first | exact Resp.retD | exact Resp1.valuesK | refine Resp.blockD ?_ | refine Resp.thenD ?_ ?_ | refine Resp.hcode ?_) ?_ ?_ | ((first | refine HReg.step ?_ | refine HCode.step ?_); first | refine hcutC (a := Code.seq (Code.region _ _ _) (Code.cond _ _ _)) [5, 6, 7, 8, 9, 10, 11, 18, 19, 20, 21, 22, 23, 24, 25, 26, 27, 28, 29, 30, 31, 32, 33, 34, 35, 36, 37, 38, 39, 40, 41, 42, 43, 44, 45, 46, 47, 48, 49, 50, 51, 52, 53, 54, 55, 56, 57, 58, 59, 60, 61, 62, 63, 64, 65, 66, 67, 68, 69, 70, 71, 72, 73, 74, 75, 76, 77, 78, 79, 80, 81, 82, 83] [] (RqJ H b2 b4 l) rfl (by repeat' first | exact Resp.retD | exact Resp1.valuesK | refine Resp.blockD ?_ | refine Resp.thenD ?_ ?_ | refine Resp.hcode ?_) ?_ ?_ | ((first | refine HReg.step ?_ | refine HCode.step ?_); first | refine hcutC (a := Code.seq (Code.region _ _ _) (Code.cond _ _ _)) [5, 6, 7, 8, 9, 10, 11, 18, 19, 20, 21, 22, 23, 24, 25, 26, 27, 28, 29, 30, 31, 32, 33, 34, 35, 36, 37, 38, 39, 40, 41, 42, 43, 44, 45, 46, 47, 48, 49, 50, 51, 52, 53, 54, 55, 56, 57, 58, 59, 60, 61, 62, 63, 64, 65, 66, 67, 68, 69, 70, 71, 72, 73, 74, 75, 76, 77, 78, 79, 80, 81, 82, 83] [] (RqJ H b2 b4 l) rfl (by repeat' first | exact Resp.retD | exact Resp1.valuesK | refine Resp.blockD ?_ | refine Resp.thenD ?_ ?_ | refine Resp.hcode ?_) ?_ ?_ | ((first | refine HReg.step ?_ | refine HCode.step ?_); first | refine hcutC (a := Code.seq (Code.region _ _ _) (Code.cond _ _ _)) [5, 6, 7, 8, 9, 10, 11, 18, 19, 20, 21, 22, 23, 24, 25, 26, 27, 28, 29, 30, 31, 32, 33, 34, 35, 36, 37, 38, 39, 40, 41, 42, 43, 44, 45, 46, 47, 48, 49, 50, 51, 52, 53, 54, 55, 56, 57, 58, 59, 60, 61, 62, 63, 64, 65, 66, 67, 68, 69, 70, 71, 72, 73, 74, 75, 76, 77, 78, 79, 80, 81, 82, 83] [] (RqJ H b2 b4 l) rfl (by repeat' first | exact Resp.retD | exact Resp1.valuesK | refine Resp.blockD ?_ | refine Resp.thenD ?_ ?_ | refine Resp.hcode ?_) ?_ ?_ | ((first | refine HReg.step ?_ | refine HCode.step ?_); first | refine hcutC (a := Code.seq (Code.region _ _ _) (Code.cond _ _ _)) [5, 6, 7, 8, 9, 10, 11, 18, 19, 20, 21, 22, 23, 24, 25, 26, 27, 28, 29, 30, 31, 32, 33, 34, 35, 36, 37, 38, 39, 40, 41, 42, 43, 44, 45, 46, 47, 48, 49, 50, 51, 52, 53, 54, 55, 56, 57, 58, 59, 60, 61, 62, 63, 64, 65, 66, 67, 68, 69, 70, 71, 72, 73, 74, 75, 76, 77, 78, 79, 80, 81, 82, 83] [] (RqJ H b2 b4 l) rfl (by repeat' first | exact Resp.retD | exact Resp1.valuesK | refine Resp.blockD ?_ | refine Resp.thenD ?_ ?_ | refine Resp.hcode ?_) ?_ ?_ | ((first | refine HReg.step ?_ | refine HCode.step ?_); first | refine hcutC (a := Code.seq (Code.region _ _ _) (Code.cond _ _ _)) [5, 6, 7, 8, 9, 10, 11, 18, 19, 20, 21, 22, 23, 24, 25, 26, 27, 28, 29, 30, 31, 32, 33, 34, 35, 36, 37, 38, 39, 40, 41, 42, 43, 44, 45, 46, 47, 48, 49, 50, 51, 52, 53, 54, 55, 56, 57, 58, 59, 60, 61, 62, 63, 64, 65, 66, 67, 68, 69, 70, 71, 72, 73, 74, 75, 76, 77, 78, 79, 80, 81, 82, 83] [] (RqJ H b2 b4 l) rfl (by repeat' first | exact Resp.retD | exact Resp1.valuesK | refine Resp.blockD ?_ | refine Resp.thenD ?_ ?_ | refine Resp.hcode ?_) ?_ ?_ | ((first | refine HReg.step ?_ | refine HCode.step ?_); first | refine hcutC (a := Code.seq (Code.region _ _ _) (Code.cond _ _ _)) [5, 6, 7, 8, 9, 10, 11, 18, 19, 20, 21, 22, 23, 24, 25, 26, 27, 28, 29, 30, 31, 32, 33, 34, 35, 36, 37, 38, 39, 40, 41, 42, 43, 44, 45, 46, 47, 48, 49, 50, 51, 52, 53, 54, 55, 56, 57, 58, 59, 60, 61, 62, 63, 64, 65, 66, 67, 68, 69, 70, 71, 72, 73, 74, 75, 76, 77, 78, 79, 80, 81, 82, 83] [] (RqJ H b2 b4 l) rfl (by repeat' first | exact Resp.retD | exact Resp1.valuesK | refine Resp.blockD ?_ | refine Resp.thenD ?_ ?_ | refine Resp.hcode ?_) ?_ ?_ | ((first | refine HReg.step ?_ | refine HCode.step ?_); first | refine hcutC (a := Code.seq (Code.region _ _ _) (Code.cond _ _ _)) [5, 6, 7, 8, 9, 10, 11, 18, 19, 20, 21, 22, 23, 24, 25, 26, 27, 28, 29, 30, 31, 32, 33, 34, 35, 36, 37, 38, 39, 40, 41, 42, 43, 44, 45, 46, 47, 48, 49, 50, 51, 52, 53, 54, 55, 56, 57, 58, 59, 60, 61, 62, 63, 64, 65, 66, 67, 68, 69, 70, 71, 72, 73, 74, 75, 76, 77, 78, 79, 80, 81, 82, 83] [] (RqJ H b2 b4 l) rfl (by repeat' first | exact Resp.retD | exact Resp1.valuesK | refine Resp.blockD ?_ | refine Resp.thenD ?_ ?_ | refine Resp.hcode ?_) ?_ ?_ | ((first | refine HReg.step ?_ | refine HCode.step ?_); first | refine hcutC (a := Code.seq (Code.region _ _ _) (Code.cond _ _ _)) [5, 6, 7, 8, 9, 10, 11, 18, 19, 20, 21, 22, 23, 24, 25, 26, 27, 28, 29, 30, 31, 32, 33, 34, 35, 36, 37, 38, 39, 40, 41, 42, 43, 44, 45, 46, 47, 48, 49, 50, 51, 52, 53, 54, 55, 56, 57, 58, 59, 60, 61, 62, 63, 64, 65, 66, 67, 68, 69, 70, 71, 72, 73, 74, 75, 76, 77, 78, 79, 80, 81, 82, 83] [] (RqJ H b2 b4 l) rfl (by repeat' first | exact Resp.retD | exact Resp1.valuesK | refine Resp.blockD ?_ | refine Resp.thenD ?_ ?_ | refine Resp.hcode ?_) ?_ ?_ | ((first | refine HReg.step ?_ | refine HCode.step ?_); first | refine hcutC (a := Code.seq (Code.region _ _ _) (Code.cond _ _ _)) [5, 6, 7, 8, 9, 10, 11, 18, 19, 20, 21, 22, 23, 24, 25, 26, 27, 28, 29, 30, 31, 32, 33, 34, 35, 36, 37, 38, 39, 40, 41, 42, 43, 44, 45, 46, 47, 48, 49, 50, 51, 52, 53, 54, 55, 56, 57, 58, 59, 60, 61, 62, 63, 64, 65, 66, 67, 68, 69, 70, 71, 72, 73, 74, 75, 76, 77, 78, 79, 80, 81, 82, 83] [] (RqJ H b2 b4 l) rfl (by repeat' first | exact Resp.retD | exact Resp1.valuesK | refine Resp.blockD ?_ | refine Resp.thenD ?_ ?_ | refine Resp.hcode ?_) ?_ ?_ | ((first | refine HReg.step ?_ | refine HCode.step ?_); first | refine hcutC (a := Code.seq (Code.region _ _ _) (Code.cond _ _ _)) [5, 6, 7, 8, 9, 10, 11, 18, 19, 20, 21, 22, 23, 24, 25, 26, 27, 28, 29, 30, 31, 32, 33, 34, 35, 36, 37, 38, 39, 40, 41, 42, 43, 44, 45, 46, 47, 48, 49, 50, 51, 52, 53, 54, 55, 56, 57, 58, 59, 60, 61, 62, 63, 64, 65, 66, 67, 68, 69, 70, 71, 72, 73, 74, 75, 76, 77, 78, 79, 80, 81, 82, 83] [] (RqJ H b2 b4 l) rfl (by repeat' first | exact Resp.retD | exact Resp1.valuesK | refine Resp.blockD ?_ | refine Resp.thenD ?_ ?_ | refine Resp.hcode ?_) ?_ ?_ | ((first | refine HReg.step ?_ | refine HCode.step ?_); first | refine hcutC (a := Code.seq (Code.region _ _ _) (Code.cond _ _ _)) [5, 6, 7, 8, 9, 10, 11, 18, 19, 20, 21, 22, 23, 24, 25, 26, 27, 28, 29, 30, 31, 32, 33, 34, 35, 36, 37, 38, 39, 40, 41, 42, 43, 44, 45, 46, 47, 48, 49, 50, 51, 52, 53, 54, 55, 56, 57, 58, 59, 60, 61, 62, 63, 64, 65, 66, 67, 68, 69, 70, 71, 72, 73, 74, 75, 76, 77, 78, 79, 80, 81, 82, 83] [] (RqJ H b2 b4 l) rfl (by repeat' first | exact Resp.retD | exact Resp1.valuesK | refine Resp.blockD ?_ | refine Resp.thenD ?_ ?_ | refine Resp.hcode ?_) ?_ ?_ | ((first | refine HReg.step ?_ | refine HCode.step ?_); first | refine hcutC (a := Code.seq (Code.region _ _ _) (Code.cond _ _ _)) [5, 6, 7, 8, 9, 10, 11, 18, 19, 20, 21, 22, 23, 24, 25, 26, 27, 28, 29, 30, 31, 32, 33, 34, 35, 36, 37, 38, 39, 40, 41, 42, 43, 44, 45, 46, 47, 48, 49, 50, 51, 52, 53, 54, 55, 56, 57, 58, 59, 60, 61, 62, 63, 64, 65, 66, 67, 68, 69, 70, 71, 72, 73, 74, 75, 76, 77, 78, 79, 80, 81, 82, 83] [] (RqJ H b2 b4 l) rfl (by repeat' first | exact Resp.retD | exact Resp1.valuesK | refine Resp.blockD ?_ | refine Resp.thenD ?_ ?_ | refine Resp.hcode ?_) ?_ ?_ | ((first | refine HReg.step ?_ | refine HCode.step ?_); first | refine hcutC (a := Code.seq (Code.region _ _ _) (Code.cond _ _ _)) [5, 6, 7, 8, 9, 10, 11, 18, 19, 20, 21, 22, 23, 24, 25, 26, 27, 28, 29, 30, 31, 32, 33, 34, 35, 36, 37, 38, 39, 40, 41, 42, 43, 44, 45, 46, 47, 48, 49, 50, 51, 52, 53, 54, 55, 56, 57, 58, 59, 60, 61, 62, 63, 64, 65, 66, 67, 68, 69, 70, 71, 72, 73, 74, 75, 76, 77, 78, 79, 80, 81, 82, 83] [] (RqJ H b2 b4 l) rfl (by repeat' first | exact Resp.retD | exact Resp1.valuesK | refine Resp.blockD ?_ | refine Resp.thenD ?_ ?_ | refine Resp.hcode ?_) ?_ ?_ | ((first | refine HReg.step ?_ | refine HCode.step ?_); first | refine hcutC (a := Code.seq (Code.region _ _ _) (Code.cond _ _ _)) [5, 6, 7, 8, 9, 10, 11, 18, 19, 20, 21, 22, 23, 24, 25, 26, 27, 28, 29, 30, 31, 32, 33, 34, 35, 36, 37, 38, 39, 40, 41, 42, 43, 44, 45, 46, 47, 48, 49, 50, 51, 52, 53, 54, 55, 56, 57, 58, 59, 60, 61, 62, 63, 64, 65, 66, 67, 68, 69, 70, 71, 72, 73, 74, 75, 76, 77, 78, 79, 80, 81, 82, 83] [] (RqJ H b2 b4 l) rfl (by repeat' first | exact Resp.retD | exact Resp1.valuesK | refine Resp.blockD ?_ | refine Resp.thenD ?_ ?_ | refine Resp.hcode ?_) ?_ ?_ | ((first | refine HReg.step ?_ | refine HCode.step ?_); first | refine hcutC (a := Code.seq (Code.region _ _ _) (Code.cond _ _ _)) [5, 6, 7, 8, 9, 10, 11, 18, 19, 20, 21, 22, 23, 24, 25, 26, 27, 28, 29, 30, 31, 32, 33, 34, 35, 36, 37, 38, 39, 40, 41, 42, 43, 44, 45, 46, 47, 48, 49, 50, 51, 52, 53, 54, 55, 56, 57, 58, 59, 60, 61, 62, 63, 64, 65, 66, 67, 68, 69, 70, 71, 72, 73, 74, 75, 76, 77, 78, 79, 80, 81, 82, 83] [] (RqJ H b2 b4 l) rfl (by repeat' first | exact Resp.retD | exact Resp1.valuesK | refine Resp.blockD ?_ | refine Resp.thenD ?_ ?_ | refine Resp.hcode ?_) ?_ ?_ | ((first | refine HReg.step ?_ | refine HCode.step ?_); first | refine hcutC (a := Code.seq (Code.region _ _ _) (Code.cond _ _ _)) [5, 6, 7, 8, 9, 10, 11, 18, 19, 20, 21, 22, 23, 24, 25, 26, 27, 28, 29, 30, 31, 32, 33, 34, 35, 36, 37, 38, 39, 40, 41, 42, 43, 44, 45, 46, 47, 48, 49, 50, 51, 52, 53, 54, 55, 56, 57, 58, 59, 60, 61, 62, 63, 64, 65, 66, 67, 68, 69, 70, 71, 72, 73, 74, 75, 76, 77, 78, 79, 80, 81, 82, 83] [] (RqJ H b2 b4 l) rfl (by repeat' first | exact Resp.retD | exact Resp1.valuesK | refine Resp.blockD ?_ | refine Resp.thenD ?_ ?_ | refine Resp.hcode ?_) ?_ ?_ | ((first | refine HReg.step ?_ | refine HCode.step ?_); first | refine hcutC (a := Code.seq (Code.region _ _ _) (Code.cond _ _ _)) [5, 6, 7, 8, 9, 10, 11, 18, 19, 20, 21, 22, 23, 24, 25, 26, 27, 28, 29, 30, 31, 32, 33, 34, 35, 36, 37, 38, 39, 40, 41, 42, 43, 44, 45, 46, 47, 48, 49, 50, 51, 52, 53, 54, 55, 56, 57, 58, 59, 60, 61, 62, 63, 64, 65, 66, 67, 68, 69, 70, 71, 72, 73, 74, 75, 76, 77, 78, 79, 80, 81, 82, 83] [] (RqJ H b2 b4 l) rfl (by repeat' first | exact Resp.retD | exact Resp1.valuesK | refine Resp.blockD ?_ | refine Resp.thenD ?_ ?_ | refine Resp.hcode ?_) ?_ ?_ | ((first | refine HReg.step ?_ | refine HCode.step ?_); first | refine hcutC (a := Code.seq (Code.region _ _ _) (Code.cond _ _ _)) [5, 6, 7, 8, 9, 10, 11, 18, 19, 20, 21, 22, 23, 24, 25, 26, 27, 28, 29, 30, 31, 32, 33, 34, 35, 36, 37, 38, 39, 40, 41, 42, 43, 44, 45, 46, 47, 48, 49, 50, 51, 52, 53, 54, 55, 56, 57, 58, 59, 60, 61, 62, 63, 64, 65, 66, 67, 68, 69, 70, 71, 72, 73, 74, 75, 76, 77, 78, 79, 80, 81, 82, 83] [] (RqJ H b2 b4 l) rfl (by repeat' first | exact Resp.retD | exact Resp1.valuesK | refine Resp.blockD ?_ | refine Resp.thenD ?_ ?_ | refine Resp.hcode ?_) ?_ ?_ | ((first | refine HReg.step ?_ | refine HCode.step ?_); first | refine hcutC (a := Code.seq (Code.region _ _ _) (Code.cond _ _ _)) [5, 6, 7, 8, 9, 10, 11, 18, 19, 20, 21, 22, 23, 24, 25, 26, 27, 28, 29, 30, 31, 32, 33, 34, 35, 36, 37, 38, 39, 40, 41, 42, 43, 44, 45, 46, 47, 48, 49, 50, 51, 52, 53, 54, 55, 56, 57, 58, 59, 60, 61, 62, 63, 64, 65, 66, 67, 68, 69, 70, 71, 72, 73, 74, 75, 76, 77, 78, 79, 80, 81, 82, 83] [] (RqJ H b2 b4 l) rfl (by repeat' first | exact Resp.retD | exact Resp1.valuesK | refine Resp.blockD ?_ | refine Resp.thenD ?_ ?_ | refine Resp.hcode ?_) ?_ ?_ | ((first | refine HReg.step ?_ | refine HCode.step ?_); first | refine hcutC (a := Code.seq (Code.region _ _ _) (Code.cond _ _ _)) [5, 6, 7, 8, 9, 10, 11, 18, 19, 20, 21, 22, 23, 24, 25, 26, 27, 28, 29, 30, 31, 32, 33, 34, 35, 36, 37, 38, 39, 40, 41, 42, 43, 44, 45, 46, 47, 48, 49, 50, 51, 52, 53, 54, 55, 56, 57, 58, 59, 60, 61, 62, 63, 64, 65, 66, 67, 68, 69, 70, 71, 72, 73, 74, 75, 76, 77, 78, 79, 80, 81, 82, 83] [] (RqJ H b2 b4 l) rfl (by repeat' first | exact Resp.retD | exact Resp1.valuesK | refine Resp.blockD ?_ | refine Resp.thenD ?_ ?_ | refine Resp.hcode ?_) ?_ ?_ | ((first | refine HReg.step ?_ | refine HCode.step ?_); first | refine hcutC (a := Code.seq (Code.region _ _ _) (Code.cond _ _ _)) [5, 6, 7, 8, 9, 10, 11, 18, 19, 20, 21, 22, 23, 24, 25, 26, 27, 28, 29, 30, 31, 32, 33, 34, 35, 36, 37, 38, 39, 40, 41, 42, 43, 44, 45, 46, 47, 48, 49, 50, 51, 52, 53, 54, 55, 56, 57, 58, 59, 60, 61, 62, 63, 64, 65, 66, 67, 68, 69, 70, 71, 72, 73, 74, 75, 76, 77, 78, 79, 80, 81, 82, 83] [] (RqJ H b2 b4 l) rfl (by repeat' first | exact Resp.retD | exact Resp1.valuesK | refine Resp.blockD ?_ | refine Resp.thenD ?_ ?_ | refine Resp.hcode ?_) ?_ ?_ | ((first | refine HReg.step ?_ | refine HCode.step ?_); first | refine hcutC (a := Code.seq (Code.region _ _ _) (Code.cond _ _ _)) [5, 6, 7, 8, 9, 10, 11, 18, 19, 20, 21, 22, 23, 24, 25, 26, 27, 28, 29, 30, 31, 32, 33, 34, 35, 36, 37, 38, 39, 40, 41, 42, 43, 44, 45, 46, 47, 48, 49, 50, 51, 52, 53, 54, 55, 56, 57, 58, 59, 60, 61, 62, 63, 64, 65, 66, 67, 68, 69, 70, 71, 72, 73, 74, 75, 76, 77, 78, 79, 80, 81, 82, 83] [] (RqJ H b2 b4 l) rfl (by repeat' first | exact Resp.retD | exact Resp1.valuesK | refine Resp.blockD ?_ | refine Resp.thenD ?_ ?_ | refine Resp.hcode ?_) ?_ ?_ | ((first | refine HReg.step ?_ | refine HCode.step ?_); first | refine hcutC (a := Code.seq (Code.region _ _ _) (Code.cond _ _ _)) [5, 6, 7, 8, 9, 10, 11, 18, 19, 20, 21, 22, 23, 24, 25, 26, 27, 28, 29, 30, 31, 32, 33, 34, 35, 36, 37, 38, 39, 40, 41, 42, 43, 44, 45, 46, 47, 48, 49, 50, 51, 52, 53, 54, 55, 56, 57, 58, 59, 60, 61, 62, 63, 64, 65, 66, 67, 68, 69, 70, 71, 72, 73, 74, 75, 76, 77, 78, 79, 80, 81, 82, 83] [] (RqJ H b2 b4 l) rfl (by repeat' first | exact Resp.retD | exact Resp1.valuesK | refine Resp.blockD ?_ | refine Resp.thenD ?_ ?_ | refine Resp.hcode ?_) ?_ ?_ | ((first | refine HReg.step ?_ | refine HCode.step ?_); first | refine hcutC (a := Code.seq (Code.region _ _ _) (Code.cond _ _ _)) [5, 6, 7, 8, 9, 10, 11, 18, 19, 20, 21, 22, 23, 24, 25, 26, 27, 28, 29, 30, 31, 32, 33, 34, 35, 36, 37, 38, 39, 40, 41, 42, 43, 44, 45, 46, 47, 48, 49, 50, 51, 52, 53, 54, 55, 56, 57, 58, 59, 60, 61, 62, 63, 64, 65, 66, 67, 68, 69, 70, 71, 72, 73, 74, 75, 76, 77, 78, 79, 80, 81, 82, 83] [] (RqJ H b2 b4 l) rfl (by repeat' first | exact Resp.retD | exact Resp1.valuesK | refine Resp.blockD ?_ | refine Resp.thenD ?_ ?_ | refine Resp.hcode ?_) ?_ ?_ | ((first | refine HReg.step ?_ | refine HCode.step ?_); first | refine hcutC (a := Code.seq (Code.region _ _ _) (Code.cond _ _ _)) [5, 6, 7, 8, 9, 10, 11, 18, 19, 20, 21, 22, 23, 24, 25, 26, 27, 28, 29, 30, 31, 32, 33, 34, 35, 36, 37, 38, 39, 40, 41, 42, 43, 44, 45, 46, 47, 48, 49, 50, 51, 52, 53, 54, 55, 56, 57, 58, 59, 60, 61, 62, 63, 64, 65, 66, 67, 68, 69, 70, 71, 72, 73, 74, 75, 76, 77, 78, 79, 80, 81, 82, 83] [] (RqJ H b2 b4 l) rfl (by repeat' first | exact Resp.retD | exact Resp1.valuesK | refine Resp.blockD ?_ | refine Resp.thenD ?_ ?_ | refine Resp.hcode ?_) ?_ ?_ | ((first | refine HReg.step ?_ | refine HCode.step ?_); first | refine hcutC (a := Code.seq (Code.region _ _ _) (Code.cond _ _ _)) [5, 6, 7, 8, 9, 10, 11, 18, 19, 20, 21, 22, 23, 24, 25, 26, 27, 28, 29, 30, 31, 32, 33, 34, 35, 36, 37, 38, 39, 40, 41, 42, 43, 44, 45, 46, 47, 48, 49, 50, 51, 52, 53, 54, 55, 56, 57, 58, 59, 60, 61, 62, 63, 64, 65, 66, 67, 68, 69, 70, 71, 72, 73, 74, 75, 76, 77, 78, 79, 80, 81, 82, 83] [] (RqJ H b2 b4 l) rfl (by repeat' first | exact Resp.retD | exact Resp1.valuesK | refine Resp.blockD ?_ | refine Resp.thenD ?_ ?_ | refine Resp.hcode ?_) ?_ ?_ | ((first | refine HReg.step ?_ | refine HCode.step ?_); first | refine hcutC (a := Code.seq (Code.region _ _ _) (Code.cond _ _ _)) [5, 6, 7, 8, 9, 10, 11, 18, 19, 20, 21, 22, 23, 24, 25, 26, 27, 28, 29, 30, 31, 32, 33, 34, 35, 36, 37, 38, 39, 40, 41, 42, 43, 44, 45, 46, 47, 48, 49, 50, 51, 52, 53, 54, 55, 56, 57, 58, 59, 60, 61, 62, 63, 64, 65, 66, 67, 68, 69, 70, 71, 72, 73, 74, 75, 76, 77, 78, 79, 80, 81, 82, 83] [] (RqJ H b2 b4 l) rfl (by repeat' first | exact Resp.retD | exact Resp1.valuesK | refine Resp.blockD ?_ | refine Resp.thenD ?_ ?_ | refine Resp.hcode ?_) ?_ ?_ | ((first | refine HReg.step ?_ | refine HCode.step ?_); first | refine hcutC (a := Code.seq (Code.region _ _ _) (Code.cond _ _ _)) [5, 6, 7, 8, 9, 10, 11, 18, 19, 20, 21, 22, 23, 24, 25, 26, 27, 28, 29, 30, 31, 32, 33, 34, 35, 36, 37, 38, 39, 40, 41, 42, 43, 44, 45, 46, 47, 48, 49, 50, 51, 52, 53, 54, 55, 56, 57, 58, 59, 60, 61, 62, 63, 64, 65, 66, 67, 68, 69, 70, 71, 72, 73, 74, 75, 76, 77, 78, 79, 80, 81, 82, 83] [] (RqJ H b2 b4 l) rfl (by repeat' first | exact Resp.retD | exact Resp1.valuesK | refine Resp.blockD ?_ | refine Resp.thenD ?_ ?_ | refine Resp.hcode ?_) ?_ ?_ | ((first | refine HReg.step ?_ | refine HCode.step ?_); first | refine hcutC (a := Code.seq (Code.region _ _ _) (Code.cond _ _ _)) [5, 6, 7, 8, 9, 10, 11, 18, 19, 20, 21, 22, 23, 24, 25, 26, 27, 28, 29, 30, 31, 32, 33, 34, 35, 36, 37, 38, 39, 40, 41, 42, 43, 44, 45, 46, 47, 48, 49, 50, 51, 52, 53, 54, 55, 56, 57, 58, 59, 60, 61, 62, 63, 64, 65, 66, 67, 68, 69, 70, 71, 72, 73, 74, 75, 76, 77, 78, 79, 80, 81, 82, 83] [] (RqJ H b2 b4 l) rfl (by repeat' first | exact Resp.retD | exact Resp1.valuesK | refine Resp.blockD ?_ | refine Resp.thenD ?_ ?_ | refine Resp.hcode ?_) ?_ ?_ | ((first | refine HReg.step ?_ | refine HCode.step ?_); first | refine hcutC (a := Code.seq (Code.region _ _ _) (Code.cond _ _ _)) [5, 6, 7, 8, 9, 10, 11, 18, 19, 20, 21, 22, 23, 24, 25, 26, 27, 28, 29, 30, 31, 32, 33, 34, 35, 36, 37, 38, 39, 40, 41, 42, 43, 44, 45, 46, 47, 48, 49, 50, 51, 52, 53, 54, 55, 56, 57, 58, 59, 60, 61, 62, 63, 64, 65, 66, 67, 68, 69, 70, 71, 72, 73, 74, 75, 76, 77, 78, 79, 80, 81, 82, 83] [] (RqJ H b2 b4 l) rfl (by repeat' first | exact Resp.retD | exact Resp1.valuesK | refine Resp.blockD ?_ | refine Resp.thenD ?_ ?_ | refine Resp.hcode ?_) ?_ ?_ | ((first | refine HReg.step ?_ | refine HCode.step ?_); first | refine hcutC (a := Code.seq (Code.region _ _ _) (Code.cond _ _ _)) [5, 6, 7, 8, 9, 10, 11, 18, 19, 20, 21, 22, 23, 24, 25, 26, 27, 28, 29, 30, 31, 32, 33, 34, 35, 36, 37, 38, 39, 40, 41, 42, 43, 44, 45, 46, 47, 48, 49, 50, 51, 52, 53, 54, 55, 56, 57, 58, 59, 60, 61, 62, 63, 64, 65, 66, 67, 68, 69, 70, 71, 72, 73, 74, 75, 76, 77, 78, 79, 80, 81, 82, 83] [] (RqJ H b2 b4 l) rfl (by repeat' first | exact Resp.retD | exact Resp1.valuesK | refine Resp.blockD ?_ | refine Resp.thenD ?_ ?_ | refine Resp.hcode ?_) ?_ ?_ | ((first | refine HReg.step ?_ | refine HCode.step ?_); first | refine hcutC (a := Code.seq (Code.region _ _ _) (Code.cond _ _ _)) [5, 6, 7, 8, 9, 10, 11, 18, 19, 20, 21, 22, 23, 24, 25, 26, 27, 28, 29, 30, 31, 32, 33, 34, 35, 36, 37, 38, 39, 40, 41, 42, 43, 44, 45, 46, 47, 48, 49, 50, 51, 52, 53, 54, 55, 56, 57, 58, 59, 60, 61, 62, 63, 64, 65, 66, 67, 68, 69, 70, 71, 72, 73, 74, 75, 76, 77, 78, 79, 80, 81, 82, 83] [] (RqJ H b2 b4 l) rfl (by repeat' first | exact Resp.retD | exact Resp1.valuesK | refine Resp.blockD ?_ | refine Resp.thenD ?_ ?_ | refine Resp.hcode ?_) ?_ ?_ | ((first | refine HReg.step ?_ | refine HCode.step ?_); first | refine hcutC (a := Code.seq (Code.region _ _ _) (Code.cond _ _ _)) [5, 6, 7, 8, 9, 10, 11, 18, 19, 20, 21, 22, 23, 24, 25, 26, 27, 28, 29, 30, 31, 32, 33, 34, 35, 36, 37, 38, 39, 40, 41, 42, 43, 44, 45, 46, 47, 48, 49, 50, 51, 52, 53, 54, 55, 56, 57, 58, 59, 60, 61, 62, 63, 64, 65, 66, 67, 68, 69, 70, 71, 72, 73, 74, 75, 76, 77, 78, 79, 80, 81, 82, 83] [] (RqJ H b2 b4 l) rfl (by repeat' first | exact Resp.retD | exact Resp1.valuesK | refine Resp.blockD ?_ | refine Resp.thenD ?_ ?_ | refine Resp.hcode ?_) ?_ ?_ | ((first | refine HReg.step ?_ | refine HCode.step ?_); first | refine hcutC (a := Code.seq (Code.region _ _ _) (Code.cond _ _ _)) [5, 6, 7, 8, 9, 10, 11, 18, 19, 20, 21, 22, 23, 24, 25, 26, 27, 28, 29, 30, 31, 32, 33, 34, 35, 36, 37, 38, 39, 40, 41, 42, 43, 44, 45, 46, 47, 48, 49, 50, 51, 52, 53, 54, 55, 56, 57, 58, 59, 60, 61, 62, 63, 64, 65, 66, 67, 68, 69, 70, 71, 72, 73, 74, 75, 76, 77, 78, 79, 80, 81, 82, 83] [] (RqJ H b2 b4 l) rfl (by repeat' first | exact Resp.retD | exact Resp1.valuesK | refine Resp.blockD ?_ | refine Resp.thenD ?_ ?_ | refine Resp.hcode ?_) ?_ ?_ | ((first | refine HReg.step ?_ | refine HCode.step ?_); first | refine hcutC (a := Code.seq (Code.region _ _ _) (Code.cond _ _ _)) [5, 6, 7, 8, 9, 10, 11, 18, 19, 20, 21, 22, 23, 24, 25, 26, 27, 28, 29, 30, 31, 32, 33, 34, 35, 36, 37, 38, 39, 40, 41, 42, 43, 44, 45, 46, 47, 48, 49, 50, 51, 52, 53, 54, 55, 56, 57, 58, 59, 60, 61, 62, 63, 64, 65, 66, 67, 68, 69, 70, 71, 72, 73, 74, 75, 76, 77, 78, 79, 80, 81, 82, 83] [] (RqJ H b2 b4 l) rfl (by repeat' first | exact Resp.retD | exact Resp1.valuesK | refine Resp.blockD ?_ | refine Resp.thenD ?_ ?_ | refine Resp.hcode ?_) ?_ ?_ | ((first | refine HReg.step ?_ | refine HCode.step ?_); first | refine hcutC (a := Code.seq (Code.region _ _ _) (Code.cond _ _ _)) [5, 6, 7, 8, 9, 10, 11, 18, 19, 20, 21, 22, 23, 24, 25, 26, 27, 28, 29, 30, 31, 32, 33, 34, 35, 36, 37, 38, 39, 40, 41, 42, 43, 44, 45, 46, 47, 48, 49, 50, 51, 52, 53, 54, 55, 56, 57, 58, 59, 60, 61, 62, 63, 64, 65, 66, 67, 68, 69, 70, 71, 72, 73, 74, 75, 76, 77, 78, 79, 80, 81, 82, 83] [] (RqJ H b2 b4 l) rfl (by repeat' first | exact Resp.retD | exact Resp1.valuesK | refine Resp.blockD ?_ | refine Resp.thenD ?_ ?_ | refine Resp.hcode ?_) ?_ ?_ | ((first | refine HReg.step ?_ | refine HCode.step ?_); first | refine hcutC (a := Code.seq (Code.region _ _ _) (Code.cond _ _ _)) [5, 6, 7, 8, 9, 10, 11, 18, 19, 20, 21, 22, 23, 24, 25, 26, 27, 28, 29, 30, 31, 32, 33, 34, 35, 36, 37, 38, 39, 40, 41, 42, 43, 44, 45, 46, 47, 48, 49, 50, 51, 52, 53, 54, 55, 56, 57, 58, 59, 60, 61, 62, 63, 64, 65, 66, 67, 68, 69, 70, 71, 72, 73, 74, 75, 76, 77, 78, 79, 80, 81, 82, 83] [] (RqJ H b2 b4 l) rfl (by repeat' first | exact Resp.retD | exact Resp1.valuesK | refine Resp.blockD ?_ | refine Resp.thenD ?_ ?_ | refine Resp.hcode ?_) ?_ ?_ | ((first | refine HReg.step ?_ | refine HCode.step ?_); first | refine hcutC (a := Code.seq (Code.region _ _ _) (Code.cond _ _ _)) [5, 6, 7, 8, 9, 10, 11, 18, 19, 20, 21, 22, 23, 24, 25, 26, 27, 28, 29, 30, 31, 32, 33, 34, 35, 36, 37, 38, 39, 40, 41, 42, 43, 44, 45, 46, 47, 48, 49, 50, 51, 52, 53, 54, 55, 56, 57, 58, 59, 60, 61, 62, 63, 64, 65, 66, 67, 68, 69, 70, 71, 72, 73, 74, 75, 76, 77, 78, 79, 80, 81, 82, 83] [] (RqJ H b2 b4 l) rfl (by repeat' first | exact Resp.retD | exact Resp1.valuesK | refine Resp.blockD ?_ | refine Resp.thenD ?_ ?_ | refine Resp.hcode ?_) ?_ ?_ | ((first | refine HReg.step ?_ | refine HCode.step ?_); first | refine hcutC (a := Code.seq (Code.region _ _ _) (Code.cond _ _ _)) [5, 6, 7, 8, 9, 10, 11, 18, 19, 20, 21, 22, 23, 24, 25, 26, 27, 28, 29, 30, 31, 32, 33, 34, 35, 36, 37, 38, 39, 40, 41, 42, 43, 44, 45, 46, 47, 48, 49, 50, 51, 52, 53, 54, 55, 56, 57, 58, 59, 60, 61, 62, 63, 64, 65, 66, 67, 68, 69, 70, 71, 72, 73, 74, 75, 76, 77, 78, 79, 80, 81, 82, 83] [] (RqJ H b2 b4 l) rfl (by repeat' first | exact Resp.retD | exact Resp1.valuesK | refine Resp.blockD ?_ | refine Resp.thenD ?_ ?_ | refine Resp.hcode ?_) ?_ ?_ | ((first | refine HReg.step ?_ | refine HCode.step ?_); first | refine hcutC (a := Code.seq (Code.region _ _ _) (Code.cond _ _ _)) [5, 6, 7, 8, 9, 10, 11, 18, 19, 20, 21, 22, 23, 24, 25, 26, 27, 28, 29, 30, 31, 32, 33, 34, 35, 36, 37, 38, 39, 40, 41, 42, 43, 44, 45, 46, 47, 48, 49, 50, 51, 52, 53, 54, 55, 56, 57, 58, 59, 60, 61, 62, 63, 64, 65, 66, 67, 68, 69, 70, 71, 72, 73, 74, 75, 76, 77, 78, 79, 80, 81, 82, 83] [] (RqJ H b2 b4 l) rfl (by repeat' first | exact Resp.retD | exact Resp1.valuesK | refine Resp.blockD ?_ | refine Resp.thenD ?_ ?_ | refine Resp.hcode ?_) ?_ ?_ | ((first | refine HReg.step ?_ | refine HCode.step ?_); refine hcutC (a := Code.seq (Code.region _ _ _) (Code.cond _ _ _)) [5, 6, 7, 8, 9, 10, 11, 18, 19, 20, 21, 22, 23, 24, 25, 26, 27, 28, 29, 30, 31, 32, 33, 34, 35, 36, 37, 38, 39, 40, 41, 42, 43, 44, 45, 46, 47, 48, 49, 50, 51, 52, 53, 54, 55, 56, 57, 58, 59, 60, 61, 62, 63, 64, 65, 66, 67, 68, 69, 70, 71, 72, 73, 74, 75, 76, 77, 78, 79, 80, 81, 82, 83] [] (RqJ H b2 b4 l) rfl (by repeat' first | exact Resp.retD | exact Resp1.valuesK | refine Resp.blockD ?_ | refine Resp.thenD ?_ ?_ | refine Resp.hcode ?_) ?_ ?_))))))))))))))))))))))))))))))))))))))))))))))))))))))))))))
  · (repeat first | refine HReg.step ?_ | refine HCode.step ?_)
    refine HLoad.one (v := .int .i64 (getR l 0 1 : Int)) (by exact s4.o.rows.get (i := 0) rfl) ?_
    (repeat first | refine HReg.step ?_ | refine HCode.step ?_)
    refine hif (fun h1 => ?_) (fun h1 => ?_)
    · have h1 := eqB_true.1 h1
      have h01 : getR l 0 1 = 1 := by omega
      have hcand : candR l = ⟨1, getR l 1 8, (prR l (getR l 9 4) 13).1, (ksR l (getR l (prR l (getR l 9 4) 13).2 4) ((prR l (getR l 9 4) 13).2 + 4)).1⟩ := by unfold candR; rw [if_pos h01]
      rw [h01] at s4
      have hr4 := hr.upd (S := []) s4.u (.inr (Off.nil _))
      have hgn := getR_lt l 9 4
      have hgn : getR l 9 4 < 4294967296 := hgn
      have wn : wr .i64 (getR l 9 4 : Int) = (getR l 9 4 : Int) := by rw [wr_i64 (by omega) (by omega)]
      (repeat first | refine HReg.step ?_ | refine HCode.step ?_)
      refine HCall.mk ⟨Tryz.f74, Tryz.func74, by rfl, by rfl⟩ ?_
      refine get_t (p := 9) (n := 4) hr4 rfl (by omega) (by omega) (by decide) ?_
      first | refine hcutC (a := Code.seq (Code.region _ _ _) (Code.block _ _)) [5, 7, 8, 24, 25, 26, 27, 28, 29, 30, 31, 32, 33, 34, 35, 36, 37, 38, 39, 40, 41, 42, 43, 44, 45, 46, 47, 48, 49, 50, 51, 52, 53, 54] [5] (Rq1J H b2 b4 l (getR l 1 8) (getR l 9 4)) rfl (by repeat' first | exact Resp.retD | exact Resp1.valuesK | refine Resp.blockD ?_ | refine Resp.thenD ?_ ?_ | refine Resp.hcode ?_) ?_ ?_ | ((first | refine HReg.step ?_ | refine HCode.step ?_); first | refine hcutC (a := Code.seq (Code.region _ _ _) (Code.block _ _)) [5, 7, 8, 24, 25, 26, 27, 28, 29, 30, 31, 32, 33, 34, 35, 36, 37, 38, 39, 40, 41, 42, 43, 44, 45, 46, 47, 48, 49, 50, 51, 52, 53, 54] [5] (Rq1J H b2 b4 l (getR l 1 8) (getR l 9 4)) rfl (by repeat' first | exact Resp.retD | exact Resp1.valuesK | refine Resp.blockD ?_ | refine Resp.thenD ?_ ?_ | refine Resp.hcode ?_) ?_ ?_ | ((first | refine HReg.step ?_ | refine HCode.step ?_); first | refine hcutC (a := Code.seq (Code.region _ _ _) (Code.block _ _)) [5, 7, 8, 24, 25, 26, 27, 28, 29, 30, 31, 32, 33, 34, 35, 36, 37, 38, 39, 40, 41, 42, 43, 44, 45, 46, 47, 48, 49, 50, 51, 52, 53, 54] [5] (Rq1J H b2 b4 l (getR l 1 8) (getR l 9 4)) rfl (by repeat' first | exact Resp.retD | exact Resp1.valuesK | refine Resp.blockD ?_ | refine Resp.thenD ?_ ?_ | refine Resp.hcode ?_) ?_ ?_ | ((first | refine HReg.step ?_ | refine HCode.step ?_); first | refine hcutC (a := Code.seq (Code.region _ _ _) (Code.block _ _)) [5, 7, 8, 24, 25, 26, 27, 28, 29, 30, 31, 32, 33, 34, 35, 36, 37, 38, 39, 40, 41, 42, 43, 44, 45, 46, 47, 48, 49, 50, 51, 52, 53, 54] [5] (Rq1J H b2 b4 l (getR l 1 8) (getR l 9 4)) rfl (by repeat' first | exact Resp.retD | exact Resp1.valuesK | refine Resp.blockD ?_ | refine Resp.thenD ?_ ?_ | refine Resp.hcode ?_) ?_ ?_ | ((first | refine HReg.step ?_ | refine HCode.step ?_); first | refine hcutC (a := Code.seq (Code.region _ _ _) (Code.block _ _)) [5, 7, 8, 24, 25, 26, 27, 28, 29, 30, 31, 32, 33, 34, 35, 36, 37, 38, 39, 40, 41, 42, 43, 44, 45, 46, 47, 48, 49, 50, 51, 52, 53, 54] [5] (Rq1J H b2 b4 l (getR l 1 8) (getR l 9 4)) rfl (by repeat' first | exact Resp.retD | exact Resp1.valuesK | refine Resp.blockD ?_ | refine Resp.thenD ?_ ?_ | refine Resp.hcode ?_) ?_ ?_ | ((first | refine HReg.step ?_ | refine HCode.step ?_); first | refine hcutC (a := Code.seq (Code.region _ _ _) (Code.block _ _)) [5, 7, 8, 24, 25, 26, 27, 28, 29, 30, 31, 32, 33, 34, 35, 36, 37, 38, 39, 40, 41, 42, 43, 44, 45, 46, 47, 48, 49, 50, 51, 52, 53, 54] [5] (Rq1J H b2 b4 l (getR l 1 8) (getR l 9 4)) rfl (by repeat' first | exact Resp.retD | exact Resp1.valuesK | refine Resp.blockD ?_ | refine Resp.thenD ?_ ?_ | refine Resp.hcode ?_) ?_ ?_ | ((first | refine HReg.step ?_ | refine HCode.step ?_); first | refine hcutC (a := Code.seq (Code.region _ _ _) (Code.block _ _)) [5, 7, 8, 24, 25, 26, 27, 28, 29, 30, 31, 32, 33, 34, 35, 36, 37, 38, 39, 40, 41, 42, 43, 44, 45, 46, 47, 48, 49, 50, 51, 52, 53, 54] [5] (Rq1J H b2 b4 l (getR l 1 8) (getR l 9 4)) rfl (by repeat' first | exact Resp.retD | exact Resp1.valuesK | refine Resp.blockD ?_ | refine Resp.thenD ?_ ?_ | refine Resp.hcode ?_) ?_ ?_ | ((first | refine HReg.step ?_ | refine HCode.step ?_); first | refine hcutC (a := Code.seq (Code.region _ _ _) (Code.block _ _)) [5, 7, 8, 24, 25, 26, 27, 28, 29, 30, 31, 32, 33, 34, 35, 36, 37, 38, 39, 40, 41, 42, 43, 44, 45, 46, 47, 48, 49, 50, 51, 52, 53, 54] [5] (Rq1J H b2 b4 l (getR l 1 8) (getR l 9 4)) rfl (by repeat' first | exact Resp.retD | exact Resp1.valuesK | refine Resp.blockD ?_ | refine Resp.thenD ?_ ?_ | refine Resp.hcode ?_) ?_ ?_ | ((first | refine HReg.step ?_ | refine HCode.step ?_); first | refine hcutC (a := Code.seq (Code.region _ _ _) (Code.block _ _)) [5, 7, 8, 24, 25, 26, 27, 28, 29, 30, 31, 32, 33, 34, 35, 36, 37, 38, 39, 40, 41, 42, 43, 44, 45, 46, 47, 48, 49, 50, 51, 52, 53, 54] [5] (Rq1J H b2 b4 l (getR l 1 8) (getR l 9 4)) rfl (by repeat' first | exact Resp.retD | exact Resp1.valuesK | refine Resp.blockD ?_ | refine Resp.thenD ?_ ?_ | refine Resp.hcode ?_) ?_ ?_ | ((first | refine HReg.step ?_ | refine HCode.step ?_); first | refine hcutC (a := Code.seq (Code.region _ _ _) (Code.block _ _)) [5, 7, 8, 24, 25, 26, 27, 28, 29, 30, 31, 32, 33, 34, 35, 36, 37, 38, 39, 40, 41, 42, 43, 44, 45, 46, 47, 48, 49, 50, 51, 52, 53, 54] [5] (Rq1J H b2 b4 l (getR l 1 8) (getR l 9 4)) rfl (by repeat' first | exact Resp.retD | exact Resp1.valuesK | refine Resp.blockD ?_ | refine Resp.thenD ?_ ?_ | refine Resp.hcode ?_) ?_ ?_ | ((first | refine HReg.step ?_ | refine HCode.step ?_); first | refine hcutC (a := Code.seq (Code.region _ _ _) (Code.block _ _)) [5, 7, 8, 24, 25, 26, 27, 28, 29, 30, 31, 32, 33, 34, 35, 36, 37, 38, 39, 40, 41, 42, 43, 44, 45, 46, 47, 48, 49, 50, 51, 52, 53, 54] [5] (Rq1J H b2 b4 l (getR l 1 8) (getR l 9 4)) rfl (by repeat' first | exact Resp.retD | exact Resp1.valuesK | refine Resp.blockD ?_ | refine Resp.thenD ?_ ?_ | refine Resp.hcode ?_) ?_ ?_ | ((first | refine HReg.step ?_ | refine HCode.step ?_); first | refine hcutC (a := Code.seq (Code.region _ _ _) (Code.block _ _)) [5, 7, 8, 24, 25, 26, 27, 28, 29, 30, 31, 32, 33, 34, 35, 36, 37, 38, 39, 40, 41, 42, 43, 44, 45, 46, 47, 48, 49, 50, 51, 52, 53, 54] [5] (Rq1J H b2 b4 l (getR l 1 8) (getR l 9 4)) rfl (by repeat' first | exact Resp.retD | exact Resp1.valuesK | refine Resp.blockD ?_ | refine Resp.thenD ?_ ?_ | refine Resp.hcode ?_) ?_ ?_ | ((first | refine HReg.step ?_ | refine HCode.step ?_); first | refine hcutC (a := Code.seq (Code.region _ _ _) (Code.block _ _)) [5, 7, 8, 24, 25, 26, 27, 28, 29, 30, 31, 32, 33, 34, 35, 36, 37, 38, 39, 40, 41, 42, 43, 44, 45, 46, 47, 48, 49, 50, 51, 52, 53, 54] [5] (Rq1J H b2 b4 l (getR l 1 8) (getR l 9 4)) rfl (by repeat' first | exact Resp.retD | exact Resp1.valuesK | refine Resp.blockD ?_ | refine Resp.thenD ?_ ?_ | refine Resp.hcode ?_) ?_ ?_ | ((first | refine HReg.step ?_ | refine HCode.step ?_); first | refine hcutC (a := Code.seq (Code.region _ _ _) (Code.block _ _)) [5, 7, 8, 24, 25, 26, 27, 28, 29, 30, 31, 32, 33, 34, 35, 36, 37, 38, 39, 40, 41, 42, 43, 44, 45, 46, 47, 48, 49, 50, 51, 52, 53, 54] [5] (Rq1J H b2 b4 l (getR l 1 8) (getR l 9 4)) rfl (by repeat' first | exact Resp.retD | exact Resp1.valuesK | refine Resp.blockD ?_ | refine Resp.thenD ?_ ?_ | refine Resp.hcode ?_) ?_ ?_ | ((first | refine HReg.step ?_ | refine HCode.step ?_); first | refine hcutC (a := Code.seq (Code.region _ _ _) (Code.block _ _)) [5, 7, 8, 24, 25, 26, 27, 28, 29, 30, 31, 32, 33, 34, 35, 36, 37, 38, 39, 40, 41, 42, 43, 44, 45, 46, 47, 48, 49, 50, 51, 52, 53, 54] [5] (Rq1J H b2 b4 l (getR l 1 8) (getR l 9 4)) rfl (by repeat' first | exact Resp.retD | exact Resp1.valuesK | refine Resp.blockD ?_ | refine Resp.thenD ?_ ?_ | refine Resp.hcode ?_) ?_ ?_ | ((first | refine HReg.step ?_ | refine HCode.step ?_); first | refine hcutC (a := Code.seq (Code.region _ _ _) (Code.block _ _)) [5, 7, 8, 24, 25, 26, 27, 28, 29, 30, 31, 32, 33, 34, 35, 36, 37, 38, 39, 40, 41, 42, 43, 44, 45, 46, 47, 48, 49, 50, 51, 52, 53, 54] [5] (Rq1J H b2 b4 l (getR l 1 8) (getR l 9 4)) rfl (by repeat' first | exact Resp.retD | exact Resp1.valuesK | refine Resp.blockD ?_ | refine Resp.thenD ?_ ?_ | refine Resp.hcode ?_) ?_ ?_ | ((first | refine HReg.step ?_ | refine HCode.step ?_); first | refine hcutC (a := Code.seq (Code.region _ _ _) (Code.block _ _)) [5, 7, 8, 24, 25, 26, 27, 28, 29, 30, 31, 32, 33, 34, 35, 36, 37, 38, 39, 40, 41, 42, 43, 44, 45, 46, 47, 48, 49, 50, 51, 52, 53, 54] [5] (Rq1J H b2 b4 l (getR l 1 8) (getR l 9 4)) rfl (by repeat' first | exact Resp.retD | exact Resp1.valuesK | refine Resp.blockD ?_ | refine Resp.thenD ?_ ?_ | refine Resp.hcode ?_) ?_ ?_ | ((first | refine HReg.step ?_ | refine HCode.step ?_); first | refine hcutC (a := Code.seq (Code.region _ _ _) (Code.block _ _)) [5, 7, 8, 24, 25, 26, 27, 28, 29, 30, 31, 32, 33, 34, 35, 36, 37, 38, 39, 40, 41, 42, 43, 44, 45, 46, 47, 48, 49, 50, 51, 52, 53, 54] [5] (Rq1J H b2 b4 l (getR l 1 8) (getR l 9 4)) rfl (by repeat' first | exact Resp.retD | exact Resp1.valuesK | refine Resp.blockD ?_ | refine Resp.thenD ?_ ?_ | refine Resp.hcode ?_) ?_ ?_ | ((first | refine HReg.step ?_ | refine HCode.step ?_); first | refine hcutC (a := Code.seq (Code.region _ _ _) (Code.block _ _)) [5, 7, 8, 24, 25, 26, 27, 28, 29, 30, 31, 32, 33, 34, 35, 36, 37, 38, 39, 40, 41, 42, 43, 44, 45, 46, 47, 48, 49, 50, 51, 52, 53, 54] [5] (Rq1J H b2 b4 l (getR l 1 8) (getR l 9 4)) rfl (by repeat' first | exact Resp.retD | exact Resp1.valuesK | refine Resp.blockD ?_ | refine Resp.thenD ?_ ?_ | refine Resp.hcode ?_) ?_ ?_ | ((first | refine HReg.step ?_ | refine HCode.step ?_); first | refine hcutC (a := Code.seq (Code.region _ _ _) (Code.block _ _)) [5, 7, 8, 24, 25, 26, 27, 28, 29, 30, 31, 32, 33, 34, 35, 36, 37, 38, 39, 40, 41, 42, 43, 44, 45, 46, 47, 48, 49, 50, 51, 52, 53, 54] [5] (Rq1J H b2 b4 l (getR l 1 8) (getR l 9 4)) rfl (by repeat' first | exact Resp.retD | exact Resp1.valuesK | refine Resp.blockD ?_ | refine Resp.thenD ?_ ?_ | refine Resp.hcode ?_) ?_ ?_ | ((first | refine HReg.step ?_ | refine HCode.step ?_); first | refine hcutC (a := Code.seq (Code.region _ _ _) (Code.block _ _)) [5, 7, 8, 24, 25, 26, 27, 28, 29, 30, 31, 32, 33, 34, 35, 36, 37, 38, 39, 40, 41, 42, 43, 44, 45, 46, 47, 48, 49, 50, 51, 52, 53, 54] [5] (Rq1J H b2 b4 l (getR l 1 8) (getR l 9 4)) rfl (by repeat' first | exact Resp.retD | exact Resp1.valuesK | refine Resp.blockD ?_ | refine Resp.thenD ?_ ?_ | refine Resp.hcode ?_) ?_ ?_ | ((first | refine HReg.step ?_ | refine HCode.step ?_); first | refine hcutC (a := Code.seq (Code.region _ _ _) (Code.block _ _)) [5, 7, 8, 24, 25, 26, 27, 28, 29, 30, 31, 32, 33, 34, 35, 36, 37, 38, 39, 40, 41, 42, 43, 44, 45, 46, 47, 48, 49, 50, 51, 52, 53, 54] [5] (Rq1J H b2 b4 l (getR l 1 8) (getR l 9 4)) rfl (by repeat' first | exact Resp.retD | exact Resp1.valuesK | refine Resp.blockD ?_ | refine Resp.thenD ?_ ?_ | refine Resp.hcode ?_) ?_ ?_ | ((first | refine HReg.step ?_ | refine HCode.step ?_); first | refine hcutC (a := Code.seq (Code.region _ _ _) (Code.block _ _)) [5, 7, 8, 24, 25, 26, 27, 28, 29, 30, 31, 32, 33, 34, 35, 36, 37, 38, 39, 40, 41, 42, 43, 44, 45, 46, 47, 48, 49, 50, 51, 52, 53, 54] [5] (Rq1J H b2 b4 l (getR l 1 8) (getR l 9 4)) rfl (by repeat' first | exact Resp.retD | exact Resp1.valuesK | refine Resp.blockD ?_ | refine Resp.thenD ?_ ?_ | refine Resp.hcode ?_) ?_ ?_ | ((first | refine HReg.step ?_ | refine HCode.step ?_); first | refine hcutC (a := Code.seq (Code.region _ _ _) (Code.block _ _)) [5, 7, 8, 24, 25, 26, 27, 28, 29, 30, 31, 32, 33, 34, 35, 36, 37, 38, 39, 40, 41, 42, 43, 44, 45, 46, 47, 48, 49, 50, 51, 52, 53, 54] [5] (Rq1J H b2 b4 l (getR l 1 8) (getR l 9 4)) rfl (by repeat' first | exact Resp.retD | exact Resp1.valuesK | refine Resp.blockD ?_ | refine Resp.thenD ?_ ?_ | refine Resp.hcode ?_) ?_ ?_ | ((first | refine HReg.step ?_ | refine HCode.step ?_); first | refine hcutC (a := Code.seq (Code.region _ _ _) (Code.block _ _)) [5, 7, 8, 24, 25, 26, 27, 28, 29, 30, 31, 32, 33, 34, 35, 36, 37, 38, 39, 40, 41, 42, 43, 44, 45, 46, 47, 48, 49, 50, 51, 52, 53, 54] [5] (Rq1J H b2 b4 l (getR l 1 8) (getR l 9 4)) rfl (by repeat' first | exact Resp.retD | exact Resp1.valuesK | refine Resp.blockD ?_ | refine Resp.thenD ?_ ?_ | refine Resp.hcode ?_) ?_ ?_ | ((first | refine HReg.step ?_ | refine HCode.step ?_); first | refine hcutC (a := Code.seq (Code.region _ _ _) (Code.block _ _)) [5, 7, 8, 24, 25, 26, 27, 28, 29, 30, 31, 32, 33, 34, 35, 36, 37, 38, 39, 40, 41, 42, 43, 44, 45, 46, 47, 48, 49, 50, 51, 52, 53, 54] [5] (Rq1J H b2 b4 l (getR l 1 8) (getR l 9 4)) rfl (by repeat' first | exact Resp.retD | exact Resp1.valuesK | refine Resp.blockD ?_ | refine Resp.thenD ?_ ?_ | refine Resp.hcode ?_) ?_ ?_ | ((first | refine HReg.step ?_ | refine HCode.step ?_); first | refine hcutC (a := Code.seq (Code.region _ _ _) (Code.block _ _)) [5, 7, 8, 24, 25, 26, 27, 28, 29, 30, 31, 32, 33, 34, 35, 36, 37, 38, 39, 40, 41, 42, 43, 44, 45, 46, 47, 48, 49, 50, 51, 52, 53, 54] [5] (Rq1J H b2 b4 l (getR l 1 8) (getR l 9 4)) rfl (by repeat' first | exact Resp.retD | exact Resp1.valuesK | refine Resp.blockD ?_ | refine Resp.thenD ?_ ?_ | refine Resp.hcode ?_) ?_ ?_ | ((first | refine HReg.step ?_ | refine HCode.step ?_); first | refine hcutC (a := Code.seq (Code.region _ _ _) (Code.block _ _)) [5, 7, 8, 24, 25, 26, 27, 28, 29, 30, 31, 32, 33, 34, 35, 36, 37, 38, 39, 40, 41, 42, 43, 44, 45, 46, 47, 48, 49, 50, 51, 52, 53, 54] [5] (Rq1J H b2 b4 l (getR l 1 8) (getR l 9 4)) rfl (by repeat' first | exact Resp.retD | exact Resp1.valuesK | refine Resp.blockD ?_ | refine Resp.thenD ?_ ?_ | refine Resp.hcode ?_) ?_ ?_ | ((first | refine HReg.step ?_ | refine HCode.step ?_); first | refine hcutC (a := Code.seq (Code.region _ _ _) (Code.block _ _)) [5, 7, 8, 24, 25, 26, 27, 28, 29, 30, 31, 32, 33, 34, 35, 36, 37, 38, 39, 40, 41, 42, 43, 44, 45, 46, 47, 48, 49, 50, 51, 52, 53, 54] [5] (Rq1J H b2 b4 l (getR l 1 8) (getR l 9 4)) rfl (by repeat' first | exact Resp.retD | exact Resp1.valuesK | refine Resp.blockD ?_ | refine Resp.thenD ?_ ?_ | refine Resp.hcode ?_) ?_ ?_ | ((first | refine HReg.step ?_ | refine HCode.step ?_); first | refine hcutC (a := Code.seq (Code.region _ _ _) (Code.block _ _)) [5, 7, 8, 24, 25, 26, 27, 28, 29, 30, 31, 32, 33, 34, 35, 36, 37, 38, 39, 40, 41, 42, 43, 44, 45, 46, 47, 48, 49, 50, 51, 52, 53, 54] [5] (Rq1J H b2 b4 l (getR l 1 8) (getR l 9 4)) rfl (by repeat' first | exact Resp.retD | exact Resp1.valuesK | refine Resp.blockD ?_ | refine Resp.thenD ?_ ?_ | refine Resp.hcode ?_) ?_ ?_ | ((first | refine HReg.step ?_ | refine HCode.step ?_); first | refine hcutC (a := Code.seq (Code.region _ _ _) (Code.block _ _)) [5, 7, 8, 24, 25, 26, 27, 28, 29, 30, 31, 32, 33, 34, 35, 36, 37, 38, 39, 40, 41, 42, 43, 44, 45, 46, 47, 48, 49, 50, 51, 52, 53, 54] [5] (Rq1J H b2 b4 l (getR l 1 8) (getR l 9 4)) rfl (by repeat' first | exact Resp.retD | exact Resp1.valuesK | refine Resp.blockD ?_ | refine Resp.thenD ?_ ?_ | refine Resp.hcode ?_) ?_ ?_ | ((first | refine HReg.step ?_ | refine HCode.step ?_); first | refine hcutC (a := Code.seq (Code.region _ _ _) (Code.block _ _)) [5, 7, 8, 24, 25, 26, 27, 28, 29, 30, 31, 32, 33, 34, 35, 36, 37, 38, 39, 40, 41, 42, 43, 44, 45, 46, 47, 48, 49, 50, 51, 52, 53, 54] [5] (Rq1J H b2 b4 l (getR l 1 8) (getR l 9 4)) rfl (by repeat' first | exact Resp.retD | exact Resp1.valuesK | refine Resp.blockD ?_ | refine Resp.thenD ?_ ?_ | refine Resp.hcode ?_) ?_ ?_ | ((first | refine HReg.step ?_ | refine HCode.step ?_); first | refine hcutC (a := Code.seq (Code.region _ _ _) (Code.block _ _)) [5, 7, 8, 24, 25, 26, 27, 28, 29, 30, 31, 32, 33, 34, 35, 36, 37, 38, 39, 40, 41, 42, 43, 44, 45, 46, 47, 48, 49, 50, 51, 52, 53, 54] [5] (Rq1J H b2 b4 l (getR l 1 8) (getR l 9 4)) rfl (by repeat' first | exact Resp.retD | exact Resp1.valuesK | refine Resp.blockD ?_ | refine Resp.thenD ?_ ?_ | refine Resp.hcode ?_) ?_ ?_ | ((first | refine HReg.step ?_ | refine HCode.step ?_); first | refine hcutC (a := Code.seq (Code.region _ _ _) (Code.block _ _)) [5, 7, 8, 24, 25, 26, 27, 28, 29, 30, 31, 32, 33, 34, 35, 36, 37, 38, 39, 40, 41, 42, 43, 44, 45, 46, 47, 48, 49, 50, 51, 52, 53, 54] [5] (Rq1J H b2 b4 l (getR l 1 8) (getR l 9 4)) rfl (by repeat' first | exact Resp.retD | exact Resp1.valuesK | refine Resp.blockD ?_ | refine Resp.thenD ?_ ?_ | refine Resp.hcode ?_) ?_ ?_ | ((first | refine HReg.step ?_ | refine HCode.step ?_); first | refine hcutC (a := Code.seq (Code.region _ _ _) (Code.block _ _)) [5, 7, 8, 24, 25, 26, 27, 28, 29, 30, 31, 32, 33, 34, 35, 36, 37, 38, 39, 40, 41, 42, 43, 44, 45, 46, 47, 48, 49, 50, 51, 52, 53, 54] [5] (Rq1J H b2 b4 l (getR l 1 8) (getR l 9 4)) rfl (by repeat' first | exact Resp.retD | exact Resp1.valuesK | refine Resp.blockD ?_ | refine Resp.thenD ?_ ?_ | refine Resp.hcode ?_) ?_ ?_ | ((first | refine HReg.step ?_ | refine HCode.step ?_); first | refine hcutC (a := Code.seq (Code.region _ _ _) (Code.block _ _)) [5, 7, 8, 24, 25, 26, 27, 28, 29, 30, 31, 32, 33, 34, 35, 36, 37, 38, 39, 40, 41, 42, 43, 44, 45, 46, 47, 48, 49, 50, 51, 52, 53, 54] [5] (Rq1J H b2 b4 l (getR l 1 8) (getR l 9 4)) rfl (by repeat' first | exact Resp.retD | exact Resp1.valuesK | refine Resp.blockD ?_ | refine Resp.thenD ?_ ?_ | refine Resp.hcode ?_) ?_ ?_ | ((first | refine HReg.step ?_ | refine HCode.step ?_); first | refine hcutC (a := Code.seq (Code.region _ _ _) (Code.block _ _)) [5, 7, 8, 24, 25, 26, 27, 28, 29, 30, 31, 32, 33, 34, 35, 36, 37, 38, 39, 40, 41, 42, 43, 44, 45, 46, 47, 48, 49, 50, 51, 52, 53, 54] [5] (Rq1J H b2 b4 l (getR l 1 8) (getR l 9 4)) rfl (by repeat' first | exact Resp.retD | exact Resp1.valuesK | refine Resp.blockD ?_ | refine Resp.thenD ?_ ?_ | refine Resp.hcode ?_) ?_ ?_ | ((first | refine HReg.step ?_ | refine HCode.step ?_); first | refine hcutC (a := Code.seq (Code.region _ _ _) (Code.block _ _)) [5, 7, 8, 24, 25, 26, 27, 28, 29, 30, 31, 32, 33, 34, 35, 36, 37, 38, 39, 40, 41, 42, 43, 44, 45, 46, 47, 48, 49, 50, 51, 52, 53, 54] [5] (Rq1J H b2 b4 l (getR l 1 8) (getR l 9 4)) rfl (by repeat' first | exact Resp.retD | exact Resp1.valuesK | refine Resp.blockD ?_ | refine Resp.thenD ?_ ?_ | refine Resp.hcode ?_) ?_ ?_ | ((first | refine HReg.step ?_ | refine HCode.step ?_); first | refine hcutC (a := Code.seq (Code.region _ _ _) (Code.block _ _)) [5, 7, 8, 24, 25, 26, 27, 28, 29, 30, 31, 32, 33, 34, 35, 36, 37, 38, 39, 40, 41, 42, 43, 44, 45, 46, 47, 48, 49, 50, 51, 52, 53, 54] [5] (Rq1J H b2 b4 l (getR l 1 8) (getR l 9 4)) rfl (by repeat' first | exact Resp.retD | exact Resp1.valuesK | refine Resp.blockD ?_ | refine Resp.thenD ?_ ?_ | refine Resp.hcode ?_) ?_ ?_ | ((first | refine HReg.step ?_ | refine HCode.step ?_); first | refine hcutC (a := Code.seq (Code.region _ _ _) (Code.block _ _)) [5, 7, 8, 24, 25, 26, 27, 28, 29, 30, 31, 32, 33, 34, 35, 36, 37, 38, 39, 40, 41, 42, 43, 44, 45, 46, 47, 48, 49, 50, 51, 52, 53, 54] [5] (Rq1J H b2 b4 l (getR l 1 8) (getR l 9 4)) rfl (by repeat' first | exact Resp.retD | exact Resp1.valuesK | refine Resp.blockD ?_ | refine Resp.thenD ?_ ?_ | refine Resp.hcode ?_) ?_ ?_ | ((first | refine HReg.step ?_ | refine HCode.step ?_); first | refine hcutC (a := Code.seq (Code.region _ _ _) (Code.block _ _)) [5, 7, 8, 24, 25, 26, 27, 28, 29, 30, 31, 32, 33, 34, 35, 36, 37, 38, 39, 40, 41, 42, 43, 44, 45, 46, 47, 48, 49, 50, 51, 52, 53, 54] [5] (Rq1J H b2 b4 l (getR l 1 8) (getR l 9 4)) rfl (by repeat' first | exact Resp.retD | exact Resp1.valuesK | refine Resp.blockD ?_ | refine Resp.thenD ?_ ?_ | refine Resp.hcode ?_) ?_ ?_ | ((first | refine HReg.step ?_ | refine HCode.step ?_); first | refine hcutC (a := Code.seq (Code.region _ _ _) (Code.block _ _)) [5, 7, 8, 24, 25, 26, 27, 28, 29, 30, 31, 32, 33, 34, 35, 36, 37, 38, 39, 40, 41, 42, 43, 44, 45, 46, 47, 48, 49, 50, 51, 52, 53, 54] [5] (Rq1J H b2 b4 l (getR l 1 8) (getR l 9 4)) rfl (by repeat' first | exact Resp.retD | exact Resp1.valuesK | refine Resp.blockD ?_ | refine Resp.thenD ?_ ?_ | refine Resp.hcode ?_) ?_ ?_ | ((first | refine HReg.step ?_ | refine HCode.step ?_); first | refine hcutC (a := Code.seq (Code.region _ _ _) (Code.block _ _)) [5, 7, 8, 24, 25, 26, 27, 28, 29, 30, 31, 32, 33, 34, 35, 36, 37, 38, 39, 40, 41, 42, 43, 44, 45, 46, 47, 48, 49, 50, 51, 52, 53, 54] [5] (Rq1J H b2 b4 l (getR l 1 8) (getR l 9 4)) rfl (by repeat' first | exact Resp.retD | exact Resp1.valuesK | refine Resp.blockD ?_ | refine Resp.thenD ?_ ?_ | refine Resp.hcode ?_) ?_ ?_ | ((first | refine HReg.step ?_ | refine HCode.step ?_); first | refine hcutC (a := Code.seq (Code.region _ _ _) (Code.block _ _)) [5, 7, 8, 24, 25, 26, 27, 28, 29, 30, 31, 32, 33, 34, 35, 36, 37, 38, 39, 40, 41, 42, 43, 44, 45, 46, 47, 48, 49, 50, 51, 52, 53, 54] [5] (Rq1J H b2 b4 l (getR l 1 8) (getR l 9 4)) rfl (by repeat' first | exact Resp.retD | exact Resp1.valuesK | refine Resp.blockD ?_ | refine Resp.thenD ?_ ?_ | refine Resp.hcode ?_) ?_ ?_ | ((first | refine HReg.step ?_ | refine HCode.step ?_); first | refine hcutC (a := Code.seq (Code.region _ _ _) (Code.block _ _)) [5, 7, 8, 24, 25, 26, 27, 28, 29, 30, 31, 32, 33, 34, 35, 36, 37, 38, 39, 40, 41, 42, 43, 44, 45, 46, 47, 48, 49, 50, 51, 52, 53, 54] [5] (Rq1J H b2 b4 l (getR l 1 8) (getR l 9 4)) rfl (by repeat' first | exact Resp.retD | exact Resp1.valuesK | refine Resp.blockD ?_ | refine Resp.thenD ?_ ?_ | refine Resp.hcode ?_) ?_ ?_ | ((first | refine HReg.step ?_ | refine HCode.step ?_); first | refine hcutC (a := Code.seq (Code.region _ _ _) (Code.block _ _)) [5, 7, 8, 24, 25, 26, 27, 28, 29, 30, 31, 32, 33, 34, 35, 36, 37, 38, 39, 40, 41, 42, 43, 44, 45, 46, 47, 48, 49, 50, 51, 52, 53, 54] [5] (Rq1J H b2 b4 l (getR l 1 8) (getR l 9 4)) rfl (by repeat' first | exact Resp.retD | exact Resp1.valuesK | refine Resp.blockD ?_ | refine Resp.thenD ?_ ?_ | refine Resp.hcode ?_) ?_ ?_ | ((first | refine HReg.step ?_ | refine HCode.step ?_); first | refine hcutC (a := Code.seq (Code.region _ _ _) (Code.block _ _)) [5, 7, 8, 24, 25, 26, 27, 28, 29, 30, 31, 32, 33, 34, 35, 36, 37, 38, 39, 40, 41, 42, 43, 44, 45, 46, 47, 48, 49, 50, 51, 52, 53, 54] [5] (Rq1J H b2 b4 l (getR l 1 8) (getR l 9 4)) rfl (by repeat' first | exact Resp.retD | exact Resp1.valuesK | refine Resp.blockD ?_ | refine Resp.thenD ?_ ?_ | refine Resp.hcode ?_) ?_ ?_ | ((first | refine HReg.step ?_ | refine HCode.step ?_); first | refine hcutC (a := Code.seq (Code.region _ _ _) (Code.block _ _)) [5, 7, 8, 24, 25, 26, 27, 28, 29, 30, 31, 32, 33, 34, 35, 36, 37, 38, 39, 40, 41, 42, 43, 44, 45, 46, 47, 48, 49, 50, 51, 52, 53, 54] [5] (Rq1J H b2 b4 l (getR l 1 8) (getR l 9 4)) rfl (by repeat' first | exact Resp.retD | exact Resp1.valuesK | refine Resp.blockD ?_ | refine Resp.thenD ?_ ?_ | refine Resp.hcode ?_) ?_ ?_ | ((first | refine HReg.step ?_ | refine HCode.step ?_); first | refine hcutC (a := Code.seq (Code.region _ _ _) (Code.block _ _)) [5, 7, 8, 24, 25, 26, 27, 28, 29, 30, 31, 32, 33, 34, 35, 36, 37, 38, 39, 40, 41, 42, 43, 44, 45, 46, 47, 48, 49, 50, 51, 52, 53, 54] [5] (Rq1J H b2 b4 l (getR l 1 8) (getR l 9 4)) rfl (by repeat' first | exact Resp.retD | exact Resp1.valuesK | refine Resp.blockD ?_ | refine Resp.thenD ?_ ?_ | refine Resp.hcode ?_) ?_ ?_ | ((first | refine HReg.step ?_ | refine HCode.step ?_); first | refine hcutC (a := Code.seq (Code.region _ _ _) (Code.block _ _)) [5, 7, 8, 24, 25, 26, 27, 28, 29, 30, 31, 32, 33, 34, 35, 36, 37, 38, 39, 40, 41, 42, 43, 44, 45, 46, 47, 48, 49, 50, 51, 52, 53, 54] [5] (Rq1J H b2 b4 l (getR l 1 8) (getR l 9 4)) rfl (by repeat' first | exact Resp.retD | exact Resp1.valuesK | refine Resp.blockD ?_ | refine Resp.thenD ?_ ?_ | refine Resp.hcode ?_) ?_ ?_ | ((first | refine HReg.step ?_ | refine HCode.step ?_); first | refine hcutC (a := Code.seq (Code.region _ _ _) (Code.block _ _)) [5, 7, 8, 24, 25, 26, 27, 28, 29, 30, 31, 32, 33, 34, 35, 36, 37, 38, 39, 40, 41, 42, 43, 44, 45, 46, 47, 48, 49, 50, 51, 52, 53, 54] [5] (Rq1J H b2 b4 l (getR l 1 8) (getR l 9 4)) rfl (by repeat' first | exact Resp.retD | exact Resp1.valuesK | refine Resp.blockD ?_ | refine Resp.thenD ?_ ?_ | refine Resp.hcode ?_) ?_ ?_ | ((first | refine HReg.step ?_ | refine HCode.step ?_); first | refine hcutC (a := Code.seq (Code.region _ _ _) (Code.block _ _)) [5, 7, 8, 24, 25, 26, 27, 28, 29, 30, 31, 32, 33, 34, 35, 36, 37, 38, 39, 40, 41, 42, 43, 44, 45, 46, 47, 48, 49, 50, 51, 52, 53, 54] [5] (Rq1J H b2 b4 l (getR l 1 8) (getR l 9 4)) rfl (by repeat' first | exact Resp.retD | exact Resp1.valuesK | refine Resp.blockD ?_ | refine Resp.thenD ?_ ?_ | refine Resp.hcode ?_) ?_ ?_ | ((first | refine HReg.step ?_ | refine HCode.step ?_); first | refine hcutC (a := Code.seq (Code.region _ _ _) (Code.block _ _)) [5, 7, 8, 24, 25, 26, 27, 28, 29, 30, 31, 32, 33, 34, 35, 36, 37, 38, 39, 40, 41, 42, 43, 44, 45, 46, 47, 48, 49, 50, 51, 52, 53, 54] [5] (Rq1J H b2 b4 l (getR l 1 8) (getR l 9 4)) rfl (by repeat' first | exact Resp.retD | exact Resp1.valuesK | refine Resp.blockD ?_ | refine Resp.thenD ?_ ?_ | refine Resp.hcode ?_) ?_ ?_ | ((first | refine HReg.step ?_ | refine HCode.step ?_); first | refine hcutC (a := Code.seq (Code.region _ _ _) (Code.block _ _)) [5, 7, 8, 24, 25, 26, 27, 28, 29, 30, 31, 32, 33, 34, 35, 36, 37, 38, 39, 40, 41, 42, 43, 44, 45, 46, 47, 48, 49, 50, 51, 52, 53, 54] [5] (Rq1J H b2 b4 l (getR l 1 8) (getR l 9 4)) rfl (by repeat' first | exact Resp.retD | exact Resp1.valuesK | refine Resp.blockD ?_ | refine Resp.thenD ?_ ?_ | refine Resp.hcode ?_) ?_ ?_ | ((first | refine HReg.step ?_ | refine HCode.step ?_); first | refine hcutC (a := Code.seq (Code.region _ _ _) (Code.block _ _)) [5, 7, 8, 24, 25, 26, 27, 28, 29, 30, 31, 32, 33, 34, 35, 36, 37, 38, 39, 40, 41, 42, 43, 44, 45, 46, 47, 48, 49, 50, 51, 52, 53, 54] [5] (Rq1J H b2 b4 l (getR l 1 8) (getR l 9 4)) rfl (by repeat' first | exact Resp.retD | exact Resp1.valuesK | refine Resp.blockD ?_ | refine Resp.thenD ?_ ?_ | refine Resp.hcode ?_) ?_ ?_ | ((first | refine HReg.step ?_ | refine HCode.step ?_); first | refine hcutC (a := Code.seq (Code.region _ _ _) (Code.block _ _)) [5, 7, 8, 24, 25, 26, 27, 28, 29, 30, 31, 32, 33, 34, 35, 36, 37, 38, 39, 40, 41, 42, 43, 44, 45, 46, 47, 48, 49, 50, 51, 52, 53, 54] [5] (Rq1J H b2 b4 l (getR l 1 8) (getR l 9 4)) rfl (by repeat' first | exact Resp.retD | exact Resp1.valuesK | refine Resp.blockD ?_ | refine Resp.thenD ?_ ?_ | refine Resp.hcode ?_) ?_ ?_ | ((first | refine HReg.step ?_ | refine HCode.step ?_); first | refine hcutC (a := Code.seq (Code.region _ _ _) (Code.block _ _)) [5, 7, 8, 24, 25, 26, 27, 28, 29, 30, 31, 32, 33, 34, 35, 36, 37, 38, 39, 40, 41, 42, 43, 44, 45, 46, 47, 48, 49, 50, 51, 52, 53, 54] [5] (Rq1J H b2 b4 l (getR l 1 8) (getR l 9 4)) rfl (by repeat' first | exact Resp.retD | exact Resp1.valuesK | refine Resp.blockD ?_ | refine Resp.thenD ?_ ?_ | refine Resp.hcode ?_) ?_ ?_ | ((first | refine HReg.step ?_ | refine HCode.step ?_); first | refine hcutC (a := Code.seq (Code.region _ _ _) (Code.block _ _)) [5, 7, 8, 24, 25, 26, 27, 28, 29, 30, 31, 32, 33, 34, 35, 36, 37, 38, 39, 40, 41, 42, 43, 44, 45, 46, 47, 48, 49, 50, 51, 52, 53, 54] [5] (Rq1J H b2 b4 l (getR l 1 8) (getR l 9 4)) rfl (by repeat' first | exact Resp.retD | exact Resp1.valuesK | refine Resp.blockD ?_ | refine Resp.thenD ?_ ?_ | refine Resp.hcode ?_) ?_ ?_ | ((first | refine HReg.step ?_ | refine HCode.step ?_); first | refine hcutC (a := Code.seq (Code.region _ _ _) (Code.block _ _)) [5, 7, 8, 24, 25, 26, 27, 28, 29, 30, 31, 32, 33, 34, 35, 36, 37, 38, 39, 40, 41, 42, 43, 44, 45, 46, 47, 48, 49, 50, 51, 52, 53, 54] [5] (Rq1J H b2 b4 l (getR l 1 8) (getR l 9 4)) rfl (by repeat' first | exact Resp.retD | exact Resp1.valuesK | refine Resp.blockD ?_ | refine Resp.thenD ?_ ?_ | refine Resp.hcode ?_) ?_ ?_ | ((first | refine HReg.step ?_ | refine HCode.step ?_); first | refine hcutC (a := Code.seq (Code.region _ _ _) (Code.block _ _)) [5, 7, 8, 24, 25, 26, 27, 28, 29, 30, 31, 32, 33, 34, 35, 36, 37, 38, 39, 40, 41, 42, 43, 44, 45, 46, 47, 48, 49, 50, 51, 52, 53, 54] [5] (Rq1J H b2 b4 l (getR l 1 8) (getR l 9 4)) rfl (by repeat' first | exact Resp.retD | exact Resp1.valuesK | refine Resp.blockD ?_ | refine Resp.thenD ?_ ?_ | refine Resp.hcode ?_) ?_ ?_ | ((first | refine HReg.step ?_ | refine HCode.step ?_); refine hcutC (a := Code.seq (Code.region _ _ _) (Code.block _ _)) [5, 7, 8, 24, 25, 26, 27, 28, 29, 30, 31, 32, 33, 34, 35, 36, 37, 38, 39, 40, 41, 42, 43, 44, 45, 46, 47, 48, 49, 50, 51, 52, 53, 54] [5] (Rq1J H b2 b4 l (getR l 1 8) (getR l 9 4)) rfl (by repeat' first | exact Resp.retD | exact Resp1.valuesK | refine Resp.blockD ?_ | refine Resp.thenD ?_ ?_ | refine Resp.hcode ?_) ?_ ?_))))))))))))))))))))))))))))))))))))))))))))))))))))))))))))
      · (repeat first | refine HReg.step ?_ | refine HCode.step ?_)
        rw [wn]
        refine hloopC [5, 7, 8, 24, 25, 26, 27, 28, 29, 30, 31, 32, 33, 34, 35, 36, 37, 38, 39, 40, 41, 42, 43, 44, 45, 46, 47, 48, 49, 50, 51, 52, 53, 54] [5, 7] (Rq1 H b2 b4 l (getR l 1 8) (getR l 9 4)) rfl (by repeat' first | exact Resp.retD | exact Resp1.valuesK | refine Resp.blockD ?_ | refine Resp.thenD ?_ ?_ | refine Resp.hcode ?_) ?_ ?_
        · exact ⟨getR l 9 4, Rq1.mk ⟨0, 13, [], none, 0, rfl, rfl, rfl, Nat.zero_le _, Nat.zero_le _, by decide, s4⟩⟩
        rintro m _ fe H5 ⟨i, p, ps, ap, cp, rfl, hmi, hpr, hpp, hpl, hpb, s5⟩
        have wi : wr .i64 ((i : Int) + 1) = ((i + 1 : Nat) : Int) := by rw [wr_i64 (by omega) (by omega)]; omega
        (repeat first | refine HReg.step ?_ | refine HCode.step ?_)
        refine hif (fun h2 => ?_) (fun h2 => ?_)
        · have h2 := ltB_true.1 h2
          (repeat first | refine HReg.step ?_ | refine HCode.step ?_)
          refine hif (fun h3 => ?_) (fun h3 => ?_)
          · have h3 := ltB_true.1 h3
            obtain ⟨q, rfl⟩ : ∃ q, m = q + 1 := ⟨m - 1, by omega⟩
            have hq : prR l (q + 1) p = (((pieceR l p).1, (pieceR l (pieceR l p).2).1) :: (prR l q (pieceR l (pieceR l p).2).2).1, (prR l q (pieceR l (pieceR l p).2).2).2) := by
              show (if p < l.length then _ else _) = _
              rw [if_pos (by omega)]
            obtain ⟨pp1, pp2⟩ := piece_pos l p
            obtain ⟨pp3, pp4⟩ := piece_pos l (pieceR l p).2
            have hr5 := hr.upd (S := []) s5.u (.inr (Off.nil _))
            (repeat first | refine HReg.step ?_ | refine HCode.step ?_)
            refine HNew.mk fun b8 hb8 => ?_
            have u8 : Upd [] H5 (H5.upd b8 (.cells [Value.string ⟨#[]⟩, Value.string ⟨#[]⟩].toArray 100)) := Upd.new hb8 _
            have o8 : OwnRow (H5.upd b8 (.cells [Value.string ⟨#[]⟩, Value.string ⟨#[]⟩].toArray 100)) 100 1 (some ⟨b8, 0, none⟩) 2 2 [Value.string ⟨#[]⟩, Value.string ⟨#[]⟩] := OwnRow.lit (upd_same _ _ _) rfl
            generalize hH8 : H5.upd b8 (.cells [Value.string ⟨#[]⟩, Value.string ⟨#[]⟩].toArray 100) = H8 at u8 o8
            (repeat first | refine HReg.step ?_ | refine HCode.step ?_)
            refine HCall.mk ⟨Tryz.f102, Tryz.func102, by rfl, by rfl⟩ ?_
            refine piece_t (p := p) (hr5.upd (S := []) u8 (.inr (Off.nil _))) rfl (by omega) (by omega) (by omega) ?_
            (repeat first | refine HReg.step ?_ | refine HCode.step ?_)
            refine store_row o8 (v := .string (bs (pieceR l p).1)) rfl (i := 0) (by decide) (by rfl) fun H9 o9 u9 => ?_
            have u59 : Upd [] H5 H9 := Upd.drop u8 u9 (fun x hx => by rw [List.mem_singleton.1 hx]; exact hb8)
            (repeat first | refine HReg.step ?_ | refine HCode.step ?_)
            refine HCall.mk ⟨Tryz.f102, Tryz.func102, by rfl, by rfl⟩ ?_
            refine piece_t (p := (pieceR l p).2) (hr5.upd (S := []) u59 (.inr (Off.nil _))) rfl (by omega) (by omega) (by omega) ?_
            (repeat first | refine HReg.step ?_ | refine HCode.step ?_)
            refine store_row o9 (v := .string (bs (pieceR l (pieceR l p).2).1)) rfl (i := 1) (by decide) (by rfl) fun H10 o10 u10 => ?_
            have u510 : Upd [] H5 H10 := Upd.drop u59 u10 (fun x hx => by rw [List.mem_singleton.1 hx]; exact hb8)
            have s10 := s5.upd0 u510
            generalize (pieceR l p).1 = k1 at *
            generalize (pieceR l (pieceR l p).2).1 = v1 at *
            generalize (pieceR l (pieceR l p).2).2 = p2 at *
            have o10 : OwnRow H10 100 1 (some ⟨b8, 0, none⟩) 2 2 [.string (bs k1), .string (bs v1)] := o10
            (repeat first | refine HReg.step ?_ | refine HCode.step ?_)
            refine HLoad.one (v := .slice ap ps.length cp) (by exact s10.o.rows.get (i := 2) rfl) ?_
            (repeat first | refine HReg.step ?_ | refine HCode.step ?_)
            refine HLoadN_row o10.rows rfl ?_
            (repeat first | refine HReg.step ?_ | refine HCode.step ?_)
            refine HReq.mk (by decide) ?_
            (repeat first | refine HReg.step ?_ | refine HCode.step ?_)
            refine HNew.mk fun b11 hb11 => ?_
            have u11 : Upd [] H10 (H10.upd b11 (.cells [Value.string (bs k1), .string (bs v1)].toArray 100)) := Upd.new hb11 _
            have r11 : RowAt (H10.upd b11 (.cells [Value.string (bs k1), .string (bs v1)].toArray 100)) (some ⟨b11, 0, none⟩) (pairsV [(k1, v1)]) := RowAt.of_cells (upd_same _ _ _)
            generalize hH11 : H10.upd b11 (.cells [Value.string (bs k1), .string (bs v1)].toArray 100) = H11 at u11 r11
            have s11 := s10.upd0 u11
            have hps : ps.length ≤ 1048576 := by omega
            (repeat first | refine HReg.step ?_ | refine HCode.step ?_)
            refine append_rows (ie := Tryz.t100) (z := .agg #[.string ⟨#[]⟩, .string ⟨#[]⟩]) (xs := pairsV ps) (ys := pairsV [(k1, v1)]) Tryz.underlying38 rfl rfl rfl (by decide) s11.p r11 rfl (plain_pairs _) (by show (ps.length + 1) * 32 ≤ _; omega) (by omega) fun a12 c12 H12 o12 u12 f12 => ?_
            rw [← pairsV_append] at o12
            have o12b := s11.o.upd u12 (s11.p.offT s11.o (by decide))
            (repeat first | refine HReg.step ?_ | refine HCode.step ?_)
            refine store_row o12b (v := .slice a12 (ps.length + 1) c12) rfl (i := 2) (by decide) (by rfl) fun H13 o13 u13 => ?_
            have s13 := s11.addP (p := (k1, v1)) o12 u12 f12 o13 u13 (by omega)
            (repeat first | refine HReg.step ?_ | refine HCode.step ?_)
            rw [wi]
            refine Exists.intro q ?_
            refine And.intro (by omega) ?_
            refine Rq1.mk ⟨i + 1, p2, ps ++ [(k1, v1)], a12, c12, rfl, by omega, ?_, by rw [List.length_append]; simp only [List.length_cons, List.length_nil]; omega, by rw [List.length_append]; simp only [List.length_cons, List.length_nil]; omega, by omega, s13⟩
            rw [hpr, hq]
            simp
          · have h3 := ltB_false.1 h3
            have e0 : prR l m p = ([], p) := by
              cases m with
              | zero => rfl
              | succ m => show (if p < l.length then _ else _) = _; rw [if_neg (by omega)]
            rw [e0, List.append_nil] at hpr
            (repeat first | refine HReg.step ?_ | refine HCode.step ?_)
            exact Rq1J.mk ⟨ap, cp, by rw [hpr], by rw [hpr]; exact hpb, by rw [hpr]; exact s5⟩
        · have h2 := ltB_false.1 h2
          obtain rfl : m = 0 := by omega
          have e0 : prR l 0 p = ([], p) := rfl
          rw [e0, List.append_nil] at hpr
          (repeat first | refine HReg.step ?_ | refine HCode.step ?_)
          exact Rq1J.mk ⟨ap, cp, by rw [hpr], by rw [hpr]; exact hpb, by rw [hpr]; exact s5⟩
      rintro _ fe2 H5 ⟨ap, cp, rfl, hpb, s5⟩
      have hr5 := hr.upd (S := []) s5.u (.inr (Off.nil _))
      rw [show (prR l (getR l 9 4) 13) = ((prR l (getR l 9 4) 13).1, (prR l (getR l 9 4) 13).2) from rfl] at hcand
      generalize (prR l (getR l 9 4) 13).1 = ps at *
      generalize (prR l (getR l 9 4) 13).2 = P at *
      have hgm := getR_lt l P 4
      have hgm : getR l P 4 < 4294967296 := hgm
      have wm : wr .i64 (getR l P 4 : Int) = (getR l P 4 : Int) := by rw [wr_i64 (by omega) (by omega)]
      have w4 : wr .i64 ((P : Int) + 4) = ((P + 4 : Nat) : Int) := by rw [wr_i64 (by omega) (by omega)]; omega
      (repeat first | refine HReg.step ?_ | refine HCode.step ?_)
      refine HCall.mk ⟨Tryz.f74, Tryz.func74, by rfl, by rfl⟩ ?_
      refine get_t (p := P) (n := 4) hr5 rfl (by omega) (by omega) (by decide) ?_
      (repeat first | refine HReg.step ?_ | refine HCode.step ?_)
      rw [wm, w4]
      refine hloopC [5, 10, 11, 61, 62, 63, 64, 65, 66, 67, 68, 69, 70, 71, 72, 73, 74, 75, 76, 77, 78, 79, 80, 81, 82, 83] [5, 10] (Rq2 H b2 b4 l (getR l 1 8) ps (getR l P 4) (P + 4)) rfl (by repeat' first | exact Resp.retD | exact Resp1.valuesK | refine Resp.blockD ?_ | refine Resp.thenD ?_ ?_ | refine Resp.hcode ?_) ?_ ?_
      · exact ⟨getR l P 4, Rq2.mk ⟨0, P + 4, [], ap, cp, none, 0, rfl, rfl, rfl, Nat.zero_le _, Nat.zero_le _, by omega, s5⟩⟩
      rintro m _ fe H6 ⟨i, p, ks, ap6, cp6, ak6, ck6, rfl, hmi, hks, hkp, hkl, hkb, s6⟩
      have wi : wr .i64 ((i : Int) + 1) = ((i + 1 : Nat) : Int) := by rw [wr_i64 (by omega) (by omega)]; omega
      (repeat first | refine HReg.step ?_ | refine HCode.step ?_)
      refine hif (fun h2 => ?_) (fun h2 => ?_)
      · have h2 := ltB_true.1 h2
        (repeat first | refine HReg.step ?_ | refine HCode.step ?_)
        refine hif (fun h3 => ?_) (fun h3 => ?_)
        · have h3 := ltB_true.1 h3
          obtain ⟨q, rfl⟩ : ∃ q, m = q + 1 := ⟨m - 1, by omega⟩
          have hq : ksR l (q + 1) p = ((pieceR l p).1 :: (ksR l q (pieceR l p).2).1, (ksR l q (pieceR l p).2).2) := by
            show (if p < l.length then _ else _) = _
            rw [if_pos (by omega)]
          obtain ⟨pp1, pp2⟩ := piece_pos l p
          have hr6 := hr.upd (S := []) s6.u (.inr (Off.nil _))
          (repeat first | refine HReg.step ?_ | refine HCode.step ?_)
          refine HCall.mk ⟨Tryz.f102, Tryz.func102, by rfl, by rfl⟩ ?_
          refine piece_t (p := p) hr6 rfl (by omega) (by omega) (by omega) ?_
          generalize (pieceR l p).1 = k1 at *
          generalize (pieceR l p).2 = p2 at *
          (repeat first | refine HReg.step ?_ | refine HCode.step ?_)
          refine HLoad.one (v := .slice ak6 ks.length ck6) (by exact s6.o.rows.get (i := 3) rfl) ?_
          (repeat first | refine HReg.step ?_ | refine HCode.step ?_)
          refine HReq.mk (by decide) ?_
          (repeat first | refine HReg.step ?_ | refine HCode.step ?_)
          refine HNew.mk fun b11 hb11 => ?_
          have u11 : Upd [] H6 (H6.upd b11 (.cells [Value.string (bs k1)].toArray 9)) := Upd.new hb11 _
          have r11 : RowAt (H6.upd b11 (.cells [Value.string (bs k1)].toArray 9)) (some ⟨b11, 0, none⟩) (txts [k1]) := RowAt.of_cells (upd_same _ _ _)
          generalize hH11 : H6.upd b11 (.cells [Value.string (bs k1)].toArray 9) = H11 at u11 r11
          have s11 := s6.upd0 u11
          (repeat first | refine HReg.step ?_ | refine HCode.step ?_)
          refine append_rows (ie := Tryz.t9) (z := .string ⟨#[]⟩) (xs := txts ks) (ys := txts [k1]) Tryz.underlying39 rfl rfl rfl (by decide) s11.k r11 rfl (plain_txts _) (by show (ks.length + 1) * 16 ≤ _; omega) (by omega) fun a12 c12 H12 o12 u12 f12 => ?_
          rw [← txts_append] at o12
          have o12b := s11.o.upd u12 (s11.k.offT s11.o (by decide))
          (repeat first | refine HReg.step ?_ | refine HCode.step ?_)
          refine store_row o12b (v := .slice a12 (ks.length + 1) c12) rfl (i := 3) (by decide) (by rfl) fun H13 o13 u13 => ?_
          have s13 := s11.addK (p := k1) o12 u12 f12 o13 u13 (by omega)
          (repeat first | refine HReg.step ?_ | refine HCode.step ?_)
          rw [wi]
          refine Exists.intro q ?_
          refine And.intro (by omega) ?_
          refine Rq2.mk ⟨i + 1, p2, ks ++ [k1], ap6, cp6, a12, c12, rfl, by omega, ?_, by rw [List.length_append]; simp only [List.length_cons, List.length_nil]; omega, by rw [List.length_append]; simp only [List.length_cons, List.length_nil]; omega, by omega, s13⟩
          rw [hks, hq]
          simp
        · have h3 := ltB_false.1 h3
          have e0 : ksR l m p = ([], p) := by
            cases m with
            | zero => rfl
            | succ m => show (if p < l.length then _ else _) = _; rw [if_neg (by omega)]
          rw [e0, List.append_nil] at hks
          (repeat first | refine HReg.step ?_ | refine HCode.step ?_)
          exact RqJ.mk ⟨ap6, cp6, ak6, ck6, rfl, by rw [hcand]; show RqS H b2 b4 ⟨1, getR l 1 8, ps, (ksR l (getR l P 4) (P + 4)).1⟩ _ _ _ _ _; rw [hks]; exact s6⟩
      · have h2 := ltB_false.1 h2
        obtain rfl : m = 0 := by omega
        have e0 : ksR l 0 p = ([], p) := rfl
        rw [e0, List.append_nil] at hks
        (repeat first | refine HReg.step ?_ | refine HCode.step ?_)
        exact RqJ.mk ⟨ap6, cp6, ak6, ck6, rfl, by rw [hcand]; show RqS H b2 b4 ⟨1, getR l 1 8, ps, (ksR l (getR l P 4) (P + 4)).1⟩ _ _ _ _ _; rw [hks]; exact s6⟩
    · have h1 := eqB_false.1 h1
      have hcand : candR l = ⟨(getR l 0 1 : Int), getR l 1 8, [], []⟩ := by unfold candR; rw [if_neg (by omega)]
      (repeat first | refine HReg.step ?_ | refine HCode.step ?_)
      exact RqJ.mk ⟨none, 0, none, 0, rfl, by rw [hcand]; exact s4⟩
  rintro _ fe1 H5 ⟨ap, cp, ak, ck, rfl, s5⟩
  (repeat first | refine HReg.step ?_ | refine HCode.step ?_)
  refine HLoadN_row s5.o.rows rfl ?_
  (repeat first | refine HReg.step ?_ | refine HCode.step ?_)
  refine HCall.mk ⟨Tryz.f63, Tryz.func63, by rfl, by rfl⟩ ?_
  refine rmay_t s5.recIn fun t H6 ht u6 => ?_
  have s6 := s5.upd0 u6
  have zn : ∀ H9, RqN H H9 zeroRec none 0 none 0 := fun H9 => ⟨OwnRow.nil _ _ _, OwnRow.nil _ _ _, fun b hb => (by simp [blk] at hb), fun b hb => (by simp [blk] at hb), Nat.zero_le _, Nat.zero_le _⟩
  cases t with
  | false =>
    have hno : ¬ May (candR l) := fun h => by have := ht.2 h; cases this
    (repeat first | refine HReg.step ?_ | refine HCode.step ?_)
    refine store_rec (x := zeroRec) (ap := none) (cp := 0) (ak := none) (ck := 0) s6.o2 rfl fun H9 o9 u9 => ?_
    (repeat first | refine HReg.step ?_ | refine HCode.step ?_)
    refine HLoadN_row o9.rows rfl ?_
    exact hk false zeroRec none 0 none 0 H9 ⟨fun h => (by cases h), fun h => absurd (cand_ok.2 h).1 hno⟩ (fun h => (by cases h)) (fun _ => rfl) (zn _) (Upd.drop s6.u u9 fun b hb => by rw [List.mem_singleton.1 hb]; exact s6.n2)
  | true =>
    have hm := ht.1 rfl
    (repeat first | refine HReg.step ?_ | refine HCode.step ?_)
    refine HLoadN_row s6.o.rows rfl ?_
    (repeat first | refine HReg.step ?_ | refine HCode.step ?_)
    refine HCall.mk ⟨Tryz.f65, Tryz.func65, by rfl, by rfl⟩ ?_
    refine rpayload_t s6.recIn hm fun a7 c7 H7 m7 => ?_
    have s7 := s6.upd0 m7.upd
    have hr6 := hr.upd (S := []) s6.u (.inr (Off.nil _))
    have hr7 := hr.upd (S := []) s7.u (.inr (Off.nil _))
    (repeat first | refine HReg.step ?_ | refine HCode.step ?_)
    refine HBytes.row (pay (candR l)) rfl (by simpa using m7.own.rows) ?_ (by simp)
    (repeat first | refine HReg.step ?_ | refine HCode.step ?_)
    refine HBytes.row l rfl (by simp [hr6, hr7]) ?_ (by simp)
    (repeat first | refine HReg.step ?_ | refine HCode.step ?_)
    rw [seqB_bs]
    (repeat first | refine HReg.step ?_ | refine HCode.step ?_)
    refine hif (fun h3 => ?_) (fun h3 => ?_)
    · have h3 := not_dec_true h3
      (repeat first | refine HReg.step ?_ | refine HCode.step ?_)
      refine store_rec (x := zeroRec) (ap := none) (cp := 0) (ak := none) (ck := 0) s7.o2 rfl fun H9 o9 u9 => ?_
      (repeat first | refine HReg.step ?_ | refine HCode.step ?_)
      refine HLoadN_row o9.rows rfl ?_
      exact hk false zeroRec none 0 none 0 H9 ⟨fun h => (by cases h), fun h => absurd (cand_ok.2 h).2 h3⟩ (fun h => (by cases h)) (fun _ => rfl) (zn _) (Upd.drop s7.u u9 fun b hb => by rw [List.mem_singleton.1 hb]; exact s7.n2)
    · have h3 := not_dec_false h3
      have hok := cand_ok.1 ⟨hm, h3⟩
      (repeat first | refine HReg.step ?_ | refine HCode.step ?_)
      refine HLoadN_row s7.o.rows rfl ?_
      (repeat first | refine HReg.step ?_ | refine HCode.step ?_)
      refine store_rec (x := candR l) (ap := ap) (cp := cp) (ak := ak) (ck := ck) s7.o2 rfl fun H9 o9 u9 => ?_
      (repeat first | refine HReg.step ?_ | refine HCode.step ?_)
      refine HLoadN_row o9.rows rfl ?_
      exact hk true (candR l) ap cp ak ck H9 ⟨fun _ => hok, fun _ => rfl⟩ (fun _ => cand_eq hok) (fun h => (by cases h)) ⟨s7.p.upd u9 (s7.o2.offT s7.p (by decide)), s7.k.upd u9 (s7.o2.offT s7.k (by decide)), s7.pn, s7.kn, s7.np, s7.nk⟩ (Upd.drop s7.u u9 fun b hb => by rw [List.mem_singleton.1 hb]; exact s7.n2)
end
end Go.Proofs.YtfcmjomnpahllaaGreat
namespace Go.Proofs.YtfcmjomnpahllaaGreat
open Go Hv
set_option linter.unusedVariables false
set_option linter.unusedSimpArgs false
set_option maxRecDepth 10000
set_option maxHeartbeats 4000000
/-! The document's Parse -/
theorem getR_0 {l : List UInt8} (h : 4 ≤ l.length) : getR l 0 4 = val (l.take 4) := getR_val (l := l) (x := l) (A := []) (B := []) (by simp) 4 h
theorem getR_4 {l : List UInt8} (h : 8 ≤ l.length) : getR l 4 4 = val ((l.drop 4).take 4) := by
  have := getR_val (l := l) (x := l.drop 4) (A := l.take 4) (B := []) (by simp) 4 (by rw [List.length_drop]; omega)
  rw [List.length_take, Nat.min_eq_left (by omega)] at this
  exact this
section
variable {H : Heap} {K : Value → Heap → Prop}
theorem rparse_t {a : Option Addr} {n c : Nat} {l : List UInt8} (hr : RowAt H a (u8s l)) (hl : l.length = n) (hc : n ≤ c) (hlim : n ≤ 10000000000)
    (hk : ∀ ap cp ak ck H', RqN H H' (parseR l).1 ap cp ak ck → Upd [] H H' → K (.tuple #[rv (parseR l).1 ap cp ak ck, .int .i64 ((parseR l).2.1 : Int), .int .i64 (parseR l).2.2]) H') : HCalls Tryz.prog 55 [.slice a n c] H K := by
  refine hcalls (fn := Tryz.f55) [] mixed Tryz.func55 rfl rfl (by decide +kernel) ?_
  subst hl
  (repeat first | refine HReg.step ?_ | refine HCode.step ?_)
  refine HNew.mk fun b2 hb2 => ?_
  have u2 : Upd [] H (H.upd b2 (.cells [Value.int .i64 0, .int .u64 0, .slice none 0 0, .slice none 0 0].toArray 41)) := Upd.new hb2 _
  have o2 : OwnRow (H.upd b2 (.cells [Value.int .i64 0, .int .u64 0, .slice none 0 0, .slice none 0 0].toArray 41)) 41 1 (some ⟨b2, 0, none⟩) 4 4 zeroR := OwnRow.lit (upd_same _ _ _) rfl
  generalize hH2 : H.upd b2 (.cells [Value.int .i64 0, .int .u64 0, .slice none 0 0, .slice none 0 0].toArray 41) = H2 at u2 o2
  have zn : ∀ H9, RqN H H9 zeroRec none 0 none 0 := fun H9 => ⟨OwnRow.nil _ _ _, OwnRow.nil _ _ _, fun b hb => (by simp [blk] at hb), fun b hb => (by simp [blk] at hb), Nat.zero_le _, Nat.zero_le _⟩
  have fin0 : ∀ {H1 : Heap} (e : Int), Upd [] H H1 → parseR l = (zeroRec, 0, e) → ∀ H9, OwnRow H9 41 1 (some ⟨b2, 0, none⟩) 4 4 (rcells zeroRec none 0 none 0) → Upd [b2] H1 H9 → K (.tuple #[rv zeroRec none 0 none 0, .int .i64 0, .int .i64 e]) H9 := fun e u1 hp H9 o9 u9 => by
    rw [hp] at hk
    exact hk none 0 none 0 H9 (zn _) (Upd.drop u1 u9 fun b hb => by rw [List.mem_singleton.1 hb]; exact hb2)
  (repeat first | refine HReg.step ?_ | refine HCode.step ?_)
  refine hif (fun h1 => ?_) (fun h1 => ?_)
  · have h1 := ltB_true.1 h1
    have hp : parseR l = (zeroRec, 0, 91) := if_pos (by omega)
    (repeat first | refine HReg.step ?_ | refine HCode.step ?_)
    refine store_rec (x := zeroRec) (ap := none) (cp := 0) (ak := none) (ck := 0) o2 rfl fun H9 o9 u9 => ?_
    (repeat first | refine HReg.step ?_ | refine HCode.step ?_)
    refine HLoadN_row o9.rows rfl ?_
    exact fin0 91 u2 hp H9 o9 u9
  have h1 := ltB_false.1 h1
  have hr2 := hr.upd (S := []) u2 (.inr (Off.nil _))
  have hg := getR_0 (l := l) (by omega)
  have hg4 := getR_4 (l := l) (by omega)
  have hlt : val (l.take 4) < 4294967296 := by
    have := getR_lt l 0 4
    rw [hg] at this; exact this
  generalize hL : val (l.take 4) = L at *
  have w0 : wr .i64 (L : Int) = (L : Int) := by rw [wr_i64 (by omega) (by omega)]
  have w8 : wr .i64 (8 + (L : Int)) = ((8 + L : Nat) : Int) := by rw [wr_i64 (by omega) (by omega)]; omega
  have wl : wr .i64 ((l.length : Int) - 8) = ((l.length - 8 : Nat) : Int) := by rw [wr_i64 (by omega) (by omega)]; omega
  (repeat first | refine HReg.step ?_ | refine HCode.step ?_)
  refine HCall.mk ⟨Tryz.f74, Tryz.func74, by rfl, by rfl⟩ ?_
  refine get_t (p := 0) (n := 4) hr2 rfl (by omega) (by omega) (by decide) ?_
  rw [hg]
  (repeat first | refine HReg.step ?_ | refine HCode.step ?_)
  rw [w0]
  refine hif (fun h2 => ?_) (fun h2 => ?_)
  · have h2 := ltB_true.1 h2
    have hp : parseR l = (zeroRec, 0, 3) := by unfold parseR; rw [hL, if_neg (by omega), if_pos (by omega)]
    (repeat first | refine HReg.step ?_ | refine HCode.step ?_)
    refine store_rec (x := zeroRec) (ap := none) (cp := 0) (ak := none) (ck := 0) o2 rfl fun H9 o9 u9 => ?_
    (repeat first | refine HReg.step ?_ | refine HCode.step ?_)
    refine HLoadN_row o9.rows rfl ?_
    exact fin0 3 u2 hp H9 o9 u9
  have h2 := ltB_false.1 h2
  (repeat first | refine HReg.step ?_ | refine HCode.step ?_)
  rw [wl]
  refine hif (fun h3 => ?_) (fun h3 => ?_)
  · have h3 := ltB_true.1 h3
    have hp : parseR l = (zeroRec, 0, 91) := by unfold parseR; rw [hL, if_neg (by omega), if_neg (by omega), if_pos (by omega)]
    (repeat first | refine HReg.step ?_ | refine HCode.step ?_)
    refine store_rec (x := zeroRec) (ap := none) (cp := 0) (ak := none) (ck := 0) o2 rfl fun H9 o9 u9 => ?_
    (repeat first | refine HReg.step ?_ | refine HCode.step ?_)
    refine HLoadN_row o9.rows rfl ?_
    exact fin0 91 u2 hp H9 o9 u9
  have h3 := ltB_false.1 h3
  (repeat first | refine HReg.step ?_ | refine HCode.step ?_)
  rw [w8]
  refine HReq.mk ⟨by omega, by omega⟩ ?_
  refine HReq.mk ⟨by decide, by omega⟩ ?_
  have rp := row_cut (lo := 8) (n := L) hr2 hc
  have lpL : ((l.drop 8).take L).length = L := by rw [List.length_take, List.length_drop]; omega
  (repeat first | refine HReg.step ?_ | refine HCode.step ?_)
  refine HCall.mk ⟨Tryz.f67, Tryz.func67, by rfl, by rfl⟩ ?_
  refine rcrc_t (ys := (l.drop 8).take L) rp (by rw [lpL]; omega) (by omega) ?_
  unfold Sum.u32
  have wc : wr .u64 (((Crc.crc 0#32 ((l.drop 8).take L)).toNat : Nat) : Int) = ((crcN ((l.drop 8).take L) : Nat) : Int) := by
    have := crcN_lt ((l.drop 8).take L)
    rw [wr_u64]
    show ((crcN ((l.drop 8).take L) : Nat) : Int) % _ = _
    omega
  (repeat first | refine HReg.step ?_ | refine HCode.step ?_)
  refine HCall.mk ⟨Tryz.f74, Tryz.func74, by rfl, by rfl⟩ ?_
  refine get_t (p := 4) (n := 4) hr2 rfl (by omega) (by omega) (by decide) ?_
  rw [hg4]
  (repeat first | refine HReg.step ?_ | refine HCode.step ?_)
  rw [wc]
  refine hif (fun h4 => ?_) (fun h4 => ?_)
  · have h4 := not_eqB_true.1 h4
    have hp : parseR l = (zeroRec, 0, 90) := by unfold parseR; rw [hL, if_neg (by omega), if_neg (by omega), if_neg (by omega), if_pos (by omega)]
    (repeat first | refine HReg.step ?_ | refine HCode.step ?_)
    refine store_rec (x := zeroRec) (ap := none) (cp := 0) (ak := none) (ck := 0) o2 rfl fun H9 o9 u9 => ?_
    (repeat first | refine HReg.step ?_ | refine HCode.step ?_)
    refine HLoadN_row o9.rows rfl ?_
    exact fin0 90 u2 hp H9 o9 u9
  have h4 := not_eqB_false.1 h4
  (repeat first | refine HReg.step ?_ | refine HCode.step ?_)
  refine HCall.mk ⟨Tryz.f75, Tryz.func75, by rfl, by rfl⟩ ?_
  refine rrec_t (l := (l.drop 8).take L) rp (by rw [lpL]; omega) (by omega) (by omega) fun t x ap cp ak ck H5 ht hx1 hx0 n5 u5 => ?_
  have o25 := o2.upd u5 (Off.nil _)
  have u05 := u2.trans u5
  (repeat first | refine HReg.step ?_ | refine HCode.step ?_)
  refine HNew.mk fun b7 hb7 => ?_
  (repeat first | refine HReg.step ?_ | refine HCode.step ?_)
  refine store_rec (x := x) (ap := ap) (cp := cp) (ak := ak) (ck := ck) (OwnRow.lit (upd_same _ _ _) rfl) rfl fun H6 o6 u6 => ?_
  have u56 : Upd [] H5 H6 := Upd.drop (Upd.new hb7 _) u6 (fun q hq => by rw [List.mem_singleton.1 hq]; exact hb7)
  have o26 := o25.upd u56 (Off.nil _)
  have u06 := u05.trans u56
  have n6 : RqN H H6 x ap cp ak ck := ⟨n5.p.upd u56 (Off.nil _), n5.k.upd u56 (Off.nil _), fun b hb => Upd.none (S := []) u2 (by simp) (n5.pn b hb), fun b hb => Upd.none (S := []) u2 (by simp) (n5.kn b hb), n5.np, n5.nk⟩
  cases t with
  | false =>
    have hno : ¬ ReadOk ((l.drop 8).take L) := fun h => by have := ht.2 h; cases this
    have hp : parseR l = (zeroRec, 0, 2) := by unfold parseR; rw [hL, if_neg (by omega), if_neg (by omega), if_neg (by omega), if_neg (by omega), if_pos hno]
    (repeat first | refine HReg.step ?_ | refine HCode.step ?_)
    refine store_rec (x := zeroRec) (ap := none) (cp := 0) (ak := none) (ck := 0) o26 rfl fun H9 o9 u9 => ?_
    (repeat first | refine HReg.step ?_ | refine HCode.step ?_)
    refine HLoadN_row o9.rows rfl ?_
    exact fin0 2 u06 hp H9 o9 u9
  | true =>
    have hok := ht.1 rfl
    have hx := hx1 rfl
    have hp : parseR l = (x, 8 + L, 0) := by unfold parseR; rw [hL, if_neg (by omega), if_neg (by omega), if_neg (by omega), if_neg (by omega), if_neg (fun h => h hok), hx]
    rw [hp] at hk
    (repeat first | refine HReg.step ?_ | refine HCode.step ?_)
    refine HLoadN_row o6.rows rfl ?_
    (repeat first | refine HReg.step ?_ | refine HCode.step ?_)
    rw [w8]
    refine store_rec (x := x) (ap := ap) (cp := cp) (ak := ak) (ck := ck) o26 rfl fun H9 o9 u9 => ?_
    (repeat first | refine HReg.step ?_ | refine HCode.step ?_)
    refine HLoadN_row o9.rows rfl ?_
    exact hk ap cp ak ck H9 ⟨n6.p.upd u9 (o26.offT n6.p (by decide)), n6.k.upd u9 (o26.offT n6.k (by decide)), n6.pn, n6.kn, n6.np, n6.nk⟩ (Upd.drop u06 u9 fun b hb => by rw [List.mem_singleton.1 hb]; exact hb2)
end
end Go.Proofs.YtfcmjomnpahllaaGreat
namespace Go.Proofs.YtfcmjomnpahllaaGreat
open Go Hv
set_option linter.unusedVariables false
set_option linter.unusedSimpArgs false
set_option maxRecDepth 10000
set_option maxHeartbeats 2000000
/-! The document's Scan -/
theorem RqN.keep {H0 H1 H2 : Heap} {x : Rec} {ap ak : Option Addr} {cp ck : Nat} {e : TypeId} {size n c : Nat} {a : Option Addr} {xs : List Value} (h : RqN H0 H1 x ap cp ak ck) (o : OwnRow H1 e size a n c xs) (u : Upd (blk a) H1 H2) (h1 : e ≠ 100) (h2 : e ≠ 9) : RqN H0 H2 x ap cp ak ck :=
  ⟨h.p.upd u (o.offT h.p h1), h.k.upd u (o.offT h.k h2), h.pn, h.kn, h.np, h.nk⟩
theorem RqN.upd0 {H0 H1 H2 : Heap} {x : Rec} {ap ak : Option Addr} {cp ck : Nat} (h : RqN H0 H1 x ap cp ak ck) (u : Upd [] H1 H2) : RqN H0 H2 x ap cp ak ck :=
  ⟨h.p.upd u (Off.nil _), h.k.upd u (Off.nil _), h.pn, h.kn, h.np, h.nk⟩
theorem RqN.back {H0 H1 H : Heap} {x : Rec} {ap ak : Option Addr} {cp ck : Nat} (h : RqN H1 H x ap cp ak ck) (u : Upd [] H0 H1) : RqN H0 H x ap cp ak ck :=
  ⟨h.p, h.k, fun b hb => Upd.none (S := []) u (by simp) (h.pn b hb), fun b hb => Upd.none (S := []) u (by simp) (h.kn b hb), h.np, h.nk⟩
theorem RqN.recIn {H0 H1 : Heap} {x : Rec} {ap ak : Option Addr} {cp ck : Nat} (h : RqN H0 H1 x ap cp ak ck) : RecIn H1 x ap ak := by
  have h1 := h.np
  have h2 := h.nk
  exact ⟨h.p.rows, h.k.rows, by omega, by omega⟩
structure SdInv (H : Heap) (l : List UInt8) (m : Nat) (vs : List Value) (H' : Heap) : Prop where
  ex : ∃ (i : Nat) (a : Option Addr) (c : Nat) (qs : List PRec), vs = [.slice a qs.length c, .int .i64 (i : Int)] ∧ m + i = l.length ∧ qs.length * 8 ≤ i ∧ OwnRow H' 41 4 a qs.length c (recsV qs) ∧ (∀ b ∈ blk a, H b = none) ∧ (∀ q ∈ qs, RqN H H' q.r q.ap q.cp q.ak q.ck) ∧ Upd [] H H' ∧ scanR l = (qs.map PRec.r ++ (scanR (l.drop i)).1, i + (scanR (l.drop i)).2)
section
variable {H : Heap} {K : Value → Heap → Prop}
theorem rscan_t {a : Option Addr} {n c : Nat} {l : List UInt8} (hr : RowAt H a (u8s l)) (hl : l.length = n) (hc : n ≤ c) (hlim : n ≤ 10000000000)
    (hk : ∀ a' c' qs H', OwnRow H' 41 4 a' qs.length c' (recsV qs) → (∀ q ∈ qs, RqN H H' q.r q.ap q.cp q.ak q.ck) → Upd [] H H' → qs.map PRec.r = (scanR l).1 → K (.tuple #[.slice a' qs.length c', .int .i64 ((scanR l).2 : Int)]) H') : HCalls Tryz.prog 37 [.slice a n c] H K := by
  refine hcalls (fn := Tryz.f37) [] mixed Tryz.func37 rfl rfl (by decide +kernel) ?_
  (repeat first | refine HReg.step ?_ | refine HCode.step ?_)
  refine hloopC [2, 3, 4, 5, 6, 7, 8, 9, 10, 11, 12, 13, 14, 15, 16, 17, 18, 19, 20, 21, 22, 23, 24, 25, 26, 27] [4, 5] (SdInv H l) rfl (by repeat' first | exact Resp.retD | exact Resp1.valuesK | refine Resp.blockD ?_ | refine Resp.thenD ?_ ?_ | refine Resp.hcode ?_) ?_ ?_
  · exact ⟨l.length, SdInv.mk ⟨0, none, 0, [], rfl, rfl, Nat.zero_le _, OwnRow.nil _ _ _, fun b hb => (by simp [blk] at hb), fun q hq => (by simp at hq), Upd.refl _ _, by simp⟩⟩
  rintro m _ fe H1 ⟨i, a1, c1, qs, rfl, hmi, h8, o1, f1, n1, u1, hs⟩
  (repeat first | refine HReg.step ?_ | refine HCode.step ?_)
  refine HReq.mk ⟨by omega, by omega⟩ ?_
  (repeat first | refine HReg.step ?_ | refine HCode.step ?_)
  refine HCall.mk ⟨Tryz.f55, Tryz.func55, by rfl, by rfl⟩ ?_
  have hr1 := hr.upd (S := []) u1 (.inr (Off.nil _))
  have r1 : RowAt H1 (slAddr a i c 1) (u8s (l.drop i)) := by
    have h := RowAt.sl (size := 1) (l := i) (cap := c) hr1 (by rw [u8s_length]; omega)
    rw [Nat.mul_one, ← u8s_drop] at h; exact h
  refine rparse_t (l := l.drop i) r1 (by rw [List.length_drop, hl, Int.toNat_natCast]) (by rw [Int.toNat_natCast]; omega) (by rw [Int.toNat_natCast]; omega) fun ap cp ak ck H2 n2 u2 => ?_
  have o2 := o1.upd u2 (Off.nil _)
  (repeat first | refine HReg.step ?_ | refine HCode.step ?_)
  refine HNew.mk fun b6 hb6 => ?_
  (repeat first | refine HReg.step ?_ | refine HCode.step ?_)
  refine store_rec (x := (parseR (l.drop i)).1) (OwnRow.lit (upd_same _ _ _) rfl) rfl fun H3 o3 u3 => ?_
  have u23 : Upd [] H2 H3 := Upd.drop (Upd.new hb6 _) u3 (fun x hx => by rw [List.mem_singleton.1 hx]; exact hb6)
  have n3 := (n2.upd0 u23).back u1
  have n13 : ∀ q ∈ qs, RqN H H3 q.r q.ap q.cp q.ak q.ck := fun q hq => (n1 q hq).upd0 (u2.trans u23)
  have o23 := o2.upd u23 (Off.nil _)
  have u13 := u1.trans (u2.trans u23)
  (repeat first | refine HReg.step ?_ | refine HCode.step ?_)
  by_cases he : (parseR (l.drop i)).2.2 = 0
  · obtain ⟨L, _, hL1, hL2, _, _, hL3⟩ := parse_ok he
    rw [List.length_drop] at hL1
    have hpn : (parseR (l.drop i)).2.1 = 8 + L := by rw [hL3]
    have hsy := scan_yes he
    rw [hpn, List.drop_drop] at hsy
    rw [he, hpn]
    generalize (parseR (l.drop i)).1 = x at *
    have w5 : wr .i64 ((i : Int) + ((8 + L : Nat) : Int)) = ((i + (8 + L) : Nat) : Int) := by rw [wr_i64 (by omega) (by omega)]; omega
    (repeat first | refine HReg.step ?_ | refine HCode.step ?_)
    rw [eqB_self 0]
    (repeat first | refine HReg.step ?_ | refine HCode.step ?_)
    refine HLoadN_row o3.rows rfl ?_
    (repeat first | refine HReg.step ?_ | refine HCode.step ?_)
    refine HReq.mk (by decide) ?_
    (repeat first | refine HReg.step ?_ | refine HCode.step ?_)
    refine HNew.mk fun b7 hb7 => ?_
    have u7 : Upd [] H3 (H3.upd b7 (.cells (recsV [⟨x, ap, cp, ak, ck⟩]).toArray 41)) := Upd.new hb7 _
    have r7 : RowAt (H3.upd b7 (.cells (recsV [⟨x, ap, cp, ak, ck⟩]).toArray 41)) (some ⟨b7, 0, none⟩) (recsV [⟨x, ap, cp, ak, ck⟩]) := RowAt.of_cells (upd_same _ _ _)
    have hH' : H3.upd b7 (.cells [Value.int .i64 x.kind, .int .u64 (x.id : Int), .slice ap x.ps.length cp, .slice ak x.ks.length ck].toArray 41) = H3.upd b7 (.cells (recsV [⟨x, ap, cp, ak, ck⟩]).toArray 41) := rfl
    rw [hH']
    generalize hH7 : H3.upd b7 (.cells (recsV [⟨x, ap, cp, ak, ck⟩]).toArray 41) = H7 at u7 r7
    have o7 := o23.upd u7 (Off.nil _)
    (repeat first | refine HReg.step ?_ | refine HCode.step ?_)
    refine append_rows (ie := Tryz.t41) (z := .agg #[.int .i64 0, .int .u64 0, .slice none 0 0, .slice none 0 0]) (xs := recsV qs) (ys := recsV [⟨x, ap, cp, ak, ck⟩]) Tryz.underlying29 rfl rfl rfl (by decide) o7 r7 rfl (plain_recs _) (by show (qs.length + 1) * 64 ≤ _; omega) (by omega) fun a8 c8 H8 o8 u8_ f8 => ?_
    rw [← recsV_append] at o8
    have hlen : (qs ++ [PRec.mk x ap cp ak ck]).length = qs.length + 1 := by simp
    (repeat first | refine HReg.step ?_ | refine HCode.step ?_)
    rw [w5]
    refine Exists.intro (m - (8 + L)) ?_
    refine And.intro (by omega) ?_
    refine SdInv.mk ⟨i + (8 + L), a8, c8, qs ++ [PRec.mk x ap cp ak ck], by rw [hlen], by omega, by rw [hlen]; omega, by rw [hlen]; exact o8, fun b hb => ?_, fun q hq => ?_, Upd.drop (u13.trans u7) u8_ f1, ?_⟩
    · obtain ⟨p, hp, rfl⟩ := blk_of hb
      rcases f8 p hp with h | h
      · exact f1 _ (by rw [h]; simp [blk])
      · exact Upd.none (S := []) (u13.trans u7) (by simp) h
    · rcases List.mem_append.1 hq with hq | hq
      · exact ((n13 q hq).upd0 u7).keep o7 u8_ (by decide) (by decide)
      · rw [List.mem_singleton.1 hq]
        exact (n3.upd0 u7).keep o7 u8_ (by decide) (by decide)
    · rw [hs, hsy]
      simp [Nat.add_assoc]
  · rw [eqB_false.2 he]
    have hsn := scan_no he
    rw [hsn] at hs
    simp only [List.append_nil, Nat.add_zero] at hs
    (repeat first | refine HReg.step ?_ | refine HCode.step ?_)
    have hk' := hk a1 c1 qs H3 o23 n13 u13 (by rw [hs])
    rw [hs] at hk'
    exact hk'
end
end Go.Proofs.YtfcmjomnpahllaaGreat
namespace Go.Proofs.YtfcmjomnpahllaaGreat
open Go Hv
set_option linter.unusedVariables false
set_option linter.unusedSimpArgs false
set_option maxRecDepth 10000
set_option maxHeartbeats 4000000
/-! The document's log. CUT2 -/
theorem GAt.types {H1 H : Heap} {g : Nat} {s : St} {B : List Nat} (R : GAt H1 H g s B) {e : TypeId} {size n c : Nat} {a : Option Addr} {xs : List Value} (o : OwnRow H e size a n c xs) (h1 : e ≠ 67) (h2 : e ≠ 87) (h3 : e ≠ 5) : ∀ b ∈ blk a, b ∉ B := by
  obtain ⟨fs, aF, cF, cl, st, r, rfl⟩ := R
  intro b hb hm
  rcases mem_rblk.1 hm with rfl | h | ⟨f, hf, h⟩
  · obtain ⟨c2, z2, e2⟩ := own_live r.obj
    exact o.notT h1 b hb _ _ e2
  · obtain ⟨p, hp, rfl⟩ := blk_of h
    rcases r.row.ok with ⟨ha, _⟩ | ⟨g', cur, ha, hg, _⟩
    · rw [ha] at hp; cases hp
    · rw [ha] at hp; cases hp
      exact o.notT h2 _ hb _ _ hg
  · obtain ⟨c2, z2, e2⟩ := (r.byt f hf).live b h
    exact o.notT h3 b hb _ _ e2
theorem HNew.mkr {H : Heap} {o : Obj} {K : Nat → Heap → Prop} (h : ∀ b, H b = none → K b (H.upd b o)) : HNew H o K := HNew.mk h
theorem zkeep_crash (s : St) (k : Int) : (s.crash k).d.keep = s.d.keep := by unfold St.crash; split <;> rfl
theorem zkeep_call (s : St) : s.call.d.keep = s.d.keep := by
  unfold St.call
  split
  · split
    · exact zkeep_crash _ _
    · rfl
  · rfl
theorem GAt.arm {H1 H : Heap} {g : Nat} {s : St} {B : List Nat} (R : GAt H1 H g s B) : s.d.armed = true → 0 ≤ s.d.calls := by
  obtain ⟨fs, aF, cF, cl, st, r, rfl⟩ := R
  intro h
  rcases r.arm with h2 | h2
  · exact h2.2.1
  · rw [h2.1] at h; cases h
theorem zcalls_call {s : St} (ha : s.d.armed = true → 0 ≤ s.d.calls) (h : -9223372036854775808 ≤ s.d.calls) : -9223372036854775808 ≤ s.call.d.calls := by
  unfold St.call
  split
  · rename_i h2
    have := ha h2
    split
    · unfold St.crash; split <;> exact h
    · show -9223372036854775808 ≤ s.d.calls - 1
      omega
  · exact h
theorem append_d (s : St) (n : ByteArray) (b : List UInt8) : (s.append n b).2.d.keep = s.call.d.keep ∧ (s.append n b).2.d.calls = s.call.d.calls := by
  unfold St.append
  dsimp only
  split
  · exact ⟨rfl, rfl⟩
  · split
    · exact ⟨rfl, rfl⟩
    · split
      · exact ⟨rfl, rfl⟩
      · split
        · exact ⟨rfl, rfl⟩
        · exact ⟨rfl, rfl⟩
structure DLog (H : Heap) (p q : Nat) (t : Txt) (k : Nat) : Prop where
  row : OwnRow H 76 1 (some ⟨p, 0, none⟩) 3 3 [.pointer (some ⟨q, 0, none⟩), .string (bs t), .int .i64 (k : Int)]
section
variable {H1 H : Heap} {q N : Nat} {s : St} {B : List Nat} {t : Txt} {K : Value → Heap → Prop}
theorem ropen_t (R : GAt H1 H q s B) (c0 : Cok s N) (hN : N ≤ 9000000000)
    (hno : ∀ e B' H', e ≠ 0 → (openW s (bs t)).1 = e → GAt H1 H' q (openW s (bs t)).2.2 B' → Stq H H' B B' → K (.tuple #[.pointer none, .slice none 0 0, .int .i64 e]) H')
    (hyes : ∀ p a c qs B' H', (openW s (bs t)).1 = 0 → (openW s (bs t)).2.1.1 = qs.map PRec.r → GAt H1 H' q (openW s (bs t)).2.2 B' → Stq H H' B B' → DLog H' p q t (openW s (bs t)).2.1.2 → lessH H B p = none → p ∉ B' → Recs H' a qs → K (.tuple #[.pointer (some ⟨p, 0, none⟩), .slice a qs.length c, .int .i64 0]) H') :
    HCalls Tryz.prog 8 [.pointer (some ⟨q, 0, none⟩), .string (bs t)] H K := by
  refine hcalls (fn := Tryz.f8) [] mixed Tryz.func8 rfl rfl (by decide +kernel) ?_
  (repeat first | refine HReg.step ?_ | refine HCode.step ?_)
  refine HCall.mk ⟨Tryz.f36, Tryz.func36, by rfl, by rfl⟩ ?_
  have hlen : (s.readF (bs t)).2.length ≤ N := by
    unfold St.readF
    split
    · exact Nat.zero_le _
    · cases hf : s.call.fs (bs t) with
      | none => exact Nat.zero_le _
      | some x => exact (c0.ok.call.le _ _ hf).1
  refine rread_t R c0 fun a c H2 R2 S2 o2 n2 => ?_
  obtain ⟨E, l, hrd⟩ : ∃ E l, s.readF (bs t) = (E, l) := ⟨_, _, rfl⟩
  rw [hrd] at o2 hlen ⊢
  dsimp only at o2 hlen ⊢
  have box : ∀ {H3 : Heap} {B3 : List Nat} {s3 : St} {k3 : Nat} (p : Nat), GAt H1 H3 q s3 B3 → H3 p = none →
      DLog (H3.upd p (.cells [Value.pointer (some ⟨q, 0, none⟩), .string (bs t), .int .i64 (k3 : Int)].toArray 76)) p q t k3 ∧ Upd [] H3 (H3.upd p (.cells [Value.pointer (some ⟨q, 0, none⟩), .string (bs t), .int .i64 (k3 : Int)].toArray 76)) ∧ p ∉ B3 := fun {H3 B3 s3 k3} p R3 hp =>
    ⟨⟨OwnRow.lit (upd_same _ _ _) rfl⟩, Upd.new hp _, fun h => R3.live p h hp⟩
  have pfree : ∀ {H3 : Heap} {B3 : List Nat} (p : Nat), H3 p = none → Stq H H3 B B3 → lessH H B p = none := fun {H3 B3} p hp S3 => by
    by_cases hb : p ∈ B
    · exact lessH_none hb
    · rw [lessH_of hb]
      exact Classical.byContradiction fun hn => hn (by rw [← S3.upd p hb hn]; exact hp)
  (repeat first | refine HReg.step ?_ | refine HCode.step ?_)
  by_cases h61 : E = 61
  · subst h61
    have hw : openW s (bs t) = (0, ([], 0), s.call) := by unfold openW; rw [hrd]; dsimp only; rw [if_neg (by decide), if_pos rfl]
    simp only [hw] at hno hyes
    rw [eqB_self 61]
    (repeat first | refine HReg.step ?_ | refine HCode.step ?_)
    refine HNew.mk fun p hp => ?_
    obtain ⟨d3, u3, hpB⟩ := box (k3 := 0) p R2 hp
    generalize hH3 : H2.upd p (.cells [Value.pointer (some ⟨q, 0, none⟩), .string (bs t), .int .i64 ((0 : Nat) : Int)].toArray 76) = H3 at d3 u3
    (repeat first | refine HReg.step ?_ | refine HCode.step ?_)
    refine hyes p none 0 [] B H3 trivial rfl (R2.upd0 u3) (S2.trans ⟨u3.mono (by simp), fun b hb => .inl hb⟩) d3 (pfree p hp S2) hpB ⟨RowAt.nil _ _, fun q hq => by simp at hq⟩
  rw [show eqB E 61 = false from eqB_false.2 h61]
  (repeat first | refine HReg.step ?_ | refine HCode.step ?_)
  by_cases h0 : E = 0
  rotate_left
  · have hw : openW s (bs t) = (E, ([], 0), s.call) := by unfold openW; rw [hrd]; dsimp only; rw [if_neg h0, if_neg h61]
    simp only [hw] at hno hyes
    rw [show eqB E 0 = false from eqB_false.2 h0]
    (repeat first | refine HReg.step ?_ | refine HCode.step ?_)
    exact hno E B H2 h0 rfl R2 S2
  subst h0
  rw [eqB_self 0]
  have hcl := o2.le
  (repeat first | refine HReg.step ?_ | refine HCode.step ?_)
  refine HCall.mk ⟨Tryz.f37, Tryz.func37, by rfl, by rfl⟩ ?_
  refine rscan_t o2.rows rfl hcl (by omega) fun a3 c3 qs H3 o3 n3 u3 hqs => ?_
  have R3 := R2.upd0 u3
  have S3 : Stq H H3 B B := S2.trans ⟨u3.mono (by simp), fun b hb => .inl hb⟩
  have rec3 : Recs H3 a3 qs := ⟨o3.rows, fun x hx => (n3 x hx).recIn⟩
  have recB : ∀ {H4 : Heap}, Upd B H3 H4 → Recs H4 a3 qs := fun {H4} u => ⟨(o3.upd u (off_notin (R3.types o3 (by decide) (by decide) (by decide)))).rows, fun x hx => by
    have n := n3 x hx
    have k1 := n.np
    have k2 := n.nk
    exact ⟨(n.p.upd u (off_notin (R3.types n.p (by decide) (by decide) (by decide)))).rows, (n.k.upd u (off_notin (R3.types n.k (by decide) (by decide) (by decide)))).rows, by omega, by omega⟩⟩
  (repeat first | refine HReg.step ?_ | refine HCode.step ?_)
  by_cases h1 : (scanR l).2 < l.length
  · rw [show ltB (((scanR l).2 : Nat) : Int) ((l.length : Nat) : Int) = true from ltB_true.2 (by omega)]
    (repeat first | refine HReg.step ?_ | refine HCode.step ?_)
    refine HCall.mk ⟨Tryz.f38, Tryz.func38, by rfl, by rfl⟩ ?_
    have c1 : Cok s.call N := ⟨by rw [zkeep_call]; exact c0.kl, by rw [zkeep_call]; exact c0.kh, zcalls_call R.arm c0.lo, c0.ok.call, c0.hN⟩
    refine rcut_t R3 c1 fun H4 B4 R4 S4 => ?_
    have S04 := S3.trans S4
    obtain ⟨e4, s4, hc4⟩ : ∃ e t', s.call.cut (bs t) ((scanR l).2 : Int) = (e, t') := ⟨_, _, rfl⟩
    rw [hc4] at R4 ⊢
    dsimp only at R4 ⊢
    (repeat first | refine HReg.step ?_ | refine HCode.step ?_)
    by_cases h4 : e4 = 0
    · subst h4
      have hw : openW s (bs t) = (0, scanR l, s4) := by unfold openW; rw [hrd]; dsimp only; rw [if_pos rfl, if_pos h1, hc4]; rfl
      simp only [hw] at hno hyes
      rw [eqB_self 0]
      (repeat first | refine HReg.step ?_ | refine HCode.step ?_)
      refine HNew.mk fun p hp => ?_
      obtain ⟨d5, u5, hpB⟩ := box (k3 := (scanR l).2) p R4 hp
      generalize hH5 : H4.upd p (.cells [Value.pointer (some ⟨q, 0, none⟩), .string (bs t), .int .i64 (((scanR l).2 : Nat) : Int)].toArray 76) = H5 at d5 u5
      (repeat first | refine HReg.step ?_ | refine HCode.step ?_)
      exact hyes p a3 c3 qs B4 H5 trivial hqs.symm (R4.upd0 u5) (S04.trans ⟨u5.mono (by simp), fun b hb => .inl hb⟩) d5 (pfree p hp S04) hpB ((recB S4.upd).upd0 u5)
    · have hw : openW s (bs t) = (e4, ([], 0), s4) := by unfold openW; rw [hrd]; dsimp only; rw [if_pos rfl, if_pos h1, hc4]; dsimp only; rw [if_neg h4]
      simp only [hw] at hno hyes
      rw [show eqB e4 0 = false from eqB_false.2 h4]
      (repeat first | refine HReg.step ?_ | refine HCode.step ?_)
      exact hno e4 B4 H4 h4 rfl R4 S04
  · rw [show ltB (((scanR l).2 : Nat) : Int) ((l.length : Nat) : Int) = false from ltB_false.2 (by omega)]
    have hw : openW s (bs t) = (0, scanR l, s.call) := by unfold openW; rw [hrd]; dsimp only; rw [if_pos rfl, if_neg h1]
    simp only [hw] at hno hyes
    (repeat first | refine HReg.step ?_ | refine HCode.step ?_)
    refine HNew.mk fun p hp => ?_
    obtain ⟨d4, u4, hpB⟩ := box (k3 := (scanR l).2) p R3 hp
    generalize hH4 : H3.upd p (.cells [Value.pointer (some ⟨q, 0, none⟩), .string (bs t), .int .i64 (((scanR l).2 : Nat) : Int)].toArray 76) = H4 at d4 u4
    (repeat first | refine HReg.step ?_ | refine HCode.step ?_)
    exact hyes p a3 c3 qs B H4 trivial hqs.symm (R3.upd0 u4) (S3.trans ⟨u4.mono (by simp), fun b hb => .inl hb⟩) d4 (pfree p hp S3) hpB (rec3.upd0 u4)
theorem rsizeL_t {p k : Nat} (d : DLog H p q t k) (hk : K (.int .i64 (k : Int)) H) : HCalls Tryz.prog 14 [.pointer (some ⟨p, 0, none⟩)] H K := by
  refine hcalls (fn := Tryz.f14) [] mixed Tryz.func14 rfl rfl (by decide +kernel) ?_
  (repeat first | refine HReg.step ?_ | refine HCode.step ?_)
  refine HLoad.one (v := .int .i64 (k : Int)) (by exact d.row.rows.get (i := 2) rfl) ?_
  (repeat first | refine HReg.step ?_ | refine HCode.step ?_)
  exact hk
theorem rnameL_t {p k : Nat} (d : DLog H p q t k) (hk : K (.string (bs t)) H) : HCalls Tryz.prog 16 [.pointer (some ⟨p, 0, none⟩)] H K := by
  refine hcalls (fn := Tryz.f16) [] mixed Tryz.func16 rfl rfl (by decide +kernel) ?_
  (repeat first | refine HReg.step ?_ | refine HCode.step ?_)
  refine HLoad.one (v := .string (bs t)) (by exact d.row.rows.get (i := 1) rfl) ?_
  (repeat first | refine HReg.step ?_ | refine HCode.step ?_)
  exact hk
theorem rappend_log {p k : Nat} {x : Rec} {ap ak : Option Addr} {cp ck : Nat} (R : GAt H1 H q s B) (c0 : Cok s N) (d : DLog H p q t k) (hpB : p ∉ B) (hp1 : H1 p = none) (hr : RecIn H x ap ak) (hN : N ≤ 9000000000) (hkb : k ≤ 9000000000)
    (hk : ∀ B' H', GAt H1 H' q (appendW s (bs t) k x).2.2 B' → Stq H H' (p :: B) (p :: B') → DLog H' p q t (appendW s (bs t) k x).2.1 → p ∉ B' → K (.int .i64 (appendW s (bs t) k x).1) H') :
    HCalls Tryz.prog 12 [.pointer (some ⟨p, 0, none⟩), rv x ap cp ak ck] H K := by
  refine hcalls (fn := Tryz.f12) [(5, [(0, 0), (1, 0), (2, 0), (3, 0), (4, 0), (5, 0), (6, 0), (7, 0), (8, 0), (9, 0), (10, 0)]), (8, [(0, 0), (1, 0), (2, 0), (3, 0), (4, 0), (5, 0), (6, 0), (7, 0), (8, 0), (9, 0)])] mixed Tryz.func12 rfl rfl (by decide +kernel) ?_
  have hbl := build_len x
  have keepP : ∀ {H3 H4 : Heap} {B3 B4 : List Nat}, Stq H3 H4 B3 B4 → DLog H3 p q t k → p ∉ B3 → DLog H4 p q t k ∧ p ∉ B4 := fun {H3 H4 B3 B4} S d hp => ⟨⟨d.row.upd S.upd (off_notin fun b hb => by
    have e : b = p := by simpa [blk] using hb
    rw [e]; exact hp)⟩, fun h => by
    rcases S.sub p h with h | h
    · exact hp h
    · exact d.row.there rfl h⟩
  have wide : ∀ {H3 H4 : Heap} {B3 B4 : List Nat}, Stq H3 H4 B3 B4 → Stq H3 H4 (p :: B3) (p :: B4) := fun {H3 H4 B3 B4} S => ⟨S.upd.mono fun b hb => List.mem_cons_of_mem _ hb, fun b hb => by
    rcases List.mem_cons.1 hb with h | h
    · exact .inl (by rw [h]; simp)
    · exact (S.sub b h).imp (fun h => List.mem_cons_of_mem _ h) id⟩
  (repeat first | refine HReg.step ?_ | refine HCode.step ?_)
  refine HNew.mk fun b1 hb1 => ?_
  have hH' : H.upd b1 (.cells [Value.int .i64 x.kind, .int .u64 (x.id : Int), .slice ap x.ps.length cp, .slice ak x.ks.length ck].toArray 41) = H.upd b1 (.cells (rcells x ap cp ak ck).toArray 41) := rfl
  have m1 : Made H (H.upd b1 (.cells (rcells x ap cp ak ck).toArray 41)) 41 1 (some ⟨b1, 0, none⟩) 4 4 (rcells x ap cp ak ck) := ⟨OwnRow.lit (upd_same _ _ _) rfl, Upd.new hb1 _, fun q hq => by cases hq; exact hb1⟩
  rw [hH']
  generalize hH1 : H.upd b1 (.cells (rcells x ap cp ak ck).toArray 41) = H2 at m1
  (repeat first | refine HReg.step ?_ | refine HCode.step ?_)
  refine HLoadN_row m1.own.rows rfl ?_
  (repeat first | refine HReg.step ?_ | refine HCode.step ?_)
  refine HCall.mk ⟨Tryz.f41, Tryz.func41, by rfl, by rfl⟩ ?_
  refine rbuild_t (hr.upd0 m1.upd) fun a2 c2 H3 m2 => ?_
  have u03 := m1.upd.trans m2.upd
  have R3 := R.upd0 u03
  have S3 : Stq H H3 B B := ⟨u03.mono (by simp), fun b hb => .inl hb⟩
  obtain ⟨d3, hp3⟩ := keepP S3 d hpB
  obtain ⟨b, e, hbe⟩ : ∃ b e, buildR x = (b, e) := ⟨_, _, rfl⟩
  rw [hbe] at m2 hbl ⊢
  dsimp only at m2 hbl ⊢
  (repeat first | refine HReg.step ?_ | refine HCode.step ?_)
  by_cases he : e = 0
  rotate_left
  · have hw : appendW s (bs t) k x = (e, k, s) := by unfold appendW; rw [hbe]; dsimp only; rw [if_pos he]
    rw [hw] at hk
    rw [show eqB e 0 = false from eqB_false.2 he]
    (repeat first | refine HReg.step ?_ | refine HCode.step ?_)
    exact hk B H3 R3 (wide S3) d3 hp3
  subst he
  rw [eqB_self 0]
  (repeat first | refine HReg.step ?_ | refine HCode.step ?_)
  refine HLoad.one (v := .pointer (some ⟨q, 0, none⟩)) (by exact d3.row.rows.get (i := 0) rfl) ?_
  (repeat first | refine HReg.step ?_ | refine HCode.step ?_)
  refine HLoad.one (v := .string (bs t)) (by exact d3.row.rows.get (i := 1) rfl) ?_
  (repeat first | refine HReg.step ?_ | refine HCode.step ?_)
  refine HCall.mk ⟨Tryz.f24, Tryz.func24, by rfl, by rfl⟩ ?_
  refine rlay_t R3 c0 m2.own.rows rfl (.inr fun z hz hb => R.live _ hb (Upd.none (S := []) m1.upd (by simp) (m2.new z hz))) (fun y z hyz => by have := (c0.ok.call.le _ _ hyz).1; simp only at this; omega) (by omega) fun H4 B4 R4 S4 => ?_
  have S04 := S3.trans S4
  obtain ⟨d4, hp4⟩ := keepP S4 d3 hp3
  have hap := append_d s (bs t) b
  have okA := c0.ok.append (bs t) b
  obtain ⟨e4, s4, h4⟩ : ∃ e t', s.append (bs t) b = (e, t') := ⟨_, _, rfl⟩
  rw [h4] at R4 hap okA ⊢
  dsimp only at R4 hap okA ⊢
  have c4 : Cok s4 (N + b.length) := ⟨by rw [hap.1, zkeep_call]; exact c0.kl, by rw [hap.1, zkeep_call]; exact c0.kh, by rw [hap.2]; exact zcalls_call R.arm c0.lo, okA, by omega⟩
  (repeat first | refine HReg.step ?_ | refine HCode.step ?_)
  by_cases he4 : e4 = 0
  rotate_left
  · have hw : appendW s (bs t) k x = (e4, k, s4) := by unfold appendW; rw [hbe]; dsimp only; rw [if_neg (fun h => h rfl), h4]; dsimp only; rw [if_pos he4]
    rw [hw] at hk
    rw [show eqB e4 0 = false from eqB_false.2 he4]
    (repeat first | refine HReg.step ?_ | refine HCode.step ?_)
    exact hk B4 H4 R4 (wide S04) d4 hp4
  subst he4
  rw [eqB_self 0]
  (repeat first | refine HReg.step ?_ | refine HCode.step ?_)
  refine HLoad.one (v := .pointer (some ⟨q, 0, none⟩)) (by exact d4.row.rows.get (i := 0) rfl) ?_
  (repeat first | refine HReg.step ?_ | refine HCode.step ?_)
  refine HLoad.one (v := .string (bs t)) (by exact d4.row.rows.get (i := 1) rfl) ?_
  (repeat first | refine HReg.step ?_ | refine HCode.step ?_)
  refine HCall.mk ⟨Tryz.f42, Tryz.func42, by rfl, by rfl⟩ ?_
  refine rsync_t R4 c4 fun H5 B5 R5 S5 => ?_
  have S05 := S04.trans S5
  obtain ⟨d5, hp5⟩ := keepP S5 d4 hp4
  obtain ⟨e5, s5, h5⟩ : ∃ e t', s4.sync (bs t) = (e, t') := ⟨_, _, rfl⟩
  rw [h5] at R5 ⊢
  dsimp only at R5 ⊢
  (repeat first | refine HReg.step ?_ | refine HCode.step ?_)
  by_cases he5 : e5 = 0
  rotate_left
  · have hw : appendW s (bs t) k x = (e5, k, s5) := by unfold appendW; rw [hbe]; dsimp only; rw [if_neg (fun h => h rfl), h4]; dsimp only; rw [if_neg (fun h => h rfl), h5]; dsimp only; rw [if_pos he5]
    rw [hw] at hk
    rw [show eqB e5 0 = false from eqB_false.2 he5]
    (repeat first | refine HReg.step ?_ | refine HCode.step ?_)
    exact hk B5 H5 R5 (wide S05) d5 hp5
  subst he5
  have hw : appendW s (bs t) k x = (0, k + b.length, s5) := by unfold appendW; rw [hbe]; dsimp only; rw [if_neg (fun h => h rfl), h4]; dsimp only; rw [if_neg (fun h => h rfl), h5]; dsimp only; rw [if_neg (fun h => h rfl)]
  rw [hw] at hk
  rw [eqB_self 0]
  have wk : wr .i64 ((k : Int) + (b.length : Int)) = ((k + b.length : Nat) : Int) := by rw [wr_i64 (by omega) (by omega)]; omega
  (repeat first | refine HReg.step ?_ | refine HCode.step ?_)
  refine HLoad.one (v := .int .i64 (k : Int)) (by exact d5.row.rows.get (i := 2) rfl) ?_
  (repeat first | refine HReg.step ?_ | refine HCode.step ?_)
  rw [wk]
  refine store_row d5.row (v := .int .i64 ((k + b.length : Nat) : Int)) rfl (i := 2) (by decide) (by rfl) fun H6 o6 u6 => ?_
  have S06 : Stq H5 H6 (p :: B5) (p :: B5) := ⟨u6.mono (by simp), fun b hb => .inl hb⟩
  (repeat first | refine HReg.step ?_ | refine HCode.step ?_)
  exact hk B5 H6 (R5.upd u6 (fun z hz => by rw [List.mem_singleton.1 hz]; exact hp5) (fun z hz => by rw [List.mem_singleton.1 hz]; exact hp1)) ((wide S05).trans S06) ⟨o6⟩ hp5
end
end Go.Proofs.YtfcmjomnpahllaaGreat
namespace Go.Proofs.YtfcmjomnpahllaaGreat
open Go Hv
set_option linter.unusedVariables false
set_option linter.unusedSimpArgs false
set_option maxRecDepth 10000
set_option maxHeartbeats 4000000
/-! Slots: rows in blocks of their own, beside the blocks B; written in place and lengthened. -/
structure Slot where
  e : TypeId
  z : Nat
  a : Option Addr
  n : Nat
  c : Nat
  xs : List Value
def Slot.row (H : Heap) (s : Slot) : Prop := OwnRow H s.e s.z s.a s.n s.c s.xs
structure Slots (L : Heap) (B : List Nat) (H : Heap) (ss : List Slot) : Prop where
  own : ∀ s ∈ ss, s.row H
  off : ∀ s ∈ ss, ∀ b ∈ blk s.a, b ∉ B
  new : ∀ s ∈ ss, ∀ b ∈ blk s.a, L b = none
  apart : ss.Pairwise fun s t => ∀ b ∈ blk s.a, b ∉ blk t.a
  u : Upd [] L (lessH H B)
section
variable {L H H' H'' : Heap} {B B' : List Nat} {ss : List Slot} {s s' : Slot} {i : Nat}
theorem Slots.nil (h : Upd [] L (lessH H B)) : Slots L B H [] := ⟨fun s h => by simp at h, fun s h => by simp at h, fun s h => by simp at h, List.Pairwise.nil, h⟩
theorem Slots.live (S : Slots L B H ss) (hs : s ∈ ss) {b : Nat} (hb : b ∈ blk s.a) : H b ≠ none := by
  obtain ⟨p, hp, rfl⟩ := blk_of hb
  exact OwnRow.there (S.own s hs) hp
theorem Slots.less (S : Slots L B H ss) (hs : s ∈ ss) : s.row (lessH H B) := OwnRow.less (S.own s hs) (S.off s hs)
/-- What happens beside them. -/
theorem Slots.step (S : Slots L B H ss) (u : Upd [] (lessH H B) (lessH H' B')) : Slots L B' H' ss :=
  ⟨fun s hs => ownrow_up ((S.less hs).upd u (Off.nil _)), fun s hs b hb => by
    obtain ⟨p, hp, rfl⟩ := blk_of hb
    exact (less_ne (((S.less hs).upd u (Off.nil _)).there hp)).1, S.new, S.apart, S.u.trans u⟩
theorem Slots.upd0 (S : Slots L B H ss) (u : Upd [] H H') : Slots L B H' ss := S.step (less0 u)
theorem Slots.get (S : Slots L B H ss) (hs : ss[i]? = some s) : OwnRow H s.e s.z s.a s.n s.c s.xs := S.own s (List.mem_of_getElem? hs)
theorem Slots.apart' (S : Slots L B H ss) {j : Nat} {t : Slot} (hij : i ≠ j) (hs : ss[i]? = some s) (ht : ss[j]? = some t) : ∀ b ∈ blk s.a, b ∉ blk t.a := by
  have key : ∀ {i j : Nat} {s t : Slot}, i < j → ss[i]? = some s → ss[j]? = some t → ∀ b ∈ blk s.a, b ∉ blk t.a := fun h hs ht => by
    obtain ⟨h1, rfl⟩ := List.getElem?_eq_some_iff.1 hs
    obtain ⟨h2, rfl⟩ := List.getElem?_eq_some_iff.1 ht
    exact List.pairwise_iff_getElem.1 S.apart _ _ h1 h2 h
  rcases Nat.lt_or_gt_of_ne hij with h | h
  · exact key h hs ht
  · intro b hb hb'
    exact key h ht hs b hb' hb
/-- More of them. -/
theorem Slots.adds {tt : List Slot} (S : Slots L B H ss) (u : Upd [] (lessH H B) (lessH H' B')) (ow : ∀ s ∈ tt, s.row (lessH H' B')) (nw : ∀ s ∈ tt, ∀ b ∈ blk s.a, lessH H B b = none) (ap : tt.Pairwise fun s t => ∀ b ∈ blk s.a, b ∉ blk t.a) : Slots L B' H' (ss ++ tt) := by
  have S' := S.step u
  refine ⟨fun s hs => ?_, fun s hs => ?_, fun s hs => ?_, ?_, S'.u⟩
  · rcases List.mem_append.1 hs with h | h
    · exact S'.own s h
    · exact ownrow_up (ow s h)
  · rcases List.mem_append.1 hs with h | h
    · exact S'.off s h
    · intro b hb
      obtain ⟨p, hp, rfl⟩ := blk_of hb
      exact (less_ne ((ow s h).there hp)).1
  · rcases List.mem_append.1 hs with h | h
    · exact S.new s h
    · intro b hb
      exact Upd.none (S := []) S.u (by simp) (nw s h b hb)
  · refine List.pairwise_append.2 ⟨S.apart, ap, fun s hs t ht b hb hb' => ?_⟩
    obtain ⟨p, hp, rfl⟩ := blk_of hb
    exact (S.less hs).there hp (nw t ht _ hb')
theorem Slots.add {e : TypeId} {z n c : Nat} {a : Option Addr} {xs : List Value} (S : Slots L B H ss) (m : Made H H' e z a n c xs) (hB : ∀ b ∈ B, H b ≠ none) : Slots L B H' (ss ++ [⟨e, z, a, n, c, xs⟩]) := by
  have hf : ∀ b ∈ blk a, H b = none := fun b hb => by
    obtain ⟨p, hp, rfl⟩ := blk_of hb
    exact m.new p hp
  refine S.adds (less0 m.upd) (fun s hs => ?_) (fun s hs b hb => ?_) (List.pairwise_singleton _ _)
  · rw [List.mem_singleton.1 hs]
    exact m.own.less fun b hb hB' => hB b hB' (hf b hb)
  · rw [List.mem_singleton.1 hs] at hb
    exact less_nn (hf b hb)
/-- One of them anew: in its place, or in a new block. -/
theorem Slots.change (S : Slots L B H ss) (hs : ss[i]? = some s) (u : Upd (blk s.a) H H') (ow : s'.row H') (nw : ∀ b ∈ blk s'.a, b ∈ blk s.a ∨ (H b = none ∧ b ∉ B)) : Slots L B H' (ss.set i s') := by
  have hil := (List.getElem?_eq_some_iff.1 hs).1
  have hm := List.mem_of_getElem? hs
  have key : ∀ t ∈ ss.set i s', t = s' ∨ (t ∈ ss ∧ ∀ b ∈ blk s.a, b ∉ blk t.a) := fun t ht => by
    obtain ⟨j, hj⟩ := List.getElem?_of_mem ht
    rw [List.getElem?_set] at hj
    split at hj
    · cases hj; exact .inl rfl
    · rename_i hij
      exact .inr ⟨List.mem_of_getElem? hj, S.apart' hij hs hj⟩
  refine ⟨fun t ht => ?_, fun t ht => ?_, fun t ht => ?_, ?_, ?_⟩
  · rcases key t ht with rfl | ⟨h, o⟩
    · exact ow
    · exact OwnRow.upd (S.own t h) u (off_notin fun b hb hb' => o b hb' hb)
  · rcases key t ht with rfl | ⟨h, o⟩
    · intro b hb
      rcases nw b hb with h | h
      · exact S.off s hm b h
      · exact h.2
    · exact S.off t h
  · rcases key t ht with rfl | ⟨h, o⟩
    · intro b hb
      rcases nw b hb with h | h
      · exact S.new s hm b h
      · exact Upd.none (S := []) S.u (by simp) (less_nn h.1)
    · exact S.new t h
  · have old : ∀ (j : Nat) (t : Slot), j ≠ i → ss[j]? = some t → ∀ b ∈ blk s'.a, b ∉ blk t.a := fun j t hj ht b hb hb' => by
      rcases nw b hb with h | h
      · exact S.apart' (Ne.symm hj) hs ht b h hb'
      · exact S.live (List.mem_of_getElem? ht) hb' h.1
    rw [List.pairwise_iff_getElem]
    intro j k hj hk hjk
    have gj : (ss.set i s')[j]? = some (ss.set i s')[j] := List.getElem?_eq_getElem hj
    have gk : (ss.set i s')[k]? = some (ss.set i s')[k] := List.getElem?_eq_getElem hk
    generalize (ss.set i s')[j] = x at gj
    generalize (ss.set i s')[k] = y at gk
    rw [List.getElem?_set] at gj gk
    intro b hb hb'
    split at gj
    · rename_i e1
      split at gk
      · omega
      · cases gj
        exact old k y (by omega) gk b hb hb'
    · split at gk
      · cases gk
        exact old j x (by omega) gj b hb' hb
      · exact S.apart' (by omega) gj gk b hb hb'
  · exact Upd.drop S.u (less0 u) (S.new s hm)
theorem Slots.store {K : Heap → Prop} {b j k : Nat} {v : Value} (S : Slots L B H ss) (hs : ss[i]? = some s) (ha : s.a = some ⟨b, 0, none⟩) (hv : Value.plain v = true) (hk : k < s.xs.length) (hj : j = k)
    (hK : ∀ H', Slots L B H' (ss.set i { s with xs := s.xs.set k v }) → Upd [b] H H' → b ∉ B → L b = none → K H') : HStore H ⟨b, j, none⟩ v K := by
  have hm := List.mem_of_getElem? hs
  have o0 : OwnRow H s.e s.z s.a s.n s.c s.xs := S.own s hm
  have o := o0.flat
  rw [ha] at o
  have hl := o0.len
  refine store_row o hv (i := k) (by omega) hj fun H' o' u => ?_
  refine hK H' (S.change (s' := { s with xs := s.xs.set k v }) hs (by rw [ha]; exact u) ?_ fun b' hb' => .inl hb') u (S.off s hm b (by rw [ha]; simp [blk])) (S.new s hm b (by rw [ha]; simp [blk]))
  show OwnRow H' s.e s.z s.a s.n s.c (s.xs.set k v)
  refine ⟨by rw [List.length_set]; exact hl, ?_⟩
  rw [ha]
  rcases o'.ok with ⟨h1, _⟩ | ⟨g, cur, ha', hg, h1, h2, h3⟩
  · cases h1
  · exact .inr ⟨g, cur, ha', hg, by rw [h1, Nat.mul_one], o0.le, h3⟩
end
section
variable {P : Program} {L H : Heap} {B : List Nat} {ss : List Slot} {i : Nat}
/-- append to one of them. -/
theorem Slots.append {t e : TypeId} {ie : TypeInfo} {z : Value} {a b : Option Addr} {n cap m c : Nat} {xs ys : List Value} {K : Value → Heap → Prop} {ty : TypeId} (hB : ∀ b ∈ B, H b ≠ none)
    (ht : P.underlying t = some (.slice e)) (hi : P.info? e = some ie) (hz : ie.zero = some z) (hzs : z.cells.size = ie.size) (hs0 : 0 < ie.size)
    (S : Slots L B H ss) (hs : ss[i]? = some ⟨e, ie.size, a, n, cap, xs⟩) (hy : RowAt H b ys) (hyl : ys.length = m * ie.size) (hyp : ∀ v ∈ ys, Value.plain v = true)
    (hlim : (n + m) * ie.bytes ≤ 140737488355328) (hmax : n + m ≤ 4611686018427387904)
    (hk : ∀ a' cap' H', Slots L B H' (ss.set i ⟨e, ie.size, a', n + m, cap', xs ++ ys⟩) → Upd (blk a) H H' → (∀ b ∈ blk a, b ∉ B ∧ L b = none) → K (.slice a' (n + m) cap') H') :
    HSem P (Builtin.append_ #[t, t] ty [.slice a n cap, .slice b m c].toArray) H K := by
  have hm := List.mem_of_getElem? hs
  have o : OwnRow H e ie.size a n cap xs := S.own _ hm
  refine append_rows (ie := ie) (z := z) (xs := xs) (ys := ys) ht hi hz hzs hs0 o hy hyl hyp hlim hmax fun a' c' H' o' u f => ?_
  refine hk a' c' H' (S.change hs u o' fun b' hb' => ?_) u fun b' hb' => ⟨S.off _ hm b' hb', S.new _ hm b' hb'⟩
  obtain ⟨p, hp, rfl⟩ := blk_of hb'
  rcases f p hp with h | h
  · exact .inl (by show p.block ∈ blk a; rw [h]; simp [blk])
  · exact .inr ⟨h, fun hb => hB _ hb h⟩
end
end Go.Proofs.YtfcmjomnpahllaaGreat
namespace Go.Proofs.YtfcmjomnpahllaaGreat
open Go Hv
set_option linter.unusedVariables false
set_option linter.unusedSimpArgs false
set_option maxRecDepth 10000
set_option maxHeartbeats 4000000
section
variable {L H H' : Heap} {B B' : List Nat} {ss tt : List Slot} {s s' : Slot} {i : Nat}
theorem Slots.perm (S : Slots L B H ss) (h : ss.Perm tt) : Slots L B H tt :=
  ⟨fun s hs => S.own s (h.mem_iff.2 hs), fun s hs => S.off s (h.mem_iff.2 hs), fun s hs => S.new s (h.mem_iff.2 hs), (h.pairwise_iff (fun {a b} hab x hx hy => hab x hy hx)).1 S.apart, S.u⟩
theorem Slots.stepC (S : Slots L B H ss) (hs : ss[i]? = some s) (u : Upd (blk s.a) (lessH H B) (lessH H' B')) (ow : s'.row (lessH H' B')) (ha : s'.a = s.a) : Slots L B' H' (ss.set i s') := by
  have hil := (List.getElem?_eq_some_iff.1 hs).1
  have hm := List.mem_of_getElem? hs
  have key : ∀ t ∈ ss.set i s', t = s' ∨ (t ∈ ss ∧ ∀ b ∈ blk s.a, b ∉ blk t.a) := fun t ht => by
    obtain ⟨j, hj⟩ := List.getElem?_of_mem ht
    rw [List.getElem?_set] at hj
    split at hj
    · cases hj; exact .inl rfl
    · rename_i hij
      exact .inr ⟨List.mem_of_getElem? hj, S.apart' hij hs hj⟩
  have rows : ∀ t ∈ ss.set i s', t.row (lessH H' B') := fun t ht => by
    rcases key t ht with rfl | ⟨h, o⟩
    · exact ow
    · exact (S.less h).upd u (off_notin fun b hb hb' => o b hb' hb)
  refine ⟨fun t ht => ownrow_up (rows t ht), fun t ht b hb => ?_, fun t ht => ?_, ?_, Upd.drop S.u u (S.new s hm)⟩
  · obtain ⟨p, hp, rfl⟩ := blk_of hb
    exact (less_ne ((rows t ht).there hp)).1
  · rcases key t ht with rfl | ⟨h, o⟩
    · rw [ha]; exact S.new s hm
    · exact S.new t h
  · have e : (ss.set i s').map Slot.a = ss.map Slot.a := by
      rw [List.map_set, ha]
      apply List.ext_getElem?
      intro j
      rw [List.getElem?_set]
      split
      · rename_i e; subst e
        rw [List.length_map, if_pos hil, List.getElem?_map, hs]; rfl
      · rfl
    have h1 : (ss.map Slot.a).Pairwise fun x y => ∀ b ∈ blk x, b ∉ blk y := List.pairwise_map.2 S.apart
    rw [← e] at h1
    exact List.pairwise_map.1 h1
end
end Go.Proofs.YtfcmjomnpahllaaGreat
namespace Go.Proofs.YtfcmjomnpahllaaGreat
open Go Hv
set_option linter.unusedVariables false
set_option linter.unusedSimpArgs false
set_option maxRecDepth 10000
set_option maxHeartbeats 4000000
/-! files: both disks hold the same. CUT2 -/
def Kin (k : Int) : Prop := -9223372036854775808 ≤ k ∧ k ≤ 9223372036854775807
structure FiI (H1 H7 : Heap) (g r q : Nat) (s : St) (W7 : List Nat) (ns : List Txt) (m : Nat) (vs : List Value) (H' : Heap) : Prop where
  ex : ∃ (i : Nat) (W : List Nat), vs = [.int .i64 (i : Int)] ∧ m + i = ns.length ∧ TAt H1 H' g r q s W ∧ Stq H7 H' W7 W
section
variable {H1 H : Heap} {g r q N : Nat} {s : St} {K : Value → Heap → Prop}
theorem zsame_t {a b : Option Addr} {n m c d : Nat} {l : List UInt8} (hx : RowAt H a (u8s l)) (hy : RowAt H b (u8s l)) (hn : l.length = n) (hm : l.length = m) (hk : K (.bool true) H) : HCalls Tryz.prog 53 [.slice a n c, .slice b m d] H K := by
  refine hcalls (fn := Tryz.f53) [] mixed Tryz.func53 rfl rfl (by decide +kernel) ?_
  (repeat first | refine HReg.step ?_ | refine HCode.step ?_)
  refine HBytes.row l hn (fun Hx h => by rw [List.mem_singleton.1 h]; exact hx) ?_ (by simp)
  (repeat first | refine HReg.step ?_ | refine HCode.step ?_)
  refine HBytes.row l hm (fun Hx h => by rw [List.mem_singleton.1 h]; exact hy) ?_ (by simp)
  (repeat first | refine HReg.step ?_ | refine HCode.step ?_)
  rw [seqB_bs, decide_eq_true rfl]
  (repeat first | refine HReg.step ?_ | refine HCode.step ?_)
  exact hk
theorem files_t {W : List Nat} (T0 : TAt H1 H g r q s W) (ok : s.Ok N) (hN : N ≤ 9000000000) (hkp : Kin s.d.keep) (ha : s.d.armed = false) (ho : s.d.off = false)
    (hk : ∀ W' H', TAt H1 H' g r q s W' → Stq H H' W W' → K (.bool true) H') : HCalls Tryz.prog 29 [.pointer (some ⟨g, 0, none⟩), .pointer (some ⟨q, 0, none⟩)] H K := by
  refine hcalls (fn := Tryz.f29) [] mixed Tryz.func29 rfl rfl (by decide +kernel) ?_
  obtain ⟨fl, B, T4, rfl⟩ := T0
  have idle : s.call = s := St.call_idle ha
  have c4 : Cok s N := ⟨hkp.1, hkp.2, T4.p.lo, ok, by omega⟩
  (repeat first | refine HReg.step ?_ | refine HCode.step ?_)
  refine HCall.mk ⟨Tryz.f50, Tryz.func50, by rfl, by rfl⟩ ?_
  refine list_f T4.p ok (fun ho' fl5 H5 P5 S5 => ?_) (fun _ a5 c5 ns fl5 H5 H6 P5 S5 nm hn16 m6 => ?_)
  · exfalso
    rw [idle, ho] at ho'; cases ho'
  obtain ⟨R5, ap5⟩ := T4.prog S5
  have R6 := R5.upd0 m6.upd
  (repeat first | refine HReg.step ?_ | refine HCode.step ?_)
  refine HCall.mk ⟨Tryz.f51, Tryz.func51, by rfl, by rfl⟩ ?_
  refine rlist_t R6 c4 (fun hf' => by rw [idle, ho] at hf'; cases hf') (fun _ a7 c7 ns2 H7 H8 R7 S7 nm2 _ m8 => ?_)
  have en : ns2 = ns := Nms.uniq nm2 nm (fun k => Iff.rfl)
  subst en
  rw [idle] at P5 R7
  have w5 := (m6.own.rows.upd S7.upd (.inr fun p hp hb => R5.live _ hb (m6.new p hp))).upd (S := []) m8.upd (.inr (Off.nil _))
  (repeat first | refine HReg.step ?_ | refine HCode.step ?_)
  rw [eqB_self 0]
  (repeat first | refine HReg.step ?_ | refine HCode.step ?_)
  refine HCall.mk ⟨Tryz.f52, Tryz.func52, by rfl, by rfl⟩ ?_
  refine sameS_t w5 m8.own.rows rfl rfl (by omega) ?_
  have T8 := (two_ref (P5.upd0 m6.upd) R6 ap5 R7 S7).upd0 m8.upd
  have Q8 : Stq H H8 (dblk g r fl ++ B) (dblk g r fl5 ++ B) := by
    have := two_stq (fl'' := fl) (S5.fwd0 m6.upd) S7 (fun _ _ _ => trivial)
    exact ⟨this.upd.trans (m8.upd.mono (by simp)), this.sub⟩
  have TW : TAt H1 H8 g r q s (dblk g r fl5 ++ B) := ⟨fl5, B, T8, rfl⟩
  have off5 : Off (dblk g r fl5 ++ B) a5 := fun p hp hb => by
    have hn := m6.new p hp
    rcases List.mem_append.1 hb with h | h
    · exact P5.phys.live _ h hn
    · exact R5.live _ h hn
  have live5 : ∀ p, a5 = some p → H8 p.block ≠ none := fun p hp h => by
    have h6 := m6.own.there hp
    have e1 := S7.upd p.block (fun hb => R5.live _ hb (m6.new p hp)) h6
    have h7 : H7 p.block ≠ none := by rw [e1]; exact h6
    rw [m8.upd p.block (by simp) h7] at h
    exact h7 h
  (repeat first | refine HReg.step ?_ | refine HCode.step ?_)
  refine hloopC [4, 9, 10, 11, 12, 13, 33, 34, 35, 36, 37, 38, 39, 40, 41, 42, 43, 44, 45, 46, 47, 48, 49, 50, 51, 52, 53, 54, 55, 56, 57, 58, 59, 60, 61, 62, 63, 64, 65] [9] (FiI H1 H8 g r q s (dblk g r fl5 ++ B) ns2) rfl (by repeat' first | exact Resp.retD | exact Resp1.valuesK | refine Resp.blockD ?_ | refine Resp.thenD ?_ ?_ | refine Resp.hcode ?_) ?_ ?_
  · exact ⟨ns2.length, FiI.mk ⟨0, _, rfl, rfl, TW, Stq.refl _ _⟩⟩
  rintro m2 _ fe2 H9 ⟨j, W9, rfl, hmj, T9, Q9⟩
  have row9 := w5.upd Q9.upd (.inr off5)
  (repeat first | refine HReg.step ?_ | refine HCode.step ?_)
  refine hif (fun h2 => ?_) (fun h2 => ?_)
  · have h2 := ltB_true.1 h2
    have wj : wr .i64 ((j : Int) + 1) = ((j + 1 : Nat) : Int) := by rw [wr_i64 (by omega) (by omega)]; omega
    obtain ⟨t, ht⟩ : ∃ t, ns2[j]? = some t := ⟨ns2[j]'(by omega), by simp⟩
    have hx : (txts ns2)[j]? = some (.string (bs t)) := by unfold txts; rw [List.getElem?_map, ht]; rfl
    obtain ⟨ba, bo, rfl, _⟩ := row9 _ _ hx
    obtain ⟨fl9, B9, t9, rfl⟩ := T9
    (repeat first | refine HReg.step ?_ | refine HCode.step ?_)
    refine HReq.mk ⟨by omega, by omega⟩ ?_
    (repeat first | refine HReg.step ?_ | refine HCode.step ?_)
    refine HLoad.one (v := .string (bs t)) (by exact row9.get hx) ?_
    (repeat first | refine HReg.step ?_ | refine HCode.step ?_)
    refine HCall.mk ⟨Tryz.f31, Tryz.func31, by rfl, by rfl⟩ ?_
    refine read_f t9.p fun aR cR fl10 H10 H11 P10 S10 m11 => ?_
    rw [idle] at P10
    obtain ⟨R10, ap10⟩ := t9.prog S10
    have R11 := R10.upd0 m11.upd
    have P11 := P10.upd0 m11.upd
    have c11 : Cok s N := ⟨hkp.1, hkp.2, P11.lo, ok, by omega⟩
    have off9 : Off (dblk g r fl9 ++ B9) (some ⟨ba, bo, none⟩) := fun p hp hb => by
      rcases Q9.sub _ hb with h | h
      · exact off5 p hp h
      · exact live5 p hp h
    have row11 := (row9.upd S10.upd (.inr fun p hp hb => off9 p hp (List.mem_append_left _ hb))).upd (S := []) m11.upd (.inr (Off.nil _))
    (repeat first | refine HReg.step ?_ | refine HCode.step ?_)
    refine HReq.mk ⟨by omega, by omega⟩ ?_
    (repeat first | refine HReg.step ?_ | refine HCode.step ?_)
    refine HLoad.one (v := .string (bs t)) (by exact row11.get hx) ?_
    (repeat first | refine HReg.step ?_ | refine HCode.step ?_)
    refine HCall.mk ⟨Tryz.f36, Tryz.func36, by rfl, by rfl⟩ ?_
    refine rread_t R11 c11 fun aD cD H12 R12 S12 o12 n12 => ?_
    rw [idle] at R12
    have T12 := two_ref P11 R11 ap10 R12 S12
    have rowP := m11.own.rows.upd S12.upd (.inr fun p hp hb => R10.live _ hb (m11.new p hp))
    obtain ⟨E, l, hE⟩ : ∃ E l, s.readF (bs t) = (E, l) := ⟨_, _, rfl⟩
    rw [hE] at rowP o12 ⊢
    dsimp only at rowP o12 ⊢
    (repeat first | refine HReg.step ?_ | refine HCode.step ?_)
    rw [eqB_self E]
    (repeat first | refine HReg.step ?_ | refine HCode.step ?_)
    refine HCall.mk ⟨Tryz.f53, Tryz.func53, by rfl, by rfl⟩ ?_
    refine zsame_t rowP o12.rows rfl rfl ?_
    (repeat first | refine HReg.step ?_ | refine HCode.step ?_)
    rw [wj]
    have Q12 : Stq H9 H12 (dblk g r fl9 ++ B9) (dblk g r fl10 ++ B9) := two_stq (fl'' := fl9) (S10.fwd0 m11.upd) S12 (fun _ _ _ => trivial)
    exact ⟨m2 - 1, by omega, FiI.mk ⟨j + 1, _, rfl, by omega, ⟨fl10, B9, T12, rfl⟩, Q9.trans Q12⟩⟩
  · have h2 := ltB_false.1 h2
    (repeat first | refine HReg.step ?_ | refine HCode.step ?_)
    exact hk W9 H9 T9 (Q8.trans Q9)
end
end Go.Proofs.YtfcmjomnpahllaaGreat
namespace Go.Proofs.YtfcmjomnpahllaaGreat
open Go Hv
set_option linter.unusedVariables false
set_option linter.unusedSimpArgs false
set_option maxRecDepth 10000
set_option maxHeartbeats 4000000
/-! Both disks, and what stands beside them. -/
structure Hf (L : Heap) (g r q : Nat) (fl : List Fl) (B : List Nat) (s' s : St) (ss : List Slot) (H : Heap) : Prop where
  p : DiskAt eH H g r s' fl
  d : GAt eH H q s B
  ap : ∀ b ∈ dblk g r fl, b ∉ B
  S : Slots L (dblk g r fl ++ B) H ss
theorem less_sub {H : Heap} {A B : List Nat} (h : ∀ b ∈ B, b ∈ A) : Upd [] (lessH H A) (lessH H B) := fun k _ hn => by
  obtain ⟨h1, h2⟩ := less_ne hn
  rw [lessH_of h1, lessH_of fun hb => h1 (h k hb)]
theorem Slots.front {L H : Heap} {B : List Nat} {ss tt : List Slot} (S : Slots L B H (ss ++ tt)) : Slots L B H ss :=
  ⟨fun s hs => S.own s (List.mem_append_left _ hs), fun s hs => S.off s (List.mem_append_left _ hs), fun s hs => S.new s (List.mem_append_left _ hs), (List.pairwise_append.1 S.apart).1, S.u⟩
section
variable {L H H' : Heap} {g r q : Nat} {fl fl2 : List Fl} {B B' : List Nat} {s' s s2 : St} {ss : List Slot}
theorem Hf.upd0 (h : Hf L g r q fl B s' s ss H) (u : Upd [] H H') : Hf L g r q fl B s' s ss H' := ⟨h.p.upd0 u, h.d.upd0 u, h.ap, h.S.upd0 u⟩
theorem Hf.live (h : Hf L g r q fl B s' s ss H) : ∀ b ∈ dblk g r fl ++ B, H b ≠ none := fun b hb => by
  rcases List.mem_append.1 hb with h1 | h1
  · exact h.p.phys.live b h1
  · exact h.d.live b h1
theorem off_to {ss' : List Nat} (u : Upd ss' (offD H g r fl) (offD H' g r fl2)) : Upd (dblk g r fl ++ ss') H H' ∧ ∀ b, b ∉ dblk g r fl → b ∉ ss' → H b ≠ none → b ∉ dblk g r fl2 := by
  have key : ∀ b, b ∉ dblk g r fl → b ∉ ss' → H b ≠ none → offD H' g r fl2 b = H b := fun b h1 h2 h3 => by
    have e : offD H g r fl b = H b := lessH_of h1
    rw [u b h2 (by rw [e]; exact h3), e]
  refine ⟨fun b hb hn => ?_, fun b h1 h2 h3 => ?_⟩
  · have h1 : b ∉ dblk g r fl := fun h => hb (List.mem_append_left _ h)
    have h2 : b ∉ ss' := fun h => hb (List.mem_append_right _ h)
    have e := key b h1 h2 hn
    have h3 : b ∉ dblk g r fl2 := (less_ne (show lessH H' (dblk g r fl2) b ≠ none by rw [show lessH H' (dblk g r fl2) b = H b from e]; exact hn)).1
    rw [← e]; exact (lessH_of h3).symm
  · have e := key b h1 h2 h3
    exact (less_ne (show lessH H' (dblk g r fl2) b ≠ none by rw [show lessH H' (dblk g r fl2) b = H b from e]; exact h3)).1
theorem less_prog {T : List Nat} (hl : ∀ b ∈ B, H b ≠ none) (hB : ∀ b ∈ dblk g r fl, b ∉ B) (hT : ∀ b ∈ T, b ∉ B) (u : Upd T (offD H g r fl) (offD H' g r fl2)) : Upd T (lessH H (dblk g r fl ++ B)) (lessH H' (dblk g r fl2 ++ B)) := fun k hk hn => by
  obtain ⟨h1, h2⟩ := less_ne hn
  have h3 : k ∉ dblk g r fl := fun h => h1 (List.mem_append_left _ h)
  have h4 : k ∉ B := fun h => h1 (List.mem_append_right _ h)
  obtain ⟨u1, u2⟩ := off_to u
  have h5 := u2 k h3 hk h2
  rw [lessH_of h1, lessH_of fun h => (List.mem_append.1 h).elim h5 h4]
  exact u1 k (fun h => (List.mem_append.1 h).elim h3 hk) h2
/-- The program's disk has made a call. -/
theorem Hf.prog (h : Hf L g r q fl B s' s ss H) (D : DiskAt eH H' g r s2 fl2) (u : Upd [] (offD H g r fl) (offD H' g r fl2)) : Hf L g r q fl2 B s2 s ss H' := by
  obtain ⟨u1, u2⟩ := off_to u
  rw [List.append_nil] at u1
  exact ⟨D, h.d.upd u1 h.ap fun b hb => rfl, fun b hb hB => u2 b (fun h1 => h.ap b h1 hB) (by simp) (h.d.live b hB) hb, h.S.step (less_prog h.d.live h.ap (by simp) u)⟩
theorem Hf.progS {i : Nat} {sl sl' : Slot} {p : Nat} (h : Hf L g r q fl B s' s ss H) (hs : ss[i]? = some sl) (ha : sl.a = some ⟨p, 0, none⟩) (ha' : sl'.a = sl.a) (D : DiskAt eH H' g r s2 fl2) (u : Upd [p] (offD H g r fl) (offD H' g r fl2)) (ow : sl'.row (offD H' g r fl2)) : Hf L g r q fl2 B s2 s (ss.set i sl') H' := by
  have hp : p ∉ dblk g r fl ++ B := h.S.off sl (List.mem_of_getElem? hs) p (by rw [ha]; simp [blk])
  have hpB : ∀ b ∈ [p], b ∉ B := fun b hb h1 => hp (List.mem_append_right _ (by rw [← List.mem_singleton.1 hb]; exact h1))
  obtain ⟨u1, u2⟩ := off_to u
  refine ⟨D, h.d.upd u1 (fun b hb hB => ?_) fun b hb => rfl, fun b hb hB => u2 b (fun h1 => h.ap b h1 hB) (fun h1 => hpB b h1 hB) (h.d.live b hB) hb, h.S.stepC hs (by rw [ha]; exact less_prog h.d.live h.ap hpB u) ?_ ha'⟩
  · rcases List.mem_append.1 hb with h1 | h1
    · exact h.ap b h1 hB
    · exact hpB b h1 hB
  · refine OwnRow.less (ownrow_up ow) fun b hb hm => ?_
    rw [ha', ha] at hb
    have hbp : b = p := by simpa [blk] using hb
    subst hbp
    rcases List.mem_append.1 hm with h1 | h1
    · exact (less_ne (OwnRow.there ow (by rw [ha', ha]))).1 h1
    · exact hp (List.mem_append_right _ h1)
theorem less_doc {T : List Nat} (S : Stq H H' (T ++ B) (T ++ B')) (hl : ∀ b ∈ B, b ∈ B' ∨ True) : Upd T (lessH H (dblk g r fl ++ B)) (lessH H' (dblk g r fl ++ B')) := fun k hk hn => by
  obtain ⟨h1, h2⟩ := less_ne hn
  have h3 : k ∉ dblk g r fl := fun h => h1 (List.mem_append_left _ h)
  have h4 : k ∉ B := fun h => h1 (List.mem_append_right _ h)
  have h5 : k ∉ T ++ B := fun h => (List.mem_append.1 h).elim hk h4
  have h6 : k ∉ B' := fun h => by
    rcases S.sub k (List.mem_append_right _ h) with h | h
    · exact h5 h
    · exact h2 h
  rw [lessH_of h1, lessH_of fun h => (List.mem_append.1 h).elim h3 h6]
  exact S.upd k h5 h2
/-- The document's disk has made a call. -/
theorem Hf.doc (h : Hf L g r q fl B s' s ss H) (R : GAt eH H' q s2 B') (S : Stq H H' B B') : Hf L g r q fl B' s' s2 ss H' := by
  refine ⟨h.p.upd S.upd (fun b hb h1 => h.ap b h1 hb) fun b hb => rfl, R, fun b hb hB => ?_, h.S.step (less_doc (T := []) S fun _ _ => .inr trivial)⟩
  rcases S.sub b hB with h1 | h1
  · exact h.ap b hb h1
  · exact h.p.phys.live b hb h1
theorem Hf.docS {i : Nat} {sl sl' : Slot} {p : Nat} (h : Hf L g r q fl B s' s ss H) (hs : ss[i]? = some sl) (ha : sl.a = some ⟨p, 0, none⟩) (ha' : sl'.a = sl.a) (R : GAt eH H' q s2 B') (S : Stq H H' (p :: B) (p :: B')) (hp' : p ∉ B') (ow : sl'.row H') : Hf L g r q fl B' s' s2 (ss.set i sl') H' := by
  have hp : p ∉ dblk g r fl ++ B := h.S.off sl (List.mem_of_getElem? hs) p (by rw [ha]; simp [blk])
  have hpd : p ∉ dblk g r fl := fun h1 => hp (List.mem_append_left _ h1)
  refine ⟨h.p.upd S.upd (fun b hb h1 => ?_) fun b hb => rfl, R, fun b hb hB => ?_, h.S.stepC hs (by rw [ha]; exact less_doc (T := [p]) S fun _ _ => .inr trivial) ?_ ha'⟩
  · rcases List.mem_cons.1 hb with rfl | h2
    · exact hpd h1
    · exact h.ap b h1 h2
  · rcases S.sub b (List.mem_cons_of_mem _ hB) with h1 | h1
    · rcases List.mem_cons.1 h1 with rfl | h1
      · exact hpd hb
      · exact h.ap b hb h1
    · exact h.p.phys.live b hb h1
  · refine OwnRow.less ow fun b hb hm => ?_
    rw [ha', ha] at hb
    have hbp : b = p := by simpa [blk] using hb
    subst hbp
    rcases List.mem_append.1 hm with h1 | h1
    · exact hpd h1
    · exact hp' h1
theorem Hf.two (h : Hf L g r q fl B s s ss H) : TAt eH H g r q s (dblk g r fl ++ B) := ⟨fl, B, ⟨h.p, h.d, h.ap⟩, rfl⟩
theorem Hf.base (h : Hf L g r q fl B s' s ss H) : Upd [] L H := h.S.u.trans (less_upd _ _)
end
/-! The log's calls keep the disk. -/
theorem appW_ok {s : St} {n : ByteArray} {k N : Nat} {x : Rec} (h : s.Ok N) : (appendW s n k x).2.2.Ok (N + (buildR x).1.length) ∧ (appendW s n k x).2.2.d.keep = s.d.keep ∧ (appendW s n k x).2.1 ≤ k + (buildR x).1.length := by
  have ha := h.append n (buildR x).1
  have hk := (append_d s n (buildR x).1).1
  have hs : ((s.append n (buildR x).1).2.sync n).2.Ok (N + (buildR x).1.length) := ha.sync n
  have hsk : ((s.append n (buildR x).1).2.sync n).2.d.keep = (s.append n (buildR x).1).2.d.keep := by
    generalize (s.append n (buildR x).1).2 = s2
    unfold St.sync St.has
    dsimp only
    split
    · exact zkeep_call _
    · split
      · exact zkeep_call _
      · exact zkeep_call _
  unfold appendW
  split
  · exact ⟨h.mono (by omega), rfl, by dsimp only; omega⟩
  · split
    · exact ⟨ha, by rw [hk, zkeep_call], by dsimp only; omega⟩
    · split
      · exact ⟨hs, by rw [hsk, hk, zkeep_call], by dsimp only; omega⟩
      · exact ⟨hs, by rw [hsk, hk, zkeep_call], Nat.le_refl _⟩
theorem readF_le {s : St} {n : ByteArray} {N : Nat} (h : s.Ok N) : (s.readF n).2.length ≤ N := by
  unfold St.readF
  split
  · exact Nat.zero_le _
  · cases hf : s.call.fs n with
    | none => exact Nat.zero_le _
    | some x => exact (h.call.le _ _ hf).1
theorem scan_bound : ∀ (n : Nat) (l : List UInt8), l.length ≤ n → (scanR l).2 ≤ l.length ∧ (scanR l).1.length ≤ l.length := by
  intro n
  induction n with
  | zero =>
    intro l hl
    by_cases he : (parseR l).2.2 = 0
    · obtain ⟨L, _, hL1, _⟩ := parse_ok he
      omega
    · rw [scan_no he]; exact ⟨Nat.zero_le _, Nat.zero_le _⟩
  | succ n ih =>
    intro l hl
    by_cases he : (parseR l).2.2 = 0
    · obtain ⟨L, _, hL1, hL2, _, _, hL3⟩ := parse_ok he
      have hpn : (parseR l).2.1 = 8 + L := by rw [hL3]
      rw [scan_yes he, hpn]
      have := ih (l.drop (8 + L)) (by rw [List.length_drop]; omega)
      rw [List.length_drop] at this
      refine ⟨?_, ?_⟩
      · show 8 + L + (scanR (l.drop (8 + L))).2 ≤ _
        omega
      · show (scanR (l.drop (8 + L))).1.length + 1 ≤ _
        omega
    · rw [scan_no he]; exact ⟨Nat.zero_le _, Nat.zero_le _⟩
theorem openW_ok {s : St} {n : ByteArray} {N : Nat} (h : s.Ok N) : (openW s n).2.2.Ok N ∧ (openW s n).2.2.d.keep = s.d.keep ∧ (openW s n).2.1.2 ≤ N ∧ (openW s n).2.1.1.length ≤ N := by
  have hr := readF_le (n := n) h
  have hsb := scan_bound _ (s.readF n).2 (Nat.le_refl _)
  have hcut : ∀ k, (s.call.cut n k).2.d.keep = s.d.keep := fun k => by
    unfold St.cut St.has
    dsimp only
    split
    · exact (zkeep_call s.call).trans (zkeep_call s)
    · split
      · exact (zkeep_call s.call).trans (zkeep_call s)
      · split
        · exact (zkeep_call s.call).trans (zkeep_call s)
        · exact (zkeep_call s.call).trans (zkeep_call s)
  unfold openW
  split
  · split
    · rename_i h1
      split
      · exact ⟨h.call.cut n _, hcut _, by dsimp only; omega, by dsimp only; omega⟩
      · exact ⟨h.call.cut n _, hcut _, Nat.zero_le _, Nat.zero_le _⟩
    · rename_i h1
      refine ⟨h.call, zkeep_call s, ?_, ?_⟩ <;> (dsimp only; omega)
  · split
    · exact ⟨h.call, zkeep_call s, Nat.zero_le _, Nat.zero_le _⟩
    · exact ⟨h.call, zkeep_call s, Nat.zero_le _, Nat.zero_le _⟩
end Go.Proofs.YtfcmjomnpahllaaGreat
namespace Go.Proofs.YtfcmjomnpahllaaGreat
open Go Hv
set_option linter.unusedVariables false
set_option linter.unusedSimpArgs false
set_option maxRecDepth 10000
set_option maxHeartbeats 4000000
/-! WalPlays. CUT2 -/
theorem HLoad_four {H0 H1 H2 H3 : Heap} {a : Addr} {K : Value → Prop} {v : Value} (h0 : H0.cell? a = some v) (h1 : H1.cell? a = some v) (h2 : H2.cell? a = some v) (h3 : H3.cell? a = some v) (hk : K v) : HLoad [H0, H1, H2, H3] a K := ⟨v, fun Hx hx => by
  simp only [List.mem_cons, List.not_mem_nil, or_false] at hx
  rcases hx with rfl | rfl | rfl | rfl
  · exact h0
  · exact h1
  · exact h2
  · exact h3, hk⟩
theorem HLoadN_rows {Hs : List Heap} {b off n : Nat} {vs : List Value} {K : List Value → Prop} (h : ∀ H ∈ Hs, RowAt H (some ⟨b, off, none⟩) vs) (hl : vs.length = n) (hk : K vs) : HLoadN Hs b off n K :=
  ⟨vs, fun H' hH j v hv => by exact (h H' hH).get hv, hl, hk⟩
structure OpZ where
  o : OpW
  t : Txt
  b : List UInt8
structure OpzOk (H : Heap) (z : OpZ) : Prop where
  ok : OpOk H z.o
  nm : z.o.nm = bs z.t
  rb : RowAt H z.o.ab (u8s z.b)
  nb : z.o.nb = z.b.length
theorem OpzOk.upd0 {H H' : Heap} {z : OpZ} (h : OpzOk H z) (u : Upd [] H H') : OpzOk H' z := ⟨h.ok.upd0 u, h.nm, h.rb.upd (S := []) u (.inr (Off.nil _)), h.nb⟩
noncomputable def costZ (z : OpZ) : Nat := (buildR z.o.q.r).1.length + z.b.length
structure Opz (H : Heap) (a : Option Addr) (zs : List OpZ) : Prop where
  row : RowAt H a (opsV (zs.map OpZ.o))
  each : ∀ z ∈ zs, OpzOk H z
theorem Opz.upd0 {H H' : Heap} {a : Option Addr} {zs : List OpZ} (h : Opz H a zs) (u : Upd [] H H') : Opz H' a zs := ⟨h.row.upd (S := []) u (.inr (Off.nil _)), fun z hz => (h.each z hz).upd0 u⟩
def slogS (g : Nat) (t : Txt) (p k : Nat) : Slot := ⟨69, 1, some ⟨p, 0, none⟩, 3, 3, [.pointer (some ⟨g, 0, none⟩), .string (bs t), .int .i64 (k : Int)]⟩
def sdlogS (q : Nat) (t : Txt) (p k : Nat) : Slot := ⟨76, 1, some ⟨p, 0, none⟩, 3, 3, [.pointer (some ⟨q, 0, none⟩), .string (bs t), .int .i64 (k : Int)]⟩
def boxS (b : Nat) (o : OpW) : Slot := ⟨44, 1, some ⟨b, 0, none⟩, 9, 9, o.cells⟩
theorem Slots.sub {L H : Heap} {B : List Nat} {ss tt : List Slot} (S : Slots L B H ss) (h : tt.Sublist ss) : Slots L B H tt :=
  ⟨fun s hs => S.own s (h.subset hs), fun s hs => S.off s (h.subset hs), fun s hs => S.new s (h.subset hs), S.apart.sublist h, S.u⟩
section
variable {L H H' : Heap} {g r q : Nat} {fl fl2 : List Fl} {B B' : List Nat} {s' s s2 : St} {ss tt : List Slot}
theorem Hf.sub (h : Hf L g r q fl B s' s ss H) (k : tt.Sublist ss) : Hf L g r q fl B s' s tt H := ⟨h.p, h.d, h.ap, h.S.sub k⟩
theorem Hf.addP {sl : Slot} (h : Hf L g r q fl B s' s ss H) (D : DiskAt eH H' g r s2 fl2) (u : Upd [] (offD H g r fl) (offD H' g r fl2)) (ow : sl.row (offD H' g r fl2)) (nw : ∀ b ∈ blk sl.a, offD H g r fl b = none) : Hf L g r q fl2 B s2 s (ss ++ [sl]) H' := by
  have h2 := h.prog D u
  have nB : ∀ b ∈ blk sl.a, b ∉ B := fun b hb hB => by
    have h3 : b ∉ dblk g r fl := fun h1 => h.ap b h1 hB
    have := nw b hb
    rw [show offD H g r fl b = H b from lessH_of h3] at this
    exact h.d.live b hB this
  refine ⟨h2.p, h2.d, h2.ap, h.S.adds (less_prog h.d.live h.ap (by simp) u) (fun x hx => ?_) (fun x hx b hb => ?_) (List.pairwise_singleton _ _)⟩
  · rw [List.mem_singleton.1 hx]
    refine OwnRow.less (ownrow_up ow) fun b hb hm => ?_
    rcases List.mem_append.1 hm with h1 | h1
    · obtain ⟨p, hp, rfl⟩ := blk_of hb
      exact (less_ne (OwnRow.there ow hp)).1 h1
    · exact nB b hb h1
  · rw [List.mem_singleton.1 hx] at hb
    have := nw b hb
    by_cases hd : b ∈ dblk g r fl
    · exact lessH_none (List.mem_append_left _ hd)
    · rw [show offD H g r fl b = H b from lessH_of hd] at this
      exact less_nn this
theorem Hf.addD {sl : Slot} (h : Hf L g r q fl B s' s ss H) (R : GAt eH H' q s2 B') (S : Stq H H' B B') (ow : sl.row H') (nw : ∀ b ∈ blk sl.a, lessH H B b = none ∧ b ∉ B') : Hf L g r q fl B' s' s2 (ss ++ [sl]) H' := by
  have h2 := h.doc R S
  have nd : ∀ b ∈ blk sl.a, b ∉ dblk g r fl := fun b hb hd => by
    have := (nw b hb).1
    rw [lessH_of (h.ap b hd)] at this
    exact h.p.phys.live b hd this
  refine ⟨h2.p, h2.d, h2.ap, h.S.adds (less_doc (T := []) S fun _ _ => .inr trivial) (fun x hx => ?_) (fun x hx b hb => ?_) (List.pairwise_singleton _ _)⟩
  · rw [List.mem_singleton.1 hx]
    refine OwnRow.less ow fun b hb hm => ?_
    rcases List.mem_append.1 hm with h1 | h1
    · exact nd b hb h1
    · exact (nw b hb).2 h1
  · rw [List.mem_singleton.1 hx] at hb
    by_cases hB : b ∈ B
    · exact lessH_none (List.mem_append_right _ hB)
    · have := (nw b hb).1
      rw [lessH_of hB] at this
      exact less_nn this
theorem Hf.recs {A : List Nat} {x : Rec} {ap ak : Option Addr} (h : Hf L g r q fl B s' s ss H) (hx : RecIn L x ap ak) : RecIn (offD H g r fl) x ap ak :=
  (hx.upd0 h.S.u).upd0 (less_sub fun b hb => List.mem_append_left _ hb)
end
section
variable {L H H' H'' : Heap} {g r q k p i : Nat} {fl fl2 : List Fl} {B : List Nat} {s' s : St} {ss : List Slot} {t : Txt}
theorem Hf.log (h : Hf L g r q fl B s' s ss H) (hs : ss[i]? = some (slogS g t p k)) : LogAt (offD H g r fl) p g (bs t) k :=
  ⟨OwnRow.less (h.S.get hs) fun b hb hd => h.S.off _ (List.mem_of_getElem? hs) b hb (List.mem_append_left _ hd)⟩
theorem Hf.recsKeep {qs : List PRec} {a : Option Addr} {c : Nat} (h : Hf L g r q fl B s' s ss H) (R : RecsAt (offD H g r fl) (offD H' g r fl2) qs a c) (u : Upd B H' H'') : Recs H'' a qs := by
  have nB : ∀ b, offD H g r fl b = none → b ∉ B := fun b hb hB => by
    have h3 : b ∉ dblk g r fl := fun h1 => h.ap b h1 hB
    rw [show offD H g r fl b = H b from lessH_of h3] at hb
    exact h.d.live b hB hb
  refine ⟨((ownrow_up R.row).upd u (off_notin fun b hb => nB b (R.new b hb))).rows, fun x hx => ?_⟩
  have n := R.recs.each x hx
  have k1 := n.np
  have k2 := n.nk
  exact ⟨((ownrow_up n.p).upd u fun z hz => nB _ (n.pn z hz)).rows, ((ownrow_up n.k).upd u fun z hz => nB _ (n.kn z hz)).rows, by omega, by omega⟩
end
theorem GAt.rebase {H1 H : Heap} {q : Nat} {s : St} {B : List Nat} (R : GAt H1 H q s B) : GAt eH H q s B := by
  obtain ⟨fs, aF, cF, cl, st, r, e⟩ := R
  exact ⟨fs, aF, cF, cl, st, { r with new := fun b hb => rfl, base := eH_upd H }, e⟩
theorem openW_zero (n : ByteArray) : openW St0 n = (0, ([], 0), St0) := by
  have hc : St0.call = St0 := St.call_idle rfl
  have e : St0.readF n = (61, []) := by unfold St.readF; rw [hc]; rfl
  unfold openW
  rw [e]
  dsimp only
  rw [if_neg (by decide), if_pos rfl, hc]
structure ZInv (L : Heap) (g r q : Nat) (t : Txt) (zs : List OpZ) (m : Nat) (vs : List Value) (H' : Heap) : Prop where
  ex : ∃ (i p p' k : Nat) (s : St) (fl : List Fl) (B : List Nat), vs = [.pointer (some ⟨p, 0, none⟩), .pointer (some ⟨p', 0, none⟩), .int .i64 (i : Int)] ∧ m + i = zs.length ∧ Hf L g r q fl B s s [slogS g t p k, sdlogS q t p' k] H' ∧ s.Ok ((zs.take i).map costZ).sum ∧ Kin s.d.keep ∧ k ≤ ((zs.take i).map costZ).sum
structure ZJ (L : Heap) (g r q : Nat) (t : Txt) (N : Nat) (vs : List Value) (H' : Heap) : Prop where
  ex : ∃ (p p' k : Nat) (s : St) (fl : List Fl) (B : List Nat), vs = [.pointer (some ⟨p, 0, none⟩), .pointer (some ⟨p', 0, none⟩)] ∧ Hf L g r q fl B s s [slogS g t p k, sdlogS q t p' k] H' ∧ s.Ok N ∧ Kin s.d.keep ∧ k ≤ N
theorem opr_rows {H : Heap} {b : Nat} {o : OpW} (h : RowAt H (some ⟨b, 0, none⟩) o.cells) : RowAt H (some ⟨b, 0 + 1, none⟩) o.q.cells := fun j v hv => by
  have hj := (List.getElem?_eq_some_iff.1 hv).1
  have e : o.cells[j + 1]? = some v := by
    match j, hj, hv with
    | 0, _, hv => exact hv
    | 1, _, hv => exact hv
    | 2, _, hv => exact hv
    | 3, _, hv => exact hv
    | n + 4, hj, hv => exact absurd hj (by show ¬ n + 4 < 4; omega)
  refine ⟨b, 0 + 1, rfl, ?_⟩
  have := h.get e
  rw [show 0 + (j + 1) = 0 + 1 + j by omega] at this
  exact this
section
variable {H : Heap} {K : Value → Heap → Prop}
theorem walPlays_t {t : Txt} {a : Option Addr} {n c : Nat} {zs : List OpZ} (hz : Opz H a zs) (hn : zs.length = n) (hnl : n ≤ 4000000000000000000) (hsum : (zs.map costZ).sum ≤ 8000000000)
    (hk : ∀ H', Upd [] H H' → K (.bool true) H') : HCalls Tryz.prog 3 [.string (bs t), .slice a n c] H K := by
  subst hn
  refine hcalls (fn := Tryz.f3) [(17, [(1, 0), (2, 0), (3, 0), (0, 1), (4, 0), (5, 2), (6, 2), (7, 2), (8, 0), (9, 0), (10, 0), (11, 0), (12, 0), (13, 0), (14, 0), (15, 0), (16, 0), (17, 1), (18, 0), (19, 0), (20, 0), (21, 0), (22, 0), (23, 1), (24, 0), (25, 0), (26, 0), (27, 0), (28, 0)]), (29, [(3, 0), (4, 1), (5, 1), (6, 0), (0, 2), (1, 2), (2, 2), (7, 0), (8, 3), (9, 3), (10, 3), (11, 3), (12, 3), (13, 0), (14, 0)])] mixed Tryz.func3 rfl rfl (by decide +kernel) ?_
  (repeat first | refine HReg.step ?_ | refine HCode.step ?_)
  refine HCall.mk ⟨Tryz.f4, Tryz.func4, by rfl, by rfl⟩ ?_
  refine alive_t fun H1 u1 => ?_
  (repeat first | refine HReg.step ?_ | refine HCode.step ?_)
  refine HCall.mk ⟨Tryz.f5, Tryz.func5, by rfl, by rfl⟩ ?_
  refine wnew_t fun g r H2 D2 u2 => ?_
  (repeat first | refine HReg.step ?_ | refine HCode.step ?_)
  refine HCall.mk ⟨Tryz.f6, Tryz.func6, by rfl, by rfl⟩ ?_
  refine rnew_t fun q B H3 R3 u3 => ?_
  have w02 := u1.trans u2
  have apB : ∀ b ∈ dblk g r [], b ∉ B := fun b hb hB => D2.phys.live b hb (R3.old b hB)
  obtain ⟨L, hL⟩ : ∃ L, L = lessH H3 (dblk g r [] ++ B) := ⟨_, rfl⟩
  have uL : Upd [] H L := by
    have v : Upd [] (offD H2 g r []) (lessH H3 (dblk g r [] ++ B)) := fun k _ hn => by
      obtain ⟨h1, h2⟩ := less_ne hn
      have h4 : k ∉ B := fun h => h2 (R3.old k h)
      rw [lessH_of fun h => (List.mem_append.1 h).elim h1 h4, show offD H2 g r [] k = H2 k from lessH_of h1]
      exact u3 k (by simp) h2
    rw [hL]; exact w02.trans v
  have f3 : Hf L g r q [] B St0 St0 [] H3 := ⟨D2.upd0 u3, R3.rebase, apB, Slots.nil (by rw [hL]; exact Upd.refl _ _)⟩
  clear hL D2 R3 u3
  (repeat first | refine HReg.step ?_ | refine HCode.step ?_)
  refine HCall.mk ⟨Tryz.f7, Tryz.func7, by rfl, by rfl⟩ ?_
  refine open_w (n := bs t) f3.p (by rw [show (St0.readF (bs t)).2 = [] from (by unfold St.readF; rw [St.call_idle rfl]; rfl)]; exact Nat.zero_le _) (openW_zero (bs t)) fun p4 a4 c4 qs4 fl4 H4 hq4 D4 u4 lg4 np4 Rc4 => ?_
  have f4 := f3.addP (sl := slogS g t p4 0) D4 u4 lg4.row (fun b hb => by
    have e : b = p4 := by simpa [slogS, blk] using hb
    rw [e]; exact np4)
  (repeat first | refine HReg.step ?_ | refine HCode.step ?_)
  refine HCall.mk ⟨Tryz.f8, Tryz.func8, by rfl, by rfl⟩ ?_
  refine ropen_t f4.d ⟨by decide, by decide, f4.p.lo, ok0 0, by decide⟩ (by decide) (fun e B' H' he h1 _ _ => ?_) fun p5 a5 c5 qs5 B5 H5 h5 _ R5 S5 d5 n5 nB5 _ => ?_
  · rw [openW_zero] at h1; exact absurd h1.symm he
  rw [openW_zero] at R5 d5
  have f5 := f4.addD (sl := sdlogS q t p5 0) R5 S5 d5.row (fun b hb => by
    have e : b = p5 := by simpa [sdlogS, blk] using hb
    rw [e]; exact ⟨n5, nB5⟩)
  (repeat first | refine HReg.step ?_ | refine HCode.step ?_)
  rw [eqB_self 0]
  (repeat first | refine HReg.step ?_ | refine HCode.step ?_)
  refine hloopC [4, 8, 11, 14, 15, 16, 17, 18, 19, 20, 21, 51, 52, 53, 54, 55, 56, 57, 58, 59, 60, 61, 62, 63, 64, 65, 66, 67, 68, 69, 70, 71, 72, 73, 74, 75, 76, 77, 78, 79, 80, 81, 82, 83, 84, 85, 86, 87, 88, 89, 90, 91, 92, 93, 94, 95, 96, 97, 98, 99, 100, 101, 102, 103, 104, 105, 106, 107, 108, 109, 110, 111, 112, 113, 114, 115, 116, 117, 118, 119, 120, 121, 122, 123, 124, 125, 126, 127, 128, 129, 130, 131, 132, 133, 134, 135, 136, 137, 138, 139, 140, 141, 142, 143, 144, 145, 146, 147, 148, 149, 150, 151, 152, 153, 154, 155, 156, 157, 158, 159, 160, 161, 162, 163, 164, 165, 166, 167, 168, 169, 170, 171, 172, 173, 174, 175, 176, 177, 178, 179, 180, 181, 182, 183, 184, 185, 186, 187, 188, 189, 190, 191, 192, 193, 194, 195, 196, 197, 198, 199, 200, 201, 202, 203, 204, 205, 206, 207, 208, 209, 210, 211, 212, 213, 214] [8, 11, 14] (ZInv L g r q t zs) rfl (by repeat' first | exact Resp.retD | exact Resp1.valuesK | refine Resp.blockD ?_ | refine Resp.thenD ?_ ?_ | refine Resp.hcode ?_) ?_ ?_
  · exact ⟨zs.length, ZInv.mk ⟨0, p4, p5, 0, St0, fl4, B5, rfl, rfl, f5, ok0 _, ⟨by decide, by decide⟩, Nat.zero_le _⟩⟩
  clear f3 f4 f5 D4 R5 S5 d5
  rintro m _ fe H6 ⟨i, p, p', k, s, fl, B, rfl, hmi, f, ok, kp, hkN⟩
  have wi : (i : Nat) < zs.length → wr .i64 ((i : Int) + 1) = ((i + 1 : Nat) : Int) := fun h => by rw [wr_i64 (by omega) (by omega)]; omega
  have hz6 := (hz.upd0 uL).upd0 f.base
  (repeat first | refine HReg.step ?_ | refine HCode.step ?_)
  refine hif (fun h1 => ?_) (fun h1 => ?_)
  · have h1 := ltB_true.1 h1
    have hil : i < zs.length := by omega
    have wi := wi hil
    have hzi : zs[i]? = some zs[i] := List.getElem?_eq_getElem hil
    have hzm : zs[i] ∈ zs := List.getElem_mem _
    have hNs : ((zs.take (i + 1)).map costZ).sum = ((zs.take i).map costZ).sum + costZ zs[i] := by
      have e : zs.take (i + 1) = zs.take i ++ [zs[i]] := by rw [List.take_add_one, hzi]; rfl
      rw [e, List.map_append, List.sum_append]; simp
    have hle : ((zs.take (i + 1)).map costZ).sum ≤ 8000000000 := by
      refine Nat.le_trans ?_ hsum
      have := congrArg (fun l => (l.map costZ).sum) (List.take_append_drop (i + 1) zs)
      simp only [List.map_append, List.sum_append] at this
      omega
    generalize zs[i] = z at hzi hzm hNs
    have hoi : (zs.map OpZ.o)[i]? = some z.o := by rw [List.getElem?_map, hzi]; rfl
    obtain ⟨ba, bo, rfl, _⟩ := hz6.row _ _ (opsV_get hoi 0 _ rfl)
    have zL : OpzOk L z := (hz.each z hzm).upd0 uL
    obtain ⟨N, hN⟩ : ∃ N, N = ((zs.take i).map costZ).sum := ⟨_, rfl⟩
    rw [← hN] at ok hkN hNs
    have hcN : N + costZ z ≤ 8000000000 := by omega
    have hcA : (buildR z.o.q.r).1.length ≤ costZ z := Nat.le_add_right _ _
    have hcB : z.b.length ≤ costZ z := Nat.le_add_left _ _
    generalize costZ z = C at hNs hcN hcA hcB
    (repeat first | refine HReg.step ?_ | refine HCode.step ?_)
    refine HReq.mk ⟨by omega, by omega⟩ ?_
    (repeat first | refine HReg.step ?_ | refine HCode.step ?_)
    refine HLoadN_opw hz6.row hoi ?_
    (repeat first | refine HReg.step ?_ | refine HCode.step ?_)
    refine HNew.mk fun b7 hb7 => ?_
    (repeat first | refine HReg.step ?_ | refine HCode.step ?_)
    refine store_opw (o := z.o) (OwnRow.lit (upd_same _ _ _) rfl) rfl fun H7 o7 u7 => ?_
    have m7 : Made H6 H7 44 1 (some ⟨b7, 0, none⟩) 9 9 z.o.cells := ⟨o7, Upd.drop (Upd.new hb7 _) u7 (fun x hx => by rw [List.mem_singleton.1 hx]; exact hb7), fun x hx => by cases hx; exact hb7⟩
    have f7 : Hf L g r q fl B s s ([slogS g t p k, sdlogS q t p' k] ++ [boxS b7 z.o]) H7 := ⟨f.p.upd0 m7.upd, f.d.upd0 m7.upd, f.ap, f.S.add m7 f.live⟩
    have z7 := zL.upd0 f7.base
    have box7 : ∀ {Hx : Heap} {fl : List Fl} {B : List Nat} {s1 s2 : St} {ss : List Slot}, Hf L g r q fl B s1 s2 ss Hx → ss[2]? = some (boxS b7 z.o) → RowAt Hx (some ⟨b7, 0, none⟩) z.o.cells := fun f h => OwnRow.rows (f.S.get h)
    clear hz6 f m7 u7 o7
    ((repeat refine HReg.step ?_); first | (show HCode _ _ _ (Code.seq (Code.seq (Code.region _ _ _) (Code.block _ _)) _) _ _ _; refine hcutC (a := Code.seq (Code.region _ _ _) (Code.block _ _)) [4, 8, 11, 16, 17, 18, 19, 20, 21, 61, 62, 63, 64, 65, 66, 67, 68, 69, 70, 71, 72, 73, 74, 75, 76, 77, 78, 79, 80, 81, 82, 83, 84, 85, 86, 87, 88, 89, 90, 91, 92, 93, 94, 95, 96, 97, 98, 99, 100, 101, 102, 103, 104, 105, 106, 107, 108, 109, 110, 111, 112, 113, 114, 115, 116, 117, 118, 119, 120, 121, 122, 123, 124, 125, 126, 127, 128, 129, 130, 131, 132, 133, 134, 135, 136, 137, 138, 139, 140, 141, 142, 143, 144, 145, 146, 147, 148, 149, 150, 151, 152, 153, 154, 155, 156, 157, 158, 159, 160, 161, 162, 163, 164, 165, 166, 167, 168, 169, 170, 171, 172, 173, 174, 175, 176, 177, 178, 179, 180, 181, 182, 183, 184, 185, 186, 187, 188, 189, 190, 191, 192, 193, 194, 195, 196, 197, 198, 199, 200, 201, 202, 203, 204, 205, 206, 207, 208, 209] [8, 11] (ZJ L g r q t (N + C)) rfl (by repeat' first | exact Resp.retD | exact Resp1.valuesK | refine Resp.blockD ?_ | refine Resp.thenD ?_ ?_ | refine Resp.hcode ?_) ?_ ?_) | (refine HCode.step ?_; (repeat refine HReg.step ?_); first | (show HCode _ _ _ (Code.seq (Code.seq (Code.region _ _ _) (Code.block _ _)) _) _ _ _; refine hcutC (a := Code.seq (Code.region _ _ _) (Code.block _ _)) [4, 8, 11, 16, 17, 18, 19, 20, 21, 61, 62, 63, 64, 65, 66, 67, 68, 69, 70, 71, 72, 73, 74, 75, 76, 77, 78, 79, 80, 81, 82, 83, 84, 85, 86, 87, 88, 89, 90, 91, 92, 93, 94, 95, 96, 97, 98, 99, 100, 101, 102, 103, 104, 105, 106, 107, 108, 109, 110, 111, 112, 113, 114, 115, 116, 117, 118, 119, 120, 121, 122, 123, 124, 125, 126, 127, 128, 129, 130, 131, 132, 133, 134, 135, 136, 137, 138, 139, 140, 141, 142, 143, 144, 145, 146, 147, 148, 149, 150, 151, 152, 153, 154, 155, 156, 157, 158, 159, 160, 161, 162, 163, 164, 165, 166, 167, 168, 169, 170, 171, 172, 173, 174, 175, 176, 177, 178, 179, 180, 181, 182, 183, 184, 185, 186, 187, 188, 189, 190, 191, 192, 193, 194, 195, 196, 197, 198, 199, 200, 201, 202, 203, 204, 205, 206, 207, 208, 209] [8, 11] (ZJ L g r q t (N + C)) rfl (by repeat' first | exact Resp.retD | exact Resp1.valuesK | refine Resp.blockD ?_ | refine Resp.thenD ?_ ?_ | refine Resp.hcode ?_) ?_ ?_) | (refine HCode.step ?_; (repeat refine HReg.step ?_); first | (show HCode _ _ _ (Code.seq (Code.seq (Code.region _ _ _) (Code.block _ _)) _) _ _ _; refine hcutC (a := Code.seq (Code.region _ _ _) (Code.block _ _)) [4, 8, 11, 16, 17, 18, 19, 20, 21, 61, 62, 63, 64, 65, 66, 67, 68, 69, 70, 71, 72, 73, 74, 75, 76, 77, 78, 79, 80, 81, 82, 83, 84, 85, 86, 87, 88, 89, 90, 91, 92, 93, 94, 95, 96, 97, 98, 99, 100, 101, 102, 103, 104, 105, 106, 107, 108, 109, 110, 111, 112, 113, 114, 115, 116, 117, 118, 119, 120, 121, 122, 123, 124, 125, 126, 127, 128, 129, 130, 131, 132, 133, 134, 135, 136, 137, 138, 139, 140, 141, 142, 143, 144, 145, 146, 147, 148, 149, 150, 151, 152, 153, 154, 155, 156, 157, 158, 159, 160, 161, 162, 163, 164, 165, 166, 167, 168, 169, 170, 171, 172, 173, 174, 175, 176, 177, 178, 179, 180, 181, 182, 183, 184, 185, 186, 187, 188, 189, 190, 191, 192, 193, 194, 195, 196, 197, 198, 199, 200, 201, 202, 203, 204, 205, 206, 207, 208, 209] [8, 11] (ZJ L g r q t (N + C)) rfl (by repeat' first | exact Resp.retD | exact Resp1.valuesK | refine Resp.blockD ?_ | refine Resp.thenD ?_ ?_ | refine Resp.hcode ?_) ?_ ?_) | (refine HCode.step ?_; (repeat refine HReg.step ?_); first | (show HCode _ _ _ (Code.seq (Code.seq (Code.region _ _ _) (Code.block _ _)) _) _ _ _; refine hcutC (a := Code.seq (Code.region _ _ _) (Code.block _ _)) [4, 8, 11, 16, 17, 18, 19, 20, 21, 61, 62, 63, 64, 65, 66, 67, 68, 69, 70, 71, 72, 73, 74, 75, 76, 77, 78, 79, 80, 81, 82, 83, 84, 85, 86, 87, 88, 89, 90, 91, 92, 93, 94, 95, 96, 97, 98, 99, 100, 101, 102, 103, 104, 105, 106, 107, 108, 109, 110, 111, 112, 113, 114, 115, 116, 117, 118, 119, 120, 121, 122, 123, 124, 125, 126, 127, 128, 129, 130, 131, 132, 133, 134, 135, 136, 137, 138, 139, 140, 141, 142, 143, 144, 145, 146, 147, 148, 149, 150, 151, 152, 153, 154, 155, 156, 157, 158, 159, 160, 161, 162, 163, 164, 165, 166, 167, 168, 169, 170, 171, 172, 173, 174, 175, 176, 177, 178, 179, 180, 181, 182, 183, 184, 185, 186, 187, 188, 189, 190, 191, 192, 193, 194, 195, 196, 197, 198, 199, 200, 201, 202, 203, 204, 205, 206, 207, 208, 209] [8, 11] (ZJ L g r q t (N + C)) rfl (by repeat' first | exact Resp.retD | exact Resp1.valuesK | refine Resp.blockD ?_ | refine Resp.thenD ?_ ?_ | refine Resp.hcode ?_) ?_ ?_) | (refine HCode.step ?_; (repeat refine HReg.step ?_); first | (show HCode _ _ _ (Code.seq (Code.seq (Code.region _ _ _) (Code.block _ _)) _) _ _ _; refine hcutC (a := Code.seq (Code.region _ _ _) (Code.block _ _)) [4, 8, 11, 16, 17, 18, 19, 20, 21, 61, 62, 63, 64, 65, 66, 67, 68, 69, 70, 71, 72, 73, 74, 75, 76, 77, 78, 79, 80, 81, 82, 83, 84, 85, 86, 87, 88, 89, 90, 91, 92, 93, 94, 95, 96, 97, 98, 99, 100, 101, 102, 103, 104, 105, 106, 107, 108, 109, 110, 111, 112, 113, 114, 115, 116, 117, 118, 119, 120, 121, 122, 123, 124, 125, 126, 127, 128, 129, 130, 131, 132, 133, 134, 135, 136, 137, 138, 139, 140, 141, 142, 143, 144, 145, 146, 147, 148, 149, 150, 151, 152, 153, 154, 155, 156, 157, 158, 159, 160, 161, 162, 163, 164, 165, 166, 167, 168, 169, 170, 171, 172, 173, 174, 175, 176, 177, 178, 179, 180, 181, 182, 183, 184, 185, 186, 187, 188, 189, 190, 191, 192, 193, 194, 195, 196, 197, 198, 199, 200, 201, 202, 203, 204, 205, 206, 207, 208, 209] [8, 11] (ZJ L g r q t (N + C)) rfl (by repeat' first | exact Resp.retD | exact Resp1.valuesK | refine Resp.blockD ?_ | refine Resp.thenD ?_ ?_ | refine Resp.hcode ?_) ?_ ?_) | (refine HCode.step ?_; (repeat refine HReg.step ?_); first | (show HCode _ _ _ (Code.seq (Code.seq (Code.region _ _ _) (Code.block _ _)) _) _ _ _; refine hcutC (a := Code.seq (Code.region _ _ _) (Code.block _ _)) [4, 8, 11, 16, 17, 18, 19, 20, 21, 61, 62, 63, 64, 65, 66, 67, 68, 69, 70, 71, 72, 73, 74, 75, 76, 77, 78, 79, 80, 81, 82, 83, 84, 85, 86, 87, 88, 89, 90, 91, 92, 93, 94, 95, 96, 97, 98, 99, 100, 101, 102, 103, 104, 105, 106, 107, 108, 109, 110, 111, 112, 113, 114, 115, 116, 117, 118, 119, 120, 121, 122, 123, 124, 125, 126, 127, 128, 129, 130, 131, 132, 133, 134, 135, 136, 137, 138, 139, 140, 141, 142, 143, 144, 145, 146, 147, 148, 149, 150, 151, 152, 153, 154, 155, 156, 157, 158, 159, 160, 161, 162, 163, 164, 165, 166, 167, 168, 169, 170, 171, 172, 173, 174, 175, 176, 177, 178, 179, 180, 181, 182, 183, 184, 185, 186, 187, 188, 189, 190, 191, 192, 193, 194, 195, 196, 197, 198, 199, 200, 201, 202, 203, 204, 205, 206, 207, 208, 209] [8, 11] (ZJ L g r q t (N + C)) rfl (by repeat' first | exact Resp.retD | exact Resp1.valuesK | refine Resp.blockD ?_ | refine Resp.thenD ?_ ?_ | refine Resp.hcode ?_) ?_ ?_) | (refine HCode.step ?_; (repeat refine HReg.step ?_); first | (show HCode _ _ _ (Code.seq (Code.seq (Code.region _ _ _) (Code.block _ _)) _) _ _ _; refine hcutC (a := Code.seq (Code.region _ _ _) (Code.block _ _)) [4, 8, 11, 16, 17, 18, 19, 20, 21, 61, 62, 63, 64, 65, 66, 67, 68, 69, 70, 71, 72, 73, 74, 75, 76, 77, 78, 79, 80, 81, 82, 83, 84, 85, 86, 87, 88, 89, 90, 91, 92, 93, 94, 95, 96, 97, 98, 99, 100, 101, 102, 103, 104, 105, 106, 107, 108, 109, 110, 111, 112, 113, 114, 115, 116, 117, 118, 119, 120, 121, 122, 123, 124, 125, 126, 127, 128, 129, 130, 131, 132, 133, 134, 135, 136, 137, 138, 139, 140, 141, 142, 143, 144, 145, 146, 147, 148, 149, 150, 151, 152, 153, 154, 155, 156, 157, 158, 159, 160, 161, 162, 163, 164, 165, 166, 167, 168, 169, 170, 171, 172, 173, 174, 175, 176, 177, 178, 179, 180, 181, 182, 183, 184, 185, 186, 187, 188, 189, 190, 191, 192, 193, 194, 195, 196, 197, 198, 199, 200, 201, 202, 203, 204, 205, 206, 207, 208, 209] [8, 11] (ZJ L g r q t (N + C)) rfl (by repeat' first | exact Resp.retD | exact Resp1.valuesK | refine Resp.blockD ?_ | refine Resp.thenD ?_ ?_ | refine Resp.hcode ?_) ?_ ?_) | (refine HCode.step ?_; (repeat refine HReg.step ?_); first | (show HCode _ _ _ (Code.seq (Code.seq (Code.region _ _ _) (Code.block _ _)) _) _ _ _; refine hcutC (a := Code.seq (Code.region _ _ _) (Code.block _ _)) [4, 8, 11, 16, 17, 18, 19, 20, 21, 61, 62, 63, 64, 65, 66, 67, 68, 69, 70, 71, 72, 73, 74, 75, 76, 77, 78, 79, 80, 81, 82, 83, 84, 85, 86, 87, 88, 89, 90, 91, 92, 93, 94, 95, 96, 97, 98, 99, 100, 101, 102, 103, 104, 105, 106, 107, 108, 109, 110, 111, 112, 113, 114, 115, 116, 117, 118, 119, 120, 121, 122, 123, 124, 125, 126, 127, 128, 129, 130, 131, 132, 133, 134, 135, 136, 137, 138, 139, 140, 141, 142, 143, 144, 145, 146, 147, 148, 149, 150, 151, 152, 153, 154, 155, 156, 157, 158, 159, 160, 161, 162, 163, 164, 165, 166, 167, 168, 169, 170, 171, 172, 173, 174, 175, 176, 177, 178, 179, 180, 181, 182, 183, 184, 185, 186, 187, 188, 189, 190, 191, 192, 193, 194, 195, 196, 197, 198, 199, 200, 201, 202, 203, 204, 205, 206, 207, 208, 209] [8, 11] (ZJ L g r q t (N + C)) rfl (by repeat' first | exact Resp.retD | exact Resp1.valuesK | refine Resp.blockD ?_ | refine Resp.thenD ?_ ?_ | refine Resp.hcode ?_) ?_ ?_) | (refine HCode.step ?_; (repeat refine HReg.step ?_); first | (show HCode _ _ _ (Code.seq (Code.seq (Code.region _ _ _) (Code.block _ _)) _) _ _ _; refine hcutC (a := Code.seq (Code.region _ _ _) (Code.block _ _)) [4, 8, 11, 16, 17, 18, 19, 20, 21, 61, 62, 63, 64, 65, 66, 67, 68, 69, 70, 71, 72, 73, 74, 75, 76, 77, 78, 79, 80, 81, 82, 83, 84, 85, 86, 87, 88, 89, 90, 91, 92, 93, 94, 95, 96, 97, 98, 99, 100, 101, 102, 103, 104, 105, 106, 107, 108, 109, 110, 111, 112, 113, 114, 115, 116, 117, 118, 119, 120, 121, 122, 123, 124, 125, 126, 127, 128, 129, 130, 131, 132, 133, 134, 135, 136, 137, 138, 139, 140, 141, 142, 143, 144, 145, 146, 147, 148, 149, 150, 151, 152, 153, 154, 155, 156, 157, 158, 159, 160, 161, 162, 163, 164, 165, 166, 167, 168, 169, 170, 171, 172, 173, 174, 175, 176, 177, 178, 179, 180, 181, 182, 183, 184, 185, 186, 187, 188, 189, 190, 191, 192, 193, 194, 195, 196, 197, 198, 199, 200, 201, 202, 203, 204, 205, 206, 207, 208, 209] [8, 11] (ZJ L g r q t (N + C)) rfl (by repeat' first | exact Resp.retD | exact Resp1.valuesK | refine Resp.blockD ?_ | refine Resp.thenD ?_ ?_ | refine Resp.hcode ?_) ?_ ?_) | (refine HCode.step ?_; (repeat refine HReg.step ?_); first | (show HCode _ _ _ (Code.seq (Code.seq (Code.region _ _ _) (Code.block _ _)) _) _ _ _; refine hcutC (a := Code.seq (Code.region _ _ _) (Code.block _ _)) [4, 8, 11, 16, 17, 18, 19, 20, 21, 61, 62, 63, 64, 65, 66, 67, 68, 69, 70, 71, 72, 73, 74, 75, 76, 77, 78, 79, 80, 81, 82, 83, 84, 85, 86, 87, 88, 89, 90, 91, 92, 93, 94, 95, 96, 97, 98, 99, 100, 101, 102, 103, 104, 105, 106, 107, 108, 109, 110, 111, 112, 113, 114, 115, 116, 117, 118, 119, 120, 121, 122, 123, 124, 125, 126, 127, 128, 129, 130, 131, 132, 133, 134, 135, 136, 137, 138, 139, 140, 141, 142, 143, 144, 145, 146, 147, 148, 149, 150, 151, 152, 153, 154, 155, 156, 157, 158, 159, 160, 161, 162, 163, 164, 165, 166, 167, 168, 169, 170, 171, 172, 173, 174, 175, 176, 177, 178, 179, 180, 181, 182, 183, 184, 185, 186, 187, 188, 189, 190, 191, 192, 193, 194, 195, 196, 197, 198, 199, 200, 201, 202, 203, 204, 205, 206, 207, 208, 209] [8, 11] (ZJ L g r q t (N + C)) rfl (by repeat' first | exact Resp.retD | exact Resp1.valuesK | refine Resp.blockD ?_ | refine Resp.thenD ?_ ?_ | refine Resp.hcode ?_) ?_ ?_) | (refine HCode.step ?_; (repeat refine HReg.step ?_); first | (show HCode _ _ _ (Code.seq (Code.seq (Code.region _ _ _) (Code.block _ _)) _) _ _ _; refine hcutC (a := Code.seq (Code.region _ _ _) (Code.block _ _)) [4, 8, 11, 16, 17, 18, 19, 20, 21, 61, 62, 63, 64, 65, 66, 67, 68, 69, 70, 71, 72, 73, 74, 75, 76, 77, 78, 79, 80, 81, 82, 83, 84, 85, 86, 87, 88, 89, 90, 91, 92, 93, 94, 95, 96, 97, 98, 99, 100, 101, 102, 103, 104, 105, 106, 107, 108, 109, 110, 111, 112, 113, 114, 115, 116, 117, 118, 119, 120, 121, 122, 123, 124, 125, 126, 127, 128, 129, 130, 131, 132, 133, 134, 135, 136, 137, 138, 139, 140, 141, 142, 143, 144, 145, 146, 147, 148, 149, 150, 151, 152, 153, 154, 155, 156, 157, 158, 159, 160, 161, 162, 163, 164, 165, 166, 167, 168, 169, 170, 171, 172, 173, 174, 175, 176, 177, 178, 179, 180, 181, 182, 183, 184, 185, 186, 187, 188, 189, 190, 191, 192, 193, 194, 195, 196, 197, 198, 199, 200, 201, 202, 203, 204, 205, 206, 207, 208, 209] [8, 11] (ZJ L g r q t (N + C)) rfl (by repeat' first | exact Resp.retD | exact Resp1.valuesK | refine Resp.blockD ?_ | refine Resp.thenD ?_ ?_ | refine Resp.hcode ?_) ?_ ?_) | (refine HCode.step ?_; (repeat refine HReg.step ?_); first | (show HCode _ _ _ (Code.seq (Code.seq (Code.region _ _ _) (Code.block _ _)) _) _ _ _; refine hcutC (a := Code.seq (Code.region _ _ _) (Code.block _ _)) [4, 8, 11, 16, 17, 18, 19, 20, 21, 61, 62, 63, 64, 65, 66, 67, 68, 69, 70, 71, 72, 73, 74, 75, 76, 77, 78, 79, 80, 81, 82, 83, 84, 85, 86, 87, 88, 89, 90, 91, 92, 93, 94, 95, 96, 97, 98, 99, 100, 101, 102, 103, 104, 105, 106, 107, 108, 109, 110, 111, 112, 113, 114, 115, 116, 117, 118, 119, 120, 121, 122, 123, 124, 125, 126, 127, 128, 129, 130, 131, 132, 133, 134, 135, 136, 137, 138, 139, 140, 141, 142, 143, 144, 145, 146, 147, 148, 149, 150, 151, 152, 153, 154, 155, 156, 157, 158, 159, 160, 161, 162, 163, 164, 165, 166, 167, 168, 169, 170, 171, 172, 173, 174, 175, 176, 177, 178, 179, 180, 181, 182, 183, 184, 185, 186, 187, 188, 189, 190, 191, 192, 193, 194, 195, 196, 197, 198, 199, 200, 201, 202, 203, 204, 205, 206, 207, 208, 209] [8, 11] (ZJ L g r q t (N + C)) rfl (by repeat' first | exact Resp.retD | exact Resp1.valuesK | refine Resp.blockD ?_ | refine Resp.thenD ?_ ?_ | refine Resp.hcode ?_) ?_ ?_) | (refine HCode.step ?_; (repeat refine HReg.step ?_); first | (show HCode _ _ _ (Code.seq (Code.seq (Code.region _ _ _) (Code.block _ _)) _) _ _ _; refine hcutC (a := Code.seq (Code.region _ _ _) (Code.block _ _)) [4, 8, 11, 16, 17, 18, 19, 20, 21, 61, 62, 63, 64, 65, 66, 67, 68, 69, 70, 71, 72, 73, 74, 75, 76, 77, 78, 79, 80, 81, 82, 83, 84, 85, 86, 87, 88, 89, 90, 91, 92, 93, 94, 95, 96, 97, 98, 99, 100, 101, 102, 103, 104, 105, 106, 107, 108, 109, 110, 111, 112, 113, 114, 115, 116, 117, 118, 119, 120, 121, 122, 123, 124, 125, 126, 127, 128, 129, 130, 131, 132, 133, 134, 135, 136, 137, 138, 139, 140, 141, 142, 143, 144, 145, 146, 147, 148, 149, 150, 151, 152, 153, 154, 155, 156, 157, 158, 159, 160, 161, 162, 163, 164, 165, 166, 167, 168, 169, 170, 171, 172, 173, 174, 175, 176, 177, 178, 179, 180, 181, 182, 183, 184, 185, 186, 187, 188, 189, 190, 191, 192, 193, 194, 195, 196, 197, 198, 199, 200, 201, 202, 203, 204, 205, 206, 207, 208, 209] [8, 11] (ZJ L g r q t (N + C)) rfl (by repeat' first | exact Resp.retD | exact Resp1.valuesK | refine Resp.blockD ?_ | refine Resp.thenD ?_ ?_ | refine Resp.hcode ?_) ?_ ?_) | (refine HCode.step ?_; (repeat refine HReg.step ?_); first | (show HCode _ _ _ (Code.seq (Code.seq (Code.region _ _ _) (Code.block _ _)) _) _ _ _; refine hcutC (a := Code.seq (Code.region _ _ _) (Code.block _ _)) [4, 8, 11, 16, 17, 18, 19, 20, 21, 61, 62, 63, 64, 65, 66, 67, 68, 69, 70, 71, 72, 73, 74, 75, 76, 77, 78, 79, 80, 81, 82, 83, 84, 85, 86, 87, 88, 89, 90, 91, 92, 93, 94, 95, 96, 97, 98, 99, 100, 101, 102, 103, 104, 105, 106, 107, 108, 109, 110, 111, 112, 113, 114, 115, 116, 117, 118, 119, 120, 121, 122, 123, 124, 125, 126, 127, 128, 129, 130, 131, 132, 133, 134, 135, 136, 137, 138, 139, 140, 141, 142, 143, 144, 145, 146, 147, 148, 149, 150, 151, 152, 153, 154, 155, 156, 157, 158, 159, 160, 161, 162, 163, 164, 165, 166, 167, 168, 169, 170, 171, 172, 173, 174, 175, 176, 177, 178, 179, 180, 181, 182, 183, 184, 185, 186, 187, 188, 189, 190, 191, 192, 193, 194, 195, 196, 197, 198, 199, 200, 201, 202, 203, 204, 205, 206, 207, 208, 209] [8, 11] (ZJ L g r q t (N + C)) rfl (by repeat' first | exact Resp.retD | exact Resp1.valuesK | refine Resp.blockD ?_ | refine Resp.thenD ?_ ?_ | refine Resp.hcode ?_) ?_ ?_) | (refine HCode.step ?_; (repeat refine HReg.step ?_); first | (show HCode _ _ _ (Code.seq (Code.seq (Code.region _ _ _) (Code.block _ _)) _) _ _ _; refine hcutC (a := Code.seq (Code.region _ _ _) (Code.block _ _)) [4, 8, 11, 16, 17, 18, 19, 20, 21, 61, 62, 63, 64, 65, 66, 67, 68, 69, 70, 71, 72, 73, 74, 75, 76, 77, 78, 79, 80, 81, 82, 83, 84, 85, 86, 87, 88, 89, 90, 91, 92, 93, 94, 95, 96, 97, 98, 99, 100, 101, 102, 103, 104, 105, 106, 107, 108, 109, 110, 111, 112, 113, 114, 115, 116, 117, 118, 119, 120, 121, 122, 123, 124, 125, 126, 127, 128, 129, 130, 131, 132, 133, 134, 135, 136, 137, 138, 139, 140, 141, 142, 143, 144, 145, 146, 147, 148, 149, 150, 151, 152, 153, 154, 155, 156, 157, 158, 159, 160, 161, 162, 163, 164, 165, 166, 167, 168, 169, 170, 171, 172, 173, 174, 175, 176, 177, 178, 179, 180, 181, 182, 183, 184, 185, 186, 187, 188, 189, 190, 191, 192, 193, 194, 195, 196, 197, 198, 199, 200, 201, 202, 203, 204, 205, 206, 207, 208, 209] [8, 11] (ZJ L g r q t (N + C)) rfl (by repeat' first | exact Resp.retD | exact Resp1.valuesK | refine Resp.blockD ?_ | refine Resp.thenD ?_ ?_ | refine Resp.hcode ?_) ?_ ?_) | (refine HCode.step ?_; (repeat refine HReg.step ?_); first | (show HCode _ _ _ (Code.seq (Code.seq (Code.region _ _ _) (Code.block _ _)) _) _ _ _; refine hcutC (a := Code.seq (Code.region _ _ _) (Code.block _ _)) [4, 8, 11, 16, 17, 18, 19, 20, 21, 61, 62, 63, 64, 65, 66, 67, 68, 69, 70, 71, 72, 73, 74, 75, 76, 77, 78, 79, 80, 81, 82, 83, 84, 85, 86, 87, 88, 89, 90, 91, 92, 93, 94, 95, 96, 97, 98, 99, 100, 101, 102, 103, 104, 105, 106, 107, 108, 109, 110, 111, 112, 113, 114, 115, 116, 117, 118, 119, 120, 121, 122, 123, 124, 125, 126, 127, 128, 129, 130, 131, 132, 133, 134, 135, 136, 137, 138, 139, 140, 141, 142, 143, 144, 145, 146, 147, 148, 149, 150, 151, 152, 153, 154, 155, 156, 157, 158, 159, 160, 161, 162, 163, 164, 165, 166, 167, 168, 169, 170, 171, 172, 173, 174, 175, 176, 177, 178, 179, 180, 181, 182, 183, 184, 185, 186, 187, 188, 189, 190, 191, 192, 193, 194, 195, 196, 197, 198, 199, 200, 201, 202, 203, 204, 205, 206, 207, 208, 209] [8, 11] (ZJ L g r q t (N + C)) rfl (by repeat' first | exact Resp.retD | exact Resp1.valuesK | refine Resp.blockD ?_ | refine Resp.thenD ?_ ?_ | refine Resp.hcode ?_) ?_ ?_) | (refine HCode.step ?_; (repeat refine HReg.step ?_); first | (show HCode _ _ _ (Code.seq (Code.seq (Code.region _ _ _) (Code.block _ _)) _) _ _ _; refine hcutC (a := Code.seq (Code.region _ _ _) (Code.block _ _)) [4, 8, 11, 16, 17, 18, 19, 20, 21, 61, 62, 63, 64, 65, 66, 67, 68, 69, 70, 71, 72, 73, 74, 75, 76, 77, 78, 79, 80, 81, 82, 83, 84, 85, 86, 87, 88, 89, 90, 91, 92, 93, 94, 95, 96, 97, 98, 99, 100, 101, 102, 103, 104, 105, 106, 107, 108, 109, 110, 111, 112, 113, 114, 115, 116, 117, 118, 119, 120, 121, 122, 123, 124, 125, 126, 127, 128, 129, 130, 131, 132, 133, 134, 135, 136, 137, 138, 139, 140, 141, 142, 143, 144, 145, 146, 147, 148, 149, 150, 151, 152, 153, 154, 155, 156, 157, 158, 159, 160, 161, 162, 163, 164, 165, 166, 167, 168, 169, 170, 171, 172, 173, 174, 175, 176, 177, 178, 179, 180, 181, 182, 183, 184, 185, 186, 187, 188, 189, 190, 191, 192, 193, 194, 195, 196, 197, 198, 199, 200, 201, 202, 203, 204, 205, 206, 207, 208, 209] [8, 11] (ZJ L g r q t (N + C)) rfl (by repeat' first | exact Resp.retD | exact Resp1.valuesK | refine Resp.blockD ?_ | refine Resp.thenD ?_ ?_ | refine Resp.hcode ?_) ?_ ?_) | (refine HCode.step ?_; (repeat refine HReg.step ?_); first | (show HCode _ _ _ (Code.seq (Code.seq (Code.region _ _ _) (Code.block _ _)) _) _ _ _; refine hcutC (a := Code.seq (Code.region _ _ _) (Code.block _ _)) [4, 8, 11, 16, 17, 18, 19, 20, 21, 61, 62, 63, 64, 65, 66, 67, 68, 69, 70, 71, 72, 73, 74, 75, 76, 77, 78, 79, 80, 81, 82, 83, 84, 85, 86, 87, 88, 89, 90, 91, 92, 93, 94, 95, 96, 97, 98, 99, 100, 101, 102, 103, 104, 105, 106, 107, 108, 109, 110, 111, 112, 113, 114, 115, 116, 117, 118, 119, 120, 121, 122, 123, 124, 125, 126, 127, 128, 129, 130, 131, 132, 133, 134, 135, 136, 137, 138, 139, 140, 141, 142, 143, 144, 145, 146, 147, 148, 149, 150, 151, 152, 153, 154, 155, 156, 157, 158, 159, 160, 161, 162, 163, 164, 165, 166, 167, 168, 169, 170, 171, 172, 173, 174, 175, 176, 177, 178, 179, 180, 181, 182, 183, 184, 185, 186, 187, 188, 189, 190, 191, 192, 193, 194, 195, 196, 197, 198, 199, 200, 201, 202, 203, 204, 205, 206, 207, 208, 209] [8, 11] (ZJ L g r q t (N + C)) rfl (by repeat' first | exact Resp.retD | exact Resp1.valuesK | refine Resp.blockD ?_ | refine Resp.thenD ?_ ?_ | refine Resp.hcode ?_) ?_ ?_) | (refine HCode.step ?_; (repeat refine HReg.step ?_); first | (show HCode _ _ _ (Code.seq (Code.seq (Code.region _ _ _) (Code.block _ _)) _) _ _ _; refine hcutC (a := Code.seq (Code.region _ _ _) (Code.block _ _)) [4, 8, 11, 16, 17, 18, 19, 20, 21, 61, 62, 63, 64, 65, 66, 67, 68, 69, 70, 71, 72, 73, 74, 75, 76, 77, 78, 79, 80, 81, 82, 83, 84, 85, 86, 87, 88, 89, 90, 91, 92, 93, 94, 95, 96, 97, 98, 99, 100, 101, 102, 103, 104, 105, 106, 107, 108, 109, 110, 111, 112, 113, 114, 115, 116, 117, 118, 119, 120, 121, 122, 123, 124, 125, 126, 127, 128, 129, 130, 131, 132, 133, 134, 135, 136, 137, 138, 139, 140, 141, 142, 143, 144, 145, 146, 147, 148, 149, 150, 151, 152, 153, 154, 155, 156, 157, 158, 159, 160, 161, 162, 163, 164, 165, 166, 167, 168, 169, 170, 171, 172, 173, 174, 175, 176, 177, 178, 179, 180, 181, 182, 183, 184, 185, 186, 187, 188, 189, 190, 191, 192, 193, 194, 195, 196, 197, 198, 199, 200, 201, 202, 203, 204, 205, 206, 207, 208, 209] [8, 11] (ZJ L g r q t (N + C)) rfl (by repeat' first | exact Resp.retD | exact Resp1.valuesK | refine Resp.blockD ?_ | refine Resp.thenD ?_ ?_ | refine Resp.hcode ?_) ?_ ?_) | (refine HCode.step ?_; (repeat refine HReg.step ?_); first | (show HCode _ _ _ (Code.seq (Code.seq (Code.region _ _ _) (Code.block _ _)) _) _ _ _; refine hcutC (a := Code.seq (Code.region _ _ _) (Code.block _ _)) [4, 8, 11, 16, 17, 18, 19, 20, 21, 61, 62, 63, 64, 65, 66, 67, 68, 69, 70, 71, 72, 73, 74, 75, 76, 77, 78, 79, 80, 81, 82, 83, 84, 85, 86, 87, 88, 89, 90, 91, 92, 93, 94, 95, 96, 97, 98, 99, 100, 101, 102, 103, 104, 105, 106, 107, 108, 109, 110, 111, 112, 113, 114, 115, 116, 117, 118, 119, 120, 121, 122, 123, 124, 125, 126, 127, 128, 129, 130, 131, 132, 133, 134, 135, 136, 137, 138, 139, 140, 141, 142, 143, 144, 145, 146, 147, 148, 149, 150, 151, 152, 153, 154, 155, 156, 157, 158, 159, 160, 161, 162, 163, 164, 165, 166, 167, 168, 169, 170, 171, 172, 173, 174, 175, 176, 177, 178, 179, 180, 181, 182, 183, 184, 185, 186, 187, 188, 189, 190, 191, 192, 193, 194, 195, 196, 197, 198, 199, 200, 201, 202, 203, 204, 205, 206, 207, 208, 209] [8, 11] (ZJ L g r q t (N + C)) rfl (by repeat' first | exact Resp.retD | exact Resp1.valuesK | refine Resp.blockD ?_ | refine Resp.thenD ?_ ?_ | refine Resp.hcode ?_) ?_ ?_) | (refine HCode.step ?_; (repeat refine HReg.step ?_); (show HCode _ _ _ (Code.seq (Code.seq (Code.region _ _ _) (Code.block _ _)) _) _ _ _; refine hcutC (a := Code.seq (Code.region _ _ _) (Code.block _ _)) [4, 8, 11, 16, 17, 18, 19, 20, 21, 61, 62, 63, 64, 65, 66, 67, 68, 69, 70, 71, 72, 73, 74, 75, 76, 77, 78, 79, 80, 81, 82, 83, 84, 85, 86, 87, 88, 89, 90, 91, 92, 93, 94, 95, 96, 97, 98, 99, 100, 101, 102, 103, 104, 105, 106, 107, 108, 109, 110, 111, 112, 113, 114, 115, 116, 117, 118, 119, 120, 121, 122, 123, 124, 125, 126, 127, 128, 129, 130, 131, 132, 133, 134, 135, 136, 137, 138, 139, 140, 141, 142, 143, 144, 145, 146, 147, 148, 149, 150, 151, 152, 153, 154, 155, 156, 157, 158, 159, 160, 161, 162, 163, 164, 165, 166, 167, 168, 169, 170, 171, 172, 173, 174, 175, 176, 177, 178, 179, 180, 181, 182, 183, 184, 185, 186, 187, 188, 189, 190, 191, 192, 193, 194, 195, 196, 197, 198, 199, 200, 201, 202, 203, 204, 205, 206, 207, 208, 209] [8, 11] (ZJ L g r q t (N + C)) rfl (by repeat' first | exact Resp.retD | exact Resp1.valuesK | refine Resp.blockD ?_ | refine Resp.thenD ?_ ?_ | refine Resp.hcode ?_) ?_ ?_))))))))))))))))))))))
    rotate_left
    · rintro _ fe2 H8 ⟨p, p', k, s, fl, B, rfl, f8, ok8, kp8, hk8⟩
      (repeat first | refine HReg.step ?_ | refine HCode.step ?_)
      refine HCall.mk ⟨Tryz.f9, Tryz.func9, by rfl, by rfl⟩ ?_
      refine down_t f8.p ?_
      (repeat first | refine HReg.step ?_ | refine HCode.step ?_)
      refine HCall.mk ⟨Tryz.f28, Tryz.func28, by rfl, by rfl⟩ ?_
      refine rdown_t f8.d ?_
      generalize hoff : s.d.off = x
      have fin : ∃ m', m' < m ∧ ZInv L g r q t zs m' [.pointer (some ⟨p, 0, none⟩), .pointer (some ⟨p', 0, none⟩), .int .i64 ((i + 1 : Nat) : Int)] H8 := ⟨m - 1, by omega, ZInv.mk ⟨i + 1, p, p', k, s, fl, B, rfl, by omega, f8, by rw [hNs]; exact ok8, kp8, by rw [hNs]; exact hk8⟩⟩
      cases x
      · (repeat first | refine HReg.step ?_ | refine HCode.step ?_)
        rw [wi]
        exact fin
      · (repeat first | refine HReg.step ?_ | refine HCode.step ?_)
        rw [wi]
        exact fin
    (repeat first | refine HReg.step ?_ | refine HCode.step ?_)
    refine HLoad.one (v := .int .i64 z.o.kind) (by exact (box7 f7 rfl).get (i := 0) rfl) ?_
    (repeat first | refine HReg.step ?_ | refine HCode.step ?_)
    have nmv : ∀ {Hx : Heap}, RowAt Hx (some ⟨b7, 0, none⟩) z.o.cells → Hx.cell? ⟨b7, 0 + 7, none⟩ = some (.string (bs z.t)) := fun h => by
      have := h.get (i := 7) (v := .string z.o.nm) rfl
      rw [zL.nm] at this; exact this
    have bv : ∀ {Hx : Heap}, RowAt Hx (some ⟨b7, 0, none⟩) z.o.cells → Hx.cell? ⟨b7, 0 + 8, none⟩ = some (.slice z.o.ab z.b.length z.o.cb) := fun h => by
      have := h.get (i := 8) (v := .slice z.o.ab z.o.nb z.o.cb) rfl
      rw [zL.nb] at this; exact this
    have c7 : Cok s N := ⟨kp.1, kp.2, f7.p.lo, ok, by omega⟩
    by_cases k1 : z.o.kind = 1
    · rw [show eqB z.o.kind 1 = true from eqB_true.2 k1]
      (repeat first | refine HReg.step ?_ | refine HCode.step ?_)
      refine HCall.mk ⟨Tryz.f9, Tryz.func9, by rfl, by rfl⟩ ?_
      refine down_t f7.p ?_
      cases hoff : s.d.off
      rotate_left
      · (repeat first | refine HReg.step ?_ | refine HCode.step ?_)
        exact ZJ.mk ⟨p, p', k, s, fl, B, rfl, f7.sub (List.sublist_append_left _ _), ok.mono (by omega), kp, by omega⟩
      (repeat first | refine HReg.step ?_ | refine HCode.step ?_)
      refine HLoadN_opr (box7 f7 rfl) ?_
      (repeat first | refine HReg.step ?_ | refine HCode.step ?_)
      refine HCall.mk ⟨Tryz.f11, Tryz.func11, by rfl, by rfl⟩ ?_
      refine own_t z7.ok.rc fun bp dp bk dk H8 O8 u8_ => ?_
      have f8 := f7.upd0 u8_
      have i8 : RecIn (offD H8 g r fl) z.o.q.r bp bk := ⟨(O8.p.less fun b hb => f7.p.fresh (O8.pn b hb)).rows, (O8.k.less fun b hb => f7.p.fresh (O8.kn b hb)).rows, O8.np, O8.nk⟩
      have lg8 : LogAt (offD H8 g r fl) p g (bs t) k := f8.log (i := 0) rfl
      obtain ⟨e, k2, s2, hA⟩ : ∃ e k2 s2, appendW s (bs t) k z.o.q.r = (e, k2, s2) := ⟨_, _, _, rfl⟩
      have okA := appW_ok (n := bs t) (k := k) (x := z.o.q.r) ok
      rw [hA] at okA
      dsimp only at okA
      (repeat first | refine HReg.step ?_ | refine HCode.step ?_)
      refine HCall.mk ⟨Tryz.f10, Tryz.func10, by rfl, by rfl⟩ ?_
      refine appendL_w (x := z.o.q.r) f8.p lg8 i8 (fun y w h => by have := (ok.call.le _ _ h).1; simp only at this; omega) (by omega) hA fun fl9 H9 D9 u9 lg9 => ?_
      have f9 := f8.progS (i := 0) (sl' := slogS g t p k2) rfl rfl rfl D9 u9 lg9.row
      (repeat first | refine HReg.step ?_ | refine HCode.step ?_)
      refine HLoadN_rows (vs := z.o.q.cells) (fun Hx hx => ?_) rfl ?_
      · have hx : Hx ∈ [H9, H8, H7] := hx
        simp only [List.mem_cons, List.not_mem_nil, or_false] at hx
        rcases hx with rfl | rfl | rfl
        · exact opr_rows (box7 f9 rfl)
        · exact opr_rows (box7 f8 rfl)
        · exact opr_rows (box7 f7 rfl)
      (repeat first | refine HReg.step ?_ | refine HCode.step ?_)
      refine HCall.mk ⟨Tryz.f12, Tryz.func12, by rfl, by rfl⟩ ?_
      have hpB : p' ∉ B := fun h => f9.S.off (sdlogS q t p' k) (by simp [slogS, sdlogS]) p' (by simp [sdlogS, blk]) (List.mem_append_right _ h)
      refine rappend_log (k := k) f9.d c7 ⟨f9.S.get (i := 1) rfl⟩ hpB rfl ((zL.upd0 f9.base).ok.rc) (by omega) (by omega) fun B10 H10 R10 S10 d10 hp10 => ?_
      rw [hA] at R10 d10 ⊢
      dsimp only at R10 d10 ⊢
      have f10 := f9.docS (i := 1) (sl' := sdlogS q t p' k2) rfl rfl rfl R10 S10 hp10 d10.row
      have fin : ZJ L g r q t (N + C) [.pointer (some ⟨p, 0, none⟩), .pointer (some ⟨p', 0, none⟩)] H10 :=
        ZJ.mk ⟨p, p', k2, s2, fl9, B10, rfl, f10.sub (List.sublist_append_left [slogS g t p k2, sdlogS q t p' k2] [boxS b7 z.o]), okA.1.mono (by omega), by rw [okA.2.1]; exact kp, by omega⟩
      (repeat first | refine HReg.step ?_ | refine HCode.step ?_)
      rw [eqB_self e]
      (repeat first | refine HReg.step ?_ | refine HCode.step ?_)
      refine HCall.mk ⟨Tryz.f9, Tryz.func9, by rfl, by rfl⟩ ?_
      refine down_t f10.p ?_
      cases hoff2 : s2.d.off
      rotate_left
      · (repeat first | refine HReg.step ?_ | refine HCode.step ?_)
        exact fin
      (repeat first | refine HReg.step ?_ | refine HCode.step ?_)
      refine HCall.mk ⟨Tryz.f13, Tryz.func13, by rfl, by rfl⟩ ?_
      refine sizeL_t (f10.log (i := 0) rfl) ?_
      (repeat first | refine HReg.step ?_ | refine HCode.step ?_)
      refine HCall.mk ⟨Tryz.f14, Tryz.func14, by rfl, by rfl⟩ ?_
      refine rsizeL_t (q := q) (t := t) (k := k2) ⟨f10.S.get (i := 1) rfl⟩ ?_
      (repeat first | refine HReg.step ?_ | refine HCode.step ?_)
      rw [eqB_self ((k2 : Nat) : Int)]
      (repeat first | refine HReg.step ?_ | refine HCode.step ?_)
      refine HCall.mk ⟨Tryz.f15, Tryz.func15, by rfl, by rfl⟩ ?_
      refine nameL_t (f10.log (i := 0) rfl) ?_
      (repeat first | refine HReg.step ?_ | refine HCode.step ?_)
      refine HCall.mk ⟨Tryz.f16, Tryz.func16, by rfl, by rfl⟩ ?_
      refine rnameL_t (q := q) (t := t) (k := k2) ⟨f10.S.get (i := 1) rfl⟩ ?_
      (repeat first | refine HReg.step ?_ | refine HCode.step ?_)
      rw [seqB_bs, decide_eq_true rfl]
      (repeat first | refine HReg.step ?_ | refine HCode.step ?_)
      exact fin
    rw [show eqB z.o.kind 1 = false from eqB_false.2 k1]
    (repeat first | refine HReg.step ?_ | refine HCode.step ?_)
    by_cases k2 : z.o.kind = 2
    · rw [show eqB z.o.kind 2 = true from eqB_true.2 k2]
      (repeat first | refine HReg.step ?_ | refine HCode.step ?_)
      refine HLoad.one (v := .int .i64 z.o.n) (by exact (box7 f7 rfl).get (i := 5) rfl) ?_
      (repeat first | refine HReg.step ?_ | refine HCode.step ?_)
      refine HCall.mk ⟨Tryz.f17, Tryz.func17, by rfl, by rfl⟩ ?_
      refine crash_w f7.p rfl fun fl8 H8 D8 u8_ => ?_
      have f8 := f7.prog D8 u8_
      (repeat first | refine HReg.step ?_ | refine HCode.step ?_)
      refine HLoad.one (v := .int .i64 z.o.n) (by exact (box7 f8 rfl).get (i := 5) rfl) ?_
      (repeat first | refine HReg.step ?_ | refine HCode.step ?_)
      refine HCall.mk ⟨Tryz.f18, Tryz.func18, by rfl, by rfl⟩ ?_
      refine rcrash_t f8.d zL.ok.n1 zL.ok.n2 (fun a b h => by have := (ok.le _ _ h).1; omega) (by have := ok.few; omega) fun H9 R9 S9 => ?_
      have f9 := f8.doc R9 S9
      (repeat first | refine HReg.step ?_ | refine HCode.step ?_)
      exact ZJ.mk ⟨p, p', k, _, fl8, B, rfl, f9.sub (List.sublist_append_left _ _), (ok.crash _).mono (by omega), by rw [zkeep_crash]; exact kp, by omega⟩
    rw [show eqB z.o.kind 2 = false from eqB_false.2 k2]
    (repeat first | refine HReg.step ?_ | refine HCode.step ?_)
    by_cases k3 : z.o.kind = 3
    · rw [show eqB z.o.kind 3 = true from eqB_true.2 k3]
      (repeat first | refine HReg.step ?_ | refine HCode.step ?_)
      refine HLoad.one (v := .int .i64 z.o.n) (by exact (box7 f7 rfl).get (i := 5) rfl) ?_
      (repeat first | refine HReg.step ?_ | refine HCode.step ?_)
      refine HLoad.one (v := .int .i64 z.o.k) (by exact (box7 f7 rfl).get (i := 6) rfl) ?_
      (repeat first | refine HReg.step ?_ | refine HCode.step ?_)
      refine HCall.mk ⟨Tryz.f19, Tryz.func19, by rfl, by rfl⟩ ?_
      refine arm_w f7.p zL.ok.n1 zL.ok.n2 rfl fun H8 D8 u8_ => ?_
      have f8 := f7.prog D8 u8_
      (repeat first | refine HReg.step ?_ | refine HCode.step ?_)
      refine HLoad.one (v := .int .i64 z.o.n) (by exact (box7 f8 rfl).get (i := 5) rfl) ?_
      (repeat first | refine HReg.step ?_ | refine HCode.step ?_)
      refine HLoad.one (v := .int .i64 z.o.k) (by exact (box7 f8 rfl).get (i := 6) rfl) ?_
      (repeat first | refine HReg.step ?_ | refine HCode.step ?_)
      refine HCall.mk ⟨Tryz.f20, Tryz.func20, by rfl, by rfl⟩ ?_
      refine rarm_t f8.d zL.ok.n2 fun H9 R9 S9 => ?_
      have f9 := f8.doc R9 S9
      (repeat first | refine HReg.step ?_ | refine HCode.step ?_)
      exact ZJ.mk ⟨p, p', k, _, fl, B, rfl, f9.sub (List.sublist_append_left _ _), (ok.arms _ _).mono (by omega), ⟨zL.ok.k1, zL.ok.k2⟩, by omega⟩
    rw [show eqB z.o.kind 3 = false from eqB_false.2 k3]
    (repeat first | refine HReg.step ?_ | refine HCode.step ?_)
    by_cases k4 : z.o.kind = 4
    · rw [show eqB z.o.kind 4 = true from eqB_true.2 k4]
      (repeat first | refine HReg.step ?_ | refine HCode.step ?_)
      refine HLoad.one (v := .int .i64 z.o.n) (by exact (box7 f7 rfl).get (i := 5) rfl) ?_
      (repeat first | refine HReg.step ?_ | refine HCode.step ?_)
      refine HCall.mk ⟨Tryz.f21, Tryz.func21, by rfl, by rfl⟩ ?_
      refine full_w f7.p zL.ok.n2 rfl fun H8 D8 u8_ => ?_
      have f8 := f7.prog D8 u8_
      (repeat first | refine HReg.step ?_ | refine HCode.step ?_)
      refine HLoad.one (v := .int .i64 z.o.n) (by exact (box7 f8 rfl).get (i := 5) rfl) ?_
      (repeat first | refine HReg.step ?_ | refine HCode.step ?_)
      refine HCall.mk ⟨Tryz.f22, Tryz.func22, by rfl, by rfl⟩ ?_
      refine rfull_t f8.d zL.ok.n2 fun H9 R9 S9 => ?_
      have f9 := f8.doc R9 S9
      (repeat first | refine HReg.step ?_ | refine HCode.step ?_)
      exact ZJ.mk ⟨p, p', k, _, fl, B, rfl, f9.sub (List.sublist_append_left _ _), (ok.full _).mono (by omega), kp, by omega⟩
    rw [show eqB z.o.kind 4 = false from eqB_false.2 k4]
    (repeat first | refine HReg.step ?_ | refine HCode.step ?_)
    by_cases k6 : z.o.kind = 6
    · rw [show eqB z.o.kind 6 = true from eqB_true.2 k6]
      (repeat first | refine HReg.step ?_ | refine HCode.step ?_)
      refine HReq.mk (by decide) ?_
      (repeat first | refine HReg.step ?_ | refine HCode.step ?_)
      refine HNew.mk fun b8 hb8 => ?_
      have m8 : Made H7 (H7.upd b8 (.cells (#[] : Array Value) 5)) 5 1 (some ⟨b8, 0, none⟩) 0 0 (u8s []) := ⟨OwnRow.lit (upd_same _ _ _) rfl, Upd.new hb8 _, fun x hx => by cases hx; exact hb8⟩
      generalize hH8 : H7.upd b8 (.cells (#[] : Array Value) 5) = H8 at m8
      have f8 := f7.upd0 m8.upd
      (repeat first | refine HReg.step ?_ | refine HCode.step ?_)
      refine HLoad_two (bv (box7 f8 rfl)) (bv (box7 f7 rfl)) ?_
      (repeat first | refine HReg.step ?_ | refine HCode.step ?_)
      refine append_made m8 (zL.upd0 f8.base).rb rfl (by omega) fun a9 c9 H9 m9 => ?_
      rw [List.nil_append, Nat.zero_add] at m9
      rw [Nat.zero_add z.b.length]
      have f9 := f7.upd0 m9.upd
      (repeat first | refine HReg.step ?_ | refine HCode.step ?_)
      refine HLoad_three (nmv (box7 f9 rfl)) (nmv (box7 f8 rfl)) (nmv (box7 f7 rfl)) ?_
      obtain ⟨e, s2, hA⟩ : ∃ e s2, s.append (bs z.t) z.b = (e, s2) := ⟨_, _, rfl⟩
      have okA := ok.append (bs z.t) z.b
      have kpA := (append_d s (bs z.t) z.b).1
      rw [zkeep_call, hA] at kpA
      rw [hA] at okA
      dsimp only at okA kpA
      (repeat first | refine HReg.step ?_ | refine HCode.step ?_)
      refine HCall.mk ⟨Tryz.f23, Tryz.func23, by rfl, by rfl⟩ ?_
      refine append_w (ys := z.b) f9.p m9.own.rows rfl (off_made f7.p m9) (fun x y h => by have := (ok.call.le _ _ h).1; simp only at this; omega) (by omega) hA fun fl10 H10 D10 u10 => ?_
      have f10 := f9.prog D10 u10
      (repeat first | refine HReg.step ?_ | refine HCode.step ?_)
      refine HLoad_four (nmv (box7 f10 rfl)) (nmv (box7 f9 rfl)) (nmv (box7 f8 rfl)) (nmv (box7 f7 rfl)) ?_
      (repeat first | refine HReg.step ?_ | refine HCode.step ?_)
      refine HLoad_four (bv (box7 f10 rfl)) (bv (box7 f9 rfl)) (bv (box7 f8 rfl)) (bv (box7 f7 rfl)) ?_
      (repeat first | refine HReg.step ?_ | refine HCode.step ?_)
      refine HCall.mk ⟨Tryz.f24, Tryz.func24, by rfl, by rfl⟩ ?_
      have rbL : RowAt (lessH H10 (dblk g r fl10 ++ B)) z.o.ab (u8s z.b) := (zL.upd0 f10.S.u).rb
      refine rlay_t f10.d c7 (zL.upd0 f10.base).rb rfl (row_off rbL fun b hb => lessH_none (List.mem_append_right _ hb)) (fun x y h => by have := (ok.call.le _ _ h).1; simp only at this; omega) (by omega) fun H11 B11 R11 S11 => ?_
      rw [hA] at R11 ⊢
      dsimp only at R11 ⊢
      have f11 := f10.doc R11 S11
      (repeat first | refine HReg.step ?_ | refine HCode.step ?_)
      rw [eqB_self e]
      (repeat first | refine HReg.step ?_ | refine HCode.step ?_)
      exact ZJ.mk ⟨p, p', k, _, fl10, B11, rfl, f11.sub (List.sublist_append_left _ _), okA.mono (by omega), by rw [kpA]; exact kp, by omega⟩
    rw [show eqB z.o.kind 6 = false from eqB_false.2 k6]
    (repeat first | refine HReg.step ?_ | refine HCode.step ?_)
    by_cases k5 : z.o.kind = 5
    rotate_left
    · rw [show eqB z.o.kind 5 = false from eqB_false.2 k5]
      (repeat first | refine HReg.step ?_ | refine HCode.step ?_)
      exact ZJ.mk ⟨p, p', k, s, fl, B, rfl, f7.sub (List.sublist_append_left _ _), ok.mono (by omega), kp, by omega⟩
    rw [show eqB z.o.kind 5 = true from eqB_true.2 k5]
    (repeat first | refine HReg.step ?_ | refine HCode.step ?_)
    refine HCall.mk ⟨Tryz.f25, Tryz.func25, by rfl, by rfl⟩ ?_
    refine up_w f7.p rfl fun H8 D8 u8_ => ?_
    have f8 := f7.prog D8 u8_
    (repeat first | refine HReg.step ?_ | refine HCode.step ?_)
    refine HCall.mk ⟨Tryz.f26, Tryz.func26, by rfl, by rfl⟩ ?_
    refine rup_t f8.d fun H9 R9 S9 => ?_
    have f9 := f8.doc R9 S9
    have ok9 : s.upp.Ok N := ok.upp
    have kp9 : Kin s.upp.d.keep := kp
    have c9 : Cok s.upp N := ⟨kp9.1, kp9.2, f9.p.lo, ok9, by omega⟩
    have okO := openW_ok (n := bs t) ok9
    generalize s.upp = su at f9 ok9 kp9 c9 okO
    obtain ⟨e, ⟨A, k2⟩, s2, hO⟩ : ∃ e x s2, openW su (bs t) = (e, x, s2) := ⟨_, _, _, rfl⟩
    rw [hO] at okO
    dsimp only at okO
    (repeat first | refine HReg.step ?_ | refine HCode.step ?_)
    refine HCall.mk ⟨Tryz.f7, Tryz.func7, by rfl, by rfl⟩ ?_
    refine open_t f9.p (by have := readF_le (n := bs t) ok9; omega) (fun e' fl10 H10 he h1 D10 u10 => ?_) (fun p2 a2 cc2 qs2 fl10 H10 h1 hA2 D10 u10 lg10 np10 Rc10 => ?_)
    · rw [hO] at h1 D10
      have h1 : e = e' := h1
      subst h1
      have f10 := f9.prog D10 u10
      (repeat first | refine HReg.step ?_ | refine HCode.step ?_)
      refine HCall.mk ⟨Tryz.f8, Tryz.func8, by rfl, by rfl⟩ ?_
      refine ropen_t f10.d c9 (by omega) (fun e2 B11 H11 he2 h2 R11 S11 => ?_) (fun p3 a3 c3 qs3 B11 H11 h2 _ _ _ _ _ _ _ => ?_)
      rotate_left
      · rw [hO] at h2; exact absurd h2 he
      rw [hO] at h2 R11
      have h2 : e = e2 := h2
      subst h2
      have f11 := f10.doc R11 S11
      (repeat first | refine HReg.step ?_ | refine HCode.step ?_)
      rw [eqB_self e]
      (repeat first | refine HReg.step ?_ | refine HCode.step ?_)
      refine HCall.mk ⟨Tryz.f27, Tryz.func27, by rfl, by rfl⟩ ?_
      refine sameRs_t (qs := []) (ps := []) ⟨RowAt.nil _ _, fun x hx => by simp at hx⟩ ⟨RowAt.nil _ _, fun x hx => by simp at hx⟩ rfl rfl (by decide) rfl fun H12 u12 => ?_
      have f12 := f11.upd0 u12
      (repeat first | refine HReg.step ?_ | refine HCode.step ?_)
      exact ZJ.mk ⟨p, p', k, s2, fl10, B11, rfl, f12.sub (List.sublist_append_left _ _), okO.1.mono (by omega), by rw [okO.2.1]; exact kp9, by omega⟩
    · rw [hO] at h1 hA2 D10 lg10
      dsimp only at h1 hA2 D10 lg10
      subst h1
      have f10 := f9.addP (sl := slogS g t p2 k2) D10 u10 lg10.row (fun b hb => by
        have e : b = p2 := by simpa [slogS, blk] using hb
        rw [e]; exact np10)
      (repeat first | refine HReg.step ?_ | refine HCode.step ?_)
      refine HCall.mk ⟨Tryz.f8, Tryz.func8, by rfl, by rfl⟩ ?_
      refine ropen_t f10.d c9 (by omega) (fun e2 B11 H11 he2 h2 R11 S11 => ?_) (fun p3 a3 c3 qs3 B11 H11 h2 hA3 R11 S11 d11 n11 nB11 Rc11 => ?_)
      · rw [hO] at h2; exact absurd h2.symm he2
      rw [hO] at hA3 R11 d11
      dsimp only at hA3 R11 d11
      have f11 := f10.addD (sl := sdlogS q t p3 k2) R11 S11 d11.row (fun b hb => by
        have e : b = p3 := by simpa [sdlogS, blk] using hb
        rw [e]; exact ⟨n11, nB11⟩)
      have Rp11 := f9.recsKeep Rc10 S11.upd
      (repeat first | refine HReg.step ?_ | refine HCode.step ?_)
      rw [eqB_self 0]
      (repeat first | refine HReg.step ?_ | refine HCode.step ?_)
      refine HCall.mk ⟨Tryz.f27, Tryz.func27, by rfl, by rfl⟩ ?_
      refine sameRs_t Rp11 Rc11 rfl rfl (by have := congrArg List.length hA2; rw [List.length_map] at this; omega) (hA2.symm.trans hA3) fun H12 u12 => ?_
      have f12 := f11.upd0 u12
      (repeat first | refine HReg.step ?_ | refine HCode.step ?_)
      refine HCall.mk ⟨Tryz.f13, Tryz.func13, by rfl, by rfl⟩ ?_
      refine sizeL_t (f12.log (i := 3) (k := k2) rfl) ?_
      (repeat first | refine HReg.step ?_ | refine HCode.step ?_)
      refine HCall.mk ⟨Tryz.f14, Tryz.func14, by rfl, by rfl⟩ ?_
      refine rsizeL_t (q := q) (t := t) (k := k2) ⟨f12.S.get (i := 4) rfl⟩ ?_
      (repeat first | refine HReg.step ?_ | refine HCode.step ?_)
      rw [eqB_self ((k2 : Nat) : Int)]
      (repeat first | refine HReg.step ?_ | refine HCode.step ?_)
      refine HCall.mk ⟨Tryz.f15, Tryz.func15, by rfl, by rfl⟩ ?_
      refine nameL_t (f12.log (i := 3) (k := k2) rfl) ?_
      (repeat first | refine HReg.step ?_ | refine HCode.step ?_)
      refine HCall.mk ⟨Tryz.f16, Tryz.func16, by rfl, by rfl⟩ ?_
      refine rnameL_t (q := q) (t := t) (k := k2) ⟨f12.S.get (i := 4) rfl⟩ ?_
      (repeat first | refine HReg.step ?_ | refine HCode.step ?_)
      rw [seqB_bs, decide_eq_true rfl]
      (repeat first | refine HReg.step ?_ | refine HCode.step ?_)
      exact ZJ.mk ⟨p2, p3, k2, s2, fl10, B11, rfl, f12.sub (List.sublist_append_right [slogS g t p k, sdlogS q t p' k, boxS b7 z.o] [slogS g t p2 k2, sdlogS q t p3 k2]), okO.1.mono (by omega), by rw [okO.2.1]; exact kp9, by omega⟩
  · (repeat first | refine HReg.step ?_ | refine HCode.step ?_)
    refine HCall.mk ⟨Tryz.f25, Tryz.func25, by rfl, by rfl⟩ ?_
    refine up_w f.p rfl fun H8 D8 u8_ => ?_
    have f8 := f.prog D8 u8_
    (repeat first | refine HReg.step ?_ | refine HCode.step ?_)
    refine HCall.mk ⟨Tryz.f26, Tryz.func26, by rfl, by rfl⟩ ?_
    refine rup_t f8.d fun H9 R9 S9 => ?_
    have f9 := f8.doc R9 S9
    have hle : ((zs.take i).map costZ).sum ≤ 8000000000 := by
      refine Nat.le_trans ?_ hsum
      have := congrArg (fun l => (l.map costZ).sum) (List.take_append_drop i zs)
      simp only [List.map_append, List.sum_append] at this
      omega
    (repeat first | refine HReg.step ?_ | refine HCode.step ?_)
    refine HCall.mk ⟨Tryz.f29, Tryz.func29, by rfl, by rfl⟩ ?_
    refine files_t f9.two ok.upp (by omega) kp rfl rfl fun W' H10 T10 Q10 => ?_
    (repeat first | refine HReg.step ?_ | refine HCode.step ?_)
    have uf : Upd [] L H10 := fun k hk0 hn => by
      have h6 := f9.S.u k hk0 hn
      obtain ⟨h7, h8⟩ := less_ne (show lessH H9 (dblk g r fl ++ B) k ≠ none by rw [h6]; exact hn)
      rw [lessH_of h7] at h6
      rw [Q10.upd k h7 h8, h6]
    exact hk H10 (uL.trans uf)
end
end Go.Proofs.YtfcmjomnpahllaaGreat
namespace Go.Proofs.YtfcmjomnpahllaaGreat
open Go Hv Go.ChangeShapes Go.WideShapes Go.ChangeAt Go.RowKit
set_option linter.unusedVariables false
set_option linter.unusedSimpArgs false
set_option maxRecDepth 10000
set_option maxHeartbeats 1000000
/-! A script, opened: how much its calls lay. -/
theorem zbulk_in {H : Type} : ∀ {parts : List (DataW H)} {i : Nat} {y : DataW H}, parts[i]? = some y → Rows.uptoBulk y ≤ Rows.uptoBulkAll parts
  | [], i, y, h => by simp at h
  | z :: r, 0, y, h => by cases h; simp only [Rows.uptoBulkAll]; omega
  | z :: r, i + 1, y, h => by
    have := zbulk_in (parts := r) (i := i) (y := y) (by simpa using h)
    simp only [Rows.uptoBulkAll]; omega
theorem zbulk_two {H : Type} : ∀ {parts : List (DataW H)} {i j : Nat} {y z : DataW H}, i < j → parts[i]? = some y → parts[j]? = some z → Rows.uptoBulk y + Rows.uptoBulk z ≤ Rows.uptoBulkAll parts
  | [], i, j, y, z, _, h, _ => by simp at h
  | x :: r, 0, j + 1, y, z, _, h, k => by
    cases h
    have := zbulk_in (parts := r) (i := j) (y := z) (by simpa using k)
    simp only [Rows.uptoBulkAll]; omega
  | x :: r, i + 1, j + 1, y, z, hij, h, k => by
    have := zbulk_two (parts := r) (i := i) (j := j) (by omega) (by simpa using h) (by simpa using k)
    simp only [Rows.uptoBulkAll]; omega
def pairSum (ps : List (Txt × Txt)) : Nat := (ps.map fun p => p.1.length + p.2.length + 2).sum
def keySum (ks : List Txt) : Nat := (ks.map fun k => k.length + 1).sum
theorem keySum_eq : ∀ ks : List Txt, keySum ks = (ks.map List.length).sum + ks.length
  | [] => rfl
  | k :: ks => by
    have ih := keySum_eq ks
    unfold keySum at ih ⊢
    rw [List.map_cons, List.sum_cons, ih, List.map_cons, List.sum_cons, List.length_cons]; omega
theorem pieces_len : ∀ ps : List (Txt × Txt), (pairPieces ps).flatten.length ≤ 8 * pairSum ps
  | [] => by simp [pairPieces, pairSum]
  | p :: ps => by
    have ih := pieces_len ps
    have e : pairPieces (p :: ps) = textB p.1 :: textB p.2 :: pairPieces ps := by unfold pairPieces; rw [List.flatMap_cons]; rfl
    rw [e, List.flatten_cons, List.flatten_cons, List.length_append, List.length_append]
    have t : ∀ s : Txt, (textB s).length = 4 + s.length := fun s => by unfold textB; rw [List.length_append, num_length]
    rw [t, t]
    unfold pairSum at ih ⊢
    rw [List.map_cons, List.sum_cons]
    omega
theorem keys_len : ∀ ks : List Txt, (ks.flatMap textB).length ≤ 4 * keySum ks
  | [] => by simp [keySum]
  | k :: ks => by
    have ih := keys_len ks
    rw [List.flatMap_cons, List.length_append]
    have t : (textB k).length = 4 + k.length := by unfold textB; rw [List.length_append, num_length]
    rw [t]
    unfold keySum at ih ⊢
    rw [List.map_cons, List.sum_cons]
    omega
theorem build_cost (r : Rec) : (buildR r).1.length ≤ 30 + 8 * (pairSum r.ps + keySum r.ks) := by
  have hp : (pay r).length ≤ 22 + 8 * (pairSum r.ps + keySum r.ks) := by
    unfold pay payPieces
    rw [List.flatten_append, List.length_append]
    have e1 : ([num r.kind.toNat 1, num r.id 8] : List (List UInt8)).flatten.length = 9 := by
      simp [num_length]
    rw [e1]
    split
    · rw [List.flatten_append, List.flatten_append, List.length_append, List.length_append]
      have h1 := pieces_len r.ps
      have h2 := keys_len r.ks
      have e2 : ([num r.ps.length 4] : List (List UInt8)).flatten.length = 4 := by simp [num_length]
      have e3 : ([textsB r.ks] : List (List UInt8)).flatten.length = 4 + (r.ks.flatMap textB).length := by
        simp [textsB, num_length]
      rw [e2, e3]
      omega
    · simp only [List.flatten_nil, List.length_nil]
      omega
  unfold buildR
  split
  · exact Nat.zero_le _
  · split
    · exact Nat.zero_le _
    · show (frameR (pay r)).length ≤ _
      rw [frame_len]; omega
section
variable {T : Type} {enc : TypeId × Value → T} {w : World} {base : Nat} {spare : Nat → Bool} {held : Bool} {fuel : Nat} {a : Option Addr} {len cap : Nat} {x : DataW T} {pl : List MemPlace}
theorem open_pairsU (h : DataW.trod enc Tryz.prog w base spare held fuel 38 [.slice a len cap] = some (x, pl)) :
    ∃ ps : List (Txt × Txt), RowAt (heapOf w) a (pairsV ps) ∧ ps.length = len ∧ len ≤ cap ∧ pairSum ps + 1 ≤ Rows.uptoBulk x ∧ len ≤ Rows.uptoBulk x := by
  rcases DataW.trod_slice Tryz.underlying38 h with ⟨hcs, hx⟩ | ⟨p, len', cap', elems, rest, n, _, hcs, hx, _, hl, _, hlen, hel, _, _⟩
  · cases hcs
    refine ⟨[], RowAt.nil _ _, rfl, Nat.le_refl _, ?_, Nat.zero_le _⟩
    obtain ⟨rfl, rfl⟩ := Prod.mk.inj hx
    show 0 + 1 ≤ _
    exact one_bulk _
  · cases hcs
    obtain ⟨rfl, rfl⟩ := Prod.mk.inj hx
    have hc : Tryz.prog.cellsOf 100 = 2 := by kernel_rfl
    obtain ⟨ps, hol, hoq⟩ := exists_list (Q := fun i (o : Txt × Txt) => (∀ (k : Nat) v, (pcells o)[k]? = some v → w.cell? (p.add (i * 2 + k)) = some v) ∧ ∀ y, elems[i]? = some y → o.1.length + o.2.length + 2 ≤ 1 * Rows.uptoBulk y.1) len (fun i hi => by
      have h4 := hel i hi
      rw [hc] at h4
      cases hv : elems[i]? with
      | none => rw [List.getElem?_eq_none_iff] at hv; omega
      | some y =>
        rw [hv] at h4
        obtain ⟨cs, hcs, htr⟩ := Option.bind_eq_some_iff.1 h4
        obtain ⟨hcl, hcg⟩ := cells_get hcs
        obtain ⟨c0, c1, rfl⟩ := list2 hcl
        obtain ⟨parts, hd, fl⟩ := trod_field Tryz.underlying100 htr
        obtain ⟨n0, y0, pt0, tr0⟩ := fl 0 _ c0 rfl (by kernel_rfl) rfl
        obtain ⟨s0, rfl, b0⟩ := open_textU Tryz.underlying9 tr0
        obtain ⟨n1, y1, pt1, tr1⟩ := fl 1 _ c1 rfl (by kernel_rfl) rfl
        obtain ⟨s1, rfl, b1⟩ := open_textU Tryz.underlying9 tr1
        refine ⟨(s0, s1), fun k v hk => ?_, fun y' hy' => ?_⟩
        · have := hcg k v hk
          rw [Addr.add_add] at this; exact this
        · cases hy'
          have hd' : y.1 = .agg parts := hd
          have := zbulk_two (by decide : 0 < 1) pt0 pt1
          rw [hd']
          simp only [Rows.uptoBulk]
          omega)
    refine ⟨ps, rowAt_of fun idx v hv => ?_, hol, hl, ?_, ?_⟩
    · obtain ⟨i, k, o, rfl, h2, h3⟩ := pairsV_split hv
      exact (hoq i o h2).1 k v h3
    · have := sum_of (f := fun p : Txt × Txt => p.1.length + p.2.length + 2) (k := 1) ps elems (by omega) fun i o y ho hy => (hoq i o ho).2 y hy
      show pairSum ps + 1 ≤ Rows.uptoBulk (DataW.slice _ _)
      simp only [Rows.uptoBulk]
      unfold pairSum
      omega
    · have := slice_le (elems.map (·.1)) (rest.map (·.1))
      rw [List.length_map] at this
      omega
theorem open_recU {cs : List Value} (hl : cs.length = 4) (h : DataW.trod enc Tryz.prog w base spare held fuel 41 cs = some (x, pl)) (hb : Rows.uptoBulk x ≤ 1048576) :
    ∃ m : PRec, cs = m.cells ∧ RecIn (heapOf w) m.r m.ap m.ak ∧ m.r.id < 18446744073709551616 ∧ pairSum m.r.ps + keySum m.r.ks ≤ Rows.uptoBulk x := by
  obtain ⟨c0, c1, c2, c3, rfl⟩ := list4 hl
  obtain ⟨parts, hd, fl⟩ := trod_field Tryz.underlying41 h
  have hd : x = .agg parts := hd
  obtain ⟨n0, y0, pt0, tr0⟩ := fl 0 _ c0 rfl (by kernel_rfl) rfl
  obtain ⟨z0, he0, _, w0⟩ := DataW.trod_int Tryz.underlying3 tr0
  cases he0
  obtain ⟨n1, y1, pt1, tr1⟩ := fl 1 _ c1 rfl (by kernel_rfl) rfl
  obtain ⟨z1, he1, _, w1⟩ := DataW.trod_int Tryz.underlying37 tr1
  cases he1
  obtain ⟨v1, hv1, rfl⟩ := u64_wf w1
  obtain ⟨n2, y2, pt2, tr2⟩ := fl 2 _ c2 rfl (by kernel_rfl) rfl
  obtain ⟨a2, l2, q2, rfl⟩ := trod_slice1 Tryz.underlying38 tr2
  obtain ⟨ps, r2, e2, _, b2, g2⟩ := open_pairsU (x := y2.1) (pl := y2.2) tr2
  subst e2
  obtain ⟨n3, y3, pt3, tr3⟩ := fl 3 _ c3 rfl (by kernel_rfl) rfl
  obtain ⟨a3, l3, q3, rfl⟩ := trod_slice1 Tryz.underlying39 tr3
  obtain ⟨ks, r3, e3, _, b3⟩ := open_textsU (x := y3.1) (pl := y3.2) Tryz.underlying39 Tryz.underlying9 (by kernel_rfl) tr3
  subst e3
  have hbb := zbulk_two (by decide : 2 < 3) pt2 pt3
  have hk := keySum_eq ks
  rw [hd] at hb ⊢
  simp only [Rows.uptoBulk] at hb ⊢
  exact ⟨⟨⟨z0, v1, ps, ks⟩, a2, q2, a3, q3⟩, rfl, ⟨r2, r3, by show ps.length ≤ _; omega, by show ks.length ≤ _; omega⟩, hv1, by show pairSum ps + keySum ks ≤ _; omega⟩
theorem open_opzU (h : DataW.trod enc Tryz.prog w base spare held fuel 22 [.slice a len cap] = some (x, pl)) (hb : Rows.uptoBulk x ≤ 1048576) :
    ∃ zs : List OpZ, Opz (heapOf w) a zs ∧ zs.length = len ∧ len ≤ cap ∧ (zs.map costZ).sum ≤ 38 * Rows.uptoBulk x ∧ len ≤ Rows.uptoBulk x := by
  rcases DataW.trod_slice Tryz.underlying22 h with ⟨hcs, hx⟩ | ⟨p, len', cap', elems, rest, n, _, hcs, hx, _, hl, _, hlen, hel, _, _⟩
  · cases hcs
    exact ⟨[], ⟨RowAt.nil _ _, fun o ho => by simp at ho⟩, rfl, Nat.le_refl _, Nat.zero_le _, Nat.zero_le _⟩
  · cases hcs
    obtain ⟨rfl, rfl⟩ := Prod.mk.inj hx
    have hc : Tryz.prog.cellsOf 44 = 9 := by kernel_rfl
    have c41 : Tryz.prog.cellsOf 41 = 4 := by kernel_rfl
    have c3 : Tryz.prog.cellsOf 3 = 1 := by kernel_rfl
    have c9 : Tryz.prog.cellsOf 9 = 1 := by kernel_rfl
    have c42 : Tryz.prog.cellsOf 42 = 1 := by kernel_rfl
    have hbe : ∀ (i : Nat) y, elems[i]? = some y → Rows.uptoBulk y.1 ≤ 1048576 := fun i y hy => by
      have h1 := zbulk_in (parts := elems.map (·.1)) (i := i) (y := y.1) (by rw [List.getElem?_map, hy]; rfl)
      simp only [Rows.uptoBulk] at hb
      omega
    obtain ⟨zs, hol, hoq⟩ := exists_list (Q := fun i (z : OpZ) => (∀ (k : Nat) v, (OpW.cells z.o)[k]? = some v → w.cell? (p.add (i * 9 + k)) = some v) ∧ OpzOk (heapOf w) z ∧ ∀ y, elems[i]? = some y → costZ z ≤ 38 * Rows.uptoBulk y.1) len (fun i hi => by
      have h4 := hel i hi
      rw [hc] at h4
      cases hv : elems[i]? with
      | none => rw [List.getElem?_eq_none_iff] at hv; omega
      | some y =>
        rw [hv] at h4
        have hby := hbe i y hv
        obtain ⟨cs, hcs, htr⟩ := Option.bind_eq_some_iff.1 h4
        obtain ⟨hcl, hcg⟩ := cells_get hcs
        obtain ⟨e0, e1, e2, e3, e4, e5, e6, e7, e8, rfl⟩ := list9 hcl
        obtain ⟨parts, hd, fl⟩ := trod_fields Tryz.underlying44 htr
        have hd' : y.1 = .agg parts := hd
        have hbp : Rows.uptoBulkAll parts + 1 ≤ 1048576 := by rw [hd'] at hby; simpa only [Rows.uptoBulk] using hby
        obtain ⟨n0, y0, pt0, tr0⟩ := fl 0 _ rfl
        have tr0 : DataW.trod enc Tryz.prog w base spare held n0 3 (([e0, e1, e2, e3, e4, e5, e6, e7, e8].drop 0).take (Tryz.prog.cellsOf 3)) = some y0 := tr0
        rw [c3] at tr0
        have tr0 : DataW.trod enc Tryz.prog w base spare held n0 3 [e0] = some y0 := tr0
        obtain ⟨z0, he0, _, w0⟩ := DataW.trod_int Tryz.underlying3 tr0
        cases he0
        obtain ⟨n1, y1, pt1, tr1⟩ := fl 1 _ rfl
        have tr1 : DataW.trod enc Tryz.prog w base spare held n1 41 (([Value.int .i64 z0, e1, e2, e3, e4, e5, e6, e7, e8].drop 1).take (Tryz.prog.cellsOf 41)) = some y1 := tr1
        rw [c41] at tr1
        have tr1 : DataW.trod enc Tryz.prog w base spare held n1 41 [e1, e2, e3, e4] = some y1 := tr1
        have hb1 := zbulk_in pt1
        obtain ⟨m, hm, inm, idm, cm⟩ := open_recU (x := y1.1) (pl := y1.2) rfl tr1 (by omega)
        have hm : [e1, e2, e3, e4] = [Value.int .i64 m.r.kind, .int .u64 (m.r.id : Int), .slice m.ap m.r.ps.length m.cp, .slice m.ak m.r.ks.length m.ck] := hm
        cases hm
        obtain ⟨n2, y2, pt2, tr2⟩ := fl 2 _ rfl
        have tr2 : DataW.trod enc Tryz.prog w base spare held n2 3 ((([_, _, _, _, _, e5, e6, e7, e8] : List Value).drop 5).take (Tryz.prog.cellsOf 3)) = some y2 := tr2
        rw [c3] at tr2
        have tr2 : DataW.trod enc Tryz.prog w base spare held n2 3 [e5] = some y2 := tr2
        obtain ⟨z2, he2, _, w2⟩ := DataW.trod_int Tryz.underlying3 tr2
        cases he2
        obtain ⟨n3, y3, pt3, tr3⟩ := fl 3 _ rfl
        have tr3 : DataW.trod enc Tryz.prog w base spare held n3 3 ((([_, _, _, _, _, _, e6, e7, e8] : List Value).drop 6).take (Tryz.prog.cellsOf 3)) = some y3 := tr3
        rw [c3] at tr3
        have tr3 : DataW.trod enc Tryz.prog w base spare held n3 3 [e6] = some y3 := tr3
        obtain ⟨z3, he3, _, w3⟩ := DataW.trod_int Tryz.underlying3 tr3
        cases he3
        obtain ⟨n4, y4, pt4, tr4⟩ := fl 4 _ rfl
        have tr4 : DataW.trod enc Tryz.prog w base spare held n4 9 ((([_, _, _, _, _, _, _, e7, e8] : List Value).drop 7).take (Tryz.prog.cellsOf 9)) = some y4 := tr4
        rw [c9] at tr4
        have tr4 : DataW.trod enc Tryz.prog w base spare held n4 9 [e7] = some y4 := tr4
        obtain ⟨s4, rfl⟩ := open_stringU Tryz.underlying9 tr4
        obtain ⟨n5, y5, pt5, tr5⟩ := fl 5 _ rfl
        have tr5 : DataW.trod enc Tryz.prog w base spare held n5 42 ((([_, _, _, _, _, _, _, _, e8] : List Value).drop 8).take (Tryz.prog.cellsOf 42)) = some y5 := tr5
        rw [c42] at tr5
        have tr5 : DataW.trod enc Tryz.prog w base spare held n5 42 [e8] = some y5 := tr5
        obtain ⟨ab, nb, cb, rfl⟩ := trod_slice1 Tryz.underlying42 tr5
        obtain ⟨l5, r5, e5', _, b5⟩ := open_bytes (x := y5.1) (pl := y5.2) Tryz.underlying42 Tryz.underlying5 (by kernel_rfl) tr5
        have b2 := int_wf w2
        have b3 := int_wf w3
        refine ⟨⟨⟨z0, m, z2, z3, bs s4, ab, nb, cb⟩, s4, l5⟩, fun k v hk => ?_, ⟨⟨inm, idm, b2.1, b2.2, b3.1, b3.2⟩, rfl, r5, e5'.symm⟩, fun y' hy' => ?_⟩
        · have := hcg k v hk
          rw [Addr.add_add] at this; exact this
        · cases hy'
          have hbb := zbulk_two (by decide : 1 < 5) pt1 pt5
          have hcost := build_cost m.r
          rw [hd']
          simp only [Rows.uptoBulk]
          show (buildR m.r).1.length + l5.length ≤ _
          omega)
    refine ⟨zs, ⟨rowAt_of fun idx v hv => ?_, fun o ho => ?_⟩, hol, hl, ?_, ?_⟩
    · obtain ⟨i, k, o, rfl, h2, h3⟩ := opsV_split hv
      obtain ⟨z, hz, rfl⟩ : ∃ z, zs[i]? = some z ∧ z.o = o := by
        rw [List.getElem?_map] at h2
        cases hzi : zs[i]? with
        | none => rw [hzi] at h2; cases h2
        | some z => rw [hzi] at h2; exact ⟨z, rfl, by simpa using h2⟩
      exact (hoq i z hz).1 k v h3
    · obtain ⟨i, hi⟩ := List.getElem?_of_mem ho
      exact (hoq i o hi).2.1
    · have := sum_of (f := costZ) (k := 38) zs elems (by omega) fun i o y ho hy => (hoq i o ho).2.2 y hy
      simp only [Rows.uptoBulk]
      omega
    · have := slice_le (elems.map (·.1)) (rest.map (·.1))
      rw [List.length_map] at this
      omega
end
end Go.Proofs.YtfcmjomnpahllaaGreat
