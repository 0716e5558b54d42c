import Derived.Test.YtlgncabjphokjaaGreatG7
import Derived.Laws.BitsAllLaws
namespace Go.Proofs.YtlgncabjphokjaaGreat
open Go Hv
set_option linter.unusedVariables false
set_option linter.unusedSimpArgs false
set_option maxRecDepth 10000
set_option maxHeartbeats 1000000
/-! Decode. CUT2 -/
theorem shl_i64 (b k : Nat) (hk : k < 64) (h : b * 2 ^ k ≤ 9223372036854775807) : shlS .i64 (b : Int) (k : Int) = ((b * 2 ^ k : Nat) : Int) := by
  rw [shlS_eq]
  have e1 : min ((k : Int).toNat) IntKind.i64.bits = k := by show min _ 64 = k; simp; omega
  rw [e1]
  have e2 : (b : Int) * 2 ^ k = ((b * 2 ^ k : Nat) : Int) := by push_cast; rfl
  rw [e2]; exact IntWalk.i64_in _ (by omega)
theorem or_i64 (a k b : Nat) (hb : b < 2 ^ k) (h : 2 ^ k * a + b < 9223372036854775808) : bitsS .or .i64 ((2 ^ k * a : Nat) : Int) (b : Int) = ((2 ^ k * a + b : Nat) : Int) := by
  rw [bitsS_eq]
  have ofi : ∀ x : Nat, x < 18446744073709551616 → (BitVec.ofInt 64 (x : Int)).toNat = x := fun x hx => by
    rw [BitVec.ofInt_natCast, BitVec.toNat_ofNat]; exact Nat.mod_eq_of_lt (by omega)
  show IntKind.i64.wrap ((BitVec.ofInt 64 ((2 ^ k * a : Nat) : Int) ||| BitVec.ofInt 64 (b : Int)).toNat : Int) = _
  rw [BitVec.toNat_or, ofi _ (by omega), ofi _ (by omega), ← Nat.two_pow_add_eq_or_of_lt hb]
  exact IntWalk.i64_in _ (by omega)
theorem num_or (x y z w : UInt8) : bitsS .or .i64 (bitsS .or .i64 (bitsS .or .i64 (shlS .i64 (wr .i64 (x.toNat : Int)) 24) (shlS .i64 (wr .i64 (y.toNat : Int)) 16)) (shlS .i64 (wr .i64 (z.toNat : Int)) 8)) (wr .i64 (w.toNat : Int))
    = ((x.toNat * 16777216 + y.toNat * 65536 + z.toNat * 256 + w.toNat : Nat) : Int) := by
  have hx := x.toNat_lt; have hy := y.toNat_lt; have hz := z.toNat_lt; have hw := w.toNat_lt
  rw [wr_i64n _ (by omega), wr_i64n _ (by omega), wr_i64n _ (by omega), wr_i64n _ (by omega)]
  rw [show (24 : Int) = ((24 : Nat) : Int) from rfl, show (16 : Int) = ((16 : Nat) : Int) from rfl, show (8 : Int) = ((8 : Nat) : Int) from rfl]
  rw [shl_i64 _ _ (by omega) (by omega), shl_i64 _ _ (by omega) (by omega), shl_i64 _ _ (by omega) (by omega)]
  have e1 := or_i64 x.toNat 24 (y.toNat * 2 ^ 16) (by omega) (by omega)
  rw [show x.toNat * 2 ^ 24 = 2 ^ 24 * x.toNat from Nat.mul_comm _ _, e1]
  have e2 := or_i64 (2 ^ 8 * x.toNat + y.toNat) 16 (z.toNat * 2 ^ 8) (by omega) (by omega)
  rw [show 2 ^ 24 * x.toNat + y.toNat * 2 ^ 16 = 2 ^ 16 * (2 ^ 8 * x.toNat + y.toNat) by omega, e2]
  have e3 := or_i64 (2 ^ 16 * x.toNat + 2 ^ 8 * y.toNat + z.toNat) 8 w.toNat (by omega) (by omega)
  rw [show 2 ^ 16 * (2 ^ 8 * x.toNat + y.toNat) + z.toNat * 2 ^ 8 = 2 ^ 8 * (2 ^ 16 * x.toNat + 2 ^ 8 * y.toNat + z.toNat) by omega, e3]
theorem val_four (x y z w : UInt8) : val [x, y, z, w] = x.toNat * 16777216 + y.toNat * 65536 + z.toNat * 256 + w.toNat := by
  show (((0 * 256 + x.toNat) * 256 + y.toNat) * 256 + z.toNat) * 256 + w.toNat = _
  omega
theorem list_four {l : List UInt8} (h : 4 ≤ l.length) : ∃ x y z w r, l = x :: y :: z :: w :: r := by
  match l, h with
  | x :: y :: z :: w :: r, _ => exact ⟨x, y, z, w, r, rfl⟩
theorem zeroA_m : zeroA.m = zeroM := rfl
theorem zero_new (H H' : Heap) : MsgNew H H' zeroA := msg0_new H H' 0 0 0 0
section
variable {H : Heap} {K : Value → Heap → Prop}
theorem decode_t {a : Option Addr} {n c : Nat} {l : List UInt8} (hr : RowAt H a (u8s l)) (hl : l.length = n) (hc : n ≤ c) (hlim : n ≤ 4000000000000000000)
    (hk : ∀ (x : MsgA) H', x.m = (decodeM l).1 → MsgNew H H' x → Upd [] H H' → K (.tuple #[x.val, .int .i64 (decodeM l).2]) H') : HCalls Tryz.prog 4 [.slice a n c] H K := by
  refine hcalls (fn := Tryz.f4) [(3, [(0, 0), (1, 0), (2, 0), (3, 0), (4, 0), (5, 0), (6, 0), (7, 0), (8, 0), (9, 0), (10, 0), (11, 0), (12, 0), (13, 0), (14, 0), (15, 0), (16, 0), (17, 0), (18, 0), (19, 0), (20, 0), (21, 0), (22, 0)])] mixed Tryz.func4 rfl rfl (by decide +kernel) ?_
  (repeat first | refine HReg.step ?_ | refine HCode.step ?_)
  refine HNew.mk fun b2 hb2 => ?_
  have u2 : Upd [] H (H.upd b2 (.cells zeroA.cells.toArray 30)) := Upd.new hb2 _
  have o2 : OwnRow (H.upd b2 (.cells zeroA.cells.toArray 30)) 30 1 (some ⟨b2, 0, none⟩) 8 8 zeroA.cells := OwnRow.lit (upd_same _ _ _) rfl
  have hH2' : H.upd b2 (.cells [Value.int .i64 0, .int .i64 0, .int .u64 0, .int .u64 0, .slice none 0 0, .slice none 0 0, .slice none 0 0, .slice none 0 0].toArray 30) = H.upd b2 (.cells zeroA.cells.toArray 30) := rfl
  rw [hH2']
  generalize hH2 : H.upd b2 (.cells zeroA.cells.toArray 30) = H2 at u2 o2
  have hr2 := hr.upd (S := []) u2 (.inr (Off.nil _))
  have fin0 : ∀ {H1 : Heap} (e : Int), Upd [] H H1 → decodeM l = (zeroM, e) → ∀ H9, OwnRow H9 30 1 (some ⟨b2, 0, none⟩) 8 8 zeroA.cells → Upd [b2] H1 H9 → K (.tuple #[zeroA.val, .int .i64 e]) H9 := fun e u1 hp H9 o9 u9 => by
    rw [hp] at hk
    exact hk zeroA H9 zeroA_m (zero_new _ _) (Upd.drop u1 u9 fun b hb => by rw [List.mem_singleton.1 hb]; exact hb2)
  (repeat first | refine HReg.step ?_ | refine HCode.step ?_)
  refine hif (fun h1 => ?_) (fun h1 => ?_)
  · have h1 := ltB_true.1 h1
    have hp : decodeM l = (zeroM, 4) := by unfold decodeM; rw [if_pos (by omega)]
    (repeat first | refine HReg.step ?_ | refine HCode.step ?_)
    refine store_msg (x := zeroA) o2 rfl fun H9 o9 u9 => ?_
    (repeat first | refine HReg.step ?_ | refine HCode.step ?_)
    refine HLoadN_row o9.rows rfl ?_
    exact fin0 4 u2 hp H9 o9 u9
  have h1 := ltB_false.1 h1
  have hn8 : ¬ l.length < 4 := by omega
  obtain ⟨x, y, z, w, rest, hlx⟩ := list_four (l := l) (by omega)
  have hv : val (l.take 4) = x.toNat * 16777216 + y.toNat * 65536 + z.toNat * 256 + w.toNat := by rw [hlx, ← val_four]; rfl
  obtain ⟨L, hL⟩ : ∃ L, L = val (l.take 4) := ⟨_, rfl⟩
  have hor := num_or x y z w
  rw [← hv, ← hL] at hor
  have hx := x.toNat_lt
  have hy := y.toNat_lt
  have hz := z.toNat_lt
  have hw := w.toNat_lt
  have hLlt : L < 4294967296 := by omega
  have g0 : (u8s l)[0]? = some (u8 x) := by rw [hlx]; rfl
  have g1 : (u8s l)[1]? = some (u8 y) := by rw [hlx]; rfl
  have g2 : (u8s l)[2]? = some (u8 z) := by rw [hlx]; rfl
  have g3 : (u8s l)[3]? = some (u8 w) := by rw [hlx]; rfl
  obtain ⟨ba, bo, rfl, _⟩ := hr _ _ g0
  (repeat first | refine HReg.step ?_ | refine HCode.step ?_)
  refine HReq.mk ⟨by omega, by omega⟩ ?_
  (repeat first | refine HReg.step ?_ | refine HCode.step ?_)
  refine HLoad.one (v := u8 x) (by exact hr2.get g0) ?_
  (repeat first | refine HReg.step ?_ | refine HCode.step ?_)
  refine HReq.mk (by decide) ?_
  (repeat first | refine HReg.step ?_ | refine HCode.step ?_)
  refine HReq.mk ⟨by omega, by omega⟩ ?_
  (repeat first | refine HReg.step ?_ | refine HCode.step ?_)
  refine HLoad.one (v := u8 y) (by exact hr2.get g1) ?_
  (repeat first | refine HReg.step ?_ | refine HCode.step ?_)
  refine HReq.mk (by decide) ?_
  (repeat first | refine HReg.step ?_ | refine HCode.step ?_)
  refine HReq.mk ⟨by omega, by omega⟩ ?_
  (repeat first | refine HReg.step ?_ | refine HCode.step ?_)
  refine HLoad.one (v := u8 z) (by exact hr2.get g2) ?_
  (repeat first | refine HReg.step ?_ | refine HCode.step ?_)
  refine HReq.mk (by decide) ?_
  (repeat first | refine HReg.step ?_ | refine HCode.step ?_)
  refine HReq.mk ⟨by omega, by omega⟩ ?_
  (repeat first | refine HReg.step ?_ | refine HCode.step ?_)
  refine HLoad.one (v := u8 w) (by exact hr2.get g3) ?_
  (repeat first | refine HReg.step ?_ | refine HCode.step ?_)
  have w4 : wr .i64 ((n : Int) - 4) = ((n - 4 : Nat) : Int) := by rw [wr_i64 (by omega) (by omega)]; omega
  rw [hor, w4]
  refine hif (fun h2 => ?_) (fun h2 => ?_)
  · have h2 := ltB_true.1 h2
    have hp : decodeM l = (zeroM, 3) := by unfold decodeM; rw [if_neg hn8, ← hL, if_pos (by omega)]
    (repeat first | refine HReg.step ?_ | refine HCode.step ?_)
    refine store_msg (x := zeroA) o2 rfl fun H9 o9 u9 => ?_
    (repeat first | refine HReg.step ?_ | refine HCode.step ?_)
    refine HLoadN_row o9.rows rfl ?_
    exact fin0 3 u2 hp H9 o9 u9
  have h2 := ltB_false.1 h2
  (repeat first | refine HReg.step ?_ | refine HCode.step ?_)
  refine hif (fun h3 => ?_) (fun h3 => ?_)
  · have h3 := ltB_true.1 h3
    have hp : decodeM l = (zeroM, 4) := by unfold decodeM; rw [if_neg hn8, ← hL, if_neg (by omega), if_pos (by omega)]
    (repeat first | refine HReg.step ?_ | refine HCode.step ?_)
    refine store_msg (x := zeroA) o2 rfl fun H9 o9 u9 => ?_
    (repeat first | refine HReg.step ?_ | refine HCode.step ?_)
    refine HLoadN_row o9.rows rfl ?_
    exact fin0 4 u2 hp H9 o9 u9
  have h3 := ltB_false.1 h3
  (repeat first | refine HReg.step ?_ | refine HCode.step ?_)
  refine hif (fun h4 => ?_) (fun h4 => ?_)
  · have h4 := ltB_true.1 h4
    have hp : decodeM l = (zeroM, 5) := by unfold decodeM; rw [if_neg hn8, ← hL, if_neg (by omega), if_neg (by omega), if_pos (by omega)]
    (repeat first | refine HReg.step ?_ | refine HCode.step ?_)
    refine store_msg (x := zeroA) o2 rfl fun H9 o9 u9 => ?_
    (repeat first | refine HReg.step ?_ | refine HCode.step ?_)
    refine HLoadN_row o9.rows rfl ?_
    exact fin0 5 u2 hp H9 o9 u9
  have h4 := ltB_false.1 h4
  have hbad : ¬ ReadOkM (l.drop 4) → decodeM l = (zeroM, 2) := fun h => by unfold decodeM; rw [if_neg hn8, ← hL, if_neg (by omega), if_neg (by omega), if_neg (by omega), if_pos h]
  have hgood : ReadOkM (l.drop 4) → decodeM l = ((readBody (l.drop 4)).1, 0) := fun h => by unfold decodeM; rw [if_neg hn8, ← hL, if_neg (by omega), if_neg (by omega), if_neg (by omega), if_neg (fun hh => hh h)]
  (repeat first | refine HReg.step ?_ | refine HCode.step ?_)
  refine HReq.mk ⟨by omega, by omega⟩ ?_
  (repeat first | refine HReg.step ?_ | refine HCode.step ?_)
  refine HCall.mk ⟨Tryz.f8, Tryz.func8, by rfl, by rfl⟩ ?_
  have rd : RowAt H2 (slAddr (some ⟨ba, bo, none⟩) 4 c 1) (u8s (l.drop 4)) := by
    have h := RowAt.sl (size := 1) (l := 4) (cap := c) hr2 (by rw [u8s_length]; omega)
    rw [Nat.mul_one, ← u8s_drop] at h; exact h
  refine newR_t (l := l.drop 4) rd (by rw [List.length_drop]; omega) (by omega) fun g S H3 d3 => ?_
  have o3 := o2.upd d3.base (Off.nil _)
  have n2 : H2 b2 ≠ none := o2.there rfl
  (repeat first | refine HReg.step ?_ | refine HCode.step ?_)
  refine HCall.mk ⟨Tryz.f9, Tryz.func9, by rfl, by rfl⟩ ?_
  refine body_t d3 fun x H4 hxm n4 d4 => ?_
  have o4 := o2.upd d4.base (Off.nil _)
  have u4 := u2.trans d4.base
  (repeat first | refine HReg.step ?_ | refine HCode.step ?_)
  refine HNew.mk fun b7 hb7 => ?_
  (repeat first | refine HReg.step ?_ | refine HCode.step ?_)
  refine store_msg (x := x) (OwnRow.lit (upd_same _ _ _) rfl) rfl fun H5 o5 u5 => ?_
  have u45 : Upd [] H4 H5 := Upd.drop (Upd.new hb7 _) u5 (fun x hx => by rw [List.mem_singleton.1 hx]; exact hb7)
  have d5 := d4.upd0 u45
  have n5 := (n4.back u2).upd0 u45
  have o25 := o4.upd u45 (Off.nil _)
  (repeat first | refine HReg.step ?_ | refine HCode.step ?_)
  refine HCall.mk ⟨Tryz.f10, Tryz.func10, by rfl, by rfl⟩ ?_
  refine end_t d5 ?_
  (repeat first | refine HReg.step ?_ | refine HCode.step ?_)
  by_cases hf : (readBody (l.drop 4)).2.fin = 0
  · rw [show eqB (readBody (l.drop 4)).2.fin 0 = true from eqB_true.2 hf]
    (repeat first | refine HReg.step ?_ | refine HCode.step ?_)
    refine HLoadN_row o5.rows rfl ?_
    (repeat first | refine HReg.step ?_ | refine HCode.step ?_)
    refine HCall.mk ⟨Tryz.f11, Tryz.func11, by rfl, by rfl⟩ ?_
    refine may_t n5.msgIn fun t H6 ht u6 => ?_
    have o56 := o5.upd u6 (Off.nil _)
    have o26 := o25.upd u6 (Off.nil _)
    have n6 := n5.upd0 u6
    have u06 := (u4.trans u45).trans u6
    cases t with
    | false =>
      have hp : decodeM l = (zeroM, 2) := hbad fun h => by have h2 := h.2; rw [← hxm] at h2; have := ht.2 h2; cases this
      (repeat first | refine HReg.step ?_ | refine HCode.step ?_)
      refine store_msg (x := zeroA) o26 rfl fun H9 o9 u9 => ?_
      (repeat first | refine HReg.step ?_ | refine HCode.step ?_)
      refine HLoadN_row o9.rows rfl ?_
      exact fin0 2 u06 hp H9 o9 u9
    | true =>
      have hp : decodeM l = ((readBody (l.drop 4)).1, 0) := hgood ⟨hf, by rw [← hxm]; exact ht.1 rfl⟩
      rw [hp] at hk
      (repeat first | refine HReg.step ?_ | refine HCode.step ?_)
      refine HLoadN_row o56.rows rfl ?_
      (repeat first | refine HReg.step ?_ | refine HCode.step ?_)
      refine store_msg (x := x) o26 rfl fun H9 o9 u9 => ?_
      (repeat first | refine HReg.step ?_ | refine HCode.step ?_)
      refine HLoadN_row o9.rows rfl ?_
      exact hk x H9 hxm (n6.off o26 (by decide) u9) (Upd.drop u06 u9 fun b hb => by rw [List.mem_singleton.1 hb]; exact hb2)
  · rw [show eqB (readBody (l.drop 4)).2.fin 0 = false from eqB_false.2 hf]
    have hp : decodeM l = (zeroM, 2) := hbad fun h => hf h.1
    (repeat first | refine HReg.step ?_ | refine HCode.step ?_)
    refine store_msg (x := zeroA) o25 rfl fun H9 o9 u9 => ?_
    (repeat first | refine HReg.step ?_ | refine HCode.step ?_)
    refine HLoadN_row o9.rows rfl ?_
    exact fin0 2 (u4.trans u45) hp H9 o9 u9
end
end Go.Proofs.YtlgncabjphokjaaGreat
