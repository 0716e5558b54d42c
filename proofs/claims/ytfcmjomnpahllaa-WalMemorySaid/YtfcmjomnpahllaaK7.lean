import Derived.Test.YtfcmjomnpahllaaK6
namespace Go.Proofs.Ytfcmjomnpahllaa
open Go Hv
set_option linter.unusedVariables false
set_option linter.unusedSimpArgs false
set_option maxRecDepth 10000
set_option maxHeartbeats 1000000
/-! Parse -/
def zeroRec : Rec := ⟨0, 0, [], []⟩
open Classical in
noncomputable def parseR (l : List UInt8) : Rec × Nat × Int :=
  if l.length < 8 then (zeroRec, 0, 91)
  else if 1048576 < val (l.take 4) then (zeroRec, 0, 3)
  else if l.length - 8 < val (l.take 4) then (zeroRec, 0, 91)
  else if crcN ((l.drop 8).take (val (l.take 4))) ≠ val ((l.drop 4).take 4) then (zeroRec, 0, 90)
  else if ¬ ReadOk ((l.drop 8).take (val (l.take 4))) then (zeroRec, 0, 2)
  else ((readR ((l.drop 8).take (val (l.take 4)))).1, 8 + val (l.take 4), 0)
theorem zero_new {H H' : Heap} : RecNew H H' zeroRec none 0 none 0 := ⟨OwnRow.nil _ _ _, OwnRow.nil _ _ _, fun q hq => (by cases hq), fun q hq => (by cases hq), Nat.zero_le _, Nat.zero_le _⟩
section
variable {H : Heap} {K : Value → Heap → Prop}
theorem row_cut {a : Option Addr} {c lo n : Nat} {l : List UInt8} (hr : RowAt H a (u8s l)) (hc : l.length ≤ c) : RowAt H (slAddr a lo c 1) (u8s ((l.drop lo).take n)) := by
  have h := (RowAt.sl (size := 1) (l := lo) (cap := c) hr (by rw [u8s_length]; omega)).take n
  rw [Nat.mul_one, ← u8s_drop, ← u8s_take] at h; exact h
theorem parse_t {a : Option Addr} {n c : Nat} {l : List UInt8} (hr : RowAt H a (u8s l)) (hl : l.length = n) (hc : n ≤ c) (hlim : n ≤ 4000000000000000000)
    (hk : ∀ ap cp ak ck H', RecNew H H' (parseR l).1 ap cp ak ck → Upd [] H H' → K (.tuple #[rv (parseR l).1 ap cp ak ck, .int .i64 ((parseR l).2.1 : Int), .int .i64 (parseR l).2.2]) H') : HCalls Try.prog 57 [.slice a n c] H K := by
  refine hcalls (fn := Try.f57) [] mixed Try.func57 rfl rfl (by decide +kernel) ?_
  (repeat first | refine HReg.step ?_ | refine HCode.step ?_)
  refine HNew.mk fun b2 hb2 => ?_
  have u2 : Upd [] H (H.upd b2 (.cells [Value.int .i64 0, .int .u64 0, .slice none 0 0, .slice none 0 0].toArray 28)) := Upd.new hb2 _
  have o2 : OwnRow (H.upd b2 (.cells [Value.int .i64 0, .int .u64 0, .slice none 0 0, .slice none 0 0].toArray 28)) 28 1 (some ⟨b2, 0, none⟩) 4 4 zeroR := OwnRow.lit (upd_same _ _ _) rfl
  generalize hH2 : H.upd b2 (.cells [Value.int .i64 0, .int .u64 0, .slice none 0 0, .slice none 0 0].toArray 28) = H2 at u2 o2
  have fin0 : ∀ {H1 : Heap} (e : Int), Upd [] H H1 → parseR l = (zeroRec, 0, e) → ∀ H9, OwnRow H9 28 1 (some ⟨b2, 0, none⟩) 4 4 (rcells zeroRec none 0 none 0) → Upd [b2] H1 H9 → K (.tuple #[rv zeroRec none 0 none 0, .int .i64 0, .int .i64 e]) H9 := fun e u1 hp H9 o9 u9 => by
    rw [hp] at hk
    exact hk none 0 none 0 H9 zero_new (Upd.drop u1 u9 fun b hb => by rw [List.mem_singleton.1 hb]; exact hb2)
  (repeat first | refine HReg.step ?_ | refine HCode.step ?_)
  refine hif (fun h1 => ?_) (fun h1 => ?_)
  · have h1 := ltB_true.1 h1
    have hp : parseR l = (zeroRec, 0, 91) := if_pos (by omega)
    (repeat first | refine HReg.step ?_ | refine HCode.step ?_)
    refine store_rec (x := zeroRec) (ap := none) (cp := 0) (ak := none) (ck := 0) o2 rfl fun H9 o9 u9 => ?_
    (repeat first | refine HReg.step ?_ | refine HCode.step ?_)
    refine HLoadN_row o9.rows rfl ?_
    exact fin0 91 u2 hp H9 o9 u9
  have h1 := ltB_false.1 h1
  have hn8 : ¬ l.length < 8 := by omega
  have r8 : RowAt H2 a (u8s (l.take 8)) := by
    have h := (hr.upd (S := []) u2 (.inr (Off.nil _))).take 8
    rw [← u8s_take] at h; exact h
  (repeat first | refine HReg.step ?_ | refine HCode.step ?_)
  refine HReq.mk ⟨by omega, by omega⟩ ?_
  (repeat first | refine HReg.step ?_ | refine HCode.step ?_)
  refine HCall.mk ⟨Try.f64, Try.func64, by rfl, by rfl⟩ ?_
  refine newR_t r8 (by rw [List.length_take]; simp; omega) (by simp) fun g S H3 d3 => ?_
  have o3 := o2.upd d3.base (Off.nil _)
  have d3 := d3.back u2
  have e4 : (⟨l.take 8, 0⟩ : R).number 4 = (val (l.take 4), ⟨(l.drop 4).take 4, 0⟩) := by
    rw [number_yes rfl (by rw [List.length_take]; omega)]
    show (val ((l.take 8).take 4), (⟨(l.take 8).drop 4, 0⟩ : R)) = _
    rw [List.take_take, List.drop_take]; rfl
  have e8 : (⟨(l.drop 4).take 4, 0⟩ : R).number 4 = (val ((l.drop 4).take 4), ⟨[], 0⟩) := by
    rw [number_yes rfl (by rw [List.length_take, List.length_drop]; omega)]
    show (val (((l.drop 4).take 4).take 4), (⟨((l.drop 4).take 4).drop 4, 0⟩ : R)) = _
    rw [List.take_take, List.drop_take]; simp
  (repeat first | refine HReg.step ?_ | refine HCode.step ?_)
  refine HCall.mk ⟨Try.f65, Try.func65, by rfl, by rfl⟩ ?_
  refine ru32_t d3 fun H4 d4 u4 => ?_
  have o4 := o3.upd u4 (d3.offRow o3 (by decide))
  have e41 : ((⟨l.take 8, 0⟩ : R).number 4).1 = val (l.take 4) := by rw [e4]
  have e42 : ((⟨l.take 8, 0⟩ : R).number 4).2 = ⟨(l.drop 4).take 4, 0⟩ := by rw [e4]
  rw [e42] at d4
  rw [e41]
  (repeat first | refine HReg.step ?_ | refine HCode.step ?_)
  refine HCall.mk ⟨Try.f65, Try.func65, by rfl, by rfl⟩ ?_
  refine ru32_t d4 fun H5 d5 u5 => ?_
  have o5 := o4.upd u5 (d4.offRow o4 (by decide))
  have e81 : ((⟨(l.drop 4).take 4, 0⟩ : R).number 4).1 = val ((l.drop 4).take 4) := by rw [e8]
  rw [e81]
  obtain ⟨L, hL⟩ : ∃ L, L = val (l.take 4) := ⟨_, rfl⟩
  obtain ⟨C, hC⟩ : ∃ C, C = val ((l.drop 4).take 4) := ⟨_, rfl⟩
  have hLlt : L < 4294967296 := by
    rw [hL]
    refine Nat.lt_of_lt_of_le (val_lt _) ?_
    have : (l.take 4).length ≤ 4 := by rw [List.length_take]; omega
    exact Nat.le_trans (Nat.pow_le_pow_right (by decide) this) (by decide)
  rw [← hL, ← hC]
  have wL : wr .i64 (L : Int) = (L : Int) := by rw [wr_i64 (by omega) (by omega)]
  have u5' := d5.base
  have hr5 := hr.upd (S := []) u5' (.inr (Off.nil _))
  (repeat first | refine HReg.step ?_ | refine HCode.step ?_)
  rw [wL]
  refine hif (fun h2 => ?_) (fun h2 => ?_)
  · have h2 := ltB_true.1 h2
    have hp : parseR l = (zeroRec, 0, 3) := by unfold parseR; rw [if_neg hn8, if_pos (by omega)]
    (repeat first | refine HReg.step ?_ | refine HCode.step ?_)
    refine store_rec (x := zeroRec) (ap := none) (cp := 0) (ak := none) (ck := 0) o5 rfl fun H9 o9 u9 => ?_
    (repeat first | refine HReg.step ?_ | refine HCode.step ?_)
    refine HLoadN_row o9.rows rfl ?_
    exact fin0 3 u5' hp H9 o9 u9
  have h2 := ltB_false.1 h2
  have hn3 : ¬ 1048576 < val (l.take 4) := by omega
  have w8 : wr .i64 ((n : Int) - 8) = ((n - 8 : Nat) : Int) := by rw [wr_i64 (by omega) (by omega)]; omega
  (repeat first | refine HReg.step ?_ | refine HCode.step ?_)
  rw [w8]
  refine hif (fun h3 => ?_) (fun h3 => ?_)
  · have h3 := ltB_true.1 h3
    have hp : parseR l = (zeroRec, 0, 91) := by unfold parseR; rw [if_neg hn8, if_neg hn3, if_pos (by omega)]
    (repeat first | refine HReg.step ?_ | refine HCode.step ?_)
    refine store_rec (x := zeroRec) (ap := none) (cp := 0) (ak := none) (ck := 0) o5 rfl fun H9 o9 u9 => ?_
    (repeat first | refine HReg.step ?_ | refine HCode.step ?_)
    refine HLoadN_row o9.rows rfl ?_
    exact fin0 91 u5' hp H9 o9 u9
  have h3 := ltB_false.1 h3
  have hn4 : ¬ l.length - 8 < val (l.take 4) := by omega
  have w9 : wr .i64 (8 + (L : Int)) = ((8 + L : Nat) : Int) := by rw [wr_i64 (by omega) (by omega)]; omega
  have hpl : ((l.drop 8).take L).length = L := by rw [List.length_take, List.length_drop]; omega
  (repeat first | refine HReg.step ?_ | refine HCode.step ?_)
  rw [w9]
  refine HReq.mk ⟨by omega, by omega⟩ ?_
  (repeat first | refine HReg.step ?_ | refine HCode.step ?_)
  refine HReq.mk ⟨by omega, by simp; omega⟩ ?_
  (repeat first | refine HReg.step ?_ | refine HCode.step ?_)
  refine HCall.mk ⟨Try.f33, Try.func33, by rfl, by rfl⟩ ?_
  refine Sum.sum_t (ys := (l.drop 8).take L) (row_cut hr5 (by omega)) (by rw [hpl]; omega) (by omega) fun H6 u6 => ?_
  unfold Sum.u32
  have ecn : (Crc.crc 0#32 ((l.drop 8).take L)).toNat = crcN ((l.drop 8).take L) := rfl
  rw [ecn]
  have o6 := o5.upd u6 (Off.nil _)
  have u56 := u5'.trans u6
  (repeat first | refine HReg.step ?_ | refine HCode.step ?_)
  by_cases hcs : crcN ((l.drop 8).take L) = C
  · rw [show eqB (crcN ((l.drop 8).take L) : Int) (C : Int) = true from eqB_true.2 (by rw [hcs])]
    (repeat first | refine HReg.step ?_ | refine HCode.step ?_)
    refine HReq.mk ⟨by omega, by omega⟩ ?_
    (repeat first | refine HReg.step ?_ | refine HCode.step ?_)
    refine HReq.mk ⟨by omega, by omega⟩ ?_
    (repeat first | refine HReg.step ?_ | refine HCode.step ?_)
    refine HCall.mk ⟨Try.f66, Try.func66, by rfl, by rfl⟩ ?_
    refine read_t (l := (l.drop 8).take L) (row_cut (hr5.upd (S := []) u6 (.inr (Off.nil _))) (by omega)) (by rw [hpl]; omega) (by omega) fun t ap cp ak ck H7 ht n7 u7 => ?_
    have o7 := o6.upd u7 (Off.nil _)
    have u57 := u56.trans u7
    (repeat first | refine HReg.step ?_ | refine HCode.step ?_)
    refine HNew.mk fun b8 hb8 => ?_
    (repeat first | refine HReg.step ?_ | refine HCode.step ?_)
    refine store_rec (x := (readR ((l.drop 8).take L)).1) (OwnRow.lit (upd_same _ _ _) rfl) rfl fun H8 o8 u8_ => ?_
    have u78 : Upd [] H7 H8 := Upd.drop (Upd.new hb8 _) u8_ (fun x hx => by rw [List.mem_singleton.1 hx]; exact hb8)
    have o78 := o7.upd u78 (Off.nil _)
    cases t with
    | false =>
      have hno : ¬ ReadOk ((l.drop 8).take L) := fun h => by have := ht.2 h; cases this
      have hp : parseR l = (zeroRec, 0, 2) := by unfold parseR; rw [if_neg hn8, if_neg hn3, if_neg hn4, ← hL, ← hC, if_neg (fun h => h hcs), if_pos hno]
      (repeat first | refine HReg.step ?_ | refine HCode.step ?_)
      refine store_rec (x := zeroRec) (ap := none) (cp := 0) (ak := none) (ck := 0) o78 rfl fun H9 o9 u9 => ?_
      (repeat first | refine HReg.step ?_ | refine HCode.step ?_)
      refine HLoadN_row o9.rows rfl ?_
      exact fin0 2 (u57.trans u78) hp H9 o9 u9
    | true =>
      have hyes := ht.1 rfl
      have hp : parseR l = ((readR ((l.drop 8).take L)).1, 8 + L, 0) := by unfold parseR; rw [if_neg hn8, if_neg hn3, if_neg hn4, ← hL, ← hC, if_neg (fun h => h hcs), if_neg (fun h => h hyes)]
      rw [hp] at hk
      (repeat first | refine HReg.step ?_ | refine HCode.step ?_)
      refine HLoadN_row o8.rows rfl ?_
      (repeat first | refine HReg.step ?_ | refine HCode.step ?_)
      refine store_rec (x := (readR ((l.drop 8).take L)).1) o78 rfl fun H9 o9 u9 => ?_
      (repeat first | refine HReg.step ?_ | refine HCode.step ?_)
      rw [w9]
      refine HLoadN_row o9.rows rfl ?_
      have n9 := ((n7.back u56).upd0 u78).upd u9 (o78.offT ((n7.p).upd u78 (Off.nil _)) (by decide)) (o78.offT ((n7.k).upd u78 (Off.nil _)) (by decide))
      exact hk ap cp ak ck H9 n9 (Upd.drop (u57.trans u78) u9 fun b hb => by rw [List.mem_singleton.1 hb]; exact hb2)
  · rw [show eqB (crcN ((l.drop 8).take L) : Int) (C : Int) = false from eqB_false.2 (by omega)]
    have hp : parseR l = (zeroRec, 0, 90) := by unfold parseR; rw [if_neg hn8, if_neg hn3, if_neg hn4, ← hL, ← hC, if_pos hcs]
    (repeat first | refine HReg.step ?_ | refine HCode.step ?_)
    refine store_rec (x := zeroRec) (ap := none) (cp := 0) (ak := none) (ck := 0) o6 rfl fun H9 o9 u9 => ?_
    (repeat first | refine HReg.step ?_ | refine HCode.step ?_)
    refine HLoadN_row o9.rows rfl ?_
    exact fin0 90 u56 hp H9 o9 u9
end
end Go.Proofs.Ytfcmjomnpahllaa
