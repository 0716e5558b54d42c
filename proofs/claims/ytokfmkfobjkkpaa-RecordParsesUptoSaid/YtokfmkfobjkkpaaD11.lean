import Derived.Test.YtokfmkfobjkkpaaD10
namespace Go.Proofs.Ytokfmkfobjkkpaa
open Go Hv
set_option linter.unusedVariables false
set_option linter.unusedSimpArgs false
set_option maxRecDepth 10000
set_option maxHeartbeats 4000000
/-! The document's Parse -/
theorem getR_0 {l : List UInt8} (h : 4 ≤ l.length) : getR l 0 4 = val (l.take 4) := getR_val (l := l) (x := l) (A := []) (B := []) (by simp) 4 h
theorem getR_4 {l : List UInt8} (h : 8 ≤ l.length) : getR l 4 4 = val ((l.drop 4).take 4) := by
  have := getR_val (l := l) (x := l.drop 4) (A := l.take 4) (B := []) (by simp) 4 (by rw [List.length_drop]; omega)
  rw [List.length_take, Nat.min_eq_left (by omega)] at this
  exact this
section
variable {H : Heap} {K : Value → Heap → Prop}
theorem rparse_t {a : Option Addr} {n c : Nat} {l : List UInt8} (hr : RowAt H a (u8s l)) (hl : l.length = n) (hc : n ≤ c) (hlim : n ≤ 10000000000)
    (hk : ∀ ap cp ak ck H', RqN H H' (parseR l).1 ap cp ak ck → Upd [] H H' → K (.tuple #[rv (parseR l).1 ap cp ak ck, .int .i64 ((parseR l).2.1 : Int), .int .i64 (parseR l).2.2]) H') : HCalls Try.prog 23 [.slice a n c] H K := by
  refine hcalls (fn := Try.f23) [] mixed Try.func23 rfl rfl (by decide +kernel) ?_
  subst hl
  (repeat first | refine HReg.step ?_ | refine HCode.step ?_)
  refine HNew.mk fun b2 hb2 => ?_
  have u2 : Upd [] H (H.upd b2 (.cells [Value.int .i64 0, .int .u64 0, .slice none 0 0, .slice none 0 0].toArray 27)) := Upd.new hb2 _
  have o2 : OwnRow (H.upd b2 (.cells [Value.int .i64 0, .int .u64 0, .slice none 0 0, .slice none 0 0].toArray 27)) 27 1 (some ⟨b2, 0, none⟩) 4 4 zeroR := OwnRow.lit (upd_same _ _ _) rfl
  generalize hH2 : H.upd b2 (.cells [Value.int .i64 0, .int .u64 0, .slice none 0 0, .slice none 0 0].toArray 27) = H2 at u2 o2
  have zn : ∀ H9, RqN H H9 zeroRec none 0 none 0 := fun H9 => ⟨OwnRow.nil _ _ _, OwnRow.nil _ _ _, fun b hb => (by simp [blk] at hb), fun b hb => (by simp [blk] at hb), Nat.zero_le _, Nat.zero_le _⟩
  have fin0 : ∀ {H1 : Heap} (e : Int), Upd [] H H1 → parseR l = (zeroRec, 0, e) → ∀ H9, OwnRow H9 27 1 (some ⟨b2, 0, none⟩) 4 4 (rcells zeroRec none 0 none 0) → Upd [b2] H1 H9 → K (.tuple #[rv zeroRec none 0 none 0, .int .i64 0, .int .i64 e]) H9 := fun e u1 hp H9 o9 u9 => by
    rw [hp] at hk
    exact hk none 0 none 0 H9 (zn _) (Upd.drop u1 u9 fun b hb => by rw [List.mem_singleton.1 hb]; exact hb2)
  (repeat first | refine HReg.step ?_ | refine HCode.step ?_)
  refine hif (fun h1 => ?_) (fun h1 => ?_)
  · have h1 := ltB_true.1 h1
    have hp : parseR l = (zeroRec, 0, 91) := if_pos (by omega)
    (repeat first | refine HReg.step ?_ | refine HCode.step ?_)
    refine store_rec (x := zeroRec) (ap := none) (cp := 0) (ak := none) (ck := 0) o2 rfl fun H9 o9 u9 => ?_
    (repeat first | refine HReg.step ?_ | refine HCode.step ?_)
    refine HLoadN_row o9.rows rfl ?_
    exact fin0 91 u2 hp H9 o9 u9
  have h1 := ltB_false.1 h1
  have hr2 := hr.upd (S := []) u2 (.inr (Off.nil _))
  have hg := getR_0 (l := l) (by omega)
  have hg4 := getR_4 (l := l) (by omega)
  have hlt : val (l.take 4) < 4294967296 := by
    have := getR_lt l 0 4
    rw [hg] at this; exact this
  generalize hL : val (l.take 4) = L at *
  have w0 : wr .i64 (L : Int) = (L : Int) := by rw [wr_i64 (by omega) (by omega)]
  have w8 : wr .i64 (8 + (L : Int)) = ((8 + L : Nat) : Int) := by rw [wr_i64 (by omega) (by omega)]; omega
  have wl : wr .i64 ((l.length : Int) - 8) = ((l.length - 8 : Nat) : Int) := by rw [wr_i64 (by omega) (by omega)]; omega
  (repeat first | refine HReg.step ?_ | refine HCode.step ?_)
  refine HCall.mk ⟨Try.f48, Try.func48, by rfl, by rfl⟩ ?_
  refine get_t (p := 0) (n := 4) hr2 rfl (by omega) (by omega) (by decide) ?_
  rw [hg]
  (repeat first | refine HReg.step ?_ | refine HCode.step ?_)
  rw [w0]
  refine hif (fun h2 => ?_) (fun h2 => ?_)
  · have h2 := ltB_true.1 h2
    have hp : parseR l = (zeroRec, 0, 3) := by unfold parseR; rw [hL, if_neg (by omega), if_pos (by omega)]
    (repeat first | refine HReg.step ?_ | refine HCode.step ?_)
    refine store_rec (x := zeroRec) (ap := none) (cp := 0) (ak := none) (ck := 0) o2 rfl fun H9 o9 u9 => ?_
    (repeat first | refine HReg.step ?_ | refine HCode.step ?_)
    refine HLoadN_row o9.rows rfl ?_
    exact fin0 3 u2 hp H9 o9 u9
  have h2 := ltB_false.1 h2
  (repeat first | refine HReg.step ?_ | refine HCode.step ?_)
  rw [wl]
  refine hif (fun h3 => ?_) (fun h3 => ?_)
  · have h3 := ltB_true.1 h3
    have hp : parseR l = (zeroRec, 0, 91) := by unfold parseR; rw [hL, if_neg (by omega), if_neg (by omega), if_pos (by omega)]
    (repeat first | refine HReg.step ?_ | refine HCode.step ?_)
    refine store_rec (x := zeroRec) (ap := none) (cp := 0) (ak := none) (ck := 0) o2 rfl fun H9 o9 u9 => ?_
    (repeat first | refine HReg.step ?_ | refine HCode.step ?_)
    refine HLoadN_row o9.rows rfl ?_
    exact fin0 91 u2 hp H9 o9 u9
  have h3 := ltB_false.1 h3
  (repeat first | refine HReg.step ?_ | refine HCode.step ?_)
  rw [w8]
  refine HReq.mk ⟨by omega, by omega⟩ ?_
  refine HReq.mk ⟨by decide, by omega⟩ ?_
  have rp := row_cut (lo := 8) (n := L) hr2 hc
  have lpL : ((l.drop 8).take L).length = L := by rw [List.length_take, List.length_drop]; omega
  (repeat first | refine HReg.step ?_ | refine HCode.step ?_)
  refine HCall.mk ⟨Try.f39, Try.func39, by rfl, by rfl⟩ ?_
  refine rcrc_t (ys := (l.drop 8).take L) rp (by rw [lpL]; omega) (by omega) ?_
  unfold Sum.u32
  have wc : wr .u64 (((Crc.crc 0#32 ((l.drop 8).take L)).toNat : Nat) : Int) = ((crcN ((l.drop 8).take L) : Nat) : Int) := by
    have := crcN_lt ((l.drop 8).take L)
    rw [wr_u64]
    show ((crcN ((l.drop 8).take L) : Nat) : Int) % _ = _
    omega
  (repeat first | refine HReg.step ?_ | refine HCode.step ?_)
  refine HCall.mk ⟨Try.f48, Try.func48, by rfl, by rfl⟩ ?_
  refine get_t (p := 4) (n := 4) hr2 rfl (by omega) (by omega) (by decide) ?_
  rw [hg4]
  (repeat first | refine HReg.step ?_ | refine HCode.step ?_)
  rw [wc]
  refine hif (fun h4 => ?_) (fun h4 => ?_)
  · have h4 := not_eqB_true.1 h4
    have hp : parseR l = (zeroRec, 0, 90) := by unfold parseR; rw [hL, if_neg (by omega), if_neg (by omega), if_neg (by omega), if_pos (by omega)]
    (repeat first | refine HReg.step ?_ | refine HCode.step ?_)
    refine store_rec (x := zeroRec) (ap := none) (cp := 0) (ak := none) (ck := 0) o2 rfl fun H9 o9 u9 => ?_
    (repeat first | refine HReg.step ?_ | refine HCode.step ?_)
    refine HLoadN_row o9.rows rfl ?_
    exact fin0 90 u2 hp H9 o9 u9
  have h4 := not_eqB_false.1 h4
  (repeat first | refine HReg.step ?_ | refine HCode.step ?_)
  refine HCall.mk ⟨Try.f49, Try.func49, by rfl, by rfl⟩ ?_
  refine rread_t (l := (l.drop 8).take L) rp (by rw [lpL]; omega) (by omega) (by omega) fun t x ap cp ak ck H5 ht hx1 hx0 n5 u5 => ?_
  have o25 := o2.upd u5 (Off.nil _)
  have u05 := u2.trans u5
  (repeat first | refine HReg.step ?_ | refine HCode.step ?_)
  refine HNew.mk fun b7 hb7 => ?_
  (repeat first | refine HReg.step ?_ | refine HCode.step ?_)
  refine store_rec (x := x) (ap := ap) (cp := cp) (ak := ak) (ck := ck) (OwnRow.lit (upd_same _ _ _) rfl) rfl fun H6 o6 u6 => ?_
  have u56 : Upd [] H5 H6 := Upd.drop (Upd.new hb7 _) u6 (fun q hq => by rw [List.mem_singleton.1 hq]; exact hb7)
  have o26 := o25.upd u56 (Off.nil _)
  have u06 := u05.trans u56
  have n6 : RqN H H6 x ap cp ak ck := ⟨n5.p.upd u56 (Off.nil _), n5.k.upd u56 (Off.nil _), fun b hb => Upd.none (S := []) u2 (by simp) (n5.pn b hb), fun b hb => Upd.none (S := []) u2 (by simp) (n5.kn b hb), n5.np, n5.nk⟩
  cases t with
  | false =>
    have hno : ¬ ReadOk ((l.drop 8).take L) := fun h => by have := ht.2 h; cases this
    have hp : parseR l = (zeroRec, 0, 2) := by unfold parseR; rw [hL, if_neg (by omega), if_neg (by omega), if_neg (by omega), if_neg (by omega), if_pos hno]
    (repeat first | refine HReg.step ?_ | refine HCode.step ?_)
    refine store_rec (x := zeroRec) (ap := none) (cp := 0) (ak := none) (ck := 0) o26 rfl fun H9 o9 u9 => ?_
    (repeat first | refine HReg.step ?_ | refine HCode.step ?_)
    refine HLoadN_row o9.rows rfl ?_
    exact fin0 2 u06 hp H9 o9 u9
  | true =>
    have hok := ht.1 rfl
    have hx := hx1 rfl
    have hp : parseR l = (x, 8 + L, 0) := by unfold parseR; rw [hL, if_neg (by omega), if_neg (by omega), if_neg (by omega), if_neg (by omega), if_neg (fun h => h hok), hx]
    rw [hp] at hk
    (repeat first | refine HReg.step ?_ | refine HCode.step ?_)
    refine HLoadN_row o6.rows rfl ?_
    (repeat first | refine HReg.step ?_ | refine HCode.step ?_)
    rw [w8]
    refine store_rec (x := x) (ap := ap) (cp := cp) (ak := ak) (ck := ck) o26 rfl fun H9 o9 u9 => ?_
    (repeat first | refine HReg.step ?_ | refine HCode.step ?_)
    refine HLoadN_row o9.rows rfl ?_
    exact hk ap cp ak ck H9 ⟨n6.p.upd u9 (o26.offT n6.p (by decide)), n6.k.upd u9 (o26.offT n6.k (by decide)), n6.pn, n6.kn, n6.np, n6.nk⟩ (Upd.drop u06 u9 fun b hb => by rw [List.mem_singleton.1 hb]; exact hb2)
end
end Go.Proofs.Ytokfmkfobjkkpaa
