import Derived.Test.YtfcmjomnpahllaaW6
namespace Go.Proofs.Ytfcmjomnpahllaa
open Go Hv
set_option linter.unusedVariables false
set_option linter.unusedSimpArgs false
set_option maxRecDepth 10000
set_option maxHeartbeats 4000000
/-! The calls, where what they answer is known; alive. CUT2 -/
section
variable {H : Heap} {g r p k : Nat} {s s' : St} {fl : List Fl} {n : ByteArray} {K : Value → Heap → Prop}
theorem open_w {A : List Rec} (D : DiskAt eH H g r s fl) (hsz : (s.readF n).2.length ≤ 17592186044416) (hw : openW s n = (0, (A, k), s'))
    (hk : ∀ p a c qs fl' H', A = qs.map PRec.r → DiskAt eH H' g r s' fl' → Upd [] (offD H g r fl) (offD H' g r fl') → LogAt (offD H' g r fl') p g n k → offD H g r fl p = none → RecsAt (offD H g r fl) (offD H' g r fl') qs a c → K (.tuple #[.pointer (some ⟨p, 0, none⟩), .slice a qs.length c, .int .i64 0]) H') :
    HCalls Try.prog 13 [.pointer (some ⟨g, 0, none⟩), .string n] H K :=
  open_t D hsz (fun e fl' H' he h1 _ _ => by rw [hw] at h1; exact absurd h1.symm he) (fun p a c qs fl' H' _ hq D' u lg hp R => by rw [hw] at hq D' lg; exact hk p a c qs fl' H' hq D' u lg hp R)
theorem appendL_w {x : Rec} {ap ak : Option Addr} {cp ck k' : Nat} {e : Int} (D : DiskAt eH H g r s fl) (lg : LogAt (offD H g r fl) p g n k) (hr : RecIn (offD H g r fl) x ap ak) (hsz : ∀ y z, s.call.fs n = some (y, z) → y.length ≤ 70368744177664) (hkb : k ≤ 70368744177664) (hw : appendW s n k x = (e, k', s'))
    (hk : ∀ fl' H', DiskAt eH H' g r s' fl' → Upd [p] (offD H g r fl) (offD H' g r fl') → LogAt (offD H' g r fl') p g n k' → K (.int .i64 e) H') :
    HCalls Try.prog 17 [.pointer (some ⟨p, 0, none⟩), rv x ap cp ak ck] H K :=
  appendL_t D lg hr hsz hkb fun fl' H' D' u lg' => by rw [hw] at D' lg' ⊢; exact hk fl' H' D' u lg'
theorem append_w {b : Option Addr} {m c : Nat} {ys : List UInt8} {e : Int} (D : DiskAt eH H g r s fl) (hy : RowAt H b (u8s ys)) (hm : ys.length = m) (ho : Off (dblk g r fl) b) (hlim : ∀ x y, s.call.fs n = some (x, y) → x.length + m ≤ 140737488355328) (hlim0 : m ≤ 140737488355328) (hw : s.append n ys = (e, s'))
    (hk : ∀ fl' H', DiskAt eH H' g r s' fl' → Upd [] (offD H g r fl) (offD H' g r fl') → K (.int .i64 e) H') : HCalls Try.prog 11 [.pointer (some ⟨g, 0, none⟩), .string n, .slice b m c] H K :=
  append_t D hy hm ho hlim hlim0 fun fl' H' D' st => by rw [hw] at D' ⊢; exact hk fl' H' D' (dstep st)
theorem size_w {e : Int} {l : List UInt8} (D : DiskAt eH H g r s fl) (hw : s.readF n = (e, l)) (hc : s.call = s')
    (hk : ∀ fl' H', DiskAt eH H' g r s' fl' → Upd [] (offD H g r fl) (offD H' g r fl') → K (.tuple #[.int .i64 (l.length : Int), .int .i64 e]) H') : HCalls Try.prog 14 [.pointer (some ⟨g, 0, none⟩), .string n] H K :=
  size_f D fun fl' H' D' st => by rw [hw, ← hc] at *; exact hk fl' H' D' (dstep st)
theorem read_w {e : Int} {l : List UInt8} (D : DiskAt eH H g r s fl) (hw : s.readF n = (e, l)) (hc : s.call = s')
    (hk : ∀ a c fl' H2 H', DiskAt eH H' g r s' fl' → Upd [] (offD H g r fl) (offD H2 g r fl') → DiskAt eH H2 g r s' fl' → Made H2 H' 5 1 a l.length c (u8s l) → K (.tuple #[.slice a l.length c, .int .i64 e]) H') : HCalls Try.prog 27 [.pointer (some ⟨g, 0, none⟩), .string n] H K :=
  read_f D fun a c fl' H2 H' D' st m => by
    rw [hw] at m ⊢
    rw [hc] at D'
    exact hk a c fl' H2 H' (D'.upd0 m.upd) (dstep st) D' m
theorem crash_w {keep : Int} (D : DiskAt eH H g r s fl) (hw : s.crash keep = s') (hk : ∀ fl' H', DiskAt eH H' g r s' fl' → Upd [] (offD H g r fl) (offD H' g r fl') → K (.tuple #[]) H') : HCalls Try.prog 20 [.pointer (some ⟨g, 0, none⟩), .int .i64 keep] H K :=
  crash_t D fun fl' H' D' st => by rw [hw] at D'; exact hk fl' H' D' (dstep st)
theorem up_w (D : DiskAt eH H g r s fl) (hw : s.upp = s') (hk : ∀ H', DiskAt eH H' g r s' fl → Upd [] (offD H g r fl) (offD H' g r fl) → K (.tuple #[]) H') : HCalls Try.prog 23 [.pointer (some ⟨g, 0, none⟩)] H K :=
  up_t D fun H' D' st => by rw [hw] at D'; exact hk H' D' (dstep st)
theorem full_w {z : Int} (D : DiskAt eH H g r s fl) (hz : z ≤ 9223372036854775807) (hw : s.full z = s') (hk : ∀ H', DiskAt eH H' g r s' fl → Upd [] (offD H g r fl) (offD H' g r fl) → K (.tuple #[]) H') : HCalls Try.prog 22 [.pointer (some ⟨g, 0, none⟩), .int .i64 z] H K :=
  full_t D hz fun H' D' st => by rw [hw] at D'; exact hk H' D' (dstep st)
theorem arm_w {z keep : Int} (D : DiskAt eH H g r s fl) (h1 : -9223372036854775808 ≤ z) (h2 : z ≤ 9223372036854775807) (hw : s.arms z keep = s') (hk : ∀ H', DiskAt eH H' g r s' fl → Upd [] (offD H g r fl) (offD H' g r fl) → K (.tuple #[]) H') : HCalls Try.prog 21 [.pointer (some ⟨g, 0, none⟩), .int .i64 z, .int .i64 keep] H K :=
  arm_t D h1 h2 fun H' D' st => by rw [hw] at D'; exact hk H' D' (dstep st)
end
def nL0 : ByteArray := ⟨#[108, 111, 103, 46, 48]⟩
theorem nL0_ok : 1 ≤ nL0.size ∧ nL0.size ≤ 32 := by decide
theorem map_one {qs : List PRec} {x : Rec} (h : [x] = qs.map PRec.r) : ∃ q, qs = [q] ∧ q.r = x := by
  match qs, h with
  | [], h => simp at h
  | [q], h => exact ⟨q, rfl, by simpa using h.symm⟩
  | _ :: _ :: _, h => simp at h
theorem map_two {qs : List PRec} {x y : Rec} (h : [x, y] = qs.map PRec.r) : ∃ p q, qs = [p, q] ∧ p.r = x ∧ q.r = y := by
  match qs, h with
  | [], h => simp at h
  | [_], h => simp at h
  | [p, q], h => simp at h; exact ⟨p, q, rfl, h.1.symm, h.2.symm⟩
  | _ :: _ :: _ :: _, h => simp at h
theorem RecsAt.up {H L : Heap} {B : List Nat} {qs : List PRec} {a : Option Addr} {c : Nat} (h : RecsAt L (lessH H B) qs a c) : Recs H a qs := h.recs'.upd0 (less_upd _ _)
theorem recs_at {H : Heap} {qs : List PRec} {q : PRec} {i b : Nat} (h : RowAt H (some ⟨b, 0, none⟩) (recsV qs)) (hq : qs[i]? = some q) : RowAt H (some ⟨b, 0 + i * 4, none⟩) q.cells := fun j v hv => by
  obtain ⟨b', o', e, hc⟩ := h _ _ (recsV_get hq j v hv)
  cases e
  exact ⟨b, 0 + i * 4, rfl, by rw [Nat.add_assoc]; exact hc⟩
theorem same_q {H : Heap} {K : Value → Heap → Prop} {q : PRec} {x : Rec} {ap ak : Option Addr} {cp ck : Nat} (hq : q.r = x) (iq : RecIn H q.r q.ap q.ak) (ix : RecIn H x ap ak) (hk : ∀ H', Upd [] H H' → K (.bool true) H') : HCalls Try.prog 18 [.agg q.cells.toArray, rv x ap cp ak ck] H K := by
  subst hq; exact sameR_t iq ix hk
theorem nL0_self : seqB nL0 ⟨#[108, 111, 103, 46, 48]⟩ = true := by
  have h := seqB_bs [108, 111, 103, 46, 48] [108, 111, 103, 46, 48]
  rw [decide_eq_true rfl] at h
  exact h
theorem commit_len (q : Nat) : (frameR (pay (commitR q))).length = 17 := by
  have e : pay (commitR q) = num 2 1 ++ num (q * 65536) 8 := pay2 rfl
  rw [frame_len, e, List.length_append, num_length, num_length]
theorem scan_one {x : Rec} (h : Good x) {j : Nat} (hj : j < (frameR (pay x)).length) : scanR (frameR (pay x) ++ (frameR (pay x)).take j) = ([x], (frameR (pay x)).length) := by
  have := scan_frames [x] (fun y hy => by rw [List.mem_singleton.1 hy]; exact h) _ (parse_torn h hj)
  rw [frG_one] at this; exact this
theorem scan_two {x y : Rec} (hx : Good x) (hy : Good y) : scanR (frameR (pay x) ++ frameR (pay y)) = ([x, y], (frameR (pay x) ++ frameR (pay y)).length) := by
  have := scan_all (D := [x, y]) (fun z hz => by
    rcases List.mem_cons.1 hz with h | h
    · rw [h]; exact hx
    · rw [List.mem_singleton.1 h]; exact hy)
  rw [frG_cons, frG_one] at this; exact this
section
variable {H : Heap} {K : Value → Heap → Prop}
theorem alive_t (hk : ∀ H', Upd [] H H' → K (.bool true) H') : HCalls Try.prog 7 [] H K := by
  refine hcalls (fn := Try.f7) [(15, [(0, 0), (1, 0), (2, 0), (3, 0), (4, 0), (5, 0), (6, 0), (7, 0), (8, 0), (9, 0), (10, 0), (11, 0), (12, 0), (13, 0), (14, 0), (15, 0), (19, 0), (16, 1), (17, 1), (18, 1), (20, 0), (21, 0), (22, 0), (23, 0), (24, 0), (25, 0), (26, 0), (27, 0), (28, 0), (29, 0), (30, 0), (31, 0), (32, 1), (33, 0), (34, 0)]), (23, [(0, 0), (1, 0), (2, 0), (3, 0), (4, 0), (5, 0), (6, 0), (7, 0), (8, 0), (9, 0), (10, 0), (11, 0), (12, 0), (13, 0), (14, 0), (15, 0), (19, 0), (16, 1), (17, 1), (18, 1), (20, 0), (21, 0), (22, 0)])] mixed Try.func7 rfl rfl (by decide +kernel) ?_
  have G1 : Good (commitR 1) := commit_good (by decide) (by decide)
  have G2 : Good (commitR 2) := commit_good (by decide) (by decide)
  have G3 : Good (commitR 3) := commit_good (by decide) (by decide)
  obtain ⟨c1, hc1⟩ : ∃ c, c = frameR (pay (commitR 1)) := ⟨_, rfl⟩
  obtain ⟨c3, hc3⟩ : ∃ c, c = frameR (pay (commitR 3)) := ⟨_, rfl⟩
  have l1 : c1.length = 17 := by rw [hc1]; exact commit_len 1
  have l3 : c3.length = 17 := by rw [hc3]; exact commit_len 3
  have ri : ∀ (H : Heap) q, RecIn H (commitR q) none none := fun H q => ⟨RowAt.nil _ _, RowAt.nil _ _, Nat.zero_le _, Nat.zero_le _⟩
  (repeat first | refine HReg.step ?_ | refine HCode.step ?_)
  refine HCall.mk ⟨Try.f8, Try.func8, by rfl, by rfl⟩ ?_
  refine wnew_t fun g r H1 D1 u1 => ?_
  rw [one_zero nL0] at D1
  (repeat first | refine HReg.step ?_ | refine HCode.step ?_)
  refine HCall.mk ⟨Try.f13, Try.func13, by rfl, by rfl⟩ ?_
  refine open_w (n := nL0) D1 (by rw [one_readF rfl rfl]; exact Nat.zero_le _) (one_open_none rfl rfl) fun p2 a2 c2 qs2 fl2 H2 hq2 D2 u2 lg2 np2 R2 => ?_
  have hq2 : qs2 = [] := List.map_eq_nil_iff.1 hq2.symm
  subst hq2
  (repeat first | refine HReg.step ?_ | refine HCode.step ?_)
  rw [eqB_self 0]
  (repeat first | refine HReg.step ?_ | refine HCode.step ?_)
  rw [show eqB ((([] : List PRec).length : Nat) : Int) 0 = true from eqB_true.2 rfl]
  (repeat first | refine HReg.step ?_ | refine HCode.step ?_)
  refine HCall.mk ⟨Try.f16, Try.func16, by rfl, by rfl⟩ ?_
  refine sizeL_t lg2 ?_
  (repeat first | refine HReg.step ?_ | refine HCode.step ?_)
  rw [show eqB ((0 : Nat) : Int) 0 = true from eqB_true.2 rfl]
  (repeat first | refine HReg.step ?_ | refine HCode.step ?_)
  refine HCall.mk ⟨Try.f26, Try.func26, by rfl, by rfl⟩ ?_
  refine nameL_t lg2 ?_
  (repeat first | refine HReg.step ?_ | refine HCode.step ?_)
  rw [nL0_self]
  (repeat first | refine HReg.step ?_ | refine HCode.step ?_)
  refine HCall.mk ⟨Try.f12, Try.func12, by rfl, by rfl⟩ ?_
  refine commit_t (q := 1) (by decide) fun H3 u3 => ?_
  have D3 := D2.upd0 u3
  have v3 : Upd [] (offD H2 g r fl2) (offD H3 g r fl2) := less0 u3
  have lg3 := lg2.upd0 v3
  (repeat first | refine HReg.step ?_ | refine HCode.step ?_)
  refine HCall.mk ⟨Try.f17, Try.func17, by rfl, by rfl⟩ ?_
  refine appendL_w (x := commitR 1) D3 lg3 (ri _ 1) (fun y z h => by rw [one_call rfl, one_fs] at h; cases h) (by decide) (one_appendW (c := []) rfl rfl (by decide) nL0_ok G1 rfl) fun fl4 H4 D4 u4 lg4 => ?_
  rw [List.nil_append, ← hc1] at D4
  rw [← hc1, l1] at lg4
  (repeat first | refine HReg.step ?_ | refine HCode.step ?_)
  rw [eqB_self 0]
  (repeat first | refine HReg.step ?_ | refine HCode.step ?_)
  refine HCall.mk ⟨Try.f16, Try.func16, by rfl, by rfl⟩ ?_
  refine sizeL_t lg4 ?_
  (repeat first | refine HReg.step ?_ | refine HCode.step ?_)
  rw [show ltB ((0 + 17 : Nat) : Int) 1 = false from ltB_false.2 (by omega)]
  (repeat first | refine HReg.step ?_ | refine HCode.step ?_)
  refine HCall.mk ⟨Try.f27, Try.func27, by rfl, by rfl⟩ ?_
  refine read_w (n := nL0) (e := 0) (l := c1) D4 (one_readF rfl rfl) (one_call rfl) fun a5 c5 fl5 H5' H5 D5 u5 D5' m5 => ?_
  have v5 : Upd [] (offD H5' g r fl5) (offD H5 g r fl5) := less0 m5.upd
  have lg5 := (lg4.upd0 u5).upd0 v5
  rw [l1] at m5 ⊢
  (repeat first | refine HReg.step ?_ | refine HCode.step ?_)
  rw [eqB_self 0]
  (repeat first | refine HReg.step ?_ | refine HCode.step ?_)
  refine HCall.mk ⟨Try.f16, Try.func16, by rfl, by rfl⟩ ?_
  refine sizeL_t lg5 ?_
  (repeat first | refine HReg.step ?_ | refine HCode.step ?_)
  rw [show eqB ((17 : Nat) : Int) ((0 + 17 : Nat) : Int) = true from eqB_true.2 (by omega)]
  (repeat first | refine HReg.step ?_ | refine HCode.step ?_)
  rw [show ltB ((17 : Nat) : Int) 6 = false from ltB_false.2 (by omega)]
  (repeat first | refine HReg.step ?_ | refine HCode.step ?_)
  have hle5 := m5.own.le
  refine HReq.mk ⟨by omega, by omega⟩ ?_
  (repeat first | refine HReg.step ?_ | refine HCode.step ?_)
  refine HCall.mk ⟨Try.f11, Try.func11, by rfl, by rfl⟩ ?_
  have r5 : RowAt H5 a5 (u8s (c1.take 5)) := by
    have := m5.own.rows.take 5
    rw [← u8s_take] at this; exact this
  refine append_w (n := nL0) (ys := c1.take 5) D5 r5 (by rw [List.length_take]; omega) (fun q hq hb => D5'.fresh (m5.new q hq) hb) (fun y z h => by rw [one_call rfl, one_fs] at h; cases h; omega) (by decide) (one_append (one_call rfl) rfl nL0_ok (fun h => by have := h.2; exact absurd this (by decide))) fun fl6 H6 D6 u6 => ?_
  have lg6 := lg5.upd0 u6
  (repeat first | refine HReg.step ?_ | refine HCode.step ?_)
  refine HCall.mk ⟨Try.f20, Try.func20, by rfl, by rfl⟩ ?_
  have hcr : crash1 3 (c1 ++ c1.take 5, c1.length) = (c1 ++ c1.take 3, c1.length + 3) := by
    have e : tailOf 3 (c1 ++ c1.take 5).length c1.length = 3 := by
      unfold tailOf
      rw [List.length_append, List.length_take]; omega
    unfold crash1
    dsimp only
    rw [e, List.take_append, List.take_of_length_le (by omega), List.take_take]
    rw [show c1.length + 3 - c1.length = 3 by omega, show min 3 5 = 3 from rfl]
  refine crash_w D6 (one_crash rfl 3) fun fl7 H7 D7 u7 => ?_
  have lg7 := lg6.upd0 u7
  (repeat first | refine HReg.step ?_ | refine HCode.step ?_)
  refine HCall.mk ⟨Try.f23, Try.func23, by rfl, by rfl⟩ ?_
  refine up_w (s' := one ⟨false, false, 0, 0, 0⟩ nL0 (some (c1 ++ c1.take 3, c1.length + 3))) D7 (by rw [← hcr]; rfl) fun H8 D8 u8_ => ?_
  have lg8 := lg7.upd0 u8_
  (repeat first | refine HReg.step ?_ | refine HCode.step ?_)
  refine HCall.mk ⟨Try.f13, Try.func13, by rfl, by rfl⟩ ?_
  have hsc : scanR (c1 ++ c1.take 3) = ([commitR 1], c1.length) := by rw [hc1]; exact scan_one G1 (by rw [commit_len]; decide)
  have hop := one_open (d := ⟨false, false, 0, 0, 0⟩) (n := nL0) (y := c1.length + 3) rfl rfl hsc (by rw [List.length_append]; omega) (by rw [List.length_append, List.length_take]; omega)
  rw [List.take_left, Nat.min_eq_right (by omega)] at hop
  refine open_w (n := nL0) D8 (by rw [one_readF rfl rfl]; show (c1 ++ c1.take 3).length ≤ _; rw [List.length_append, List.length_take]; omega) hop fun p9 a9 c9 qs9 fl9 H9 hq9 D9 u9 lg9 np9 R9 => ?_
  (repeat first | refine HReg.step ?_ | refine HCode.step ?_)
  refine HCall.mk ⟨Try.f14, Try.func14, by rfl, by rfl⟩ ?_
  refine size_w (n := nL0) (e := 0) (l := c1) D9 (one_readF rfl rfl) (one_call rfl) fun fl10 H10 D10 u10 => ?_
  have lg10 := lg9.upd0 u10
  have R10 := R9.upd0 u10
  obtain ⟨q, rfl, hqr⟩ := map_one hq9
  (repeat first | refine HReg.step ?_ | refine HCode.step ?_)
  rw [eqB_self 0]
  (repeat first | refine HReg.step ?_ | refine HCode.step ?_)
  rw [eqB_self 0]
  (repeat first | refine HReg.step ?_ | refine HCode.step ?_)
  rw [show eqB ((([q] : List PRec).length : Nat) : Int) 1 = true from eqB_true.2 rfl]
  (repeat first | refine HReg.step ?_ | refine HCode.step ?_)
  refine HCall.mk ⟨Try.f12, Try.func12, by rfl, by rfl⟩ ?_
  refine commit_t (q := 1) (by decide) fun H11 u11 => ?_
  obtain ⟨ga, ha⟩ := R10.row.addr (show 0 < 1 from Nat.zero_lt_one)
  subst ha
  have R10u := R10.up
  have R11u := R10u.upd0 u11
  have h1110 : ∀ H ∈ [H11, H10], RowAt H (some ⟨ga, 0 + 0 * 4, none⟩) q.cells := fun H hH => by
    rcases List.mem_cons.1 hH with e | hH
    · rw [e]; exact recs_at R11u.row rfl
    · rw [List.mem_singleton.1 hH]; exact recs_at R10u.row rfl
  (repeat first | refine HReg.step ?_ | refine HCode.step ?_)
  refine HReq.mk ⟨by omega, show (0 : Int) < ((1 : Nat) : Int) by decide⟩ ?_
  (repeat first | refine HReg.step ?_ | refine HCode.step ?_)
  refine HLoadN_all (Hs := [H11, H10]) h1110 rfl ?_
  (repeat first | refine HReg.step ?_ | refine HCode.step ?_)
  refine HCall.mk ⟨Try.f18, Try.func18, by rfl, by rfl⟩ ?_
  refine same_q hqr (R11u.each q (by simp)) (ri _ 1) fun H12 u12 => ?_
  have v12 : Upd [] (offD H10 g r fl10) (offD H12 g r fl10) := less0 (u11.trans u12)
  have D12 := D10.upd0 (u11.trans u12)
  have lg12 := lg10.upd0 v12
  (repeat first | refine HReg.step ?_ | refine HCode.step ?_)
  rw [show eqB ((c1.length : Nat) : Int) ((17 : Nat) : Int) = true from eqB_true.2 (by omega)]
  (repeat first | refine HReg.step ?_ | refine HCode.step ?_)
  refine HCall.mk ⟨Try.f16, Try.func16, by rfl, by rfl⟩ ?_
  refine sizeL_t lg12 ?_
  (repeat first | refine HReg.step ?_ | refine HCode.step ?_)
  rw [eqB_self ((c1.length : Nat) : Int)]
  (repeat first | refine HReg.step ?_ | refine HCode.step ?_)
  refine HCall.mk ⟨Try.f22, Try.func22, by rfl, by rfl⟩ ?_
  refine full_w (s' := one ⟨false, false, 1, 0, 0⟩ nL0 (some (c1, c1.length))) D12 (by decide) rfl fun H13 D13 u13 => ?_
  have lg13 := lg12.upd0 u13
  (repeat first | refine HReg.step ?_ | refine HCode.step ?_)
  refine HCall.mk ⟨Try.f12, Try.func12, by rfl, by rfl⟩ ?_
  refine commit_t (q := 2) (by decide) fun H14 u14 => ?_
  have v14 : Upd [] (offD H13 g r fl10) (offD H14 g r fl10) := less0 u14
  (repeat first | refine HReg.step ?_ | refine HCode.step ?_)
  refine HCall.mk ⟨Try.f17, Try.func17, by rfl, by rfl⟩ ?_
  refine appendL_w (x := commitR 2) (D13.upd0 u14) (lg13.upd0 v14) (ri _ 2) (fun y z h => by rw [one_call rfl, one_fs] at h; cases h; omega) (by omega) (one_appendW_ref (one_call rfl) rfl (by decide) nL0_ok G2) fun fl15 H15 D15 u15 lg15 => ?_
  (repeat first | refine HReg.step ?_ | refine HCode.step ?_)
  refine HCall.mk ⟨Try.f21, Try.func21, by rfl, by rfl⟩ ?_
  refine arm_w (s' := one ⟨false, true, 0, 1, 100⟩ nL0 (some (c1, c1.length))) D15 (by decide) (by decide) rfl fun H16 D16 u16 => ?_
  have lg16 := lg15.upd0 u16
  (repeat first | refine HReg.step ?_ | refine HCode.step ?_)
  refine HCall.mk ⟨Try.f12, Try.func12, by rfl, by rfl⟩ ?_
  refine commit_t (q := 3) (by decide) fun H17 u17 => ?_
  have v17 : Upd [] (offD H16 g r fl15) (offD H17 g r fl15) := less0 u17
  (repeat first | refine HReg.step ?_ | refine HCode.step ?_)
  refine HCall.mk ⟨Try.f17, Try.func17, by rfl, by rfl⟩ ?_
  have hcr3 : crash1 100 (c1 ++ c3, c1.length) = (c1 ++ c3, (c1 ++ c3).length) := by
    have e : tailOf 100 (c1 ++ c3).length c1.length = 17 := by
      unfold tailOf
      rw [List.length_append]; omega
    unfold crash1
    dsimp only
    rw [e, List.take_of_length_le (by rw [List.length_append]; omega), List.length_append, l3]
  have hap := one_appendW_cut (d := ⟨false, true, 0, 1, 100⟩) (n := nL0) (v := some (c1, c1.length)) (k := c1.length) (d' := ⟨false, true, 0, 0, 100⟩) (w := (c1 ++ c3, (c1 ++ c3).length)) (one_call_n rfl (by decide)) rfl (by decide) nL0_ok G3 rfl rfl rfl (by rw [← hc3]; exact hcr3)
  refine appendL_w (x := commitR 3) (D16.upd0 u17) (lg16.upd0 v17) (ri _ 3) (fun y z h => by rw [one_call_n rfl (by decide), one_fs] at h; cases h; omega) (by omega) hap fun fl18 H18 D18 u18 lg18 => ?_
  (repeat first | refine HReg.step ?_ | refine HCode.step ?_)
  refine HCall.mk ⟨Try.f23, Try.func23, by rfl, by rfl⟩ ?_
  refine up_w (s' := one ⟨false, false, 0, 0, 100⟩ nL0 (some (c1 ++ c3, (c1 ++ c3).length))) D18 rfl fun H19 D19 u19 => ?_
  (repeat first | refine HReg.step ?_ | refine HCode.step ?_)
  refine HCall.mk ⟨Try.f13, Try.func13, by rfl, by rfl⟩ ?_
  have hsc2 : scanR (c1 ++ c3) = ([commitR 1, commitR 3], (c1 ++ c3).length) := by rw [hc1, hc3]; exact scan_two G1 G3
  have hop2 := one_open (d := ⟨false, false, 0, 0, 100⟩) (n := nL0) (y := (c1 ++ c3).length) rfl rfl hsc2 (Nat.le_refl _) (Nat.le_refl _)
  refine open_w (n := nL0) D19 (by rw [one_readF rfl rfl]; show (c1 ++ c3).length ≤ _; rw [List.length_append]; omega) hop2 fun p20 a20 c20 qs20 fl20 H20 hq20 D20 u20 lg20 np20 R20 => ?_
  obtain ⟨q1, q3, rfl, hq1, hq3⟩ := map_two hq20
  obtain ⟨gb, hb⟩ := R20.row.addr (show 0 < 2 by decide)
  subst hb
  have R20u := R20.up
  (repeat first | refine HReg.step ?_ | refine HCode.step ?_)
  rw [show eqB 60 60 = true from eqB_true.2 rfl]
  (repeat first | refine HReg.step ?_ | refine HCode.step ?_)
  rw [show eqB 62 62 = true from eqB_true.2 rfl]
  (repeat first | refine HReg.step ?_ | refine HCode.step ?_)
  rw [eqB_self 0]
  (repeat first | refine HReg.step ?_ | refine HCode.step ?_)
  rw [show eqB ((([q1, q3] : List PRec).length : Nat) : Int) 2 = true from eqB_true.2 rfl]
  (repeat first | refine HReg.step ?_ | refine HCode.step ?_)
  refine HCall.mk ⟨Try.f12, Try.func12, by rfl, by rfl⟩ ?_
  refine commit_t (q := 3) (by decide) fun H21 u21 => ?_
  have R21u := R20u.upd0 u21
  have h2 : ∀ H ∈ [H21, H20], RowAt H (some ⟨gb, 0 + 1 * 4, none⟩) q3.cells := fun H hH => by
    rcases List.mem_cons.1 hH with e | hH
    · rw [e]; exact recs_at R21u.row rfl
    · rw [List.mem_singleton.1 hH]; exact recs_at R20u.row rfl
  (repeat first | refine HReg.step ?_ | refine HCode.step ?_)
  refine HReq.mk ⟨by omega, show (1 : Int) < ((2 : Nat) : Int) by decide⟩ ?_
  (repeat first | refine HReg.step ?_ | refine HCode.step ?_)
  refine HLoadN_all (Hs := [H21, H20]) h2 rfl ?_
  (repeat first | refine HReg.step ?_ | refine HCode.step ?_)
  refine HCall.mk ⟨Try.f18, Try.func18, by rfl, by rfl⟩ ?_
  refine same_q hq3 (R21u.each q3 (by simp)) (ri _ 3) fun H22 u22 => ?_
  have hp2 : ∀ b ∈ [p2], H b = none := fun b hb => by rw [List.mem_singleton.1 hb]; exact Upd.none (S := []) u1 (by simp) np2
  have w4 := Upd.drop ((u1.trans u2).trans v3) u4 hp2
  have w8 := ((((w4.trans u5).trans v5).trans u6).trans u7).trans u8_
  have hp9 : ∀ b ∈ [p9], H b = none := fun b hb => by rw [List.mem_singleton.1 hb]; exact Upd.none (S := []) w8 (by simp) np9
  have w14 := ((((w8.trans u9).trans u10).trans v12).trans u13).trans v14
  have w17 := ((Upd.drop w14 u15 hp9).trans u16).trans v17
  have w20 := ((Upd.drop w17 u18 hp9).trans u19).trans u20
  (repeat first | refine HReg.step ?_ | refine HCode.step ?_)
  exact hk H22 ((w20.trans (less_upd _ _)).trans (u21.trans u22))
end
end Go.Proofs.Ytfcmjomnpahllaa
