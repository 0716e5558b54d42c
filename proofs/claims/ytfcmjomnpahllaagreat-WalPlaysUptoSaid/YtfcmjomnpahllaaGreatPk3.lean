import Derived.Test.YtfcmjomnpahllaaGreatPk2
import Derived.Shelf.Sort.Plain
import Derived.Shelf.Slices.In.SortNone
import Derived.Shelf.SlIter.Nil
import Derived.Test.YtfcmjomnpahllaaGreatProg
import Derived.Test.YtfcmjomnpahllaaGreatPk1
import Derived.CallsIn
import Derived.StringKeys
import Derived.Sort.OwnSorted
namespace Go.Proofs.YtfcmjomnpahllaaGreat
open Go Hv
set_option linter.unusedVariables false
set_option linter.unusedSimpArgs false
set_option maxRecDepth 10000
set_option maxHeartbeats 4000000
/-! The calls, where what they answer is known; alive. CUT2 -/
section
variable {H : Heap} {g r p k : Nat} {s s' : St} {fl : List Fl} {n : ByteArray} {K : Value → Heap → Prop}
theorem open_w {A : List Rec} (D : DiskAt eH H g r s fl) (hsz : (s.readF n).2.length ≤ 17592186044416) (hw : openW s n = (0, (A, k), s'))
    (hk : ∀ p a c qs fl' H', A = qs.map PRec.r → DiskAt eH H' g r s' fl' → Upd [] (offD H g r fl) (offD H' g r fl') → LogAt (offD H' g r fl') p g n k → offD H g r fl p = none → RecsAt (offD H g r fl) (offD H' g r fl') qs a c → K (.tuple #[.pointer (some ⟨p, 0, none⟩), .slice a qs.length c, .int .i64 0]) H') :
    HCalls Tryz.prog 7 [.pointer (some ⟨g, 0, none⟩), .string n] H K :=
  open_t D hsz (fun e fl' H' he h1 _ _ => by rw [hw] at h1; exact absurd h1.symm he) (fun p a c qs fl' H' _ hq D' u lg hp R => by rw [hw] at hq D' lg; exact hk p a c qs fl' H' hq D' u lg hp R)
theorem appendL_w {x : Rec} {ap ak : Option Addr} {cp ck k' : Nat} {e : Int} (D : DiskAt eH H g r s fl) (lg : LogAt (offD H g r fl) p g n k) (hr : RecIn (offD H g r fl) x ap ak) (hsz : ∀ y z, s.call.fs n = some (y, z) → y.length ≤ 70368744177664) (hkb : k ≤ 70368744177664) (hw : appendW s n k x = (e, k', s'))
    (hk : ∀ fl' H', DiskAt eH H' g r s' fl' → Upd [p] (offD H g r fl) (offD H' g r fl') → LogAt (offD H' g r fl') p g n k' → K (.int .i64 e) H') :
    HCalls Tryz.prog 10 [.pointer (some ⟨p, 0, none⟩), rv x ap cp ak ck] H K :=
  appendL_t D lg hr hsz hkb fun fl' H' D' u lg' => by rw [hw] at D' lg' ⊢; exact hk fl' H' D' u lg'
theorem append_w {b : Option Addr} {m c : Nat} {ys : List UInt8} {e : Int} (D : DiskAt eH H g r s fl) (hy : RowAt H b (u8s ys)) (hm : ys.length = m) (ho : Off (dblk g r fl) b) (hlim : ∀ x y, s.call.fs n = some (x, y) → x.length + m ≤ 140737488355328) (hlim0 : m ≤ 140737488355328) (hw : s.append n ys = (e, s'))
    (hk : ∀ fl' H', DiskAt eH H' g r s' fl' → Upd [] (offD H g r fl) (offD H' g r fl') → K (.int .i64 e) H') : HCalls Tryz.prog 23 [.pointer (some ⟨g, 0, none⟩), .string n, .slice b m c] H K :=
  append_t D hy hm ho hlim hlim0 fun fl' H' D' st => by rw [hw] at D' ⊢; exact hk fl' H' D' (dstep st)
theorem size_w {e : Int} {l : List UInt8} (D : DiskAt eH H g r s fl) (hw : s.readF n = (e, l)) (hc : s.call = s')
    (hk : ∀ fl' H', DiskAt eH H' g r s' fl' → Upd [] (offD H g r fl) (offD H' g r fl') → K (.tuple #[.int .i64 (l.length : Int), .int .i64 e]) H') : HCalls Tryz.prog 32 [.pointer (some ⟨g, 0, none⟩), .string n] H K :=
  size_f D fun fl' H' D' st => by rw [hw, ← hc] at *; exact hk fl' H' D' (dstep st)
theorem read_w {e : Int} {l : List UInt8} (D : DiskAt eH H g r s fl) (hw : s.readF n = (e, l)) (hc : s.call = s')
    (hk : ∀ a c fl' H2 H', DiskAt eH H' g r s' fl' → Upd [] (offD H g r fl) (offD H2 g r fl') → DiskAt eH H2 g r s' fl' → Made H2 H' 5 1 a l.length c (u8s l) → K (.tuple #[.slice a l.length c, .int .i64 e]) H') : HCalls Tryz.prog 31 [.pointer (some ⟨g, 0, none⟩), .string n] H K :=
  read_f D fun a c fl' H2 H' D' st m => by
    rw [hw] at m ⊢
    rw [hc] at D'
    exact hk a c fl' H2 H' (D'.upd0 m.upd) (dstep st) D' m
theorem crash_w {keep : Int} (D : DiskAt eH H g r s fl) (hw : s.crash keep = s') (hk : ∀ fl' H', DiskAt eH H' g r s' fl' → Upd [] (offD H g r fl) (offD H' g r fl') → K (.tuple #[]) H') : HCalls Tryz.prog 17 [.pointer (some ⟨g, 0, none⟩), .int .i64 keep] H K :=
  crash_t D fun fl' H' D' st => by rw [hw] at D'; exact hk fl' H' D' (dstep st)
theorem up_w (D : DiskAt eH H g r s fl) (hw : s.upp = s') (hk : ∀ H', DiskAt eH H' g r s' fl → Upd [] (offD H g r fl) (offD H' g r fl) → K (.tuple #[]) H') : HCalls Tryz.prog 25 [.pointer (some ⟨g, 0, none⟩)] H K :=
  up_t D fun H' D' st => by rw [hw] at D'; exact hk H' D' (dstep st)
theorem full_w {z : Int} (D : DiskAt eH H g r s fl) (hz : z ≤ 9223372036854775807) (hw : s.full z = s') (hk : ∀ H', DiskAt eH H' g r s' fl → Upd [] (offD H g r fl) (offD H' g r fl) → K (.tuple #[]) H') : HCalls Tryz.prog 21 [.pointer (some ⟨g, 0, none⟩), .int .i64 z] H K :=
  full_t D hz fun H' D' st => by rw [hw] at D'; exact hk H' D' (dstep st)
theorem arm_w {z keep : Int} (D : DiskAt eH H g r s fl) (h1 : -9223372036854775808 ≤ z) (h2 : z ≤ 9223372036854775807) (hw : s.arms z keep = s') (hk : ∀ H', DiskAt eH H' g r s' fl → Upd [] (offD H g r fl) (offD H' g r fl) → K (.tuple #[]) H') : HCalls Tryz.prog 19 [.pointer (some ⟨g, 0, none⟩), .int .i64 z, .int .i64 keep] H K :=
  arm_t D h1 h2 fun H' D' st => by rw [hw] at D'; exact hk H' D' (dstep st)
end
def nL0 : ByteArray := ⟨#[108, 111, 103, 46, 48]⟩
theorem nL0_ok : 1 ≤ nL0.size ∧ nL0.size ≤ 32 := by decide
theorem map_one {qs : List PRec} {x : Rec} (h : [x] = qs.map PRec.r) : ∃ q, qs = [q] ∧ q.r = x := by
  match qs, h with
  | [], h => simp at h
  | [q], h => exact ⟨q, rfl, by simpa using h.symm⟩
  | _ :: _ :: _, h => simp at h
theorem map_two {qs : List PRec} {x y : Rec} (h : [x, y] = qs.map PRec.r) : ∃ p q, qs = [p, q] ∧ p.r = x ∧ q.r = y := by
  match qs, h with
  | [], h => simp at h
  | [_], h => simp at h
  | [p, q], h => simp at h; exact ⟨p, q, rfl, h.1.symm, h.2.symm⟩
  | _ :: _ :: _ :: _, h => simp at h
theorem RecsAt.up {H L : Heap} {B : List Nat} {qs : List PRec} {a : Option Addr} {c : Nat} (h : RecsAt L (lessH H B) qs a c) : Recs H a qs := h.recs'.upd0 (less_upd _ _)
theorem recs_at {H : Heap} {qs : List PRec} {q : PRec} {i b : Nat} (h : RowAt H (some ⟨b, 0, none⟩) (recsV qs)) (hq : qs[i]? = some q) : RowAt H (some ⟨b, 0 + i * 4, none⟩) q.cells := fun j v hv => by
  obtain ⟨b', o', e, hc⟩ := h _ _ (recsV_get hq j v hv)
  cases e
  exact ⟨b, 0 + i * 4, rfl, by rw [Nat.add_assoc]; exact hc⟩
theorem same_q {H : Heap} {K : Value → Heap → Prop} {q : PRec} {x : Rec} {ap ak : Option Addr} {cp ck : Nat} (hq : q.r = x) (iq : RecIn H q.r q.ap q.ak) (ix : RecIn H x ap ak) (hk : ∀ H', Upd [] H H' → K (.bool true) H') : HCalls Tryz.prog 33 [.agg q.cells.toArray, rv x ap cp ak ck] H K := by
  subst hq; exact sameR_t iq ix hk
theorem nL0_self : seqB nL0 ⟨#[108, 111, 103, 46, 48]⟩ = true := by
  have h := seqB_bs [108, 111, 103, 46, 48] [108, 111, 103, 46, 48]
  rw [decide_eq_true rfl] at h
  exact h
theorem commit_len (q : Nat) : (frameR (pay (commitR q))).length = 17 := by
  have e : pay (commitR q) = num 2 1 ++ num (q * 65536) 8 := pay2 rfl
  rw [frame_len, e, List.length_append, num_length, num_length]
theorem scan_one {x : Rec} (h : Good x) {j : Nat} (hj : j < (frameR (pay x)).length) : scanR (frameR (pay x) ++ (frameR (pay x)).take j) = ([x], (frameR (pay x)).length) := by
  have := scan_frames [x] (fun y hy => by rw [List.mem_singleton.1 hy]; exact h) _ (parse_torn h hj)
  rw [frG_one] at this; exact this
theorem scan_two {x y : Rec} (hx : Good x) (hy : Good y) : scanR (frameR (pay x) ++ frameR (pay y)) = ([x, y], (frameR (pay x) ++ frameR (pay y)).length) := by
  have := scan_all (D := [x, y]) (fun z hz => by
    rcases List.mem_cons.1 hz with h | h
    · rw [h]; exact hx
    · rw [List.mem_singleton.1 h]; exact hy)
  rw [frG_cons, frG_one] at this; exact this
section
variable {H : Heap} {K : Value → Heap → Prop}
theorem alive_t (hk : ∀ H', Upd [] H H' → K (.bool true) H') : HCalls Tryz.prog 4 [] H K := by
  refine hcalls (fn := Tryz.f4) [(15, [(0, 0), (1, 0), (2, 0), (3, 0), (4, 0), (5, 0), (6, 0), (7, 0), (8, 0), (9, 0), (10, 0), (11, 0), (12, 0), (13, 0), (14, 0), (15, 0), (19, 0), (16, 1), (17, 1), (18, 1), (20, 0), (21, 0), (22, 0), (23, 0), (24, 0), (25, 0), (26, 0), (27, 0), (28, 0), (29, 0), (30, 0), (31, 0), (32, 1), (33, 0), (34, 0)]), (23, [(0, 0), (1, 0), (2, 0), (3, 0), (4, 0), (5, 0), (6, 0), (7, 0), (8, 0), (9, 0), (10, 0), (11, 0), (12, 0), (13, 0), (14, 0), (15, 0), (19, 0), (16, 1), (17, 1), (18, 1), (20, 0), (21, 0), (22, 0)])] mixed Tryz.func4 rfl rfl (by decide +kernel) ?_
  have G1 : Good (commitR 1) := commit_good (by decide) (by decide)
  have G2 : Good (commitR 2) := commit_good (by decide) (by decide)
  have G3 : Good (commitR 3) := commit_good (by decide) (by decide)
  obtain ⟨c1, hc1⟩ : ∃ c, c = frameR (pay (commitR 1)) := ⟨_, rfl⟩
  obtain ⟨c3, hc3⟩ : ∃ c, c = frameR (pay (commitR 3)) := ⟨_, rfl⟩
  have l1 : c1.length = 17 := by rw [hc1]; exact commit_len 1
  have l3 : c3.length = 17 := by rw [hc3]; exact commit_len 3
  have ri : ∀ (H : Heap) q, RecIn H (commitR q) none none := fun H q => ⟨RowAt.nil _ _, RowAt.nil _ _, Nat.zero_le _, Nat.zero_le _⟩
  (repeat first | refine HReg.step ?_ | refine HCode.step ?_)
  refine HCall.mk ⟨Tryz.f5, Tryz.func5, by rfl, by rfl⟩ ?_
  refine wnew_t fun g r H1 D1 u1 => ?_
  rw [one_zero nL0] at D1
  (repeat first | refine HReg.step ?_ | refine HCode.step ?_)
  refine HCall.mk ⟨Tryz.f7, Tryz.func7, by rfl, by rfl⟩ ?_
  refine open_w (n := nL0) D1 (by rw [one_readF rfl rfl]; exact Nat.zero_le _) (one_open_none rfl rfl) fun p2 a2 c2 qs2 fl2 H2 hq2 D2 u2 lg2 np2 R2 => ?_
  have hq2 : qs2 = [] := List.map_eq_nil_iff.1 hq2.symm
  subst hq2
  (repeat first | refine HReg.step ?_ | refine HCode.step ?_)
  rw [eqB_self 0]
  (repeat first | refine HReg.step ?_ | refine HCode.step ?_)
  rw [show eqB ((([] : List PRec).length : Nat) : Int) 0 = true from eqB_true.2 rfl]
  (repeat first | refine HReg.step ?_ | refine HCode.step ?_)
  refine HCall.mk ⟨Tryz.f13, Tryz.func13, by rfl, by rfl⟩ ?_
  refine sizeL_t lg2 ?_
  (repeat first | refine HReg.step ?_ | refine HCode.step ?_)
  rw [show eqB ((0 : Nat) : Int) 0 = true from eqB_true.2 rfl]
  (repeat first | refine HReg.step ?_ | refine HCode.step ?_)
  refine HCall.mk ⟨Tryz.f15, Tryz.func15, by rfl, by rfl⟩ ?_
  refine nameL_t lg2 ?_
  (repeat first | refine HReg.step ?_ | refine HCode.step ?_)
  rw [nL0_self]
  (repeat first | refine HReg.step ?_ | refine HCode.step ?_)
  refine HCall.mk ⟨Tryz.f30, Tryz.func30, by rfl, by rfl⟩ ?_
  refine commit_t (q := 1) (by decide) fun H3 u3 => ?_
  have D3 := D2.upd0 u3
  have v3 : Upd [] (offD H2 g r fl2) (offD H3 g r fl2) := less0 u3
  have lg3 := lg2.upd0 v3
  (repeat first | refine HReg.step ?_ | refine HCode.step ?_)
  refine HCall.mk ⟨Tryz.f10, Tryz.func10, by rfl, by rfl⟩ ?_
  refine appendL_w (x := commitR 1) D3 lg3 (ri _ 1) (fun y z h => by rw [one_call rfl, one_fs] at h; cases h) (by decide) (one_appendW (c := []) rfl rfl (by decide) nL0_ok G1 rfl) fun fl4 H4 D4 u4 lg4 => ?_
  rw [List.nil_append, ← hc1] at D4
  rw [← hc1, l1] at lg4
  (repeat first | refine HReg.step ?_ | refine HCode.step ?_)
  rw [eqB_self 0]
  (repeat first | refine HReg.step ?_ | refine HCode.step ?_)
  refine HCall.mk ⟨Tryz.f13, Tryz.func13, by rfl, by rfl⟩ ?_
  refine sizeL_t lg4 ?_
  (repeat first | refine HReg.step ?_ | refine HCode.step ?_)
  rw [show ltB ((0 + 17 : Nat) : Int) 1 = false from ltB_false.2 (by omega)]
  (repeat first | refine HReg.step ?_ | refine HCode.step ?_)
  refine HCall.mk ⟨Tryz.f31, Tryz.func31, by rfl, by rfl⟩ ?_
  refine read_w (n := nL0) (e := 0) (l := c1) D4 (one_readF rfl rfl) (one_call rfl) fun a5 c5 fl5 H5' H5 D5 u5 D5' m5 => ?_
  have v5 : Upd [] (offD H5' g r fl5) (offD H5 g r fl5) := less0 m5.upd
  have lg5 := (lg4.upd0 u5).upd0 v5
  rw [l1] at m5 ⊢
  (repeat first | refine HReg.step ?_ | refine HCode.step ?_)
  rw [eqB_self 0]
  (repeat first | refine HReg.step ?_ | refine HCode.step ?_)
  refine HCall.mk ⟨Tryz.f13, Tryz.func13, by rfl, by rfl⟩ ?_
  refine sizeL_t lg5 ?_
  (repeat first | refine HReg.step ?_ | refine HCode.step ?_)
  rw [show eqB ((17 : Nat) : Int) ((0 + 17 : Nat) : Int) = true from eqB_true.2 (by omega)]
  (repeat first | refine HReg.step ?_ | refine HCode.step ?_)
  rw [show ltB ((17 : Nat) : Int) 6 = false from ltB_false.2 (by omega)]
  (repeat first | refine HReg.step ?_ | refine HCode.step ?_)
  have hle5 := m5.own.le
  refine HReq.mk ⟨by omega, by omega⟩ ?_
  (repeat first | refine HReg.step ?_ | refine HCode.step ?_)
  refine HCall.mk ⟨Tryz.f23, Tryz.func23, by rfl, by rfl⟩ ?_
  have r5 : RowAt H5 a5 (u8s (c1.take 5)) := by
    have := m5.own.rows.take 5
    rw [← u8s_take] at this; exact this
  refine append_w (n := nL0) (ys := c1.take 5) D5 r5 (by rw [List.length_take]; omega) (fun q hq hb => D5'.fresh (m5.new q hq) hb) (fun y z h => by rw [one_call rfl, one_fs] at h; cases h; omega) (by decide) (one_append (one_call rfl) rfl nL0_ok (fun h => by have := h.2; exact absurd this (by decide))) fun fl6 H6 D6 u6 => ?_
  have lg6 := lg5.upd0 u6
  (repeat first | refine HReg.step ?_ | refine HCode.step ?_)
  refine HCall.mk ⟨Tryz.f17, Tryz.func17, by rfl, by rfl⟩ ?_
  have hcr : crash1 3 (c1 ++ c1.take 5, c1.length) = (c1 ++ c1.take 3, c1.length + 3) := by
    have e : tailOf 3 (c1 ++ c1.take 5).length c1.length = 3 := by
      unfold tailOf
      rw [List.length_append, List.length_take]; omega
    unfold crash1
    dsimp only
    rw [e, List.take_append, List.take_of_length_le (by omega), List.take_take]
    rw [show c1.length + 3 - c1.length = 3 by omega, show min 3 5 = 3 from rfl]
  refine crash_w D6 (one_crash rfl 3) fun fl7 H7 D7 u7 => ?_
  have lg7 := lg6.upd0 u7
  (repeat first | refine HReg.step ?_ | refine HCode.step ?_)
  refine HCall.mk ⟨Tryz.f25, Tryz.func25, by rfl, by rfl⟩ ?_
  refine up_w (s' := one ⟨false, false, 0, 0, 0⟩ nL0 (some (c1 ++ c1.take 3, c1.length + 3))) D7 (by rw [← hcr]; rfl) fun H8 D8 u8_ => ?_
  have lg8 := lg7.upd0 u8_
  (repeat first | refine HReg.step ?_ | refine HCode.step ?_)
  refine HCall.mk ⟨Tryz.f7, Tryz.func7, by rfl, by rfl⟩ ?_
  have hsc : scanR (c1 ++ c1.take 3) = ([commitR 1], c1.length) := by rw [hc1]; exact scan_one G1 (by rw [commit_len]; decide)
  have hop := one_open (d := ⟨false, false, 0, 0, 0⟩) (n := nL0) (y := c1.length + 3) rfl rfl hsc (by rw [List.length_append]; omega) (by rw [List.length_append, List.length_take]; omega)
  rw [List.take_left, Nat.min_eq_right (by omega)] at hop
  refine open_w (n := nL0) D8 (by rw [one_readF rfl rfl]; show (c1 ++ c1.take 3).length ≤ _; rw [List.length_append, List.length_take]; omega) hop fun p9 a9 c9 qs9 fl9 H9 hq9 D9 u9 lg9 np9 R9 => ?_
  (repeat first | refine HReg.step ?_ | refine HCode.step ?_)
  refine HCall.mk ⟨Tryz.f32, Tryz.func32, by rfl, by rfl⟩ ?_
  refine size_w (n := nL0) (e := 0) (l := c1) D9 (one_readF rfl rfl) (one_call rfl) fun fl10 H10 D10 u10 => ?_
  have lg10 := lg9.upd0 u10
  have R10 := R9.upd0 u10
  obtain ⟨q, rfl, hqr⟩ := map_one hq9
  (repeat first | refine HReg.step ?_ | refine HCode.step ?_)
  rw [eqB_self 0]
  (repeat first | refine HReg.step ?_ | refine HCode.step ?_)
  rw [eqB_self 0]
  (repeat first | refine HReg.step ?_ | refine HCode.step ?_)
  rw [show eqB ((([q] : List PRec).length : Nat) : Int) 1 = true from eqB_true.2 rfl]
  (repeat first | refine HReg.step ?_ | refine HCode.step ?_)
  refine HCall.mk ⟨Tryz.f30, Tryz.func30, by rfl, by rfl⟩ ?_
  refine commit_t (q := 1) (by decide) fun H11 u11 => ?_
  obtain ⟨ga, ha⟩ := R10.row.addr (show 0 < 1 from Nat.zero_lt_one)
  subst ha
  have R10u := R10.up
  have R11u := R10u.upd0 u11
  have h1110 : ∀ H ∈ [H11, H10], RowAt H (some ⟨ga, 0 + 0 * 4, none⟩) q.cells := fun H hH => by
    rcases List.mem_cons.1 hH with e | hH
    · rw [e]; exact recs_at R11u.row rfl
    · rw [List.mem_singleton.1 hH]; exact recs_at R10u.row rfl
  (repeat first | refine HReg.step ?_ | refine HCode.step ?_)
  refine HReq.mk ⟨by omega, show (0 : Int) < ((1 : Nat) : Int) by decide⟩ ?_
  (repeat first | refine HReg.step ?_ | refine HCode.step ?_)
  refine HLoadN_all (Hs := [H11, H10]) h1110 rfl ?_
  (repeat first | refine HReg.step ?_ | refine HCode.step ?_)
  refine HCall.mk ⟨Tryz.f33, Tryz.func33, by rfl, by rfl⟩ ?_
  refine same_q hqr (R11u.each q (by simp)) (ri _ 1) fun H12 u12 => ?_
  have v12 : Upd [] (offD H10 g r fl10) (offD H12 g r fl10) := less0 (u11.trans u12)
  have D12 := D10.upd0 (u11.trans u12)
  have lg12 := lg10.upd0 v12
  (repeat first | refine HReg.step ?_ | refine HCode.step ?_)
  rw [show eqB ((c1.length : Nat) : Int) ((17 : Nat) : Int) = true from eqB_true.2 (by omega)]
  (repeat first | refine HReg.step ?_ | refine HCode.step ?_)
  refine HCall.mk ⟨Tryz.f13, Tryz.func13, by rfl, by rfl⟩ ?_
  refine sizeL_t lg12 ?_
  (repeat first | refine HReg.step ?_ | refine HCode.step ?_)
  rw [eqB_self ((c1.length : Nat) : Int)]
  (repeat first | refine HReg.step ?_ | refine HCode.step ?_)
  refine HCall.mk ⟨Tryz.f21, Tryz.func21, by rfl, by rfl⟩ ?_
  refine full_w (s' := one ⟨false, false, 1, 0, 0⟩ nL0 (some (c1, c1.length))) D12 (by decide) rfl fun H13 D13 u13 => ?_
  have lg13 := lg12.upd0 u13
  (repeat first | refine HReg.step ?_ | refine HCode.step ?_)
  refine HCall.mk ⟨Tryz.f30, Tryz.func30, by rfl, by rfl⟩ ?_
  refine commit_t (q := 2) (by decide) fun H14 u14 => ?_
  have v14 : Upd [] (offD H13 g r fl10) (offD H14 g r fl10) := less0 u14
  (repeat first | refine HReg.step ?_ | refine HCode.step ?_)
  refine HCall.mk ⟨Tryz.f10, Tryz.func10, by rfl, by rfl⟩ ?_
  refine appendL_w (x := commitR 2) (D13.upd0 u14) (lg13.upd0 v14) (ri _ 2) (fun y z h => by rw [one_call rfl, one_fs] at h; cases h; omega) (by omega) (one_appendW_ref (one_call rfl) rfl (by decide) nL0_ok G2) fun fl15 H15 D15 u15 lg15 => ?_
  (repeat first | refine HReg.step ?_ | refine HCode.step ?_)
  refine HCall.mk ⟨Tryz.f19, Tryz.func19, by rfl, by rfl⟩ ?_
  refine arm_w (s' := one ⟨false, true, 0, 1, 100⟩ nL0 (some (c1, c1.length))) D15 (by decide) (by decide) rfl fun H16 D16 u16 => ?_
  have lg16 := lg15.upd0 u16
  (repeat first | refine HReg.step ?_ | refine HCode.step ?_)
  refine HCall.mk ⟨Tryz.f30, Tryz.func30, by rfl, by rfl⟩ ?_
  refine commit_t (q := 3) (by decide) fun H17 u17 => ?_
  have v17 : Upd [] (offD H16 g r fl15) (offD H17 g r fl15) := less0 u17
  (repeat first | refine HReg.step ?_ | refine HCode.step ?_)
  refine HCall.mk ⟨Tryz.f10, Tryz.func10, by rfl, by rfl⟩ ?_
  have hcr3 : crash1 100 (c1 ++ c3, c1.length) = (c1 ++ c3, (c1 ++ c3).length) := by
    have e : tailOf 100 (c1 ++ c3).length c1.length = 17 := by
      unfold tailOf
      rw [List.length_append]; omega
    unfold crash1
    dsimp only
    rw [e, List.take_of_length_le (by rw [List.length_append]; omega), List.length_append, l3]
  have hap := one_appendW_cut (d := ⟨false, true, 0, 1, 100⟩) (n := nL0) (v := some (c1, c1.length)) (k := c1.length) (d' := ⟨false, true, 0, 0, 100⟩) (w := (c1 ++ c3, (c1 ++ c3).length)) (one_call_n rfl (by decide)) rfl (by decide) nL0_ok G3 rfl rfl rfl (by rw [← hc3]; exact hcr3)
  refine appendL_w (x := commitR 3) (D16.upd0 u17) (lg16.upd0 v17) (ri _ 3) (fun y z h => by rw [one_call_n rfl (by decide), one_fs] at h; cases h; omega) (by omega) hap fun fl18 H18 D18 u18 lg18 => ?_
  (repeat first | refine HReg.step ?_ | refine HCode.step ?_)
  refine HCall.mk ⟨Tryz.f25, Tryz.func25, by rfl, by rfl⟩ ?_
  refine up_w (s' := one ⟨false, false, 0, 0, 100⟩ nL0 (some (c1 ++ c3, (c1 ++ c3).length))) D18 rfl fun H19 D19 u19 => ?_
  (repeat first | refine HReg.step ?_ | refine HCode.step ?_)
  refine HCall.mk ⟨Tryz.f7, Tryz.func7, by rfl, by rfl⟩ ?_
  have hsc2 : scanR (c1 ++ c3) = ([commitR 1, commitR 3], (c1 ++ c3).length) := by rw [hc1, hc3]; exact scan_two G1 G3
  have hop2 := one_open (d := ⟨false, false, 0, 0, 100⟩) (n := nL0) (y := (c1 ++ c3).length) rfl rfl hsc2 (Nat.le_refl _) (Nat.le_refl _)
  refine open_w (n := nL0) D19 (by rw [one_readF rfl rfl]; show (c1 ++ c3).length ≤ _; rw [List.length_append]; omega) hop2 fun p20 a20 c20 qs20 fl20 H20 hq20 D20 u20 lg20 np20 R20 => ?_
  obtain ⟨q1, q3, rfl, hq1, hq3⟩ := map_two hq20
  obtain ⟨gb, hb⟩ := R20.row.addr (show 0 < 2 by decide)
  subst hb
  have R20u := R20.up
  (repeat first | refine HReg.step ?_ | refine HCode.step ?_)
  rw [show eqB 60 60 = true from eqB_true.2 rfl]
  (repeat first | refine HReg.step ?_ | refine HCode.step ?_)
  rw [show eqB 62 62 = true from eqB_true.2 rfl]
  (repeat first | refine HReg.step ?_ | refine HCode.step ?_)
  rw [eqB_self 0]
  (repeat first | refine HReg.step ?_ | refine HCode.step ?_)
  rw [show eqB ((([q1, q3] : List PRec).length : Nat) : Int) 2 = true from eqB_true.2 rfl]
  (repeat first | refine HReg.step ?_ | refine HCode.step ?_)
  refine HCall.mk ⟨Tryz.f30, Tryz.func30, by rfl, by rfl⟩ ?_
  refine commit_t (q := 3) (by decide) fun H21 u21 => ?_
  have R21u := R20u.upd0 u21
  have h2 : ∀ H ∈ [H21, H20], RowAt H (some ⟨gb, 0 + 1 * 4, none⟩) q3.cells := fun H hH => by
    rcases List.mem_cons.1 hH with e | hH
    · rw [e]; exact recs_at R21u.row rfl
    · rw [List.mem_singleton.1 hH]; exact recs_at R20u.row rfl
  (repeat first | refine HReg.step ?_ | refine HCode.step ?_)
  refine HReq.mk ⟨by omega, show (1 : Int) < ((2 : Nat) : Int) by decide⟩ ?_
  (repeat first | refine HReg.step ?_ | refine HCode.step ?_)
  refine HLoadN_all (Hs := [H21, H20]) h2 rfl ?_
  (repeat first | refine HReg.step ?_ | refine HCode.step ?_)
  refine HCall.mk ⟨Tryz.f33, Tryz.func33, by rfl, by rfl⟩ ?_
  refine same_q hq3 (R21u.each q3 (by simp)) (ri _ 3) fun H22 u22 => ?_
  have hp2 : ∀ b ∈ [p2], H b = none := fun b hb => by rw [List.mem_singleton.1 hb]; exact Upd.none (S := []) u1 (by simp) np2
  have w4 := Upd.drop ((u1.trans u2).trans v3) u4 hp2
  have w8 := ((((w4.trans u5).trans v5).trans u6).trans u7).trans u8_
  have hp9 : ∀ b ∈ [p9], H b = none := fun b hb => by rw [List.mem_singleton.1 hb]; exact Upd.none (S := []) w8 (by simp) np9
  have w14 := ((((w8.trans u9).trans u10).trans v12).trans u13).trans v14
  have w17 := ((Upd.drop w14 u15 hp9).trans u16).trans v17
  have w20 := ((Upd.drop w17 u18 hp9).trans u19).trans u20
  (repeat first | refine HReg.step ?_ | refine HCode.step ?_)
  exact hk H22 ((w20.trans (less_upd _ _)).trans (u21.trans u22))
end
end Go.Proofs.YtfcmjomnpahllaaGreat
namespace Go.Proofs.YtfcmjomnpahllaaGreat
open Go Hv
set_option linter.unusedVariables false
set_option linter.unusedSimpArgs false
set_option maxRecDepth 10000
set_option maxHeartbeats 4000000
structure OpW where
  kind : Int
  q : PRec
  n : Int
  k : Int
  nm : ByteArray
  ab : Option Addr
  nb : Nat
  cb : Nat
def OpW.cells (o : OpW) : List Value := [.int .i64 o.kind, .int .i64 o.q.r.kind, .int .u64 (o.q.r.id : Int), .slice o.q.ap o.q.r.ps.length o.q.cp, .slice o.q.ak o.q.r.ks.length o.q.ck, .int .i64 o.n, .int .i64 o.k, .string o.nm, .slice o.ab o.nb o.cb]
def opsV : List OpW → List Value
  | [] => []
  | o :: os => o.cells ++ opsV os
theorem opsV_split : ∀ {os : List OpW} {idx : Nat} {v : Value}, (opsV os)[idx]? = some v → ∃ i k o, idx = i * 9 + k ∧ os[i]? = some o ∧ (OpW.cells o)[k]? = some v
  | [], idx, v, h => by simp [opsV] at h
  | o :: os, idx, v, h => by
    have h : (o.cells ++ opsV os)[idx]? = some v := h
    have hl : o.cells.length = 9 := rfl
    by_cases hi : idx < 9
    · rw [List.getElem?_append_left (by omega)] at h
      exact ⟨0, idx, o, by omega, rfl, h⟩
    · rw [List.getElem?_append_right (by omega), hl] at h
      obtain ⟨i, k, o', h1, h2, h3⟩ := opsV_split h
      exact ⟨i + 1, k, o', by omega, by simpa using h2, h3⟩
theorem opsV_get : ∀ {os : List OpW} {i : Nat} {o : OpW}, os[i]? = some o → ∀ (k : Nat) v, (OpW.cells o)[k]? = some v → (opsV os)[i * 9 + k]? = some v
  | [], i, o, h => by simp at h
  | p :: os, 0, o, h => fun k v hk => by
    simp at h; subst h
    have : k < (OpW.cells p).length := (List.getElem?_eq_some_iff.1 hk).1
    show (OpW.cells p ++ opsV os)[0 * 9 + k]? = _
    rw [Nat.zero_mul, Nat.zero_add, List.getElem?_append_left this]; exact hk
  | p :: os, i + 1, o, h => fun k v hk => by
    have ih := opsV_get (os := os) (i := i) (o := o) (by simpa using h) k v hk
    have e : (OpW.cells p).length = 9 := rfl
    show (OpW.cells p ++ opsV os)[(i + 1) * 9 + k]? = _
    rw [List.getElem?_append_right (by rw [e]; omega), e]
    have e2 : (i + 1) * 9 + k - 9 = i * 9 + k := by omega
    rw [e2]; exact ih
theorem HLoadN_opw {H : Heap} {b off i : Nat} {os : List OpW} {o : OpW} {K : List Value → Prop} (h : RowAt H (some ⟨b, off, none⟩) (opsV os)) (ho : os[i]? = some o) (hk : K o.cells) : HLoadN [H] b (off + i * 9) 9 K :=
  ⟨o.cells, fun H' hH j v hv => by
    rw [List.mem_singleton.1 hH, Nat.add_assoc]
    exact h.get (opsV_get ho j v hv), rfl, hk⟩
structure OpOk (H : Heap) (o : OpW) : Prop where
  rc : RecIn H o.q.r o.q.ap o.q.ak
  id : o.q.r.id < 18446744073709551616
  n1 : -9223372036854775808 ≤ o.n
  n2 : o.n ≤ 9223372036854775807
  k1 : -9223372036854775808 ≤ o.k
  k2 : o.k ≤ 9223372036854775807
theorem OpOk.upd0 {H H' : Heap} {o : OpW} (h : OpOk H o) (u : Upd [] H H') : OpOk H' o := ⟨h.rc.upd0 u, h.id, h.n1, h.n2, h.k1, h.k2⟩
structure Ops (H : Heap) (a : Option Addr) (os : List OpW) : Prop where
  row : RowAt H a (opsV os)
  each : ∀ o ∈ os, OpOk H o
theorem Ops.upd0 {H H' : Heap} {a : Option Addr} {os : List OpW} (h : Ops H a os) (u : Upd [] H H') : Ops H' a os := ⟨h.row.upd (S := []) u (.inr (Off.nil _)), fun o ho => (h.each o ho).upd0 u⟩
theorem less_drop {S B : List Nat} {L L' : Heap} (u : Upd S L L') (h : ∀ b ∈ S, b ∈ B) : Upd [] (lessH L B) (lessH L' B) :=
  Upd.drop (Upd.refl _ _) (less0 u) fun b hb => lessH_none (h b hb)
theorem less_move {L L' : Heap} {a a' : Option Addr} {p : Nat} (u : Upd (blk a) L L') (hf : ∀ q, a' = some q → a = some q ∨ L q.block = none) : Upd [] (lessH L (p :: blk a)) (lessH L' (p :: blk a')) := fun k _ h => by
  obtain ⟨h1, h2⟩ := less_ne h
  have h3 : k ∉ p :: blk a' := fun hk => by
    rcases List.mem_cons.1 hk with e | hk
    · exact h1 (by rw [e]; exact List.mem_cons_self)
    · obtain ⟨q, hq, rfl⟩ := blk_of hk
      rcases hf q hq with e | e
      · exact h1 (List.mem_cons_of_mem _ (by rw [e]; simp [blk]))
      · exact h2 e
  rw [lessH_of h1, lessH_of h3, u k (fun hk => h1 (List.mem_cons_of_mem _ hk)) h2]
def zeroO (k : Int) : OpW := ⟨k, ⟨⟨0, 0, [], []⟩, none, 0, none, 0⟩, 0, 0, ⟨#[]⟩, none, 0, 0⟩
theorem store_opw {H : Heap} {b : Nat} {o : OpW} {xs : List Value} {K : Heap → Prop} (h : OwnRow H 44 1 (some ⟨b, 0, none⟩) 9 9 xs) (hl : xs.length = 9)
    (hk : ∀ H', OwnRow H' 44 1 (some ⟨b, 0, none⟩) 9 9 o.cells → Upd [b] H H' → K H') : storeN H b 0 0 K o.cells := by
  obtain ⟨x0, x1, x2, x3, x4, x5, x6, x7, x8, rfl⟩ : ∃ a b c d e f g h i, xs = [a, b, c, d, e, f, g, h, i] := by
    match xs, hl with
    | [a, b, c, d, e, f, g, h, i], _ => exact ⟨a, b, c, d, e, f, g, h, i, rfl⟩
  refine store_row h (v := .int .i64 o.kind) rfl (i := 0) (by decide) (by rfl) fun H1 o1 u1 => ?_
  refine store_row o1 (v := .int .i64 o.q.r.kind) rfl (i := 1) (by decide) (by rfl) fun H2 o2 u2 => ?_
  refine store_row o2 (v := .int .u64 (o.q.r.id : Int)) rfl (i := 2) (by decide) (by rfl) fun H3 o3 u3 => ?_
  refine store_row o3 (v := .slice o.q.ap o.q.r.ps.length o.q.cp) rfl (i := 3) (by decide) (by rfl) fun H4 o4 u4 => ?_
  refine store_row o4 (v := .slice o.q.ak o.q.r.ks.length o.q.ck) rfl (i := 4) (by decide) (by rfl) fun H5 o5 u5 => ?_
  refine store_row o5 (v := .int .i64 o.n) rfl (i := 5) (by decide) (by rfl) fun H6 o6 u6 => ?_
  refine store_row o6 (v := .int .i64 o.k) rfl (i := 6) (by decide) (by rfl) fun H7 o7 u7 => ?_
  refine store_row o7 (v := .string o.nm) rfl (i := 7) (by decide) (by rfl) fun H8 o8 u8_ => ?_
  refine store_row o8 (v := .slice o.ab o.nb o.cb) rfl (i := 8) (by decide) (by rfl) fun H9 o9 u9 => ?_
  exact hk H9 o9 ((((((((u1.trans u2).trans u3).trans u4).trans u5).trans u6).trans u7).trans u8_).trans u9)
theorem HLoadN_opr {H : Heap} {b : Nat} {o : OpW} {K : List Value → Prop} (h : RowAt H (some ⟨b, 0, none⟩) o.cells) (hk : K o.q.cells) : HLoadN [H] b (0 + 1) 4 K :=
  ⟨o.q.cells, fun H' hH j v hv => by
    rw [List.mem_singleton.1 hH]
    have hj : j < 4 := (List.getElem?_eq_some_iff.1 hv).1
    have e : o.cells[1 + j]? = some v := by
      match j, hj, hv with
      | 0, _, hv => exact hv
      | 1, _, hv => exact hv
      | 2, _, hv => exact hv
      | 3, _, hv => exact hv
    have := h.get e
    rw [Nat.add_assoc]; exact this, rfl, hk⟩
end Go.Proofs.YtfcmjomnpahllaaGreat
namespace Go.Proofs.YtfcmjomnpahllaaGreat
open Go Hv Go.ChangeShapes Go.WideShapes Go.ChangeAt Go.RowKit
set_option linter.unusedVariables false
set_option linter.unusedSimpArgs false
set_option maxRecDepth 10000
set_option maxHeartbeats 1000000
/-! A script, opened -/
theorem trod_fields {H : Type} {enc : TypeId × Value → H} {P : Program} {w : World} {base : Nat} {spare : Nat → Bool} {held : Bool} {fuel : Nat} {t : TypeId} {cs : List Value} {x : DataW H × List MemPlace} {fs : Array Field} (ht : P.underlying t = some (.struct fs)) (h : DataW.trod enc P w base spare held fuel t cs = some x) :
    ∃ parts : List (DataW H), x.1 = .agg parts ∧ ∀ (j : Nat) (f : Field), fs[j]? = some f → ∃ n y, parts[j]? = some y.1 ∧ DataW.trod enc P w base spare held n f.type ((cs.drop f.offset).take (P.cellsOf f.type)) = some y := by
  obtain ⟨xs, n, _, rfl, hl, hlen, hf⟩ := DataW.trod_struct ht h
  refine ⟨_, rfl, fun j f hj => ?_⟩
  have h1 := hf j f hj
  have hj' : j < xs.length := by rw [hlen]; exact (Array.getElem?_eq_some_iff.1 hj).1
  rw [List.getElem?_eq_getElem hj'] at h1
  exact ⟨n, xs[j], by simp [hj'], h1⟩
theorem int_wf {n : Int} (h : (Lit.int .i64 n).wf = true) : -9223372036854775808 ≤ n ∧ n ≤ 9223372036854775807 := by
  simp [Lit.wf, IntKind.min, IntKind.max, IntKind.signed, IntKind.bits] at h; omega
theorem list9 {α : Type} {l : List α} (h : l.length = 9) : ∃ a b c d e f g h i, l = [a, b, c, d, e, f, g, h, i] := by
  match l, h with
  | [a, b, c, d, e, f, g, h, i], _ => exact ⟨a, b, c, d, e, f, g, h, i, rfl⟩
section
variable {T : Type} {enc : TypeId × Value → T} {w : World} {base : Nat} {spare : Nat → Bool} {held : Bool} {ts : List TypeId} {ds : List (DataW T)} {j fuel : Nat} {a : Option Addr} {len cap : Nat} {x : DataW T} {pl : List MemPlace}
theorem open_opsw (hz : (DataW.weightsEach Tryz.prog ts ds).all (· ≤ reachBytes) = true) (hts : ts[j]? = some 22) (hds : ds[j]? = some x) (h : DataW.trod enc Tryz.prog w base spare held fuel 22 [.slice a len cap] = some (x, pl)) :
    ∃ ps : List OpW, Ops (heapOf w) a ps ∧ ps.length = len ∧ len ≤ cap ∧ len ≤ 2199023255488 := by
  rcases DataW.trod_slice Tryz.underlying22 h with ⟨hcs, hx⟩ | ⟨p, len', cap', elems, rest, n, _, hcs, hx, _, hl, _, hlen, hel, _, _⟩
  · cases hcs
    exact ⟨[], ⟨RowAt.nil _ _, fun o ho => by simp at ho⟩, rfl, Nat.le_refl _, Nat.zero_le _⟩
  · cases hcs
    obtain ⟨rfl, rfl⟩ := Prod.mk.inj hx
    have hc : Tryz.prog.cellsOf 44 = 9 := by kernel_rfl
    have hb : Tryz.prog.bytesOf 44 = 128 := by kernel_rfl
    have c28 : Tryz.prog.cellsOf 41 = 4 := by kernel_rfl
    have c3 : Tryz.prog.cellsOf 3 = 1 := by kernel_rfl
    have c9 : Tryz.prog.cellsOf 9 = 1 := by kernel_rfl
    have c32 : Tryz.prog.cellsOf 42 = 1 := by kernel_rfl
    obtain ⟨ps, hol, hoq⟩ := exists_list (Q := fun i o => (∀ (k : Nat) v, (OpW.cells o)[k]? = some v → w.cell? (p.add (i * 9 + k)) = some v) ∧ OpOk (heapOf w) o) len (fun i hi => by
      have h4 := hel i hi
      rw [hc] at h4
      cases hv : elems[i]? with
      | none => rw [List.getElem?_eq_none_iff] at hv; omega
      | some y =>
        rw [hv] at h4
        obtain ⟨cs, hcs, htr⟩ := Option.bind_eq_some_iff.1 h4
        obtain ⟨hcl, hcg⟩ := cells_get hcs
        obtain ⟨e0, e1, e2, e3, e4, e5, e6, e7, e8, rfl⟩ := list9 hcl
        obtain ⟨parts, hd, fl⟩ := trod_fields Tryz.underlying44 htr
        have hze := sized_elem_struct hz hts hds Tryz.underlying22 (i := i) (parts := parts) (by rw [List.getElem?_map, hv, ← hd]; rfl) Tryz.underlying44
        obtain ⟨n0, y0, pt0, tr0⟩ := fl 0 _ rfl
        have tr0 : DataW.trod enc Tryz.prog w base spare held n0 3 (([e0, e1, e2, e3, e4, e5, e6, e7, e8].drop 0).take (Tryz.prog.cellsOf 3)) = some y0 := tr0
        rw [c3] at tr0
        have tr0 : DataW.trod enc Tryz.prog w base spare held n0 3 [e0] = some y0 := tr0
        obtain ⟨z0, he0, _, w0⟩ := DataW.trod_int Tryz.underlying3 tr0
        cases he0
        obtain ⟨n1, y1, pt1, tr1⟩ := fl 1 _ rfl
        have tr1 : DataW.trod enc Tryz.prog w base spare held n1 41 (([Value.int .i64 z0, e1, e2, e3, e4, e5, e6, e7, e8].drop 1).take (Tryz.prog.cellsOf 41)) = some y1 := tr1
        rw [c28] at tr1
        have tr1 : DataW.trod enc Tryz.prog w base spare held n1 41 [e1, e2, e3, e4] = some y1 := tr1
        obtain ⟨m, hm, inm, idm⟩ := open_rec (j := 1) (x := y1.1) (pl := y1.2) hze rfl pt1 rfl tr1
        have hm : [e1, e2, e3, e4] = [Value.int .i64 m.r.kind, .int .u64 (m.r.id : Int), .slice m.ap m.r.ps.length m.cp, .slice m.ak m.r.ks.length m.ck] := hm
        cases hm
        obtain ⟨n2, y2, pt2, tr2⟩ := fl 2 _ rfl
        have tr2 : DataW.trod enc Tryz.prog w base spare held n2 3 ((([_, _, _, _, _, e5, e6, e7, e8] : List Value).drop 5).take (Tryz.prog.cellsOf 3)) = some y2 := tr2
        rw [c3] at tr2
        have tr2 : DataW.trod enc Tryz.prog w base spare held n2 3 [e5] = some y2 := tr2
        obtain ⟨z2, he2, _, w2⟩ := DataW.trod_int Tryz.underlying3 tr2
        cases he2
        obtain ⟨n3, y3, pt3, tr3⟩ := fl 3 _ rfl
        have tr3 : DataW.trod enc Tryz.prog w base spare held n3 3 ((([_, _, _, _, _, _, e6, e7, e8] : List Value).drop 6).take (Tryz.prog.cellsOf 3)) = some y3 := tr3
        rw [c3] at tr3
        have tr3 : DataW.trod enc Tryz.prog w base spare held n3 3 [e6] = some y3 := tr3
        obtain ⟨z3, he3, _, w3⟩ := DataW.trod_int Tryz.underlying3 tr3
        cases he3
        obtain ⟨n4, y4, pt4, tr4⟩ := fl 4 _ rfl
        have tr4 : DataW.trod enc Tryz.prog w base spare held n4 9 ((([_, _, _, _, _, _, _, e7, e8] : List Value).drop 7).take (Tryz.prog.cellsOf 9)) = some y4 := tr4
        rw [c9] at tr4
        have tr4 : DataW.trod enc Tryz.prog w base spare held n4 9 [e7] = some y4 := tr4
        obtain ⟨s4, rfl⟩ := open_stringU Tryz.underlying9 tr4
        obtain ⟨n5, y5, pt5, tr5⟩ := fl 5 _ rfl
        have tr5 : DataW.trod enc Tryz.prog w base spare held n5 42 ((([_, _, _, _, _, _, _, _, e8] : List Value).drop 8).take (Tryz.prog.cellsOf 42)) = some y5 := tr5
        rw [c32] at tr5
        have tr5 : DataW.trod enc Tryz.prog w base spare held n5 42 [e8] = some y5 := tr5
        obtain ⟨ab, nb, cb, rfl⟩ := trod_slice1 Tryz.underlying42 tr5
        have b2 := int_wf w2
        have b3 := int_wf w3
        refine ⟨⟨z0, m, z2, z3, bs s4, ab, nb, cb⟩, fun k v hk => ?_, ⟨inm, idm, b2.1, b2.2, b3.1, b3.2⟩⟩
        have := hcg k v hk
        rw [Addr.add_add] at this; exact this)
    refine ⟨ps, ⟨rowAt_of fun idx v hv => ?_, fun o ho => ?_⟩, hol, hl, ?_⟩
    · obtain ⟨i, k, o, rfl, h2, h3⟩ := opsV_split hv
      exact (hoq i o h2).1 k v h3
    · obtain ⟨i, hi⟩ := List.getElem?_of_mem ho
      exact (hoq i o hi).2
    · have := sized_slice hz hts hds Tryz.underlying22
      rw [hb, List.length_map, List.length_map, hlen] at this
      have hr : reachBytes = 140737488351232 := rfl
      omega
end
end Go.Proofs.YtfcmjomnpahllaaGreat
namespace Go.Proofs.YtfcmjomnpahllaaGreat.Lay
open Go Go.RowKit Go.Shelf Go.Proofs Go.Sort
/-! The layouts of slices.Sort, slices.Sorted and maps.Keys at this seat's translation. -/
def SkE_ren : Go.Shelf.Ren := ⟨fun | 190 => 92 | 125 => 108 | 258 => 107 | 128 => 123 | 129 => 124 | 302 => 114 | 303 => 115 | 304 => 116 | 305 => 117 | 306 => 118 | 307 => 119 | 308 => 120 | 309 => 121 | 310 => 122 | 333 => 127 | 329 => 128 | 330 => 129 | 334 => 130 | 335 => 131 | 336 => 132 | 344 => 133 | n => n, fun | 31 => 39 | 9 => 9 | 3 => 3 | 46 => 98 | 0 => 0 | 51 => 110 | 53 => 36 | 4 => 4 | 183 => 165 | 182 => 164 | 131 => 158 | 5 => 5 | 218 => 173 | 222 => 176 | 228 => 178 | 229 => 179 | n => n, fun  | n => n⟩
theorem SkE : Lays.n190 Tryz.prog SkE_ren where
  mixed := by kernel_rfl
  f125 := Tryz.func108.trans (congrArg some (by kernel_rfl))
  f128 := Tryz.func123.trans (congrArg some (by kernel_rfl))
  f129 := Tryz.func124.trans (congrArg some (by kernel_rfl))
  f190 := Tryz.func92.trans (congrArg some (by kernel_rfl))
  f258 := Tryz.func107.trans (congrArg some (by kernel_rfl))
  f302 := Tryz.func114.trans (congrArg some (by kernel_rfl))
  f303 := Tryz.func115.trans (congrArg some (by kernel_rfl))
  f304 := Tryz.func116.trans (congrArg some (by kernel_rfl))
  f305 := Tryz.func117.trans (congrArg some (by kernel_rfl))
  f306 := Tryz.func118.trans (congrArg some (by kernel_rfl))
  f307 := Tryz.func119.trans (congrArg some (by kernel_rfl))
  f308 := Tryz.func120.trans (congrArg some (by kernel_rfl))
  f309 := Tryz.func121.trans (congrArg some (by kernel_rfl))
  f310 := Tryz.func122.trans (congrArg some (by kernel_rfl))
  f329 := Tryz.func128.trans (congrArg some (by kernel_rfl))
  f330 := Tryz.func129.trans (congrArg some (by kernel_rfl))
  f333 := Tryz.func127.trans (congrArg some (by kernel_rfl))
  f334 := Tryz.func130.trans (congrArg some (by kernel_rfl))
  f335 := Tryz.func131.trans (congrArg some (by kernel_rfl))
  f336 := Tryz.func132.trans (congrArg some (by kernel_rfl))
  f344 := Tryz.func133.trans (congrArg some (by kernel_rfl))
  t0 := Tryz.underlying0
  a0 := Tryz.isAgg0
  z0 := Tryz.sizeOf0
  v0 := Tryz.zeroValue0
  t3 := Tryz.underlying3
  a3 := Tryz.isAgg3
  z3 := Tryz.sizeOf3
  v3 := Tryz.zeroValue3
  t4 := Tryz.underlying4
  a4 := Tryz.isAgg4
  z4 := Tryz.sizeOf4
  v4 := Tryz.zeroValue4
  t5 := Tryz.underlying5
  a5 := Tryz.isAgg5
  z5 := Tryz.sizeOf5
  v5 := Tryz.zeroValue5
  t9 := Tryz.underlying9
  a9 := Tryz.isAgg9
  z9 := Tryz.sizeOf9
  v9 := Tryz.zeroValue9
  t31 := Tryz.underlying39
  a31 := Tryz.isAgg39
  z31 := Tryz.sizeOf39
  v31 := Tryz.zeroValue39
  t46 := Tryz.underlying98
  a46 := Tryz.isAgg98
  z46 := Tryz.sizeOf98
  v46 := Tryz.zeroValue98
  t51 := Tryz.underlying110
  a51 := Tryz.isAgg110
  z51 := Tryz.sizeOf110
  v51 := Tryz.zeroValue110
  t53 := Tryz.underlying36
  a53 := Tryz.isAgg36
  z53 := Tryz.sizeOf36
  v53 := Tryz.zeroValue36
  t131 := Tryz.underlying158
  a131 := Tryz.isAgg158
  z131 := Tryz.sizeOf158
  v131 := Tryz.zeroValue158
  t182 := Tryz.underlying164
  a182 := Tryz.isAgg164
  z182 := Tryz.sizeOf164
  v182 := Tryz.zeroValue164
  t183 := Tryz.underlying165
  a183 := Tryz.isAgg165
  z183 := Tryz.sizeOf165
  v183 := Tryz.zeroValue165
  t218 := Tryz.underlying173
  a218 := Tryz.isAgg173
  z218 := Tryz.sizeOf173
  v218 := Tryz.zeroValue173
  t222 := Tryz.underlying176
  a222 := Tryz.isAgg176
  z222 := Tryz.sizeOf176
  v222 := Tryz.zeroValue176
  t228 := Tryz.underlying178
  a228 := Tryz.isAgg178
  z228 := Tryz.sizeOf178
  v228 := Tryz.zeroValue178
  t229 := Tryz.underlying179
  a229 := Tryz.isAgg179
  z229 := Tryz.sizeOf179
  v229 := Tryz.zeroValue179
def Ss_ren : Go.Shelf.Ren := ⟨fun | 6 => 69 | 8 => 91 | 9 => 92 | 11 => 106 | 13 => 108 | 12 => 107 | 23 => 123 | 24 => 124 | 14 => 114 | 15 => 115 | 16 => 116 | 17 => 117 | 18 => 118 | 19 => 119 | 20 => 120 | 21 => 121 | 22 => 122 | 25 => 127 | 26 => 128 | 27 => 129 | 28 => 130 | 29 => 131 | 30 => 132 | 31 => 133 | n => n, fun | 26 => 9 | 28 => 118 | 24 => 39 | 0 => 0 | 3 => 3 | 37 => 98 | 48 => 110 | 50 => 36 | 4 => 4 | 40 => 165 | 39 => 164 | 45 => 158 | 5 => 5 | 9 => 9 | 51 => 173 | 55 => 176 | 57 => 178 | 58 => 179 | 33 => 90 | n => n, fun  | n => n⟩
theorem Ss : SlLaysZ.n6 Tryz.prog Ss_ren where
  mixed := by kernel_rfl
  f6 := ⟨Tryz.f69.name, by kernel_rfl, Tryz.func69.trans (congrArg some (by kernel_rfl))⟩
  f8 := ⟨Tryz.f91.name, by kernel_rfl, Tryz.func91.trans (congrArg some (by kernel_rfl))⟩
  f11 := ⟨Tryz.f106.name, by kernel_rfl, Tryz.func106.trans (congrArg some (by kernel_rfl))⟩
  t0 := Tryz.underlying0
  a0 := Tryz.isAgg0
  z0 := Tryz.sizeOf0
  v0 := Tryz.zeroValue0
  t24 := Tryz.underlying39
  a24 := Tryz.isAgg39
  z24 := Tryz.sizeOf39
  v24 := Tryz.zeroValue39
  t26 := Tryz.underlying9
  a26 := Tryz.isAgg9
  z26 := Tryz.sizeOf9
  v26 := Tryz.zeroValue9
  t28 := Tryz.underlying118
  a28 := Tryz.isAgg118
  z28 := Tryz.sizeOf118
  v28 := Tryz.zeroValue118
  i26 := by kernel_rfl
def Kk_ren : Go.Shelf.Ren := ⟨fun | 7 => 70 | 10 => 93 | n => n, fun | 23 => 62 | 26 => 9 | 3 => 82 | 28 => 118 | 0 => 0 | 27 => 117 | 33 => 90 | 4 => 4 | n => n, fun  | n => n⟩
theorem Kk : SlLaysZ.n7 Tryz.prog Kk_ren where
  mixed := by kernel_rfl
  f7 := ⟨Tryz.f70.name, by kernel_rfl, Tryz.func70.trans (congrArg some (by kernel_rfl))⟩
  f10 := ⟨Tryz.f93.name, by kernel_rfl, Tryz.func93.trans (congrArg some (by kernel_rfl))⟩
  t0 := Tryz.underlying0
  a0 := Tryz.isAgg0
  z0 := Tryz.sizeOf0
  v0 := Tryz.zeroValue0
  t4 := Tryz.underlying4
  a4 := Tryz.isAgg4
  z4 := Tryz.sizeOf4
  v4 := Tryz.zeroValue4
  t23 := Tryz.underlying62
  a23 := Tryz.isAgg62
  z23 := Tryz.sizeOf62
  v23 := Tryz.zeroValue62
  t26 := Tryz.underlying9
  a26 := Tryz.isAgg9
  z26 := Tryz.sizeOf9
  v26 := Tryz.zeroValue9
  t27 := Tryz.underlying117
  a27 := Tryz.isAgg117
  z27 := Tryz.sizeOf117
  v27 := Tryz.zeroValue117
  t28 := Tryz.underlying118
  a28 := Tryz.isAgg118
  z28 := Tryz.sizeOf118
  v28 := Tryz.zeroValue118
  t33 := Tryz.underlying90
  a33 := Tryz.isAgg90
  z33 := Tryz.sizeOf90
  v33 := Tryz.zeroValue90
theorem sorts (m : Nat) : AnyZ.SortsIn Tryz.prog Ss_ren Fence.wide m :=
  ⟨fun blk off cap ss W hH hblk hsz => callsIn_wide.2 (Any.slices_Sort_string SkE blk off cap ss W hH hblk hsz),
   fun p cap W => callsIn_wide.2 (Any.slices_Sort_string_none SkE p cap W)⟩
end Go.Proofs.YtfcmjomnpahllaaGreat.Lay
namespace Go.Proofs.YtfcmjomnpahllaaGreat
open Go Hv Go.RowKit Go.Shelf Go.Sort
set_option linter.unusedVariables false
set_option linter.unusedSimpArgs false
set_option maxRecDepth 10000
set_option maxHeartbeats 1000000
/-! List: the names of a disk's files, rising. -/
theorem made_callsQ {P : Program} {f : FuncId} {args : List Value} {H : Heap} {K : Value → Heap → Prop} {e : TypeId} {size : Nat} {Q : Nat → List Value → Prop}
    (h : ∀ w, Sat H w → Calls P f args.toArray w fun e' w' => ∃ v n xs, Q n xs ∧ e' = .returned v ∧ w'.ownsRow w.heap.size e size v n xs ∧ Below w.heap.size w w')
    (hk : ∀ a c n xs H', Q n xs → Made H H' e size a n c xs → K (.slice a n c) H') : HCalls P f args H K := by
  intro w hs
  refine (h w hs).mono ?_
  rintro e' w' ⟨v, n, xs, hQ, rfl, ⟨hl, ho⟩, hb⟩
  rcases ho with ⟨rfl, h0⟩ | ⟨g, cap, cur, rfl, hg, hgb, h1, h2, h3, h4⟩
  · subst h0
    have hx : xs = [] := List.eq_nil_of_length_eq_zero (by rw [hl]; simp)
    subst hx
    refine ⟨_, H, rfl, hk none 0 _ _ H hQ ⟨OwnRow.nil _ _ _, Upd.refl _ _, fun p hp => by cases hp⟩, fun b o hbo => ?_, ⟨hb.os, hb.tape, hb.output, hb.size, fun b hlt _ => hb.block b hlt, fun b h1 h2 => absurd h1 h2⟩⟩
    rw [hb.block b (hs.lt (by rw [hbo]; simp))]; exact hs b o hbo
  · have hn : H g = none := Classical.byContradiction fun hne => by have := hs.lt hne; omega
    refine ⟨_, H.upd g (.cells cur e (0, 0)), rfl, hk (some ⟨g, 0, none⟩) cap _ _ _ hQ ⟨OwnRow.made (upd_same _ _ _) h3 h1 hl fun i v hv => ?_, Upd.new hn _, fun p hp => by cases hp; exact hn⟩, fun b o hbo => ?_, ⟨hb.os, hb.tape, hb.output, hb.size, fun b hlt _ => hb.block b hlt, fun b h1 h2 => ?_⟩⟩
    · have hi : i < n * size := by rw [← hl]; exact (List.getElem?_eq_some_iff.1 hv).1
      rw [← h4, List.getElem?_take_of_lt hi, Array.getElem?_toList] at hv; exact hv
    · by_cases e1 : b = g
      · subst e1; rw [upd_same] at hbo; cases hbo; exact hgb
      · rw [upd_ne _ _ e1] at hbo
        rw [hb.block b (hs.lt (by rw [hbo]; simp))]; exact hs b o hbo
    · by_cases e1 : b = g
      · subst e1; exact hg
      · rw [upd_ne _ _ e1] at h2; exact absurd h1 h2
/-- The names of files, as lists of bytes. -/
def namesOf (fl : List Fl) : List Txt := fl.map fun f => f.name.data.toList
def rN (v : Value) : Option (DataW Unit × List MemPlace) := some (.nil, [])
def rgN (f : Fl) : Lit × DataW Unit := (.string f.name.data.toList, .nil)
theorem reads_fl {f : Fl} (h : f.name.size ≤ 32) : Go.WideElems.rd (H := Unit) Tryz.prog 9 rN f.ent.e = some (rgN f) := by
  unfold Go.WideElems.rd Fl.ent Ent.e
  have : keyOf Tryz.prog 9 (.string f.name) = some (.string f.name.data.toList) := Go.WideMaps.keyOf_string_mk Tryz.underlying9 (by unfold maxLen; omega)
  simp only [this, rN, Option.bind_some, Option.map_some, rgN]
theorem owns_fl {w : World} {H : Heap} {r c : Nat} {fl : List Fl} (hs : Sat H w) (hm : MapAt H r (fl.map Fl.ent) c) (hb : ∀ f ∈ fl, f.born < c) (hnb : (fl.map Fl.born).Nodup) (hnn : (fl.map Fl.name).Nodup) (h32 : ∀ f ∈ fl, f.name.size ≤ 32) (hlen : fl.length ≤ 1000) :
    w.ownsMap Tryz.prog 9 rN r fl.length (.map ((fl.map rgN).foldr DataW.insert [])) := by
  have e0 : (((fl.map Fl.ent).map Ent.e).toArray).toList = fl.map fun f => f.ent.e := by rw [List.toList_toArray, List.map_map]; rfl
  refine ⟨_, c, hs _ _ hm, ⟨?_, ⟨?_, ?_, ?_⟩, ?_⟩, ?_, ?_⟩
  · simp only [List.size_toArray, List.length_map]; unfold maxLen; omega
  · rw [e0]
    intro x hx
    obtain ⟨f, hf, rfl⟩ := List.mem_map.1 hx
    exact hb f hf
  · rw [e0, List.map_map]; exact hnb
  · rw [e0, List.map_map]
    have : (fl.map Fl.name).map Value.string = fl.map ((fun x => MapEntry.key x) ∘ fun f => f.ent.e) := by rw [List.map_map]; rfl
    rw [← this]
    exact List.Pairwise.map _ (fun a b (h : a ≠ b) (hab : Value.string a = Value.string b) => h (by injection hab)) hnn
  · rw [e0]
    intro x hx
    obtain ⟨f, hf, rfl⟩ := List.mem_map.1 hx
    exact ⟨_, reads_fl (h32 f hf)⟩
  · simp only [List.size_toArray, List.length_map]; exact Nat.le_refl _
  · rw [e0, List.map_map]
    congr 2
    apply List.map_congr_left
    intro f hf
    show rgN f = Go.WideElems.rg Tryz.prog 9 rN f.ent.e
    unfold Go.WideElems.rg
    rw [reads_fl (h32 f hf)]; rfl
theorem keys_fl (fl : List Fl) : (strKeys (.map ((fl.map rgN).foldr DataW.insert [] : List (Lit × DataW Unit)))).Perm (namesOf fl) := by
  show (List.map (fun (p : Lit × DataW Unit) => strOf p.1) ((fl.map rgN).foldr DataW.insert [])).Perm _
  refine ((Go.WideShapes.sorted_perm (fl.map rgN)).map _).trans ?_
  rw [List.map_map]
  exact List.Perm.of_eq rfl
section
variable {H1 H : Heap} {g r : Nat} {s : St} {fl : List Fl} {K : Value → Heap → Prop}
theorem keys_t {m : Nat} (hk : ∀ b H', H b = none → Upd [] H H' → H'.cell? ⟨b, 0, none⟩ = some (.map (some m)) → K (.func (.func 93) #[] #[.pointer (some ⟨b, 0, none⟩)]) H') : HCalls Tryz.prog 70 [.map (some m)] H K := by
  refine hcalls (fn := Tryz.f70) [] mixed Tryz.func70 rfl rfl rfl ?_
  (repeat first | refine HReg.step ?_ | refine HCode.step ?_)
  refine HNew.mk fun b hb => ?_
  (repeat first | refine HReg.step ?_ | refine HCode.step ?_)
  exact hk b _ hb (Upd.new hb _) (by rw [cell_of (upd_same _ _ _)]; rfl)
theorem dsorted_t {b c m : Nat} (hm : MapAt H m (fl.map Fl.ent) c) (hb : ∀ f ∈ fl, f.born < c) (hnb : (fl.map Fl.born).Nodup) (hnn : (fl.map Fl.name).Nodup) (h32 : ∀ f ∈ fl, f.name.size ≤ 32) (hlen : fl.length ≤ 1000) (hc : H.cell? ⟨b, 0, none⟩ = some (.map (some m)))
    (hk : ∀ a c' ns H', ns.Perm (namesOf fl) → Made H H' 9 1 a fl.length c' (txts (sortT ns)) → K (.slice a fl.length c') H') : HCalls Tryz.prog 69 [.func (.func 93) #[] #[.pointer (some ⟨b, 0, none⟩)]] H K := by
  refine made_callsQ (e := 9) (size := 1) (Q := fun n xs => n = fl.length ∧ ∃ ns, ns.Perm (namesOf fl) ∧ xs = txts (sortT ns)) (fun w hs => ?_) ?_
  · have hown := owns_fl hs hm hb hnb hnn h32 hlen
    have hsz : Maps.size (.map ((fl.map rgN).foldr DataW.insert [] : List (Lit × DataW Unit))) = fl.length := by
      show List.length _ = _
      rw [(Go.WideShapes.sorted_perm (fl.map rgN)).length_eq, List.length_map]
    have hseq : SeqGives Fence.wide 2 Tryz.prog 93 #[.pointer (some ⟨b, 0, none⟩)] encStr (fun ss => ss.Perm (strKeys (.map ((fl.map rgN).foldr DataW.insert [] : List (Lit × DataW Unit))))) (Maps.size (.map ((fl.map rgN).foldr DataW.insert [] : List (Lit × DataW Unit)))) w :=
      AnyZ.keys_gives (ρ := Lay.Kk_ren) { Lay.Kk with } Fence.wide _ trivial rfl (by omega) b m fl.length _ w (cell_sat hs hc) (hs.cell hc) hown
    have cS := AnyZ.sorted_in Lay.Ss Fence.wide 5 trivial trivial trivial trivial rfl (by omega) (Lay.sorts _) (enters_of Tryz.func92 (by kernel_rfl) rfl) 93 #[.pointer (some ⟨b, 0, none⟩)] trivial (enters_of Tryz.func93 (by kernel_rfl) rfl) _ _ (by rw [hsz]; unfold maxLen; omega) (by rw [hsz]; omega) _ hseq
    change CallsIn _ _ Tryz.prog 69 _ _ _ at cS
    refine ((callsIn_wide (n := 5)).1 cS).mono ?_
    rintro e w' ⟨v, ss, rfl, hp, hrow, _, hbe⟩
    have hp' := hp.trans (keys_fl fl)
    have hl : ss.length = fl.length := by rw [hp'.length_eq]; unfold namesOf; rw [List.length_map]
    exact ⟨v, _, _, ⟨hl, ss, hp', rfl⟩, rfl, hrow, hbe⟩
  · rintro a c' n xs H' ⟨rfl, ns, hp, rfl⟩ m'
    exact hk a c' ns H' hp m'
theorem list_t (D : DiskAt H1 H g r s fl) (h32 : ∀ k x, s.call.fs k = some x → k.size ≤ 32) (h16 : s.call.cnt ≤ 16)
    (hno : s.call.d.off = true → ∀ fl' H', DiskAt H1 H' g r s.call fl' → Stp H H' g r fl fl' → K (.tuple #[.slice none 0 0, .int .i64 62]) H')
    (hyes : s.call.d.off = false → ∀ a c ns fl' H2 H', DiskAt H1 H2 g r s.call fl' → Stp H H2 g r fl fl' → ns.Perm (namesOf fl') → Made H2 H' 9 1 a fl'.length c (txts (sortT ns)) → K (.tuple #[.slice a fl'.length c, .int .i64 0]) H') :
    HCalls Tryz.prog 50 [.pointer (some ⟨g, 0, none⟩)] H K := by
  refine hcalls (fn := Tryz.f50) [] mixed Tryz.func50 rfl rfl rfl ?_
  (repeat first | refine HReg.step ?_ | refine HCode.step ?_)
  refine HCall.mk ⟨Tryz.f68, Tryz.func68, by rfl, by rfl⟩ ?_
  refine call_t D fun fl' H2 D' S' => ?_
  (repeat first | refine HReg.step ?_ | refine HCode.step ?_)
  refine hif (fun ho => ?_) (fun ho => ?_)
  · have ho : s.call.d.off = true := by simpa using ho
    (repeat first | refine HReg.step ?_ | refine HCode.step ?_)
    exact hno ho fl' H2 D' S'
  · have ho : s.call.d.off = false := by simpa using ho
    have P := D'.phys
    obtain ⟨c, hm, hb⟩ := P.map
    (repeat first | refine HReg.step ?_ | refine HCode.step ?_)
    refine HLoad.one (v := .map (some r)) (by exact P.obj.rows.get (i := 0) rfl) ?_
    (repeat first | refine HReg.step ?_ | refine HCode.step ?_)
    refine HCall.mk ⟨Tryz.f70, Tryz.func70, by rfl, by rfl⟩ ?_
    refine keys_t fun b H3 hb3 u3 hc3 => ?_
    (repeat first | refine HReg.step ?_ | refine HCode.step ?_)
    refine HCall.mk ⟨Tryz.f69, Tryz.func69, by rfl, by rfl⟩ ?_
    refine dsorted_t (fl := fl') (mapAt_upd hm u3 (by simp)) hb P.nb P.nn (fun f hf => h32 _ _ (D'.get f hf)) (by have := D'.cnt; omega) hc3 fun a c' ns H4 hp m4 => ?_
    (repeat first | refine HReg.step ?_ | refine HCode.step ?_)
    exact hyes ho a c' ns fl' H2 H4 D' S' hp (m4.back u3)
end
end Go.Proofs.YtfcmjomnpahllaaGreat
namespace Go.Proofs.YtfcmjomnpahllaaGreat
open Go Hv
set_option linter.unusedVariables false
set_option linter.unusedSimpArgs false
set_option maxRecDepth 10000
set_option maxHeartbeats 1000000
/-! The names of a state's files; what is kept by every call. -/
structure Nms (s : St) (ns : List Txt) : Prop where
  ri : ns.Pairwise (· < ·)
  mem : ∀ t, t ∈ ns ↔ s.fs (bs t) ≠ none
theorem bs_data (k : ByteArray) : bs k.data.toList = k := rfl
theorem lt_of_le {a b : Txt} (h : a ≤ b) (hn : a ≠ b) : a < b := by
  by_cases h' : a < b
  · exact h'
  · exact absurd (List.le_antisymm h (List.not_lt.1 h')) hn
theorem Nms.of {H1 H : Heap} {g r : Nat} {s : St} {fl : List Fl} {ns : List Txt} (D : DiskAt H1 H g r s fl) (hp : ns.Perm (namesOf fl)) : Nms s (sortT ns) := by
  have hps : (sortT ns).Perm ns := List.mergeSort_perm ns _
  have hnd : (sortT ns).Nodup := by
    refine (hps.trans hp).nodup_iff.2 ?_
    unfold namesOf
    have := D.phys.nn
    rw [List.nodup_iff_pairwise_ne, List.pairwise_map] at this
    rw [List.nodup_iff_pairwise_ne, List.pairwise_map]
    exact this.imp fun h e => h (by rw [← bs_data (Fl.name _), e, bs_data])
  refine ⟨?_, fun t => ?_⟩
  · have hs : (sortT ns).Pairwise fun x y => decide (x ≤ y) = true := List.pairwise_mergeSort (fun a b c h1 h2 => by
      simp only [decide_eq_true_eq] at h1 h2 ⊢; exact List.le_trans h1 h2) (fun a b => by
      simp only [Bool.or_eq_true, decide_eq_true_eq]; exact List.le_total a b) ns
    exact (hs.and (List.nodup_iff_pairwise_ne.1 hnd)).imp fun h => lt_of_le (by simpa using h.1) h.2
  · rw [(hps.trans hp).mem_iff]
    unfold namesOf
    rw [List.mem_map]
    constructor
    · rintro ⟨f, hf, rfl⟩
      rw [bs_data, D.get f hf]; simp
    · intro h
      cases e : s.fs (bs t) with
      | none => exact absurd e h
      | some x =>
        obtain ⟨f, hf, hn⟩ := D.all _ _ e
        exact ⟨f, hf, by rw [hn]; exact bs_list t⟩
theorem sorted_uniq : ∀ {a b : List Txt}, a.Pairwise (· < ·) → b.Pairwise (· < ·) → (∀ t, t ∈ a ↔ t ∈ b) → a = b
  | [], [], _, _, _ => rfl
  | [], y :: b, _, _, h => absurd ((h y).2 List.mem_cons_self) (by simp)
  | x :: a, [], _, _, h => absurd ((h x).1 List.mem_cons_self) (by simp)
  | x :: a, y :: b, ha, hb, h => by
    rw [List.pairwise_cons] at ha hb
    have hxy : x = y := by
      rcases List.mem_cons.1 ((h x).1 List.mem_cons_self) with e | e
      · exact e
      · rcases List.mem_cons.1 ((h y).2 List.mem_cons_self) with e' | e'
        · exact e'.symm
        · exact absurd (List.lt_trans (hb.1 x e) (ha.1 y e')) (List.lt_irrefl y)
    subst hxy
    have : a = b := sorted_uniq ha.2 hb.2 fun t => by
      constructor
      · intro ht
        rcases List.mem_cons.1 ((h t).1 (List.mem_cons_of_mem _ ht)) with e | e
        · subst e; exact absurd (ha.1 t ht) (List.lt_irrefl t)
        · exact e
      · intro ht
        rcases List.mem_cons.1 ((h t).2 (List.mem_cons_of_mem _ ht)) with e | e
        · subst e; exact absurd (hb.1 t ht) (List.lt_irrefl t)
        · exact e
    rw [this]
theorem Nms.uniq {s s' : St} {a b : List Txt} (ha : Nms s a) (hb : Nms s' b) (h : ∀ k, s.fs k = none ↔ s'.fs k = none) : a = b :=
  sorted_uniq ha.ri hb.ri fun t => by rw [ha.mem, hb.mem]; exact not_congr (h _)
/-- What every call keeps: names of 1 to 32 bytes, at most 16 files, each of at most N bytes. -/
structure St.Ok (N : Nat) (s : St) : Prop where
  nm : ∀ k x, s.fs k = some x → 1 ≤ k.size ∧ k.size ≤ 32
  few : s.cnt ≤ 16
  le : ∀ k x, s.fs k = some x → x.1.length ≤ N ∧ x.2 ≤ x.1.length
theorem St.Ok.mono {N M : Nat} {s : St} (h : s.Ok N) (hn : N ≤ M) : s.Ok M := ⟨h.nm, h.few, fun k x hx => ⟨Nat.le_trans (h.le k x hx).1 hn, (h.le k x hx).2⟩⟩
theorem St.Ok.same {N : Nat} {s s' : St} (h : s.Ok N) (e : s'.fs = s.fs) (c : s'.cnt = s.cnt) : s'.Ok N := ⟨fun k x hx => h.nm k x (by rw [← e]; exact hx), by rw [c]; exact h.few, fun k x hx => h.le k x (by rw [← e]; exact hx)⟩
theorem ok0 (N : Nat) : St0.Ok N := ⟨fun k x h => by simp [St0] at h, by decide, fun k x h => by simp [St0] at h⟩
theorem crash1_le (keep : Int) {x : List UInt8 × Nat} (h : x.2 ≤ x.1.length) : (crash1 keep x).1.length = (crash1 keep x).2 ∧ (crash1 keep x).2 ≤ x.1.length := by
  have := (tail_le (keep := keep) h).1
  unfold crash1
  refine ⟨?_, this⟩
  show (x.1.take _).length = _
  rw [List.length_take]; omega
theorem St.Ok.crash {N : Nat} {s : St} (h : s.Ok N) (keep : Int) : (s.crash keep).Ok N := by
  unfold St.crash
  split
  · exact h
  · refine ⟨fun k x hx => ?_, h.few, fun k x hx => ?_⟩
    · obtain ⟨y, hy, rfl⟩ := Option.map_eq_some_iff.1 hx
      exact h.nm k y hy
    · obtain ⟨y, hy, rfl⟩ := Option.map_eq_some_iff.1 hx
      obtain ⟨h1, h2⟩ := h.le k y hy
      obtain ⟨h3, h4⟩ := crash1_le keep h2
      exact ⟨by omega, by omega⟩
theorem St.Ok.call {N : Nat} {s : St} (h : s.Ok N) : s.call.Ok N := by
  unfold St.call
  split
  · split
    · exact h.crash _
    · exact h.same rfl rfl
  · exact h
theorem St.Ok.put {N : Nat} {s : St} (h : s.Ok N) {n : ByteArray} {x : List UInt8 × Nat} (h1 : 1 ≤ n.size ∧ n.size ≤ 32) (h2 : s.fs n = none → s.cnt < 16) (h3 : x.1.length ≤ N ∧ x.2 ≤ x.1.length) : (s.put n x).Ok N := by
  refine ⟨fun k y hy => ?_, ?_, fun k y hy => ?_⟩
  · have hy : (if k = n then some x else s.fs k) = some y := hy
    split at hy
    · rename_i e; subst e; exact h1
    · exact h.nm k y hy
  · show (if (s.fs n).isSome then s.cnt else s.cnt + 1) ≤ 16
    have := h.few
    split
    · exact this
    · rename_i e
      have : s.fs n = none := by simpa using e
      exact h2 this
  · have hy : (if k = n then some x else s.fs k) = some y := hy
    split at hy
    · cases hy; exact h3
    · exact h.le k y hy
theorem St.Ok.del {N : Nat} {s : St} (h : s.Ok N) (n : ByteArray) : (s.del n).Ok N := by
  refine ⟨fun k y hy => ?_, ?_, fun k y hy => ?_⟩
  · have hy : (if k = n then none else s.fs k) = some y := hy
    split at hy
    · cases hy
    · exact h.nm k y hy
  · show (if (s.fs n).isSome then s.cnt - 1 else s.cnt) ≤ 16
    have := h.few
    split <;> omega
  · have hy : (if k = n then none else s.fs k) = some y := hy
    split at hy
    · cases hy
    · exact h.le k y hy
theorem St.Ok.append {N : Nat} {s : St} (h : s.Ok N) (n : ByteArray) (b : List UInt8) : (s.append n b).2.Ok (N + b.length) := by
  have hc := h.call.mono (Nat.le_add_right N b.length)
  unfold St.append
  simp only
  split
  · exact hc
  · split
    · exact hc
    · rename_i h1
      split
      · exact hc
      · rename_i h2
        split
        · exact hc.same rfl rfl
        · refine hc.put (Classical.not_not.1 h1) (fun e => ?_) ?_
          · exact Nat.lt_of_not_le fun h16 => h2 ⟨e, h16⟩
          · cases e : s.call.fs n with
            | none => simp
            | some x =>
              obtain ⟨h3, h4⟩ := h.call.le n x e
              simp only [Option.getD_some, List.length_append]
              omega
theorem St.Ok.has {N : Nat} {s : St} (h : s.Ok N) (n : ByteArray) {k : St → List UInt8 → Nat → Int × St} (hk : ∀ x y, s.call.fs n = some (x, y) → (k s.call x y).2.Ok N) : (s.has n k).2.Ok N := by
  unfold St.has
  simp only
  split
  · exact h.call
  · split
    · exact h.call
    · rename_i x y e
      exact hk x y e
theorem St.Ok.sync {N : Nat} {s : St} (h : s.Ok N) (n : ByteArray) : (s.sync n).2.Ok N :=
  h.has n fun x y e => h.call.put (h.call.nm n _ e) (fun h' => by rw [e] at h'; cases h') ⟨(h.call.le n _ e).1, Nat.le_refl _⟩
theorem St.Ok.cut {N : Nat} {s : St} (h : s.Ok N) (n : ByteArray) (k : Int) : (s.cut n k).2.Ok N :=
  h.has n fun x y e => by
    have hl := h.call.le n _ e
    simp only at hl
    split
    · refine h.call.put (h.call.nm n _ e) (fun h' => by rw [e] at h'; cases h') ?_
      simp only [List.length_take]
      omega
    · exact h.call
theorem St.Ok.delete {N : Nat} {s : St} (h : s.Ok N) (n : ByteArray) : (s.delete n).2.Ok N := h.has n fun x y e => h.call.del n
theorem St.Ok.size {N : Nat} {s : St} (h : s.Ok N) (n : ByteArray) : (s.size n).2.Ok N := h.has n fun x y e => h.call
theorem St.Ok.rename {N : Nat} {s : St} (h : s.Ok N) (a b : ByteArray) : (s.rename a b).2.Ok N := by
  unfold St.rename
  simp only
  split
  · exact h.call
  · split
    · exact h.call
    · rename_i h1
      split
      · exact h.call
      · rename_i x e
        refine (h.call.del a).put (Classical.not_not.1 h1) (fun _ => ?_) (h.call.le a _ e)
        show (if (s.call.fs a).isSome then s.call.cnt - 1 else s.call.cnt) < 16
        rw [e]
        have := h.call.few
        simp only [Option.isSome_some, if_true]
        omega
theorem St.Ok.upp {N : Nat} {s : St} (h : s.Ok N) : s.upp.Ok N := h.same rfl rfl
theorem St.Ok.full {N : Nat} {s : St} (h : s.Ok N) (n : Int) : (s.full n).Ok N := h.same rfl rfl
theorem St.Ok.arms {N : Nat} {s : St} (h : s.Ok N) (n k : Int) : (s.arms n k).Ok N := h.same rfl rfl
section
variable {H1 H : Heap} {g r N : Nat} {s : St} {fl : List Fl} {K : Value → Heap → Prop}
theorem list_f (D : DiskAt H1 H g r s fl) (ok : s.Ok N) (hno : s.call.d.off = true → ∀ fl' H', DiskAt H1 H' g r s.call fl' → Stp H H' g r fl fl' → K (.tuple #[.slice none 0 0, .int .i64 62]) H')
    (hyes : s.call.d.off = false → ∀ a c ns fl' H2 H', DiskAt H1 H2 g r s.call fl' → Stp H H2 g r fl fl' → Nms s.call ns → ns.length ≤ 16 → Made H2 H' 9 1 a ns.length c (txts ns) → K (.tuple #[.slice a ns.length c, .int .i64 0]) H') :
    HCalls Tryz.prog 50 [.pointer (some ⟨g, 0, none⟩)] H K := by
  refine list_t D (fun k x hx => (ok.call.nm k x hx).2) ok.call.few hno fun ho a c ns fl' H2 H' D' S' hp m => ?_
  have hl : (sortT ns).length = fl'.length := by
    have := (List.mergeSort_perm ns fun x y => decide (x ≤ y)).length_eq
    unfold sortT
    rw [this, hp.length_eq]; unfold namesOf; rw [List.length_map]
  rw [← hl] at m ⊢
  exact hyes ho a c _ fl' H2 H' D' S' (Nms.of D' hp) (by rw [hl, ← D'.cnt]; exact ok.call.few) m
end
end Go.Proofs.YtfcmjomnpahllaaGreat
namespace Go.Proofs.YtfcmjomnpahllaaGreat.Hv
open Go
set_option linter.unusedVariables false
set_option linter.unusedSimpArgs false
/-! Rows whose block may be longer than their capacity (b[:n:n]). -/
structure WRow (H : Heap) (e : TypeId) (size : Nat) (a : Option Addr) (n cap : Nat) (xs : List Value) : Prop where
  len : xs.length = n * size
  ok : (a = none ∧ n = 0 ∧ cap = 0) ∨ ∃ (g : Nat) (cur : Array Value), a = some ⟨g, 0, none⟩ ∧ H g = some (.cells cur e (0, 0)) ∧ cap * size ≤ cur.size ∧ n ≤ cap ∧ ∀ (i : Nat) (v : Value), xs[i]? = some v → cur[i]? = some v
theorem WRow.made {H : Heap} {b : Nat} {cur : Array Value} {e : TypeId} {size cap n : Nat} {xs : List Value} (h : H b = some (.cells cur e (0, 0))) (hs : cap * size ≤ cur.size) (hn : n ≤ cap) (hl : xs.length = n * size) (hx : ∀ (i : Nat) (v : Value), xs[i]? = some v → cur[i]? = some v) : WRow H e size (some ⟨b, 0, none⟩) n cap xs :=
  ⟨hl, .inr ⟨b, cur, rfl, h, hs, hn, hx⟩⟩
theorem WRow.nil (H : Heap) (e : TypeId) (size : Nat) : WRow H e size none 0 0 [] := ⟨by simp, .inl ⟨rfl, rfl, rfl⟩⟩
theorem OwnRow.wide {H : Heap} {e : TypeId} {size n cap : Nat} {a : Option Addr} {xs : List Value} (h : OwnRow H e size a n cap xs) : WRow H e size a n cap xs := by
  refine ⟨h.len, ?_⟩
  rcases h.ok with h' | ⟨g, cur, ha, hg, h1, h2, h3⟩
  · exact .inl h'
  · exact .inr ⟨g, cur, ha, hg, Nat.le_of_eq h1.symm, h2, h3⟩
theorem WRow.rows {H : Heap} {e : TypeId} {size : Nat} {a : Option Addr} {n cap : Nat} {xs : List Value} (h : WRow H e size a n cap xs) : RowAt H a xs := fun i v hi => by
  rcases h.ok with ⟨ha, hn, _⟩ | ⟨g, cur, ha, hg, _, _, h3⟩
  · have hl := h.len
    rw [hn, Nat.zero_mul] at hl
    rw [List.length_eq_zero_iff.1 hl] at hi
    cases hi
  · exact ⟨g, 0, ha, by rw [cell_of hg, Nat.zero_add]; exact h3 i v hi⟩
theorem WRow.upd {S : List Nat} {H H' : Heap} {e : TypeId} {size : Nat} {a : Option Addr} {n cap : Nat} {xs : List Value} (h : WRow H e size a n cap xs) (hu : Upd S H H') (ho : Off S a) : WRow H' e size a n cap xs := by
  refine ⟨h.len, ?_⟩
  rcases h.ok with h' | ⟨g, cur, ha, hg, h1, h2, h3⟩
  · exact .inl h'
  · refine .inr ⟨g, cur, ha, ?_, h1, h2, h3⟩
    rw [hu g (ho _ ha) (by simp [hg])]; exact hg
theorem WRow.le {H : Heap} {e : TypeId} {size : Nat} {a : Option Addr} {n cap : Nat} {xs : List Value} (h : WRow H e size a n cap xs) : n ≤ cap := by
  rcases h.ok with ⟨_, h1, h2⟩ | ⟨_, _, _, _, _, h2, _⟩
  · omega
  · exact h2
theorem WRow.live {H : Heap} {e : TypeId} {size : Nat} {a : Option Addr} {n cap : Nat} {xs : List Value} (h : WRow H e size a n cap xs) : ∀ b ∈ blk a, ∃ c f, H b = some (.cells c e f) := fun b hb => by
  obtain ⟨p, hp, rfl⟩ := blk_of hb
  rcases h.ok with ⟨ha, _⟩ | ⟨g, cur, ha, hg, _⟩
  · rw [ha] at hp; cases hp
  · rw [ha] at hp; cases hp; exact ⟨_, _, hg⟩
/-- b[:m:m] -/
theorem WRow.cut {H : Heap} {e : TypeId} {size n cap m : Nat} {a : Option Addr} {xs : List Value} (h : WRow H e size a n cap xs) (hm : m ≤ n) : WRow H e size a m m (xs.take (m * size)) := by
  have hl := h.len
  have h1 := Nat.mul_le_mul_right size hm
  refine ⟨by rw [List.length_take]; omega, ?_⟩
  rcases h.ok with ⟨ha, hn, _⟩ | ⟨g, cur, ha, hg, h2, h3, h4⟩
  · exact .inl ⟨ha, by omega, by omega⟩
  · refine .inr ⟨g, cur, ha, hg, Nat.le_trans (Nat.mul_le_mul_right _ (Nat.le_trans hm h3)) h2, Nat.le_refl _, fun i v hi => ?_⟩
    rw [List.getElem?_take] at hi
    split at hi
    · exact h4 i v hi
    · cases hi
section
variable {P : Program}
theorem swp_appendW {t e ty : TypeId} {ie : TypeInfo} {z : Value} {xt : TypeId} {xd : TypeDesc} {a : Option Addr} {n cap m : Nat} {x : Value} {xs ys : List Value} {H : Heap} {K : Value → Heap → Prop}
    (ht : P.underlying t = some (.slice e)) (hi : P.info? e = some ie) (hz : ie.zero = some z) (hzs : z.cells.size = ie.size) (hs0 : 0 < ie.size)
    (hxt : P.underlying xt = some xd) (hxd : ∀ k, xd ≠ .int k)
    (hlen : ∀ K H, K m H → swp P (Builtin.lenOf x) K H) (hload : ∀ (K : Array Value → Heap → Prop), K ys.toArray H → swp P (Builtin.firstCells ie.size m x) K H)
    (ho : WRow H e ie.size a n cap xs) (hyl : ys.length = m * ie.size) (hyp : ∀ v ∈ ys, Value.plain v = true)
    (hlim : (n + m) * ie.bytes ≤ 140737488355328) (hmax : n + m ≤ 4611686018427387904)
    (h : ∀ a' cap' H', WRow H' e ie.size a' (n + m) cap' (xs ++ ys) → Upd (blk a) H H' → (∀ p, a' = some p → a = some p ∨ H p.block = none) → (n + m ≤ cap → a' = a ∧ cap' = cap) ∧ (¬ n + m ≤ cap → Upd [] H H' ∧ ∀ p, a' = some p → H p.block = none) → K (.slice a' (n + m) cap') H') :
    swp P (Builtin.append_ #[t, xt] ty #[.slice a n cap, x]) K H := by
  unfold Builtin.append_
  simp only [List.getElem?_toArray, List.getElem?_cons_zero, List.getElem?_cons_succ]
  rw [swp_bind, swp_underlying ht]
  dsimp only
  rw [swp_bind, swp_sizeOf hi]
  rw [swp_bind, swp_underlying hxt, swp_bind]
  refine swp_pure_at (y := false) (by cases xd <;> first | rfl | exact absurd rfl (hxd _)) ?_
  simp only [Bool.false_eq_true, if_false, Bool.not_false, if_true]
  rw [swp_bind]
  refine hlen _ _ ?_
  by_cases hroom : n + m ≤ cap
  · rw [if_pos hroom, swp_bind]
    refine hload _ ?_
    rcases ho.ok with ⟨ha, hn, hc⟩ | ⟨g, cur, ha, hg, h1, h2, h3⟩
    · subst ha
      have hm : m = 0 := by omega
      subst hm
      have hys : ys = [] := List.length_eq_zero_iff.1 (by simpa using hyl)
      subst hys
      refine h none cap H ?_ (Upd.refl _ _) (fun p hp => by cases hp) ⟨fun _ => ⟨rfl, rfl⟩, fun hf => absurd hroom hf⟩
      simpa using ho
    · subst ha
      show swp P (do storeCells ((⟨g, 0, none⟩ : Addr).add (n * ie.size)) ys.toArray.toList; pure (Value.slice (some ⟨g, 0, none⟩) (n + m) cap)) K H
      rw [swp_bind, Addr.add_lit, Nat.zero_add]
      have hfit : n * ie.size + ys.length ≤ cur.size := by
        rw [hyl, ← Nat.add_mul]; exact Nat.le_trans (Nat.mul_le_mul_right _ hroom) h1
      refine swp_storeCells_own ys 0 cur H hg (by simpa using hfit) hyp ?_
      refine h _ cap _ (WRow.made (upd_same _ _ _) (by rw [writeAt_size]; exact h1) hroom ?_ ?_) (Upd.upd (by simp [blk]) _) (fun p hp => .inl hp) ⟨fun _ => ⟨rfl, rfl⟩, fun hf => absurd hroom hf⟩
      · rw [List.length_append, ho.len, hyl, Nat.add_mul]
      · intro i v hi
        rw [Nat.add_zero, writeAt_get _ _ _ _ hfit]
        have hxl := ho.len
        by_cases hlt : i < xs.length
        · rw [List.getElem?_append_left hlt] at hi
          rw [if_neg (by omega)]; exact h3 i v hi
        · rw [List.getElem?_append_right (by omega), hxl] at hi
          have := (List.getElem?_eq_some_iff.1 hi).1
          rw [if_pos (by omega)]; exact hi
  · rw [if_neg hroom]
    rw [swp_bind, swp_typeInfo hi]
    have hneed : cap < n + m := by omega
    have c1 : ¬ (((n + m : Nat) : Int) > IntKind.i64.max ∧ (False ∨ ie.bytes = 0)) := by
      rintro ⟨h1, _⟩; rw [IntKind.max_i64] at h1; omega
    rw [if_neg c1, swp_bind, swp_typeInfo hi]
    have hg := growslice_fits (bytes := ie.bytes) hneed hlim
    have c2 : ¬ (Builtin.nextslicecap (n + m) cap * ie.bytes > 2 ^ 48) := by omega
    rw [if_neg c2, swp_bind]
    have ask : ∀ (n : Nat) (K : Unit → Heap → Prop), K () H → swp P (askRoom n) K H := fun n K hk => by unfold askRoom; split <;> exact hk
    show swp P (choose (.appendCap (n + m) cap e)) _ H
    unfold choose
    show (if (Question.appendCap (n + m) cap e).forced then _ else ∀ t, _)
    rw [if_neg (by simp [Question.forced])]
    intro tt
    show swp P _ K H
    obtain ⟨newCap, hnc, hle⟩ : ∃ c, (Question.appendCap (n + m) cap e).cut tt = c ∧ n + m ≤ c := ⟨_, rfl, by simp [Question.cut]⟩
    rw [hnc, swp_bind, swp_typeInfo hi, swp_bind]
    refine ask _ _ ?_
    rw [swp_bind]
    have hold : ∀ K : Array Value → Heap → Prop, K xs.toArray H → swp P (Builtin.firstCells ie.size n (.slice a n cap)) K H := fun K hk => by
      cases ha : a with
      | none =>
        rcases ho.ok with ⟨_, hn, _⟩ | ⟨g, cur, ha', _⟩
        · have hl := ho.len
          rw [hn, Nat.zero_mul] at hl
          have := List.length_eq_zero_iff.1 hl
          subst this; exact hk
        · rw [ha] at ha'; cases ha'
      | some p =>
        show swp P (loadCells p (n * ie.size)) K H
        rw [← ho.len]
        exact swp_loadCells rfl (ha ▸ ho.rows) hk
    refine hold _ ?_
    rw [swp_bind]
    refine hload _ ?_
    rw [swp_bind, swp_zeroValue hi hz, swp_bind]
    refine swp_newRow fun b hb => ?_
    have hzc : (Builtin.zeroCells z.cells (newCap - (n + m))).size = (newCap - (n + m)) * ie.size := by simp [Builtin.zeroCells, hzs]
    refine h _ newCap _ (WRow.made (upd_same _ _ _) ?_ hle ?_ ?_) (Upd.new hb _) (fun p hp => .inr (by cases hp; exact hb)) ⟨fun hf => absurd hf hroom, fun _ => ⟨Upd.new hb _, fun p hp => by cases hp; exact hb⟩⟩
    · apply Nat.le_of_eq
      simp only [Array.size_append, List.size_toArray, hzc, ho.len, hyl]
      rw [← Nat.add_mul, ← Nat.add_mul]; congr 1; omega
    · rw [List.length_append, ho.len, hyl, Nat.add_mul]
    · intro i v hi
      rw [Array.getElem?_append_left (by simp [(List.getElem?_eq_some_iff.1 hi).1]; have := (List.getElem?_eq_some_iff.1 hi).1; simpa using this)]
      simpa using hi
theorem append_rowsW {t e ty : TypeId} {ie : TypeInfo} {z : Value} {a b : Option Addr} {n cap m c : Nat} {xs ys : List Value} {H : Heap} {K : Value → Heap → Prop}
    (ht : P.underlying t = some (.slice e)) (hi : P.info? e = some ie) (hz : ie.zero = some z) (hzs : z.cells.size = ie.size) (hs0 : 0 < ie.size)
    (ho : WRow H e ie.size a n cap xs) (hy : RowAt H b ys) (hyl : ys.length = m * ie.size) (hyp : ∀ v ∈ ys, Value.plain v = true)
    (hlim : (n + m) * ie.bytes ≤ 140737488355328) (hmax : n + m ≤ 4611686018427387904)
    (h : ∀ a' cap' H', WRow H' e ie.size a' (n + m) cap' (xs ++ ys) → Upd (blk a) H H' → (∀ p, a' = some p → a = some p ∨ H p.block = none) → (n + m ≤ cap → a' = a ∧ cap' = cap) ∧ (¬ n + m ≤ cap → Upd [] H H' ∧ ∀ p, a' = some p → H p.block = none) → K (.slice a' (n + m) cap') H') :
    HSem P (Builtin.append_ #[t, t] ty [.slice a n cap, .slice b m c].toArray) H K := by
  refine HSem.of_swp (swp_appendW (x := .slice b m c) ht hi hz hzs hs0 ht (by simp) (fun K H hk => hk) (fun K hk => ?_) ho hyl hyp hlim hmax h)
  cases hb : b with
  | none =>
    have hys : ys = [] := by
      cases ys with
      | nil => rfl
      | cons y ys => obtain ⟨_, _, hh, _⟩ := hy 0 y rfl; rw [hb] at hh; cases hh
    subst hys; exact hk
  | some p =>
    show swp P (loadCells p (m * ie.size)) K H
    rw [← hyl]
    exact swp_loadCells rfl (hb ▸ hy) hk
end
end Go.Proofs.YtfcmjomnpahllaaGreat.Hv
namespace Go.Proofs.YtfcmjomnpahllaaGreat
open Go Hv
set_option linter.unusedVariables false
set_option linter.unusedSimpArgs false
set_option maxRecDepth 10000
set_option maxHeartbeats 2000000
theorem HNew.as {H : Heap} {o o' : Obj} {K : Nat → Heap → Prop} (e : o = o') (h : ∀ b, H b = none → K b (H.upd b o')) : HNew H o K := by rw [e]; exact HNew.mk h
/-! The document's disk in memory. -/
structure RFl where
  name : Txt
  a : Option Addr
  c : Nat
  bytes : List UInt8
  synced : Nat
def RFl.cells (f : RFl) : List Value := [.string (bs f.name), .slice f.a f.bytes.length f.c, .int .i64 (f.synced : Int)]
def rfV : List RFl → List Value
  | [] => []
  | f :: fs => f.cells ++ rfV fs
theorem rfV_length : ∀ fs, (rfV fs).length = fs.length * 3
  | [] => rfl
  | f :: fs => by
    show (f.cells ++ rfV fs).length = _
    rw [List.length_append, rfV_length fs, List.length_cons]
    show 3 + _ = _; omega
theorem rfV_append : ∀ a b, rfV (a ++ b) = rfV a ++ rfV b
  | [], b => rfl
  | f :: a, b => by
    show f.cells ++ rfV (a ++ b) = f.cells ++ rfV a ++ rfV b
    rw [rfV_append a b, List.append_assoc]
theorem rfV_get : ∀ {fs : List RFl} {i : Nat} {f : RFl}, fs[i]? = some f → ∀ (k : Nat) v, f.cells[k]? = some v → (rfV fs)[i * 3 + k]? = some v
  | [], i, f, h => by simp at h
  | p :: fs, 0, f, h => fun k v hk => by
    simp at h; subst h
    have : k < p.cells.length := (List.getElem?_eq_some_iff.1 hk).1
    show (p.cells ++ rfV fs)[0 * 3 + k]? = _
    rw [Nat.zero_mul, Nat.zero_add, List.getElem?_append_left this]; exact hk
  | p :: fs, i + 1, f, h => fun k v hk => by
    have ih := rfV_get (fs := fs) (i := i) (f := f) (by simpa using h) k v hk
    have e : p.cells.length = 3 := rfl
    show (p.cells ++ rfV fs)[(i + 1) * 3 + k]? = _
    rw [List.getElem?_append_right (by rw [e]; omega), e]
    have e2 : (i + 1) * 3 + k - 3 = i * 3 + k := by omega
    rw [e2]; exact ih
theorem plain_rf (fs : List RFl) : ∀ v ∈ rfV fs, Value.plain v = true := by
  induction fs with
  | nil => intro v hv; simp [rfV] at hv
  | cons q qs ih =>
    intro v hv
    rcases List.mem_append.1 hv with hv | hv
    · have hv : v ∈ [Value.string (bs q.name), .slice q.a q.bytes.length q.c, .int .i64 (q.synced : Int)] := hv
      simp only [List.mem_cons, List.not_mem_nil, or_false] at hv
      rcases hv with rfl | rfl | rfl <;> rfl
    · exact ih v hv
theorem HLoadN_rf {H : Heap} {b off i : Nat} {fs : List RFl} {f : RFl} {K : List Value → Prop} (h : RowAt H (some ⟨b, off, none⟩) (rfV fs)) (hf : fs[i]? = some f) (hk : K f.cells) : HLoadN [H] b (off + i * 3) 3 K :=
  ⟨f.cells, fun H' hH j v hv => by
    rw [List.mem_singleton.1 hH, Nat.add_assoc]
    exact h.get (rfV_get hf j v hv), rfl, hk⟩
def RFl.bl (f : RFl) : List Nat := blk f.a
def rdcells (aF : Option Addr) (n cF : Nat) (off : Bool) (rf cl st : Int) : List Value := [.slice aF n cF, .bool off, .int .i64 rf, .int .i64 cl, .int .i64 st]
def rblk (g : Nat) (aF : Option Addr) (fs : List RFl) : List Nat := g :: (blk aF ++ fs.flatMap RFl.bl)
theorem mem_rblk {g b : Nat} {aF : Option Addr} {fs : List RFl} : b ∈ rblk g aF fs ↔ b = g ∨ b ∈ blk aF ∨ ∃ f ∈ fs, b ∈ f.bl := by
  unfold rblk
  rw [List.mem_cons, List.mem_append, List.mem_flatMap]
/-- How the document's disk says that it is armed. -/
def Armed (s : St) (cl st : Int) : Prop := (s.d.armed = true ∧ 0 ≤ s.d.calls ∧ cl = s.d.calls ∧ st = s.d.keep) ∨ (s.d.armed = false ∧ cl = -1)
structure RIn (H1 H : Heap) (g : Nat) (s : St) (fs : List RFl) (aF : Option Addr) (cF : Nat) (cl st : Int) : Prop where
  obj : OwnRow H 67 1 (some ⟨g, 0, none⟩) 5 5 (rdcells aF fs.length cF s.d.off s.d.refuses cl st)
  row : OwnRow H 87 3 aF fs.length cF (rfV fs)
  byt : ∀ f ∈ fs, WRow H 5 1 f.a f.bytes.length f.c (u8s f.bytes)
  ap : ∀ (i j : Nat) f f', i ≠ j → fs[i]? = some f → fs[j]? = some f' → ∀ b ∈ f.bl, b ∉ f'.bl
  new : ∀ b ∈ rblk g aF fs, H1 b = none
  base : Upd [] H1 H
  ri : (fs.map RFl.name).Pairwise (· < ·)
  get : ∀ f ∈ fs, s.fs (bs f.name) = some (f.bytes, f.synced)
  all : ∀ k x, s.fs k = some x → ∃ f ∈ fs, bs f.name = k
  syn : ∀ f ∈ fs, f.synced ≤ f.bytes.length
  cnt : s.cnt = fs.length
  arm : Armed s cl st
  hi : s.d.calls ≤ 9223372036854775807
  rhi : s.d.refuses ≤ 9223372036854775807
theorem RIn.live {H1 H : Heap} {g : Nat} {s : St} {fs : List RFl} {aF : Option Addr} {cF : Nat} {cl st : Int} (R : RIn H1 H g s fs aF cF cl st) : ∀ b ∈ rblk g aF fs, H b ≠ none := fun b hb => by
  rcases mem_rblk.1 hb with rfl | h | ⟨f, hf, h⟩
  · obtain ⟨c, z, e⟩ := own_live R.obj; rw [e]; simp
  · obtain ⟨p, hp, rfl⟩ := blk_of h; exact R.row.there hp
  · obtain ⟨c, z, e⟩ := (R.byt f hf).live b h; rw [e]; simp
theorem RIn.upd {H1 H H' : Heap} {g : Nat} {s : St} {fs : List RFl} {aF : Option Addr} {cF : Nat} {cl st : Int} {T : List Nat} (R : RIn H1 H g s fs aF cF cl st) (u : Upd T H H') (hd : ∀ b ∈ T, b ∉ rblk g aF fs) (hn : ∀ b ∈ T, H1 b = none) : RIn H1 H' g s fs aF cF cl st :=
  ⟨R.obj.upd u (fun p hp hb => by cases hp; exact hd g hb (mem_rblk.2 (.inl rfl))), R.row.upd u (off_notin fun b hb hm => hd b hm (mem_rblk.2 (.inr (.inl hb)))), fun f hf => (R.byt f hf).upd u (off_notin fun b hb hm => hd b hm (mem_rblk.2 (.inr (.inr ⟨f, hf, hb⟩)))), R.ap, R.new, Upd.drop R.base u hn, R.ri, R.get, R.all, R.syn, R.cnt, R.arm, R.hi, R.rhi⟩
theorem RIn.upd0 {H1 H H' : Heap} {g : Nat} {s : St} {fs : List RFl} {aF : Option Addr} {cF : Nat} {cl st : Int} (R : RIn H1 H g s fs aF cF cl st) (u : Upd [] H H') : RIn H1 H' g s fs aF cF cl st := R.upd u (fun b hb => by simp at hb) (fun b hb => by simp at hb)
/-- A change inside of blocks B, which become B'. -/
structure Stq (H H' : Heap) (B B' : List Nat) : Prop where
  upd : Upd B H H'
  sub : ∀ b ∈ B', b ∈ B ∨ H b = none
theorem Stq.refl (H : Heap) (B : List Nat) : Stq H H B B := ⟨Upd.refl _ _, fun b hb => .inl hb⟩
theorem Stq.trans {H H' H'' : Heap} {B B' B'' : List Nat} (h : Stq H H' B B') (k : Stq H' H'' B' B'') : Stq H H'' B B'' := by
  refine ⟨upd_join h.upd k.upd h.sub, fun b hb => ?_⟩
  rcases k.sub b hb with h1 | h1
  · exact h.sub b h1
  · by_cases hB : b ∈ B
    · exact .inl hB
    · exact .inr (Classical.byContradiction fun hn => hn (by rw [← h.upd b hB hn]; exact h1))
theorem Stq.new0 {H H' : Heap} {B : List Nat} (u : Upd [] H H') : Stq H H' B B := ⟨u.mono (fun k hk => by simp at hk), fun b hb => .inl hb⟩
/-- The disk of the document, at g, in the blocks B. -/
def GAt (H1 H : Heap) (g : Nat) (s : St) (B : List Nat) : Prop := ∃ fs aF cF cl st, RIn H1 H g s fs aF cF cl st ∧ B = rblk g aF fs
theorem GAt.upd0 {H1 H H' : Heap} {g : Nat} {s : St} {B : List Nat} (R : GAt H1 H g s B) (u : Upd [] H H') : GAt H1 H' g s B := by
  obtain ⟨fs, aF, cF, cl, st, r, e⟩ := R; exact ⟨fs, aF, cF, cl, st, r.upd0 u, e⟩
theorem GAt.upd {H1 H H' : Heap} {g : Nat} {s : St} {B T : List Nat} (R : GAt H1 H g s B) (u : Upd T H H') (hd : ∀ b ∈ T, b ∉ B) (hn : ∀ b ∈ T, H1 b = none) : GAt H1 H' g s B := by
  obtain ⟨fs, aF, cF, cl, st, r, e⟩ := R; subst e; exact ⟨fs, aF, cF, cl, st, r.upd u hd hn, rfl⟩
theorem GAt.live {H1 H : Heap} {g : Nat} {s : St} {B : List Nat} (R : GAt H1 H g s B) : ∀ b ∈ B, H b ≠ none := by
  obtain ⟨fs, aF, cF, cl, st, r, e⟩ := R; subst e; exact r.live
theorem GAt.old {H1 H : Heap} {g : Nat} {s : St} {B : List Nat} (R : GAt H1 H g s B) : ∀ b ∈ B, H1 b = none := by
  obtain ⟨fs, aF, cF, cl, st, r, e⟩ := R; subst e; exact r.new
theorem GAt.base {H1 H : Heap} {g : Nat} {s : St} {B : List Nat} (R : GAt H1 H g s B) : Upd [] H1 H := by
  obtain ⟨fs, aF, cF, cl, st, r, e⟩ := R; exact r.base
/-- The object's cells change; the files stay. -/
theorem RIn.setd {H1 H H' : Heap} {g : Nat} {s s' : St} {fs : List RFl} {aF : Option Addr} {cF : Nat} {cl st cl' st' : Int} (R : RIn H1 H g s fs aF cF cl st) (u : Upd [g] H H') (o : OwnRow H' 67 1 (some ⟨g, 0, none⟩) 5 5 (rdcells aF fs.length cF s'.d.off s'.d.refuses cl' st'))
    (hf : s'.fs = s.fs) (hc : s'.cnt = s.cnt) (ha : Armed s' cl' st') (h1 : s'.d.calls ≤ 9223372036854775807) (h2 : s'.d.refuses ≤ 9223372036854775807) : RIn H1 H' g s' fs aF cF cl' st' := by
  have hg : ∀ b ∈ blk aF, b ∉ [g] := fun b hb hm => by
    rw [List.mem_singleton.1 hm] at hb
    obtain ⟨c, z, e⟩ := own_live R.obj
    exact R.row.notT (by decide) g hb _ _ e
  have hgb : ∀ f ∈ fs, ∀ b ∈ f.bl, b ∉ [g] := fun f hf b hb hm => by
    rw [List.mem_singleton.1 hm] at hb
    obtain ⟨c, z, e⟩ := own_live R.obj
    obtain ⟨c', z', e'⟩ := (R.byt f hf).live g hb
    rw [e] at e'; cases e'
  exact ⟨o, R.row.upd u (off_notin hg), fun f hf => (R.byt f hf).upd u (off_notin (hgb f hf)), R.ap, R.new, Upd.drop R.base u (fun b hb => by rw [List.mem_singleton.1 hb]; exact R.new g (mem_rblk.2 (.inl rfl))), R.ri, fun f hf' => by rw [hf]; exact R.get f hf', fun k x hx => R.all k x (by rw [← hf]; exact hx), R.syn, by rw [hc]; exact R.cnt, ha, h1, h2⟩
theorem Stq.g {H H' : Heap} {g : Nat} {aF : Option Addr} {fs : List RFl} (u : Upd [g] H H') : Stq H H' (rblk g aF fs) (rblk g aF fs) :=
  ⟨u.mono (fun k hk => by rw [List.mem_singleton.1 hk]; exact mem_rblk.2 (.inl rfl)), fun b hb => .inl hb⟩
end Go.Proofs.YtfcmjomnpahllaaGreat
namespace Go.Proofs.YtfcmjomnpahllaaGreat
open Go Hv
set_option linter.unusedVariables false
set_option linter.unusedSimpArgs false
set_option maxRecDepth 10000
set_option maxHeartbeats 2000000
/-! The document's disk: New, Up, Down, Full, Arm, named. -/
section
variable {H1 H : Heap} {g : Nat} {s : St} {B : List Nat} {K : Value → Heap → Prop}
theorem rnew_t (hk : ∀ g B H', GAt H H' g St0 B → Upd [] H H' → K (.pointer (some ⟨g, 0, none⟩)) H') : HCalls Tryz.prog 6 [] H K := by
  refine hcalls (fn := Tryz.f6) [] mixed Tryz.func6 rfl rfl rfl ?_
  (repeat first | refine HReg.step ?_ | refine HCode.step ?_)
  refine HNew.as (o' := .cells (rdcells none 0 0 false 0 (-1) 0).toArray 67) rfl fun b hb => ?_
  have u : Upd [] H (H.upd b (.cells (rdcells none 0 0 false 0 (-1) 0).toArray 67)) := Upd.new hb _
  have o : OwnRow (H.upd b (.cells (rdcells none 0 0 false 0 (-1) 0).toArray 67)) 67 1 (some ⟨b, 0, none⟩) 5 5 (rdcells none 0 0 false 0 (-1) 0) := OwnRow.lit (upd_same _ _ _) rfl
  generalize H.upd b (.cells (rdcells none 0 0 false 0 (-1) 0).toArray 67) = H2 at u o ⊢
  (repeat first | refine HReg.step ?_ | refine HCode.step ?_)
  refine hk b [b] H2 ⟨[], none, 0, -1, 0, ⟨o, OwnRow.nil _ _ _, fun f hf => by simp at hf, fun i j f f' _ h => by simp at h, fun x hx => ?_, u, List.Pairwise.nil, fun f hf => by simp at hf, fun k x hx => by simp [St0] at hx, fun f hf => by simp at hf, rfl, .inr ⟨rfl, rfl⟩, by decide, by decide⟩, rfl⟩ u
  rcases mem_rblk.1 hx with rfl | h | ⟨f, hf, _⟩
  · exact hb
  · simp [blk] at h
  · simp at hf
theorem rdown_t (R : GAt H1 H g s B) (hk : K (.bool s.d.off) H) : HCalls Tryz.prog 28 [.pointer (some ⟨g, 0, none⟩)] H K := by
  obtain ⟨fs, aF, cF, cl, st, r, e⟩ := R
  refine hcalls (fn := Tryz.f28) [] mixed Tryz.func28 rfl rfl rfl ?_
  (repeat first | refine HReg.step ?_ | refine HCode.step ?_)
  refine HLoad.one (v := .bool s.d.off) (by exact r.obj.rows.get (i := 1) rfl) ?_
  (repeat first | refine HReg.step ?_ | refine HCode.step ?_)
  exact hk
theorem rup_t (R : GAt H1 H g s B) (hk : ∀ H', GAt H1 H' g s.upp B → Stq H H' B B → K (.tuple #[]) H') : HCalls Tryz.prog 26 [.pointer (some ⟨g, 0, none⟩)] H K := by
  obtain ⟨fs, aF, cF, cl, st, r, rfl⟩ := R
  refine hcalls (fn := Tryz.f26) [] mixed Tryz.func26 rfl rfl rfl ?_
  (repeat first | refine HReg.step ?_ | refine HCode.step ?_)
  refine store_row r.obj (v := .bool false) rfl (i := 1) (by decide) (by rfl) fun H4 o4 u4 => ?_
  (repeat first | refine HReg.step ?_ | refine HCode.step ?_)
  refine store_row o4 (v := .int .i64 (-1)) rfl (i := 3) (by decide) (by rfl) fun H5 o5 u5 => ?_
  (repeat first | refine HReg.step ?_ | refine HCode.step ?_)
  have u := u4.trans u5
  exact hk H5 ⟨fs, aF, cF, -1, st, r.setd (s' := s.upp) u o5 rfl rfl (.inr ⟨rfl, rfl⟩) r.hi r.rhi, rfl⟩ (Stq.g u)
theorem rfull_t {n : Int} (R : GAt H1 H g s B) (hn : n ≤ 9223372036854775807) (hk : ∀ H', GAt H1 H' g (s.full n) B → Stq H H' B B → K (.tuple #[]) H') : HCalls Tryz.prog 22 [.pointer (some ⟨g, 0, none⟩), .int .i64 n] H K := by
  obtain ⟨fs, aF, cF, cl, st, r, rfl⟩ := R
  refine hcalls (fn := Tryz.f22) [] mixed Tryz.func22 rfl rfl rfl ?_
  (repeat first | refine HReg.step ?_ | refine HCode.step ?_)
  rw [ite_mx, ite_max]
  refine store_row r.obj (v := .int .i64 (max n 0)) rfl (i := 2) (by decide) (by rfl) fun H4 o4 u4 => ?_
  (repeat first | refine HReg.step ?_ | refine HCode.step ?_)
  exact hk H4 ⟨fs, aF, cF, cl, st, r.setd (s' := s.full n) u4 o4 rfl rfl r.arm r.hi (by show max n 0 ≤ _; omega), rfl⟩ (Stq.g u4)
theorem rarm_t {n keep : Int} (R : GAt H1 H g s B) (h2 : n ≤ 9223372036854775807) (hk : ∀ H', GAt H1 H' g (s.arms n keep) B → Stq H H' B B → K (.tuple #[]) H') : HCalls Tryz.prog 20 [.pointer (some ⟨g, 0, none⟩), .int .i64 n, .int .i64 keep] H K := by
  obtain ⟨fs, aF, cF, cl, st, r, rfl⟩ := R
  refine hcalls (fn := Tryz.f20) [] mixed Tryz.func20 rfl rfl rfl ?_
  (repeat first | refine HReg.step ?_ | refine HCode.step ?_)
  rw [ite_mx, ite_max]
  refine store_row r.obj (v := .int .i64 (max n (-1))) rfl (i := 3) (by decide) (by rfl) fun H4 o4 u4 => ?_
  (repeat first | refine HReg.step ?_ | refine HCode.step ?_)
  refine store_row o4 (v := .int .i64 keep) rfl (i := 4) (by decide) (by rfl) fun H5 o5 u5 => ?_
  (repeat first | refine HReg.step ?_ | refine HCode.step ?_)
  have u := u4.trans u5
  have ha : Armed (s.arms n keep) (max n (-1)) keep := by
    by_cases h : 0 ≤ n
    · exact .inl ⟨decide_eq_true h, h, by show max n (-1) = n; omega, rfl⟩
    · exact .inr ⟨decide_eq_false h, by omega⟩
  exact hk H5 ⟨fs, aF, cF, _, _, r.setd (s' := s.arms n keep) u o5 rfl rfl ha h2 r.rhi, rfl⟩ (Stq.g u)
theorem rnamed_t {n : ByteArray} (hk : K (.bool (decide (1 ≤ n.size ∧ n.size ≤ 32))) H) : HCalls Tryz.prog 47 [.string n] H K := by
  refine hcalls (fn := Tryz.f47) [] mixed Tryz.func47 rfl rfl rfl ?_
  (repeat first | refine HReg.step ?_ | refine HCode.step ?_)
  by_cases h1 : 1 ≤ n.size
  · rw [ltB_false.2 (show (1 : Int) ≤ (n.size : Int) by omega)]
    (repeat first | refine HReg.step ?_ | refine HCode.step ?_)
    by_cases h2 : n.size ≤ 32
    · rw [ltB_false.2 (show (n.size : Int) ≤ 32 by omega)]
      (repeat first | refine HReg.step ?_ | refine HCode.step ?_)
      rw [decide_eq_true ⟨h1, h2⟩] at hk
      exact hk
    · rw [ltB_true.2 (show (32 : Int) < (n.size : Int) by omega)]
      (repeat first | refine HReg.step ?_ | refine HCode.step ?_)
      rw [decide_eq_false (fun h => h2 h.2)] at hk
      exact hk
  · rw [ltB_true.2 (show (n.size : Int) < 1 by omega)]
    (repeat first | refine HReg.step ?_ | refine HCode.step ?_)
    rw [decide_eq_false (fun h => h1 h.1)] at hk
    exact hk
end
end Go.Proofs.YtfcmjomnpahllaaGreat
namespace Go.Proofs.YtfcmjomnpahllaaGreat
open Go Hv
set_option linter.unusedVariables false
set_option linter.unusedSimpArgs false
set_option maxRecDepth 10000
set_option maxHeartbeats 4000000
/-! The document's disk: Crash, counted. CUT2 -/
theorem Hv.OwnRow.flat {H : Heap} {e : TypeId} {size n cap : Nat} {a : Option Addr} {xs : List Value} (h : OwnRow H e size a n cap xs) : OwnRow H e 1 a (n * size) (cap * size) xs := by
  refine ⟨by rw [h.len, Nat.mul_one], ?_⟩
  rcases h.ok with ⟨h1, h2, h3⟩ | ⟨g, cur, ha, hg, h1, h2, h3⟩
  · exact .inl ⟨h1, by rw [h2, Nat.zero_mul], by rw [h3, Nat.zero_mul]⟩
  · exact .inr ⟨g, cur, ha, hg, by rw [h1, Nat.mul_one], Nat.mul_le_mul_right _ h2, h3⟩
theorem unflat {H : Heap} {e : TypeId} {size n cap : Nat} {a : Option Addr} {xs : List Value} (h : OwnRow H e 1 a (n * size) (cap * size) xs) (hl : xs.length = n * size) (hs : 0 < size) : OwnRow H e size a n cap xs := by
  refine ⟨hl, ?_⟩
  rcases h.ok with ⟨h1, h2, h3⟩ | ⟨g, cur, ha, hg, h1, h2, h3⟩
  · refine .inl ⟨h1, ?_, ?_⟩
    · rcases Nat.mul_eq_zero.1 h2 with h | h
      · exact h
      · omega
    · rcases Nat.mul_eq_zero.1 h3 with h | h
      · exact h
      · omega
  · exact .inr ⟨g, cur, ha, hg, by rw [h1, Nat.mul_one], Nat.le_of_mul_le_mul_right h2 hs, h3⟩
theorem rfV_set : ∀ {fs : List RFl} {i k : Nat} {f f' : RFl} {v : Value}, fs[i]? = some f → k < 3 → f'.cells = f.cells.set k v → rfV (fs.set i f') = (rfV fs).set (i * 3 + k) v
  | [], i, k, f, f', v, h, _, _ => by simp at h
  | p :: fs, 0, k, f, f', v, h, hk, e => by
    simp at h; subst h
    show f'.cells ++ rfV fs = (p.cells ++ rfV fs).set (0 * 3 + k) v
    rw [e, List.set_append_left _ _ (by show 0 * 3 + k < 3; omega), Nat.zero_mul, Nat.zero_add]
  | p :: fs, i + 1, k, f, f', v, h, hk, e => by
    have ih := rfV_set (fs := fs) (i := i) (by simpa using h) hk e
    show p.cells ++ rfV (fs.set i f') = (p.cells ++ rfV fs).set ((i + 1) * 3 + k) v
    have hp : p.cells.length = 3 := rfl
    rw [ih, List.set_append_right _ _ (by rw [hp]; omega), hp]
    congr 2
    omega
/-- The blocks of the disk, whatever it says. -/
structure RPh (H1 H : Heap) (g : Nat) (fs : List RFl) (aF : Option Addr) (cF : Nat) (off : Bool) (rf cl st : Int) : Prop where
  obj : OwnRow H 67 1 (some ⟨g, 0, none⟩) 5 5 (rdcells aF fs.length cF off rf cl st)
  row : OwnRow H 87 3 aF fs.length cF (rfV fs)
  byt : ∀ f ∈ fs, WRow H 5 1 f.a f.bytes.length f.c (u8s f.bytes)
  ap : ∀ (i j : Nat) f f', i ≠ j → fs[i]? = some f → fs[j]? = some f' → ∀ b ∈ f.bl, b ∉ f'.bl
  new : ∀ b ∈ rblk g aF fs, H1 b = none
  base : Upd [] H1 H
theorem RIn.ph {H1 H : Heap} {g : Nat} {s : St} {fs : List RFl} {aF : Option Addr} {cF : Nat} {cl st : Int} (R : RIn H1 H g s fs aF cF cl st) : RPh H1 H g fs aF cF s.d.off s.d.refuses cl st := ⟨R.obj, R.row, R.byt, R.ap, R.new, R.base⟩
theorem RPh.upd0 {H1 H H' : Heap} {g : Nat} {fs : List RFl} {aF : Option Addr} {cF : Nat} {off : Bool} {rf cl st : Int} (R : RPh H1 H g fs aF cF off rf cl st) (u : Upd [] H H') : RPh H1 H' g fs aF cF off rf cl st :=
  ⟨R.obj.upd u (Off.nil _), R.row.upd u (Off.nil _), fun f hf => (R.byt f hf).upd u (Off.nil _), R.ap, R.new, R.base.trans u⟩
theorem mem_set_bl {fs : List RFl} {i : Nat} {f f' : RFl} (hi : fs[i]? = some f) (ha : f'.a = f.a) {x : RFl} (hx : x ∈ fs.set i f') : x = f' ∨ x ∈ fs := by
  rcases List.mem_or_eq_of_mem_set hx with h | h
  · exact .inr h
  · exact .inl h
theorem RPh.set {H1 H H' : Heap} {g : Nat} {fs : List RFl} {aF : Option Addr} {cF i : Nat} {off : Bool} {rf cl st : Int} {f f' : RFl} (R : RPh H1 H g fs aF cF off rf cl st) (hi : fs[i]? = some f) (ha : f'.a = f.a) (u : Upd (blk aF) H H')
    (row : OwnRow H' 87 3 aF fs.length cF (rfV (fs.set i f'))) (w : WRow H 5 1 f'.a f'.bytes.length f'.c (u8s f'.bytes)) : RPh H1 H' g (fs.set i f') aF cF off rf cl st := by
  have hl : (fs.set i f').length = fs.length := List.length_set
  have hil := (List.getElem?_eq_some_iff.1 hi).1
  have t5 : ∀ {a : Option Addr} {n c : Nat} {xs : List Value}, WRow H 5 1 a n c xs → Off (blk aF) a := fun w => off_notin fun b hb hm => by
    obtain ⟨c, z, e⟩ := w.live b hb
    exact R.row.notT (by decide) b hm _ _ e
  refine ⟨by rw [hl]; exact R.obj.upd u (R.row.offT R.obj (by decide)), by rw [hl]; exact row, fun x hx => ?_, fun a b x y hab hx hy z hz => ?_, fun b hb => ?_, Upd.drop R.base u (fun b hb => R.new b (mem_rblk.2 (.inr (.inl hb))))⟩
  · rcases mem_set_bl hi ha hx with rfl | h
    · exact w.upd u (t5 w)
    · exact (R.byt x h).upd u (t5 (R.byt x h))
  · have key : ∀ (k : Nat) (q : RFl), (fs.set i f')[k]? = some q → ∃ q', fs[k]? = some q' ∧ q'.bl = q.bl := fun k q hq => by
      rw [List.getElem?_set] at hq
      split at hq
      · rename_i e; subst e
        cases hq
        exact ⟨f, hi, by unfold RFl.bl; rw [ha]⟩
      · exact ⟨q, hq, rfl⟩
    obtain ⟨x', hx', ex⟩ := key a x hx
    obtain ⟨y', hy', ey⟩ := key b y hy
    rw [← ey]
    exact R.ap a b x' y' hab hx' hy' z (by rw [ex]; exact hz)
  · refine R.new b (mem_rblk.2 ?_)
    rcases mem_rblk.1 hb with h | h | ⟨x, hx, h⟩
    · exact .inl h
    · exact .inr (.inl h)
    · rcases mem_set_bl hi ha hx with rfl | h'
      · exact .inr (.inr ⟨f, List.mem_of_getElem? hi, by unfold RFl.bl at h ⊢; rw [← ha]; exact h⟩)
      · exact .inr (.inr ⟨x, h', h⟩)
/-- A cell of a file is stored. -/
theorem RPh.store {H1 H : Heap} {g b : Nat} {fs : List RFl} {cF i k j : Nat} {off : Bool} {rf cl st : Int} {f f' : RFl} {v : Value} {K : Heap → Prop} (R : RPh H1 H g fs (some ⟨b, 0, none⟩) cF off rf cl st) (hi : fs[i]? = some f) (ha : f'.a = f.a) (hk3 : k < 3)
    (hc : f'.cells = f.cells.set k v) (hv : Value.plain v = true) (w : WRow H 5 1 f'.a f'.bytes.length f'.c (u8s f'.bytes)) (hj : j = i * 3 + k)
    (hK : ∀ H', RPh H1 H' g (fs.set i f') (some ⟨b, 0, none⟩) cF off rf cl st → Upd [b] H H' → K H') : HStore H ⟨b, j, none⟩ v K := by
  have hil := (List.getElem?_eq_some_iff.1 hi).1
  refine store_row R.row.flat hv (i := i * 3 + k) (by omega) hj fun H' o u => ?_
  rw [← rfV_set hi hk3 hc] at o
  have o' := unflat o (by rw [rfV_length, List.length_set]) (by decide)
  exact hK H' (R.set hi ha u o' w) u
end Go.Proofs.YtfcmjomnpahllaaGreat
namespace Go.Proofs.YtfcmjomnpahllaaGreat
open Go Hv
set_option linter.unusedVariables false
set_option linter.unusedSimpArgs false
set_option maxRecDepth 10000
set_option maxHeartbeats 4000000
/-! The document's disk: Crash, counted. CUT2 -/
def RFl.cut (keep : Int) (f : RFl) : RFl := { f with bytes := (crash1 keep (f.bytes, f.synced)).1, c := (crash1 keep (f.bytes, f.synced)).2, synced := (crash1 keep (f.bytes, f.synced)).2 }
def crAt (keep : Int) (fs : List RFl) (i : Nat) : List RFl := (fs.take i).map (RFl.cut keep) ++ fs.drop i
theorem crAt_len (keep : Int) (fs : List RFl) (i : Nat) : (crAt keep fs i).length = fs.length := by
  unfold crAt
  rw [List.length_append, List.length_map, List.length_take, List.length_drop]; omega
theorem crAt_get {keep : Int} {fs : List RFl} {i : Nat} {f : RFl} (h : fs[i]? = some f) : (crAt keep fs i)[i]? = some f := by
  have hi := (List.getElem?_eq_some_iff.1 h).1
  unfold crAt
  rw [List.getElem?_append_right (by rw [List.length_map, List.length_take]; omega), List.length_map, List.length_take, List.getElem?_drop]
  have e : i + (i - min i fs.length) = i := by omega
  rw [e]; exact h
theorem crAt_set {keep : Int} {fs : List RFl} {i : Nat} {f : RFl} (h : fs[i]? = some f) : (crAt keep fs i).set i (f.cut keep) = crAt keep fs (i + 1) := by
  have hi := (List.getElem?_eq_some_iff.1 h).1
  unfold crAt
  have hl : ((fs.take i).map (RFl.cut keep)).length = i := by rw [List.length_map, List.length_take]; omega
  rw [List.set_append_right _ _ (by omega), hl, Nat.sub_self, List.take_add_one, h, List.map_append, List.append_assoc]
  congr 1
  have hd : fs.drop i = f :: fs.drop (i + 1) := by
    rw [List.drop_eq_getElem_cons hi]
    congr 1
    rw [List.getElem?_eq_getElem hi] at h
    exact Option.some.inj h
  rw [hd]
  rfl
theorem crAt_all (keep : Int) (fs : List RFl) : crAt keep fs fs.length = fs.map (RFl.cut keep) := by
  unfold crAt
  rw [List.take_length, List.drop_length, List.append_nil]
structure RcInv (H0 H1 : Heap) (g : Nat) (keep : Int) (fs : List RFl) (aF : Option Addr) (cF : Nat) (rf cl st : Int) (m : Nat) (vs : List Value) (H' : Heap) : Prop where
  ex : ∃ i : Nat, vs = [.int .i64 (i : Int)] ∧ m + i = fs.length ∧ RPh H1 H' g (crAt keep fs i) aF cF false rf cl st ∧ Upd (rblk g aF fs) H0 H'
structure RcJ (H0 H1 : Heap) (g : Nat) (keep : Int) (fs : List RFl) (aF : Option Addr) (cF : Nat) (rf cl st : Int) (vs : List Value) (H' : Heap) : Prop where
  ex : vs = [] ∧ RPh H1 H' g (fs.map (RFl.cut keep)) aF cF false rf cl st ∧ Upd (rblk g aF fs) H0 H'
structure RnJ (n : Nat) (H1 : Heap) (vs : List Value) (H' : Heap) : Prop where
  ex : vs = [.int .i64 (n : Int)] ∧ H' = H1
theorem store_rf {b : Nat} {H : Heap} {f : RFl} {xs : List Value} {K : Heap → Prop} (h : OwnRow H 87 1 (some ⟨b, 0, none⟩) 3 3 xs) (hl : xs.length = 3)
    (hk : ∀ H', OwnRow H' 87 1 (some ⟨b, 0, none⟩) 3 3 f.cells → Upd [b] H H' → K H') : storeN H b 0 0 K f.cells := by
  obtain ⟨y0, y1, y2, rfl⟩ : ∃ a b c, xs = [a, b, c] := by
    match xs, hl with
    | [a, b, c], _ => exact ⟨a, b, c, rfl⟩
  refine store_row h (v := .string (bs f.name)) rfl (i := 0) (by decide) (by rfl) fun H1 o1 u1 => ?_
  refine store_row o1 (v := .slice f.a f.bytes.length f.c) rfl (i := 1) (by decide) (by rfl) fun H2 o2 u2 => ?_
  refine store_row o2 (v := .int .i64 (f.synced : Int)) rfl (i := 2) (by decide) (by rfl) fun H3 o3 u3 => ?_
  exact hk H3 o3 ((u1.trans u2).trans u3)
section
variable {H1 H : Heap} {g : Nat} {s : St} {B : List Nat} {K : Value → Heap → Prop}
theorem rcrash_t {keep : Int} (R : GAt H1 H g s B) (hkl : -9223372036854775808 ≤ keep) (hkh : keep ≤ 9223372036854775807) (hb : ∀ k x, s.fs k = some x → x.1.length ≤ 4611686018427387904) (hc : s.cnt ≤ 1000)
    (hk : ∀ H', GAt H1 H' g (s.crash keep) B → Stq H H' B B → K (.tuple #[]) H') : HCalls Tryz.prog 18 [.pointer (some ⟨g, 0, none⟩), .int .i64 keep] H K := by
  obtain ⟨fs, aF, cF, cl, st, r, rfl⟩ := R
  refine hcalls (fn := Tryz.f18) [(8, [(0, 0), (1, 0), (2, 0), (3, 0), (4, 0), (5, 0), (6, 0), (7, 0), (8, 0), (9, 0), (10, 0), (11, 0), (12, 0)])] mixed Tryz.func18 rfl rfl (by decide +kernel) ?_
  (repeat first | refine HReg.step ?_ | refine HCode.step ?_)
  refine HLoad.one (v := .bool s.d.off) (by exact r.obj.rows.get (i := 1) rfl) ?_
  (repeat first | refine HReg.step ?_ | refine HCode.step ?_)
  refine hif (fun h1 => ?_) (fun h1 => ?_)
  · (repeat first | refine HReg.step ?_ | refine HCode.step ?_)
    have e : s.crash keep = s := by unfold St.crash; rw [if_pos h1]
    rw [e] at hk
    exact hk H ⟨fs, aF, cF, cl, st, r, rfl⟩ (Stq.refl _ _)
  have ph := r.ph
  rw [h1] at ph
  ((repeat refine HReg.step ?_); first | (show HCode _ _ _ (Code.seq (Code.seq (Code.region _ _ _) (Code.block _ _)) _) _ _ _; refine hcutC (a := Code.seq (Code.region _ _ _) (Code.block _ _)) [4, 5, 6, 11, 12, 13, 14, 15, 16, 17, 18, 19, 20, 21, 22, 23, 24, 25, 26, 27, 28, 29, 30, 31, 32, 33, 34, 35, 36, 37, 38, 39, 40, 41, 42, 43, 44, 45, 46, 47, 48, 49, 50, 51, 52, 53, 54, 55, 56, 57, 58, 59, 60] [] (RcJ H H1 g keep fs aF cF s.d.refuses cl st) rfl (by repeat' first | exact Resp.retD | exact Resp1.valuesK | refine Resp.blockD ?_ | refine Resp.thenD ?_ ?_ | refine Resp.hcode ?_) ?_ ?_) | (refine HCode.step ?_; (repeat refine HReg.step ?_); first | (show HCode _ _ _ (Code.seq (Code.seq (Code.region _ _ _) (Code.block _ _)) _) _ _ _; refine hcutC (a := Code.seq (Code.region _ _ _) (Code.block _ _)) [4, 5, 6, 11, 12, 13, 14, 15, 16, 17, 18, 19, 20, 21, 22, 23, 24, 25, 26, 27, 28, 29, 30, 31, 32, 33, 34, 35, 36, 37, 38, 39, 40, 41, 42, 43, 44, 45, 46, 47, 48, 49, 50, 51, 52, 53, 54, 55, 56, 57, 58, 59, 60] [] (RcJ H H1 g keep fs aF cF s.d.refuses cl st) rfl (by repeat' first | exact Resp.retD | exact Resp1.valuesK | refine Resp.blockD ?_ | refine Resp.thenD ?_ ?_ | refine Resp.hcode ?_) ?_ ?_) | (refine HCode.step ?_; (repeat refine HReg.step ?_); first | (show HCode _ _ _ (Code.seq (Code.seq (Code.region _ _ _) (Code.block _ _)) _) _ _ _; refine hcutC (a := Code.seq (Code.region _ _ _) (Code.block _ _)) [4, 5, 6, 11, 12, 13, 14, 15, 16, 17, 18, 19, 20, 21, 22, 23, 24, 25, 26, 27, 28, 29, 30, 31, 32, 33, 34, 35, 36, 37, 38, 39, 40, 41, 42, 43, 44, 45, 46, 47, 48, 49, 50, 51, 52, 53, 54, 55, 56, 57, 58, 59, 60] [] (RcJ H H1 g keep fs aF cF s.d.refuses cl st) rfl (by repeat' first | exact Resp.retD | exact Resp1.valuesK | refine Resp.blockD ?_ | refine Resp.thenD ?_ ?_ | refine Resp.hcode ?_) ?_ ?_) | (refine HCode.step ?_; (repeat refine HReg.step ?_); first | (show HCode _ _ _ (Code.seq (Code.seq (Code.region _ _ _) (Code.block _ _)) _) _ _ _; refine hcutC (a := Code.seq (Code.region _ _ _) (Code.block _ _)) [4, 5, 6, 11, 12, 13, 14, 15, 16, 17, 18, 19, 20, 21, 22, 23, 24, 25, 26, 27, 28, 29, 30, 31, 32, 33, 34, 35, 36, 37, 38, 39, 40, 41, 42, 43, 44, 45, 46, 47, 48, 49, 50, 51, 52, 53, 54, 55, 56, 57, 58, 59, 60] [] (RcJ H H1 g keep fs aF cF s.d.refuses cl st) rfl (by repeat' first | exact Resp.retD | exact Resp1.valuesK | refine Resp.blockD ?_ | refine Resp.thenD ?_ ?_ | refine Resp.hcode ?_) ?_ ?_) | (refine HCode.step ?_; (repeat refine HReg.step ?_); first | (show HCode _ _ _ (Code.seq (Code.seq (Code.region _ _ _) (Code.block _ _)) _) _ _ _; refine hcutC (a := Code.seq (Code.region _ _ _) (Code.block _ _)) [4, 5, 6, 11, 12, 13, 14, 15, 16, 17, 18, 19, 20, 21, 22, 23, 24, 25, 26, 27, 28, 29, 30, 31, 32, 33, 34, 35, 36, 37, 38, 39, 40, 41, 42, 43, 44, 45, 46, 47, 48, 49, 50, 51, 52, 53, 54, 55, 56, 57, 58, 59, 60] [] (RcJ H H1 g keep fs aF cF s.d.refuses cl st) rfl (by repeat' first | exact Resp.retD | exact Resp1.valuesK | refine Resp.blockD ?_ | refine Resp.thenD ?_ ?_ | refine Resp.hcode ?_) ?_ ?_) | (refine HCode.step ?_; (repeat refine HReg.step ?_); first | (show HCode _ _ _ (Code.seq (Code.seq (Code.region _ _ _) (Code.block _ _)) _) _ _ _; refine hcutC (a := Code.seq (Code.region _ _ _) (Code.block _ _)) [4, 5, 6, 11, 12, 13, 14, 15, 16, 17, 18, 19, 20, 21, 22, 23, 24, 25, 26, 27, 28, 29, 30, 31, 32, 33, 34, 35, 36, 37, 38, 39, 40, 41, 42, 43, 44, 45, 46, 47, 48, 49, 50, 51, 52, 53, 54, 55, 56, 57, 58, 59, 60] [] (RcJ H H1 g keep fs aF cF s.d.refuses cl st) rfl (by repeat' first | exact Resp.retD | exact Resp1.valuesK | refine Resp.blockD ?_ | refine Resp.thenD ?_ ?_ | refine Resp.hcode ?_) ?_ ?_) | (refine HCode.step ?_; (repeat refine HReg.step ?_); first | (show HCode _ _ _ (Code.seq (Code.seq (Code.region _ _ _) (Code.block _ _)) _) _ _ _; refine hcutC (a := Code.seq (Code.region _ _ _) (Code.block _ _)) [4, 5, 6, 11, 12, 13, 14, 15, 16, 17, 18, 19, 20, 21, 22, 23, 24, 25, 26, 27, 28, 29, 30, 31, 32, 33, 34, 35, 36, 37, 38, 39, 40, 41, 42, 43, 44, 45, 46, 47, 48, 49, 50, 51, 52, 53, 54, 55, 56, 57, 58, 59, 60] [] (RcJ H H1 g keep fs aF cF s.d.refuses cl st) rfl (by repeat' first | exact Resp.retD | exact Resp1.valuesK | refine Resp.blockD ?_ | refine Resp.thenD ?_ ?_ | refine Resp.hcode ?_) ?_ ?_) | (refine HCode.step ?_; (repeat refine HReg.step ?_); first | (show HCode _ _ _ (Code.seq (Code.seq (Code.region _ _ _) (Code.block _ _)) _) _ _ _; refine hcutC (a := Code.seq (Code.region _ _ _) (Code.block _ _)) [4, 5, 6, 11, 12, 13, 14, 15, 16, 17, 18, 19, 20, 21, 22, 23, 24, 25, 26, 27, 28, 29, 30, 31, 32, 33, 34, 35, 36, 37, 38, 39, 40, 41, 42, 43, 44, 45, 46, 47, 48, 49, 50, 51, 52, 53, 54, 55, 56, 57, 58, 59, 60] [] (RcJ H H1 g keep fs aF cF s.d.refuses cl st) rfl (by repeat' first | exact Resp.retD | exact Resp1.valuesK | refine Resp.blockD ?_ | refine Resp.thenD ?_ ?_ | refine Resp.hcode ?_) ?_ ?_) | (refine HCode.step ?_; (repeat refine HReg.step ?_); first | (show HCode _ _ _ (Code.seq (Code.seq (Code.region _ _ _) (Code.block _ _)) _) _ _ _; refine hcutC (a := Code.seq (Code.region _ _ _) (Code.block _ _)) [4, 5, 6, 11, 12, 13, 14, 15, 16, 17, 18, 19, 20, 21, 22, 23, 24, 25, 26, 27, 28, 29, 30, 31, 32, 33, 34, 35, 36, 37, 38, 39, 40, 41, 42, 43, 44, 45, 46, 47, 48, 49, 50, 51, 52, 53, 54, 55, 56, 57, 58, 59, 60] [] (RcJ H H1 g keep fs aF cF s.d.refuses cl st) rfl (by repeat' first | exact Resp.retD | exact Resp1.valuesK | refine Resp.blockD ?_ | refine Resp.thenD ?_ ?_ | refine Resp.hcode ?_) ?_ ?_) | (refine HCode.step ?_; (repeat refine HReg.step ?_); first | (show HCode _ _ _ (Code.seq (Code.seq (Code.region _ _ _) (Code.block _ _)) _) _ _ _; refine hcutC (a := Code.seq (Code.region _ _ _) (Code.block _ _)) [4, 5, 6, 11, 12, 13, 14, 15, 16, 17, 18, 19, 20, 21, 22, 23, 24, 25, 26, 27, 28, 29, 30, 31, 32, 33, 34, 35, 36, 37, 38, 39, 40, 41, 42, 43, 44, 45, 46, 47, 48, 49, 50, 51, 52, 53, 54, 55, 56, 57, 58, 59, 60] [] (RcJ H H1 g keep fs aF cF s.d.refuses cl st) rfl (by repeat' first | exact Resp.retD | exact Resp1.valuesK | refine Resp.blockD ?_ | refine Resp.thenD ?_ ?_ | refine Resp.hcode ?_) ?_ ?_) | (refine HCode.step ?_; (repeat refine HReg.step ?_); first | (show HCode _ _ _ (Code.seq (Code.seq (Code.region _ _ _) (Code.block _ _)) _) _ _ _; refine hcutC (a := Code.seq (Code.region _ _ _) (Code.block _ _)) [4, 5, 6, 11, 12, 13, 14, 15, 16, 17, 18, 19, 20, 21, 22, 23, 24, 25, 26, 27, 28, 29, 30, 31, 32, 33, 34, 35, 36, 37, 38, 39, 40, 41, 42, 43, 44, 45, 46, 47, 48, 49, 50, 51, 52, 53, 54, 55, 56, 57, 58, 59, 60] [] (RcJ H H1 g keep fs aF cF s.d.refuses cl st) rfl (by repeat' first | exact Resp.retD | exact Resp1.valuesK | refine Resp.blockD ?_ | refine Resp.thenD ?_ ?_ | refine Resp.hcode ?_) ?_ ?_) | (refine HCode.step ?_; (repeat refine HReg.step ?_); first | (show HCode _ _ _ (Code.seq (Code.seq (Code.region _ _ _) (Code.block _ _)) _) _ _ _; refine hcutC (a := Code.seq (Code.region _ _ _) (Code.block _ _)) [4, 5, 6, 11, 12, 13, 14, 15, 16, 17, 18, 19, 20, 21, 22, 23, 24, 25, 26, 27, 28, 29, 30, 31, 32, 33, 34, 35, 36, 37, 38, 39, 40, 41, 42, 43, 44, 45, 46, 47, 48, 49, 50, 51, 52, 53, 54, 55, 56, 57, 58, 59, 60] [] (RcJ H H1 g keep fs aF cF s.d.refuses cl st) rfl (by repeat' first | exact Resp.retD | exact Resp1.valuesK | refine Resp.blockD ?_ | refine Resp.thenD ?_ ?_ | refine Resp.hcode ?_) ?_ ?_) | (refine HCode.step ?_; (repeat refine HReg.step ?_); first | (show HCode _ _ _ (Code.seq (Code.seq (Code.region _ _ _) (Code.block _ _)) _) _ _ _; refine hcutC (a := Code.seq (Code.region _ _ _) (Code.block _ _)) [4, 5, 6, 11, 12, 13, 14, 15, 16, 17, 18, 19, 20, 21, 22, 23, 24, 25, 26, 27, 28, 29, 30, 31, 32, 33, 34, 35, 36, 37, 38, 39, 40, 41, 42, 43, 44, 45, 46, 47, 48, 49, 50, 51, 52, 53, 54, 55, 56, 57, 58, 59, 60] [] (RcJ H H1 g keep fs aF cF s.d.refuses cl st) rfl (by repeat' first | exact Resp.retD | exact Resp1.valuesK | refine Resp.blockD ?_ | refine Resp.thenD ?_ ?_ | refine Resp.hcode ?_) ?_ ?_) | (refine HCode.step ?_; (repeat refine HReg.step ?_); first | (show HCode _ _ _ (Code.seq (Code.seq (Code.region _ _ _) (Code.block _ _)) _) _ _ _; refine hcutC (a := Code.seq (Code.region _ _ _) (Code.block _ _)) [4, 5, 6, 11, 12, 13, 14, 15, 16, 17, 18, 19, 20, 21, 22, 23, 24, 25, 26, 27, 28, 29, 30, 31, 32, 33, 34, 35, 36, 37, 38, 39, 40, 41, 42, 43, 44, 45, 46, 47, 48, 49, 50, 51, 52, 53, 54, 55, 56, 57, 58, 59, 60] [] (RcJ H H1 g keep fs aF cF s.d.refuses cl st) rfl (by repeat' first | exact Resp.retD | exact Resp1.valuesK | refine Resp.blockD ?_ | refine Resp.thenD ?_ ?_ | refine Resp.hcode ?_) ?_ ?_) | (refine HCode.step ?_; (repeat refine HReg.step ?_); first | (show HCode _ _ _ (Code.seq (Code.seq (Code.region _ _ _) (Code.block _ _)) _) _ _ _; refine hcutC (a := Code.seq (Code.region _ _ _) (Code.block _ _)) [4, 5, 6, 11, 12, 13, 14, 15, 16, 17, 18, 19, 20, 21, 22, 23, 24, 25, 26, 27, 28, 29, 30, 31, 32, 33, 34, 35, 36, 37, 38, 39, 40, 41, 42, 43, 44, 45, 46, 47, 48, 49, 50, 51, 52, 53, 54, 55, 56, 57, 58, 59, 60] [] (RcJ H H1 g keep fs aF cF s.d.refuses cl st) rfl (by repeat' first | exact Resp.retD | exact Resp1.valuesK | refine Resp.blockD ?_ | refine Resp.thenD ?_ ?_ | refine Resp.hcode ?_) ?_ ?_) | (refine HCode.step ?_; (repeat refine HReg.step ?_); first | (show HCode _ _ _ (Code.seq (Code.seq (Code.region _ _ _) (Code.block _ _)) _) _ _ _; refine hcutC (a := Code.seq (Code.region _ _ _) (Code.block _ _)) [4, 5, 6, 11, 12, 13, 14, 15, 16, 17, 18, 19, 20, 21, 22, 23, 24, 25, 26, 27, 28, 29, 30, 31, 32, 33, 34, 35, 36, 37, 38, 39, 40, 41, 42, 43, 44, 45, 46, 47, 48, 49, 50, 51, 52, 53, 54, 55, 56, 57, 58, 59, 60] [] (RcJ H H1 g keep fs aF cF s.d.refuses cl st) rfl (by repeat' first | exact Resp.retD | exact Resp1.valuesK | refine Resp.blockD ?_ | refine Resp.thenD ?_ ?_ | refine Resp.hcode ?_) ?_ ?_) | (refine HCode.step ?_; (repeat refine HReg.step ?_); first | (show HCode _ _ _ (Code.seq (Code.seq (Code.region _ _ _) (Code.block _ _)) _) _ _ _; refine hcutC (a := Code.seq (Code.region _ _ _) (Code.block _ _)) [4, 5, 6, 11, 12, 13, 14, 15, 16, 17, 18, 19, 20, 21, 22, 23, 24, 25, 26, 27, 28, 29, 30, 31, 32, 33, 34, 35, 36, 37, 38, 39, 40, 41, 42, 43, 44, 45, 46, 47, 48, 49, 50, 51, 52, 53, 54, 55, 56, 57, 58, 59, 60] [] (RcJ H H1 g keep fs aF cF s.d.refuses cl st) rfl (by repeat' first | exact Resp.retD | exact Resp1.valuesK | refine Resp.blockD ?_ | refine Resp.thenD ?_ ?_ | refine Resp.hcode ?_) ?_ ?_) | (refine HCode.step ?_; (repeat refine HReg.step ?_); first | (show HCode _ _ _ (Code.seq (Code.seq (Code.region _ _ _) (Code.block _ _)) _) _ _ _; refine hcutC (a := Code.seq (Code.region _ _ _) (Code.block _ _)) [4, 5, 6, 11, 12, 13, 14, 15, 16, 17, 18, 19, 20, 21, 22, 23, 24, 25, 26, 27, 28, 29, 30, 31, 32, 33, 34, 35, 36, 37, 38, 39, 40, 41, 42, 43, 44, 45, 46, 47, 48, 49, 50, 51, 52, 53, 54, 55, 56, 57, 58, 59, 60] [] (RcJ H H1 g keep fs aF cF s.d.refuses cl st) rfl (by repeat' first | exact Resp.retD | exact Resp1.valuesK | refine Resp.blockD ?_ | refine Resp.thenD ?_ ?_ | refine Resp.hcode ?_) ?_ ?_) | (refine HCode.step ?_; (repeat refine HReg.step ?_); first | (show HCode _ _ _ (Code.seq (Code.seq (Code.region _ _ _) (Code.block _ _)) _) _ _ _; refine hcutC (a := Code.seq (Code.region _ _ _) (Code.block _ _)) [4, 5, 6, 11, 12, 13, 14, 15, 16, 17, 18, 19, 20, 21, 22, 23, 24, 25, 26, 27, 28, 29, 30, 31, 32, 33, 34, 35, 36, 37, 38, 39, 40, 41, 42, 43, 44, 45, 46, 47, 48, 49, 50, 51, 52, 53, 54, 55, 56, 57, 58, 59, 60] [] (RcJ H H1 g keep fs aF cF s.d.refuses cl st) rfl (by repeat' first | exact Resp.retD | exact Resp1.valuesK | refine Resp.blockD ?_ | refine Resp.thenD ?_ ?_ | refine Resp.hcode ?_) ?_ ?_) | (refine HCode.step ?_; (repeat refine HReg.step ?_); first | (show HCode _ _ _ (Code.seq (Code.seq (Code.region _ _ _) (Code.block _ _)) _) _ _ _; refine hcutC (a := Code.seq (Code.region _ _ _) (Code.block _ _)) [4, 5, 6, 11, 12, 13, 14, 15, 16, 17, 18, 19, 20, 21, 22, 23, 24, 25, 26, 27, 28, 29, 30, 31, 32, 33, 34, 35, 36, 37, 38, 39, 40, 41, 42, 43, 44, 45, 46, 47, 48, 49, 50, 51, 52, 53, 54, 55, 56, 57, 58, 59, 60] [] (RcJ H H1 g keep fs aF cF s.d.refuses cl st) rfl (by repeat' first | exact Resp.retD | exact Resp1.valuesK | refine Resp.blockD ?_ | refine Resp.thenD ?_ ?_ | refine Resp.hcode ?_) ?_ ?_) | (refine HCode.step ?_; (repeat refine HReg.step ?_); (show HCode _ _ _ (Code.seq (Code.seq (Code.region _ _ _) (Code.block _ _)) _) _ _ _; refine hcutC (a := Code.seq (Code.region _ _ _) (Code.block _ _)) [4, 5, 6, 11, 12, 13, 14, 15, 16, 17, 18, 19, 20, 21, 22, 23, 24, 25, 26, 27, 28, 29, 30, 31, 32, 33, 34, 35, 36, 37, 38, 39, 40, 41, 42, 43, 44, 45, 46, 47, 48, 49, 50, 51, 52, 53, 54, 55, 56, 57, 58, 59, 60] [] (RcJ H H1 g keep fs aF cF s.d.refuses cl st) rfl (by repeat' first | exact Resp.retD | exact Resp1.valuesK | refine Resp.blockD ?_ | refine Resp.thenD ?_ ?_ | refine Resp.hcode ?_) ?_ ?_))))))))))))))))))))))
  · (repeat first | refine HReg.step ?_ | refine HCode.step ?_)
    refine hloopC [4, 5, 6, 11, 12, 13, 14, 15, 16, 17, 18, 19, 20, 21, 22, 23, 24, 25, 26, 27, 28, 29, 30, 31, 32, 33, 34, 35, 36, 37, 38, 39, 40, 41, 42, 43, 44, 45, 46, 47, 48, 49, 50, 51, 52, 53, 54, 55, 56, 57, 58, 59, 60] [4] (RcInv H H1 g keep fs aF cF s.d.refuses cl st) rfl (by repeat' first | exact Resp.retD | exact Resp1.valuesK | refine Resp.blockD ?_ | refine Resp.thenD ?_ ?_ | refine Resp.hcode ?_) ?_ ?_
    · exact ⟨fs.length, RcInv.mk ⟨0, rfl, rfl, by unfold crAt; rw [List.take_zero, List.drop_zero]; exact ph, Upd.refl _ _⟩⟩
    rintro m _ fe H2 ⟨i, rfl, hmi, ph, uu⟩
    have hcl := crAt_len keep fs i
    have hcn := r.cnt
    have wi : wr .i64 ((i : Int) + 1) = ((i + 1 : Nat) : Int) := by rw [wr_i64 (by omega) (by omega)]; omega
    (repeat first | refine HReg.step ?_ | refine HCode.step ?_)
    refine HLoad.one (v := .slice aF fs.length cF) (by have := ph.obj.rows.get (i := 0) rfl; rw [hcl] at this; exact this) ?_
    (repeat first | refine HReg.step ?_ | refine HCode.step ?_)
    refine hif (fun h2 => ?_) (fun h2 => ?_)
    · have h2 := ltB_true.1 h2
      obtain ⟨f, hf⟩ : ∃ f, fs[i]? = some f := ⟨fs[i]'(by omega), by simp⟩
      have hfi := crAt_get (keep := keep) hf
      obtain ⟨bF, rfl⟩ := ph.row.addr (by omega)
      have hX := hb _ _ (r.get f (List.mem_of_getElem? hf))
      have hy := r.syn f (List.mem_of_getElem? hf)
      simp only at hX
      have ob := ph.obj.rows.get (i := 0) rfl
      rw [hcl] at ob
      (repeat first | refine HReg.step ?_ | refine HCode.step ?_)
      refine HLoad.one (v := .slice (some ⟨bF, 0, none⟩) fs.length cF) (by exact ob) ?_
      (repeat first | refine HReg.step ?_ | refine HCode.step ?_)
      refine HReq.mk ⟨by omega, by omega⟩ ?_
      (repeat first | refine HReg.step ?_ | refine HCode.step ?_)
      refine HLoadN_rf ph.row.rows hfi ?_
      (repeat first | refine HReg.step ?_ | refine HCode.step ?_)
      refine HNew.mk fun b5 hb5 => ?_
      (repeat first | refine HReg.step ?_ | refine HCode.step ?_)
      refine store_rf (f := f) (OwnRow.lit (upd_same _ _ _) rfl) rfl fun H3 o5 u5 => ?_
      have u5 : Upd [] H2 H3 := Upd.drop (Upd.new hb5 _) u5 (fun q hq => by rw [List.mem_singleton.1 hq]; exact hb5)
      have ph3 := ph.upd0 u5
      have ob := ph3.obj.rows.get (i := 0) rfl
      rw [hcl] at ob
      (repeat first | refine HReg.step ?_ | refine HCode.step ?_)
      refine HLoad.one (v := .slice f.a f.bytes.length f.c) (by exact o5.rows.get (i := 1) rfl) ?_
      have ws : wr .i64 ((f.bytes.length : Int) - (f.synced : Int)) = (f.bytes.length : Int) - (f.synced : Int) := wr_i64 (by omega) (by omega)
      obtain ⟨tl1, tl2⟩ := tail_le (keep := keep) hy
      obtain ⟨n, hn⟩ : ∃ n, n = f.synced + tailOf keep f.bytes.length f.synced := ⟨_, rfl⟩
      rw [← hn] at tl1 tl2
      ((repeat refine HReg.step ?_); first | (show HCode _ _ _ (Code.seq (Code.seq (Code.region _ _ _) (Code.cond _ _ _)) _) _ _ _; refine hcutC (a := Code.seq (Code.region _ _ _) (Code.cond _ _ _)) [6, 30, 31, 32, 33, 34, 35, 36, 37, 38, 39, 40] [6] (RnJ n H3) rfl (by repeat' first | exact Resp.retD | exact Resp1.valuesK | refine Resp.blockD ?_ | refine Resp.thenD ?_ ?_ | refine Resp.hcode ?_) ?_ ?_) | (refine HCode.step ?_; (repeat refine HReg.step ?_); first | (show HCode _ _ _ (Code.seq (Code.seq (Code.region _ _ _) (Code.cond _ _ _)) _) _ _ _; refine hcutC (a := Code.seq (Code.region _ _ _) (Code.cond _ _ _)) [6, 30, 31, 32, 33, 34, 35, 36, 37, 38, 39, 40] [6] (RnJ n H3) rfl (by repeat' first | exact Resp.retD | exact Resp1.valuesK | refine Resp.blockD ?_ | refine Resp.thenD ?_ ?_ | refine Resp.hcode ?_) ?_ ?_) | (refine HCode.step ?_; (repeat refine HReg.step ?_); first | (show HCode _ _ _ (Code.seq (Code.seq (Code.region _ _ _) (Code.cond _ _ _)) _) _ _ _; refine hcutC (a := Code.seq (Code.region _ _ _) (Code.cond _ _ _)) [6, 30, 31, 32, 33, 34, 35, 36, 37, 38, 39, 40] [6] (RnJ n H3) rfl (by repeat' first | exact Resp.retD | exact Resp1.valuesK | refine Resp.blockD ?_ | refine Resp.thenD ?_ ?_ | refine Resp.hcode ?_) ?_ ?_) | (refine HCode.step ?_; (repeat refine HReg.step ?_); first | (show HCode _ _ _ (Code.seq (Code.seq (Code.region _ _ _) (Code.cond _ _ _)) _) _ _ _; refine hcutC (a := Code.seq (Code.region _ _ _) (Code.cond _ _ _)) [6, 30, 31, 32, 33, 34, 35, 36, 37, 38, 39, 40] [6] (RnJ n H3) rfl (by repeat' first | exact Resp.retD | exact Resp1.valuesK | refine Resp.blockD ?_ | refine Resp.thenD ?_ ?_ | refine Resp.hcode ?_) ?_ ?_) | (refine HCode.step ?_; (repeat refine HReg.step ?_); first | (show HCode _ _ _ (Code.seq (Code.seq (Code.region _ _ _) (Code.cond _ _ _)) _) _ _ _; refine hcutC (a := Code.seq (Code.region _ _ _) (Code.cond _ _ _)) [6, 30, 31, 32, 33, 34, 35, 36, 37, 38, 39, 40] [6] (RnJ n H3) rfl (by repeat' first | exact Resp.retD | exact Resp1.valuesK | refine Resp.blockD ?_ | refine Resp.thenD ?_ ?_ | refine Resp.hcode ?_) ?_ ?_) | (refine HCode.step ?_; (repeat refine HReg.step ?_); first | (show HCode _ _ _ (Code.seq (Code.seq (Code.region _ _ _) (Code.cond _ _ _)) _) _ _ _; refine hcutC (a := Code.seq (Code.region _ _ _) (Code.cond _ _ _)) [6, 30, 31, 32, 33, 34, 35, 36, 37, 38, 39, 40] [6] (RnJ n H3) rfl (by repeat' first | exact Resp.retD | exact Resp1.valuesK | refine Resp.blockD ?_ | refine Resp.thenD ?_ ?_ | refine Resp.hcode ?_) ?_ ?_) | (refine HCode.step ?_; (repeat refine HReg.step ?_); first | (show HCode _ _ _ (Code.seq (Code.seq (Code.region _ _ _) (Code.cond _ _ _)) _) _ _ _; refine hcutC (a := Code.seq (Code.region _ _ _) (Code.cond _ _ _)) [6, 30, 31, 32, 33, 34, 35, 36, 37, 38, 39, 40] [6] (RnJ n H3) rfl (by repeat' first | exact Resp.retD | exact Resp1.valuesK | refine Resp.blockD ?_ | refine Resp.thenD ?_ ?_ | refine Resp.hcode ?_) ?_ ?_) | (refine HCode.step ?_; (repeat refine HReg.step ?_); first | (show HCode _ _ _ (Code.seq (Code.seq (Code.region _ _ _) (Code.cond _ _ _)) _) _ _ _; refine hcutC (a := Code.seq (Code.region _ _ _) (Code.cond _ _ _)) [6, 30, 31, 32, 33, 34, 35, 36, 37, 38, 39, 40] [6] (RnJ n H3) rfl (by repeat' first | exact Resp.retD | exact Resp1.valuesK | refine Resp.blockD ?_ | refine Resp.thenD ?_ ?_ | refine Resp.hcode ?_) ?_ ?_) | (refine HCode.step ?_; (repeat refine HReg.step ?_); first | (show HCode _ _ _ (Code.seq (Code.seq (Code.region _ _ _) (Code.cond _ _ _)) _) _ _ _; refine hcutC (a := Code.seq (Code.region _ _ _) (Code.cond _ _ _)) [6, 30, 31, 32, 33, 34, 35, 36, 37, 38, 39, 40] [6] (RnJ n H3) rfl (by repeat' first | exact Resp.retD | exact Resp1.valuesK | refine Resp.blockD ?_ | refine Resp.thenD ?_ ?_ | refine Resp.hcode ?_) ?_ ?_) | (refine HCode.step ?_; (repeat refine HReg.step ?_); first | (show HCode _ _ _ (Code.seq (Code.seq (Code.region _ _ _) (Code.cond _ _ _)) _) _ _ _; refine hcutC (a := Code.seq (Code.region _ _ _) (Code.cond _ _ _)) [6, 30, 31, 32, 33, 34, 35, 36, 37, 38, 39, 40] [6] (RnJ n H3) rfl (by repeat' first | exact Resp.retD | exact Resp1.valuesK | refine Resp.blockD ?_ | refine Resp.thenD ?_ ?_ | refine Resp.hcode ?_) ?_ ?_) | (refine HCode.step ?_; (repeat refine HReg.step ?_); first | (show HCode _ _ _ (Code.seq (Code.seq (Code.region _ _ _) (Code.cond _ _ _)) _) _ _ _; refine hcutC (a := Code.seq (Code.region _ _ _) (Code.cond _ _ _)) [6, 30, 31, 32, 33, 34, 35, 36, 37, 38, 39, 40] [6] (RnJ n H3) rfl (by repeat' first | exact Resp.retD | exact Resp1.valuesK | refine Resp.blockD ?_ | refine Resp.thenD ?_ ?_ | refine Resp.hcode ?_) ?_ ?_) | (refine HCode.step ?_; (repeat refine HReg.step ?_); first | (show HCode _ _ _ (Code.seq (Code.seq (Code.region _ _ _) (Code.cond _ _ _)) _) _ _ _; refine hcutC (a := Code.seq (Code.region _ _ _) (Code.cond _ _ _)) [6, 30, 31, 32, 33, 34, 35, 36, 37, 38, 39, 40] [6] (RnJ n H3) rfl (by repeat' first | exact Resp.retD | exact Resp1.valuesK | refine Resp.blockD ?_ | refine Resp.thenD ?_ ?_ | refine Resp.hcode ?_) ?_ ?_) | (refine HCode.step ?_; (repeat refine HReg.step ?_); first | (show HCode _ _ _ (Code.seq (Code.seq (Code.region _ _ _) (Code.cond _ _ _)) _) _ _ _; refine hcutC (a := Code.seq (Code.region _ _ _) (Code.cond _ _ _)) [6, 30, 31, 32, 33, 34, 35, 36, 37, 38, 39, 40] [6] (RnJ n H3) rfl (by repeat' first | exact Resp.retD | exact Resp1.valuesK | refine Resp.blockD ?_ | refine Resp.thenD ?_ ?_ | refine Resp.hcode ?_) ?_ ?_) | (refine HCode.step ?_; (repeat refine HReg.step ?_); first | (show HCode _ _ _ (Code.seq (Code.seq (Code.region _ _ _) (Code.cond _ _ _)) _) _ _ _; refine hcutC (a := Code.seq (Code.region _ _ _) (Code.cond _ _ _)) [6, 30, 31, 32, 33, 34, 35, 36, 37, 38, 39, 40] [6] (RnJ n H3) rfl (by repeat' first | exact Resp.retD | exact Resp1.valuesK | refine Resp.blockD ?_ | refine Resp.thenD ?_ ?_ | refine Resp.hcode ?_) ?_ ?_) | (refine HCode.step ?_; (repeat refine HReg.step ?_); first | (show HCode _ _ _ (Code.seq (Code.seq (Code.region _ _ _) (Code.cond _ _ _)) _) _ _ _; refine hcutC (a := Code.seq (Code.region _ _ _) (Code.cond _ _ _)) [6, 30, 31, 32, 33, 34, 35, 36, 37, 38, 39, 40] [6] (RnJ n H3) rfl (by repeat' first | exact Resp.retD | exact Resp1.valuesK | refine Resp.blockD ?_ | refine Resp.thenD ?_ ?_ | refine Resp.hcode ?_) ?_ ?_) | (refine HCode.step ?_; (repeat refine HReg.step ?_); first | (show HCode _ _ _ (Code.seq (Code.seq (Code.region _ _ _) (Code.cond _ _ _)) _) _ _ _; refine hcutC (a := Code.seq (Code.region _ _ _) (Code.cond _ _ _)) [6, 30, 31, 32, 33, 34, 35, 36, 37, 38, 39, 40] [6] (RnJ n H3) rfl (by repeat' first | exact Resp.retD | exact Resp1.valuesK | refine Resp.blockD ?_ | refine Resp.thenD ?_ ?_ | refine Resp.hcode ?_) ?_ ?_) | (refine HCode.step ?_; (repeat refine HReg.step ?_); first | (show HCode _ _ _ (Code.seq (Code.seq (Code.region _ _ _) (Code.cond _ _ _)) _) _ _ _; refine hcutC (a := Code.seq (Code.region _ _ _) (Code.cond _ _ _)) [6, 30, 31, 32, 33, 34, 35, 36, 37, 38, 39, 40] [6] (RnJ n H3) rfl (by repeat' first | exact Resp.retD | exact Resp1.valuesK | refine Resp.blockD ?_ | refine Resp.thenD ?_ ?_ | refine Resp.hcode ?_) ?_ ?_) | (refine HCode.step ?_; (repeat refine HReg.step ?_); first | (show HCode _ _ _ (Code.seq (Code.seq (Code.region _ _ _) (Code.cond _ _ _)) _) _ _ _; refine hcutC (a := Code.seq (Code.region _ _ _) (Code.cond _ _ _)) [6, 30, 31, 32, 33, 34, 35, 36, 37, 38, 39, 40] [6] (RnJ n H3) rfl (by repeat' first | exact Resp.retD | exact Resp1.valuesK | refine Resp.blockD ?_ | refine Resp.thenD ?_ ?_ | refine Resp.hcode ?_) ?_ ?_) | (refine HCode.step ?_; (repeat refine HReg.step ?_); first | (show HCode _ _ _ (Code.seq (Code.seq (Code.region _ _ _) (Code.cond _ _ _)) _) _ _ _; refine hcutC (a := Code.seq (Code.region _ _ _) (Code.cond _ _ _)) [6, 30, 31, 32, 33, 34, 35, 36, 37, 38, 39, 40] [6] (RnJ n H3) rfl (by repeat' first | exact Resp.retD | exact Resp1.valuesK | refine Resp.blockD ?_ | refine Resp.thenD ?_ ?_ | refine Resp.hcode ?_) ?_ ?_) | (refine HCode.step ?_; (repeat refine HReg.step ?_); first | (show HCode _ _ _ (Code.seq (Code.seq (Code.region _ _ _) (Code.cond _ _ _)) _) _ _ _; refine hcutC (a := Code.seq (Code.region _ _ _) (Code.cond _ _ _)) [6, 30, 31, 32, 33, 34, 35, 36, 37, 38, 39, 40] [6] (RnJ n H3) rfl (by repeat' first | exact Resp.retD | exact Resp1.valuesK | refine Resp.blockD ?_ | refine Resp.thenD ?_ ?_ | refine Resp.hcode ?_) ?_ ?_) | (refine HCode.step ?_; (repeat refine HReg.step ?_); (show HCode _ _ _ (Code.seq (Code.seq (Code.region _ _ _) (Code.cond _ _ _)) _) _ _ _; refine hcutC (a := Code.seq (Code.region _ _ _) (Code.cond _ _ _)) [6, 30, 31, 32, 33, 34, 35, 36, 37, 38, 39, 40] [6] (RnJ n H3) rfl (by repeat' first | exact Resp.retD | exact Resp1.valuesK | refine Resp.blockD ?_ | refine Resp.thenD ?_ ?_ | refine Resp.hcode ?_) ?_ ?_))))))))))))))))))))))
      · (repeat first | refine HReg.step ?_ | refine HCode.step ?_)
        refine HLoad.one (v := .int .i64 (f.synced : Int)) (by exact o5.rows.get (i := 2) rfl) ?_
        (repeat first | refine HReg.step ?_ | refine HCode.step ?_)
        rw [ws]
        (repeat first | refine HReg.step ?_ | refine HCode.step ?_)
        refine hif (fun h3 => ?_) (fun h3 => ?_)
        · have h3 := ltB_true.1 h3
          have wa : wr .i64 ((f.synced : Int) + max keep 0) = (n : Int) := by rw [wr_i64 (by omega) (by omega)]; omega
          (repeat first | refine HReg.step ?_ | refine HCode.step ?_)
          refine HLoad.one (v := .int .i64 (f.synced : Int)) (by exact o5.rows.get (i := 2) rfl) ?_
          (repeat first | refine HReg.step ?_ | refine HCode.step ?_)
          rw [ite_mx, ite_max, wa]
          exact RnJ.mk ⟨rfl, rfl⟩
        · have h3 := ltB_false.1 h3
          (repeat first | refine HReg.step ?_ | refine HCode.step ?_)
          have : f.bytes.length = n := by omega
          exact RnJ.mk ⟨by rw [this], rfl⟩
      rintro _ fe3 H4 ⟨rfl, hH⟩
      have hH := hH.symm
      subst hH
      have hcut : f.cut keep = ⟨f.name, f.a, n, f.bytes.take n, n⟩ := by unfold RFl.cut crash1; rw [hn]
      have hW := (ph3.byt f (List.mem_of_getElem? hfi)).cut tl1
      rw [Nat.mul_one, ← u8s_take] at hW
      (repeat first | refine HReg.step ?_ | refine HCode.step ?_)
      refine HLoad.one (v := .slice (some ⟨bF, 0, none⟩) fs.length cF) (by exact ob) ?_
      (repeat first | refine HReg.step ?_ | refine HCode.step ?_)
      refine HLoad.one (v := .slice f.a f.bytes.length f.c) (by exact o5.rows.get (i := 1) rfl) ?_
      (repeat first | refine HReg.step ?_ | refine HCode.step ?_)
      refine HReq.mk ⟨⟨by omega, by have := (ph3.byt f (List.mem_of_getElem? hfi)).le; omega⟩, ⟨by omega, by omega⟩⟩ ?_
      (repeat first | refine HReg.step ?_ | refine HCode.step ?_)
      refine HReq.mk ⟨by omega, by omega⟩ ?_
      (repeat first | refine HReg.step ?_ | refine HCode.step ?_)
      refine ph3.store (k := 1) (f' := ⟨f.name, f.a, n, f.bytes.take n, f.synced⟩) hfi rfl (by decide) (by unfold RFl.cells; simp only [List.set, List.length_take]; rw [Nat.min_eq_left tl1]; rfl) rfl (by rw [List.length_take, Nat.min_eq_left tl1]; exact hW) (by show 0 + i * 3 + 1 = i * 3 + 1; omega) fun H5 ph5 u6 => ?_
      have hm5 : (⟨f.name, f.a, n, f.bytes.take n, f.synced⟩ : RFl) ∈ (crAt keep fs i).set i ⟨f.name, f.a, n, f.bytes.take n, f.synced⟩ := List.mem_of_getElem? (i := i) (by rw [List.getElem?_set_self (by omega)])
      have w5 := ph5.byt _ hm5
      have ob5 := ph5.obj.rows.get (i := 0) rfl
      rw [List.length_set, hcl] at ob5
      (repeat first | refine HReg.step ?_ | refine HCode.step ?_)
      refine HLoad.one (v := .slice (some ⟨bF, 0, none⟩) fs.length cF) (by exact ob5) ?_
      (repeat first | refine HReg.step ?_ | refine HCode.step ?_)
      refine HReq.mk ⟨by omega, by omega⟩ ?_
      (repeat first | refine HReg.step ?_ | refine HCode.step ?_)
      refine ph5.store (k := 2) (f := ⟨f.name, f.a, n, f.bytes.take n, f.synced⟩) (f' := f.cut keep) (by rw [List.getElem?_set_self (by omega)]) (by rw [hcut]) (by decide) (by rw [hcut]; rfl) rfl (by rw [hcut]; exact w5) (by show 0 + i * 3 + 2 = i * 3 + 2; omega) fun H6 ph6 u7 => ?_
      rw [List.set_set, crAt_set hf] at ph6
      (repeat first | refine HReg.step ?_ | refine HCode.step ?_)
      rw [wi]
      have hbF : ∀ k ∈ [bF], k ∈ rblk g (some ⟨bF, 0, none⟩) fs := fun k hk => by rw [List.mem_singleton.1 hk]; exact mem_rblk.2 (.inr (.inl (by simp [blk])))
      exact ⟨m - 1, by omega, RcInv.mk ⟨i + 1, rfl, by omega, ph6, uu.trans ((u5.mono (fun k hk => by simp at hk)).trans ((u6.mono hbF).trans (u7.mono hbF)))⟩⟩
    · have h2 := ltB_false.1 h2
      (repeat first | refine HReg.step ?_ | refine HCode.step ?_)
      obtain rfl : i = fs.length := by omega
      rw [crAt_all] at ph
      exact RcJ.mk ⟨rfl, ph, uu⟩
  rintro _ fe1 H2 ⟨rfl, ph, uu⟩
  have e : s.crash keep = ⟨⟨true, false, s.d.refuses, s.d.calls, s.d.keep⟩, fun k => (s.fs k).map (crash1 keep), s.cnt⟩ := by unfold St.crash; rw [if_neg (by rw [h1]; decide)]
  have hlm : (fs.map (RFl.cut keep)).length = fs.length := List.length_map _
  have ob := ph.obj
  (repeat first | refine HReg.step ?_ | refine HCode.step ?_)
  refine store_row ob (v := .bool true) rfl (i := 1) (by decide) (by rfl) fun H3 o3 u3 => ?_
  (repeat first | refine HReg.step ?_ | refine HCode.step ?_)
  refine store_row o3 (v := .int .i64 (-1)) rfl (i := 3) (by decide) (by rfl) fun H4 o4 u4 => ?_
  have u := u3.trans u4
  have hg : ∀ b ∈ blk aF, b ∉ [g] := fun b hb hm => by
    rw [List.mem_singleton.1 hm] at hb
    obtain ⟨c, z, e⟩ := own_live ph.obj
    exact ph.row.notT (by decide) g hb _ _ e
  have hgb : ∀ f ∈ fs.map (RFl.cut keep), ∀ b ∈ f.bl, b ∉ [g] := fun f hf b hb hm => by
    rw [List.mem_singleton.1 hm] at hb
    obtain ⟨c, z, e⟩ := own_live ph.obj
    obtain ⟨c', z', e'⟩ := (ph.byt f hf).live g hb
    rw [e] at e'; cases e'
  have hbl : rblk g aF (fs.map (RFl.cut keep)) = rblk g aF fs := by
    unfold rblk
    rw [List.flatMap_map]
    rfl
  have R' : RIn H1 H4 g (s.crash keep) (fs.map (RFl.cut keep)) aF cF (-1) st := by
    rw [e]
    refine ⟨o4, ph.row.upd u (off_notin hg), fun f hf => (ph.byt f hf).upd u (off_notin (hgb f hf)), ph.ap, ph.new, Upd.drop ph.base u (fun b hb => by rw [List.mem_singleton.1 hb]; exact ph.new g (mem_rblk.2 (.inl rfl))), ?_, fun f hf => ?_, fun k x hx => ?_, fun f hf => ?_, by rw [hlm]; exact r.cnt, .inr ⟨rfl, rfl⟩, r.hi, r.rhi⟩
    · rw [List.map_map]; exact r.ri
    · obtain ⟨f0, hf0, rfl⟩ := List.mem_map.1 hf
      show (s.fs (bs f0.name)).map (crash1 keep) = _
      rw [r.get f0 hf0]; rfl
    · have hx : (s.fs k).map (crash1 keep) = some x := hx
      obtain ⟨y, hy, _⟩ := Option.map_eq_some_iff.1 hx
      obtain ⟨f0, hf0, hn⟩ := r.all k y hy
      exact ⟨f0.cut keep, List.mem_map_of_mem hf0, hn⟩
    · obtain ⟨f0, hf0, rfl⟩ := List.mem_map.1 hf
      have := (crash1_le keep (x := (f0.bytes, f0.synced)) (r.syn f0 hf0)).1
      show (crash1 keep (f0.bytes, f0.synced)).2 ≤ (crash1 keep (f0.bytes, f0.synced)).1.length
      omega
  (repeat first | refine HReg.step ?_ | refine HCode.step ?_)
  exact hk H4 ⟨_, aF, cF, -1, st, R', hbl.symm⟩ ⟨uu.trans (u.mono (fun k hk => by rw [List.mem_singleton.1 hk]; exact mem_rblk.2 (.inl rfl))), fun b hb => .inl hb⟩
end
end Go.Proofs.YtfcmjomnpahllaaGreat
namespace Go.Proofs.YtfcmjomnpahllaaGreat
open Go Hv
set_option linter.unusedVariables false
set_option linter.unusedSimpArgs false
set_option maxRecDepth 10000
set_option maxHeartbeats 4000000
theorem off_made {H1 H H' : Heap} {g r n c size : Nat} {e : TypeId} {s : St} {fl : List Fl} {a : Option Addr} {xs : List Value} (D : DiskAt H1 H g r s fl) (m : Made H H' e size a n c xs) : Off (dblk g r fl) a := fun p hp hm => D.phys.live p.block hm (m.new p hp)
theorem St.call_idle {s : St} (h : s.d.armed = false) : s.call = s := by unfold St.call; rw [if_neg (by rw [h]; simp)]
/-! The document's disk: counted, at. CUT2 -/
section
variable {H1 H : Heap} {g N : Nat} {s : St} {B : List Nat} {K : Value → Heap → Prop}
theorem rcounted_t (R : GAt H1 H g s B) (hkl : -9223372036854775808 ≤ s.d.keep) (hkh : s.d.keep ≤ 9223372036854775807) (hlo : -9223372036854775808 ≤ s.d.calls) (ok : s.Ok N) (hN : N ≤ 4611686018427387904)
    (hk : ∀ H', GAt H1 H' g s.call B → Stq H H' B B → K (.bool s.call.d.off) H') : HCalls Tryz.prog 46 [.pointer (some ⟨g, 0, none⟩)] H K := by
  have R0 := R
  obtain ⟨fs, aF, cF, cl, st, r, rfl⟩ := R
  refine hcalls (fn := Tryz.f46) [] mixed Tryz.func46 rfl rfl (by decide +kernel) ?_
  (repeat first | refine HReg.step ?_ | refine HCode.step ?_)
  refine HLoad.one (v := .int .i64 cl) (by exact r.obj.rows.get (i := 3) rfl) ?_
  (repeat first | refine HReg.step ?_ | refine HCode.step ?_)
  refine hif (fun h1 => ?_) (fun h1 => ?_)
  · have h1 := eqB_true.1 h1
    obtain ⟨a1, a2, a3, a4⟩ : s.d.armed = true ∧ 0 ≤ s.d.calls ∧ cl = s.d.calls ∧ st = s.d.keep := by
      rcases r.arm with h | ⟨_, h⟩
      · exact h
      · omega
    have e : s.call = s.crash st := by unfold St.call; rw [if_pos a1, if_pos (by omega), a4]
    rw [e] at hk
    (repeat first | refine HReg.step ?_ | refine HCode.step ?_)
    refine HLoad.one (v := .int .i64 st) (by exact r.obj.rows.get (i := 4) rfl) ?_
    (repeat first | refine HReg.step ?_ | refine HCode.step ?_)
    refine HCall.mk ⟨Tryz.f18, Tryz.func18, by rfl, by rfl⟩ ?_
    refine rcrash_t R0 (by omega) (by omega) (fun k x hx => by have := (ok.le k x hx).1; omega) (by have := ok.few; omega) fun H3 R3 S3 => ?_
    have R3' := R3
    obtain ⟨fs3, aF3, cF3, cl3, st3, r3, e3⟩ := R3
    have hcl : cl3 ≤ 0 := by
      rcases r3.arm with ⟨b1, b2, b3, b4⟩ | ⟨_, h⟩
      · have : (s.crash st).d.calls = s.d.calls := by unfold St.crash; split <;> rfl
        omega
      · omega
    (repeat first | refine HReg.step ?_ | refine HCode.step ?_)
    refine HLoad.one (v := .int .i64 cl3) (by exact r3.obj.rows.get (i := 3) rfl) ?_
    (repeat first | refine HReg.step ?_ | refine HCode.step ?_)
    rw [ltB_false.2 hcl]
    (repeat first | refine HReg.step ?_ | refine HCode.step ?_)
    refine HLoad.one (v := .bool (s.crash st).d.off) (by exact r3.obj.rows.get (i := 1) rfl) ?_
    (repeat first | refine HReg.step ?_ | refine HCode.step ?_)
    exact hk H3 R3' S3
  · have h1 := eqB_false.1 h1
    (repeat first | refine HReg.step ?_ | refine HCode.step ?_)
    refine HLoad.one (v := .int .i64 cl) (by exact r.obj.rows.get (i := 3) rfl) ?_
    (repeat first | refine HReg.step ?_ | refine HCode.step ?_)
    refine hif (fun h2 => ?_) (fun h2 => ?_)
    · have h2 := ltB_true.1 h2
      rcases r.arm with ⟨a1, a2, a3, a4⟩ | ⟨a1, a2⟩
      · have e : s.call = { s with d := { s.d with calls := s.d.calls - 1 } } := by unfold St.call; rw [if_pos a1, if_neg (by omega)]
        have wc : wr .i64 (cl - 1) = s.d.calls - 1 := by have := r.hi; rw [wr_i64 (by omega) (by omega)]; omega
        (repeat first | refine HReg.step ?_ | refine HCode.step ?_)
        refine HLoad.one (v := .int .i64 cl) (by exact r.obj.rows.get (i := 3) rfl) ?_
        (repeat first | refine HReg.step ?_ | refine HCode.step ?_)
        rw [wc]
        refine store_row r.obj (v := .int .i64 (s.d.calls - 1)) rfl (i := 3) (by decide) (by rfl) fun H4 o4 u4 => ?_
        have r4 := r.setd (s' := s.call) (cl' := s.d.calls - 1) (st' := st) u4 (by rw [e]; exact o4) (by rw [e]) (by rw [e]) (by rw [e]; exact .inl ⟨a1, by show 0 ≤ s.d.calls - 1; omega, rfl, a4⟩) (by rw [e]; show s.d.calls - 1 ≤ _; have := r.hi; omega) (by rw [e]; exact r.rhi)
        (repeat first | refine HReg.step ?_ | refine HCode.step ?_)
        refine HLoad.one (v := .bool s.call.d.off) (by exact r4.obj.rows.get (i := 1) rfl) ?_
        (repeat first | refine HReg.step ?_ | refine HCode.step ?_)
        exact hk H4 ⟨fs, aF, cF, _, _, r4, rfl⟩ (Stq.g u4)
      · omega
    · have h2 := ltB_false.1 h2
      have e : s.call = s := by
        rcases r.arm with ⟨a1, a2, a3, a4⟩ | ⟨a1, a2⟩
        · omega
        · exact St.call_idle a1
      rw [e] at hk
      (repeat first | refine HReg.step ?_ | refine HCode.step ?_)
      refine HLoad.one (v := .bool s.d.off) (by exact r.obj.rows.get (i := 1) rfl) ?_
      (repeat first | refine HReg.step ?_ | refine HCode.step ?_)
      exact hk H ⟨fs, aF, cF, cl, st, r, rfl⟩ (Stq.refl _ _)
end
end Go.Proofs.YtfcmjomnpahllaaGreat
namespace Go.Proofs.YtfcmjomnpahllaaGreat
open Go Hv
set_option linter.unusedVariables false
set_option linter.unusedSimpArgs false
set_option maxRecDepth 10000
set_option maxHeartbeats 4000000
/-! The document's disk: at. CUT2 -/
structure AtInv (H1 : Heap) (fs : List RFl) (t : Txt) (m : Nat) (vs : List Value) (H' : Heap) : Prop where
  ex : ∃ i : Nat, vs = [.int .i64 (i : Int)] ∧ m + i = fs.length ∧ H' = H1 ∧ ∀ (j : Nat) f, j < i → fs[j]? = some f → f.name < t
section
variable {H1 H : Heap} {g : Nat} {s : St} {K : Value → Heap → Prop}
theorem rat_t {fs : List RFl} {aF : Option Addr} {cF : Nat} {cl st : Int} {t : Txt} (r : RIn H1 H g s fs aF cF cl st) (hl : fs.length ≤ 1000)
    (hyes : ∀ i f, fs[i]? = some f → f.name = t → K (.int .i64 ((i : Nat) : Int)) H)
    (hno : ∀ i : Nat, i ≤ fs.length → (∀ (j : Nat) f, j < i → fs[j]? = some f → f.name < t) → (∀ (j : Nat) f, i ≤ j → fs[j]? = some f → t < f.name) → K (.int .i64 (-1 - (i : Int))) H) :
    HCalls Tryz.prog 48 [.pointer (some ⟨g, 0, none⟩), .string (bs t)] H K := by
  refine hcalls (fn := Tryz.f48) [] mixed Tryz.func48 rfl rfl (by decide +kernel) ?_
  (repeat first | refine HReg.step ?_ | refine HCode.step ?_)
  refine hloopC [4, 5, 6, 7, 8, 9, 10, 11, 12, 13, 14, 15, 16, 17, 18, 19, 20, 21, 22, 23, 24, 25, 26, 27, 28, 29, 30, 31, 32, 33, 34, 35, 36, 37] [5] (AtInv H fs t) rfl (by repeat' first | exact Resp.retD | exact Resp1.valuesK | refine Resp.blockD ?_ | refine Resp.thenD ?_ ?_ | refine Resp.hcode ?_) ?_ ?_
  · exact ⟨fs.length, AtInv.mk ⟨0, rfl, rfl, rfl, fun j f h => absurd h (Nat.not_lt_zero _)⟩⟩
  rintro m _ fe H2 ⟨i, rfl, hmi, hH, hlt⟩
  have hH := hH.symm
  subst hH
  have wi : wr .i64 ((i : Int) + 1) = ((i + 1 : Nat) : Int) := by rw [wr_i64 (by omega) (by omega)]; omega
  have wn : wr .i64 (-1 - (i : Int)) = -1 - (i : Int) := wr_i64 (by omega) (by omega)
  have ob := r.obj.rows.get (i := 0) rfl
  (repeat first | refine HReg.step ?_ | refine HCode.step ?_)
  refine HLoad.one (v := .slice aF fs.length cF) (by exact ob) ?_
  (repeat first | refine HReg.step ?_ | refine HCode.step ?_)
  refine hif (fun h1 => ?_) (fun h1 => ?_)
  · have h1 := ltB_true.1 h1
    obtain ⟨f, hf⟩ : ∃ f, fs[i]? = some f := ⟨fs[i]'(by omega), by simp⟩
    obtain ⟨bF, rfl⟩ := r.row.addr (by omega)
    have nm := r.row.rows.get (rfV_get hf 0 _ rfl)
    (repeat first | refine HReg.step ?_ | refine HCode.step ?_)
    refine HLoad.one (v := .slice (some ⟨bF, 0, none⟩) fs.length cF) (by exact ob) ?_
    (repeat first | refine HReg.step ?_ | refine HCode.step ?_)
    refine HReq.mk ⟨by omega, by omega⟩ ?_
    (repeat first | refine HReg.step ?_ | refine HCode.step ?_)
    refine HLoad.one (v := .string (bs f.name)) (by exact nm) ?_
    (repeat first | refine HReg.step ?_ | refine HCode.step ?_)
    rw [seqB_bs]
    by_cases h2 : f.name = t
    · rw [decide_eq_true h2]
      (repeat first | refine HReg.step ?_ | refine HCode.step ?_)
      exact hyes i f hf h2
    rw [decide_eq_false h2]
    (repeat first | refine HReg.step ?_ | refine HCode.step ?_)
    refine HLoad.one (v := .slice (some ⟨bF, 0, none⟩) fs.length cF) (by exact ob) ?_
    (repeat first | refine HReg.step ?_ | refine HCode.step ?_)
    refine HReq.mk ⟨by omega, by omega⟩ ?_
    (repeat first | refine HReg.step ?_ | refine HCode.step ?_)
    refine HLoad.one (v := .string (bs f.name)) (by exact nm) ?_
    (repeat first | refine HReg.step ?_ | refine HCode.step ?_)
    rw [sltB_bs, seqB_bs, decide_eq_false h2]
    by_cases h3 : t < f.name
    · rw [decide_eq_false (fun h : f.name < t => List.lt_irrefl t (List.lt_trans h3 h))]
      (repeat first | refine HReg.step ?_ | refine HCode.step ?_)
      rw [wn]
      refine hno i (by omega) hlt fun j f' hj hf' => ?_
      by_cases e : j = i
      · subst e; rw [hf] at hf'; cases hf'; exact h3
      · have hp := List.pairwise_iff_getElem.1 r.ri i j (by rw [List.length_map]; omega) (by rw [List.length_map]; exact (List.getElem?_eq_some_iff.1 hf').1) (by omega)
        rw [List.getElem_map, List.getElem_map] at hp
        obtain ⟨q1, q2⟩ := List.getElem?_eq_some_iff.1 hf
        obtain ⟨q3, q4⟩ := List.getElem?_eq_some_iff.1 hf'
        rw [q2, q4] at hp
        exact List.lt_trans h3 hp
    rw [decide_eq_true (lt_of_le (List.not_lt.1 h3) h2)]
    (repeat first | refine HReg.step ?_ | refine HCode.step ?_)
    rw [wi]
    refine ⟨m - 1, by omega, AtInv.mk ⟨i + 1, rfl, by omega, rfl, fun j f' hj hf' => ?_⟩⟩
    by_cases e : j = i
    · subst e; rw [hf] at hf'; cases hf'
      exact lt_of_le (List.not_lt.1 h3) h2
    · exact hlt j f' (by omega) hf'
  · have h1 := ltB_false.1 h1
    obtain rfl : i = fs.length := by omega
    (repeat first | refine HReg.step ?_ | refine HCode.step ?_)
    refine HLoad.one (v := .slice aF fs.length cF) (by exact ob) ?_
    (repeat first | refine HReg.step ?_ | refine HCode.step ?_)
    rw [wn]
    exact hno fs.length (Nat.le_refl _) hlt fun j f' hj hf' => absurd (List.getElem?_eq_some_iff.1 hf').1 (by omega)
end
end Go.Proofs.YtfcmjomnpahllaaGreat
namespace Go.Proofs.YtfcmjomnpahllaaGreat
open Go Hv
set_option linter.unusedVariables false
set_option linter.unusedSimpArgs false
set_option maxRecDepth 10000
set_option maxHeartbeats 4000000
theorem set_slf {α : Type} {l : List α} {i : Nat} {x : α} (h : l[i]? = some x) : l.set i x = l := by
  apply List.ext_getElem?
  intro j
  rw [List.getElem?_set]
  split
  · rename_i e; subst e
    have := (List.getElem?_eq_some_iff.1 h).1
    rw [if_pos this, h]
  · rfl
/-! The document's disk: a file is changed; Sync. CUT2 -/
theorem names_ne {fs : List RFl} (ri : (fs.map RFl.name).Pairwise (· < ·)) {i j : Nat} {f f' : RFl} (hi : fs[i]? = some f) (hj : fs[j]? = some f') (h : i ≠ j) : f.name ≠ f'.name := by
  have key : ∀ {i j : Nat} {f f' : RFl}, fs[i]? = some f → fs[j]? = some f' → i < j → f.name < f'.name := fun {i j f f'} hi hj hij => by
    obtain ⟨q1, q2⟩ := List.getElem?_eq_some_iff.1 hi
    obtain ⟨q3, q4⟩ := List.getElem?_eq_some_iff.1 hj
    have hp := List.pairwise_iff_getElem.1 ri i j (by rw [List.length_map]; exact q1) (by rw [List.length_map]; exact q3) hij
    rw [List.getElem_map, List.getElem_map, q2, q4] at hp
    exact hp
  intro e
  rcases Nat.lt_or_gt_of_ne h with h' | h'
  · have := key hi hj h'; rw [e] at this; exact List.lt_irrefl _ this
  · have := key hj hi h'; rw [e] at this; exact List.lt_irrefl _ this
theorem bs_inj {a b : Txt} (h : bs a = bs b) : a = b := by
  have := congrArg (fun z : ByteArray => z.data.toList) h; exact this
theorem RIn.setf {H1 H H' : Heap} {g : Nat} {s : St} {fs : List RFl} {aF : Option Addr} {cF i : Nat} {cl st : Int} {f f' : RFl} (r : RIn H1 H g s fs aF cF cl st) (hi : fs[i]? = some f) (hn : f'.name = f.name)
    (ph : RPh H1 H' g (fs.set i f') aF cF s.d.off s.d.refuses cl st) (hs : f'.synced ≤ f'.bytes.length) : RIn H1 H' g (s.put (bs f.name) (f'.bytes, f'.synced)) (fs.set i f') aF cF cl st := by
  have hil := (List.getElem?_eq_some_iff.1 hi).1
  have hmap : (fs.set i f').map RFl.name = fs.map RFl.name := by
    rw [List.map_set, hn]
    exact set_slf (by rw [List.getElem?_map, hi]; rfl)
  have hmem : ∀ x ∈ fs.set i f', x = f' ∨ ∃ j, j ≠ i ∧ fs[j]? = some x := fun x hx => by
    obtain ⟨j, hj⟩ := List.getElem?_of_mem hx
    rw [List.getElem?_set] at hj
    split at hj
    · cases hj; exact .inl rfl
    · rename_i e; exact .inr ⟨j, fun h => e h.symm, hj⟩
  refine ⟨ph.obj, ph.row, ph.byt, ph.ap, ph.new, ph.base, by rw [hmap]; exact r.ri, fun x hx => ?_, fun k y hy => ?_, fun x hx => ?_, ?_, r.arm, r.hi, r.rhi⟩
  · show (if bs x.name = bs f.name then some (f'.bytes, f'.synced) else s.fs (bs x.name)) = _
    rcases hmem x hx with rfl | ⟨j, hj, hjx⟩
    · rw [if_pos (by rw [hn])]
    · rw [if_neg (fun h => names_ne r.ri hjx hi hj (bs_inj h))]
      exact r.get x (List.mem_of_getElem? hjx)
  · have hy : (if k = bs f.name then some (f'.bytes, f'.synced) else s.fs k) = some y := hy
    have hf' : f' ∈ fs.set i f' := List.mem_of_getElem? (List.getElem?_set_self hil)
    split at hy
    · rename_i e
      exact ⟨f', hf', by rw [hn, e]⟩
    · rename_i e
      obtain ⟨x, hx, hxn⟩ := r.all k y hy
      obtain ⟨j, hj⟩ := List.getElem?_of_mem hx
      have hji : j ≠ i := fun h => by subst h; rw [hi] at hj; cases hj; exact e hxn.symm
      exact ⟨x, List.mem_of_getElem? (i := j) (by rw [List.getElem?_set_ne (fun h => hji h.symm)]; exact hj), hxn⟩
  · rcases hmem x hx with rfl | ⟨j, hj, hjx⟩
    · exact hs
    · exact r.syn x (List.mem_of_getElem? hjx)
  · show (if (s.fs (bs f.name)).isSome then s.cnt else s.cnt + 1) = _
    rw [r.get f (List.mem_of_getElem? hi), List.length_set]
    exact r.cnt
theorem rblk_set {g : Nat} {aF : Option Addr} {fs : List RFl} {i : Nat} {f f' : RFl} (hi : fs[i]? = some f) (ha : f'.a = f.a) : rblk g aF (fs.set i f') = rblk g aF fs := by
  unfold rblk
  congr 2
  rw [List.flatMap_def, List.flatMap_def, List.map_set]
  congr 1
  exact set_slf (by rw [List.getElem?_map, hi]; unfold RFl.bl; rw [ha]; rfl)
theorem RIn.none {H1 H : Heap} {g : Nat} {s : St} {fs : List RFl} {aF : Option Addr} {cF i : Nat} {cl st : Int} {t : Txt} (r : RIn H1 H g s fs aF cF cl st) (h1 : ∀ (j : Nat) f, j < i → fs[j]? = some f → f.name < t) (h2 : ∀ (j : Nat) f, i ≤ j → fs[j]? = some f → t < f.name) : s.fs (bs t) = none := by
  cases e : s.fs (bs t) with
  | none => rfl
  | some x =>
    obtain ⟨f, hf, hn⟩ := r.all _ _ e
    obtain ⟨j, hj⟩ := List.getElem?_of_mem hf
    have hn := bs_inj hn
    by_cases h : j < i
    · have := h1 j f h hj; rw [hn] at this; exact absurd this (List.lt_irrefl _)
    · have := h2 j f (by omega) hj; rw [hn] at this; exact absurd this (List.lt_irrefl _)
end Go.Proofs.YtfcmjomnpahllaaGreat
namespace Go.Proofs.YtfcmjomnpahllaaGreat
open Go Hv
set_option linter.unusedVariables false
set_option linter.unusedSimpArgs false
set_option maxRecDepth 10000
set_option maxHeartbeats 4000000
/-! The document's disk: Sync, Read. CUT2 -/
structure Cok (s : St) (N : Nat) : Prop where
  kl : -9223372036854775808 ≤ s.d.keep
  kh : s.d.keep ≤ 9223372036854775807
  lo : -9223372036854775808 ≤ s.d.calls
  ok : s.Ok N
  hN : N ≤ 140737488355328
section
variable {H1 H : Heap} {g N : Nat} {s : St} {B : List Nat} {K : Value → Heap → Prop}
theorem rsync_t {t : Txt} (R : GAt H1 H g s B) (c : Cok s N)
    (hk : ∀ H' B', GAt H1 H' g (s.sync (bs t)).2 B' → Stq H H' B B' → K (.int .i64 (s.sync (bs t)).1) H') : HCalls Tryz.prog 42 [.pointer (some ⟨g, 0, none⟩), .string (bs t)] H K := by
  refine hcalls (fn := Tryz.f42) [(6, [(0, 0), (1, 0), (2, 0), (3, 0), (4, 0), (5, 0), (6, 0), (7, 0), (8, 0), (9, 0), (10, 0), (11, 0), (12, 0), (13, 0), (14, 0), (15, 0), (16, 0)])] mixed Tryz.func42 rfl rfl (by decide +kernel) ?_
  (repeat first | refine HReg.step ?_ | refine HCode.step ?_)
  refine HCall.mk ⟨Tryz.f46, Tryz.func46, by rfl, by rfl⟩ ?_
  refine rcounted_t R c.kl c.kh c.lo c.ok (Nat.le_trans c.hN (by decide)) fun H2 R2 S2 => ?_
  (repeat first | refine HReg.step ?_ | refine HCode.step ?_)
  refine hif (fun h1 => ?_) (fun h1 => ?_)
  · have e : s.sync (bs t) = (62, s.call) := St.has_off h1
    rw [e] at hk
    (repeat first | refine HReg.step ?_ | refine HCode.step ?_)
    exact hk H2 B R2 S2
  · have R2' := R2
    obtain ⟨fs, aF, cF, cl, st, r, rfl⟩ := R2
    (repeat first | refine HReg.step ?_ | refine HCode.step ?_)
    refine HCall.mk ⟨Tryz.f48, Tryz.func48, by rfl, by rfl⟩ ?_
    refine rat_t r (by have := r.cnt; have := c.ok.call.few; omega) (fun i f hf hn => ?_) (fun i hi hlt hgt => ?_)
    · have hg := r.get f (List.mem_of_getElem? hf)
      rw [hn] at hg
      have e : s.sync (bs t) = (0, s.call.put (bs t) (f.bytes, f.bytes.length)) := St.has_yes h1 hg
      rw [e] at hk
      have hil := (List.getElem?_eq_some_iff.1 hf).1
      obtain ⟨bF, rfl⟩ := r.row.addr (by omega)
      have ob := r.obj.rows.get (i := 0) rfl
      have nm := r.row.rows.get (rfV_get hf 1 _ rfl)
      (repeat first | refine HReg.step ?_ | refine HCode.step ?_)
      rw [ltB_false.2 (by omega)]
      (repeat first | refine HReg.step ?_ | refine HCode.step ?_)
      refine HLoad.one (v := .slice (some ⟨bF, 0, none⟩) fs.length cF) (by exact ob) ?_
      (repeat first | refine HReg.step ?_ | refine HCode.step ?_)
      refine HLoad.one (v := .slice (some ⟨bF, 0, none⟩) fs.length cF) (by exact ob) ?_
      (repeat first | refine HReg.step ?_ | refine HCode.step ?_)
      refine HReq.mk ⟨by omega, by omega⟩ ?_
      (repeat first | refine HReg.step ?_ | refine HCode.step ?_)
      refine HLoad.one (v := .slice f.a f.bytes.length f.c) (by exact nm) ?_
      (repeat first | refine HReg.step ?_ | refine HCode.step ?_)
      refine HReq.mk ⟨by omega, by omega⟩ ?_
      (repeat first | refine HReg.step ?_ | refine HCode.step ?_)
      refine RPh.store r.ph (f' := { f with synced := f.bytes.length }) hf rfl (k := 2) (by decide) rfl rfl (r.byt f (List.mem_of_getElem? hf)) (by show 0 + (i : Int).toNat * 3 + 2 = _; omega) fun H3 P3 u3 => ?_
      have r3 := r.setf (f' := { f with synced := f.bytes.length }) hf rfl P3 (Nat.le_refl _)
      (repeat first | refine HReg.step ?_ | refine HCode.step ?_)
      rw [← hn] at hk
      refine hk H3 _ ⟨_, _, _, _, _, r3, rfl⟩ (S2.trans ?_)
      rw [rblk_set (f' := { f with synced := f.bytes.length }) hf rfl]
      exact ⟨u3.mono (fun k hk => by rw [List.mem_singleton.1 hk]; exact mem_rblk.2 (.inr (.inl (by simp [blk])))), fun b hb => .inl hb⟩
    · have hnn := r.none hlt hgt
      have e : s.sync (bs t) = (61, s.call) := St.has_no h1 hnn
      rw [e] at hk
      (repeat first | refine HReg.step ?_ | refine HCode.step ?_)
      rw [ltB_true.2 (by omega)]
      (repeat first | refine HReg.step ?_ | refine HCode.step ?_)
      exact hk H2 _ R2' S2
theorem rread_t {t : Txt} (R : GAt H1 H g s B) (c : Cok s N)
    (hk : ∀ a c H', GAt H1 H' g s.call B → Stq H H' B B → OwnRow H' 5 1 a (s.readF (bs t)).2.length c (u8s (s.readF (bs t)).2) → (∀ p, a = some p → H p.block = none ∧ p.block ∉ B) → K (.tuple #[.slice a (s.readF (bs t)).2.length c, .int .i64 (s.readF (bs t)).1]) H') : HCalls Tryz.prog 36 [.pointer (some ⟨g, 0, none⟩), .string (bs t)] H K := by
  refine hcalls (fn := Tryz.f36) [] mixed Tryz.func36 rfl rfl (by decide +kernel) ?_
  (repeat first | refine HReg.step ?_ | refine HCode.step ?_)
  refine HCall.mk ⟨Tryz.f46, Tryz.func46, by rfl, by rfl⟩ ?_
  refine rcounted_t R c.kl c.kh c.lo c.ok (Nat.le_trans c.hN (by decide)) fun H2 R2 S2 => ?_
  (repeat first | refine HReg.step ?_ | refine HCode.step ?_)
  refine hif (fun h1 => ?_) (fun h1 => ?_)
  · have e : s.readF (bs t) = (62, []) := by unfold St.readF; rw [if_pos h1]
    rw [e] at hk
    (repeat first | refine HReg.step ?_ | refine HCode.step ?_)
    exact hk none 0 H2 R2 S2 (OwnRow.nil _ _ _) (fun p hp => by cases hp)
  · have R2' := R2
    obtain ⟨fs, aF, cF, cl, st, r, rfl⟩ := R2
    (repeat first | refine HReg.step ?_ | refine HCode.step ?_)
    refine HCall.mk ⟨Tryz.f48, Tryz.func48, by rfl, by rfl⟩ ?_
    refine rat_t r (by have := r.cnt; have := c.ok.call.few; omega) (fun i f hf hn => ?_) (fun i hi hlt hgt => ?_)
    · have hg := r.get f (List.mem_of_getElem? hf)
      rw [hn] at hg
      have e : s.readF (bs t) = (0, f.bytes) := by unfold St.readF; rw [if_neg (by rw [h1]; decide), hg]
      rw [e] at hk
      have hil := (List.getElem?_eq_some_iff.1 hf).1
      obtain ⟨bF, rfl⟩ := r.row.addr (by omega)
      have ob := r.obj.rows.get (i := 0) rfl
      have nm := r.row.rows.get (rfV_get hf 1 _ rfl)
      (repeat first | refine HReg.step ?_ | refine HCode.step ?_)
      rw [ltB_false.2 (by omega)]
      (repeat first | refine HReg.step ?_ | refine HCode.step ?_)
      refine HLoad.one (v := .slice (some ⟨bF, 0, none⟩) fs.length cF) (by exact ob) ?_
      (repeat first | refine HReg.step ?_ | refine HCode.step ?_)
      refine HReq.mk ⟨by omega, by omega⟩ ?_
      (repeat first | refine HReg.step ?_ | refine HCode.step ?_)
      refine HLoad.one (v := .slice f.a f.bytes.length f.c) (by exact nm) ?_
      (repeat first | refine HReg.step ?_ | refine HCode.step ?_)
      refine append_own (xs := []) (OwnRow.nil _ _ _) (r.byt f (List.mem_of_getElem? hf)).rows rfl (by have := (c.ok.call.le _ _ hg).1; have := c.hN; simp only at *; omega) fun a6 c6 H6 o6 u6 f6 => ?_
      have u6' : Upd [] H2 H6 := u6
      rw [Nat.zero_add f.bytes.length, List.nil_append] at o6
      rw [Nat.zero_add f.bytes.length]
      (repeat first | refine HReg.step ?_ | refine HCode.step ?_)
      have hk := hk a6 c6 H6 (R2'.upd0 u6') (S2.trans (Stq.new0 u6')) o6
      refine hk fun p hp => ?_
      rcases f6 p hp with h | h
      · cases h
      · have hB : p.block ∉ rblk g (some ⟨bF, 0, none⟩) fs := fun hb => R2'.live _ hb h
        exact ⟨Classical.byContradiction fun hn => hn (by rw [← S2.upd _ hB hn]; exact h), hB⟩
    · have hnn := r.none hlt hgt
      have e : s.readF (bs t) = (61, []) := by unfold St.readF; rw [if_neg (by rw [h1]; decide), hnn]
      rw [e] at hk
      (repeat first | refine HReg.step ?_ | refine HCode.step ?_)
      rw [ltB_true.2 (by omega)]
      (repeat first | refine HReg.step ?_ | refine HCode.step ?_)
      exact hk none 0 H2 R2' S2 (OwnRow.nil _ _ _) (fun p hp => by cases hp)
end
end Go.Proofs.YtfcmjomnpahllaaGreat
namespace Go.Proofs.YtfcmjomnpahllaaGreat
open Go Hv
set_option linter.unusedVariables false
set_option linter.unusedSimpArgs false
set_option maxRecDepth 10000
set_option maxHeartbeats 4000000
/-! The document's disk: Cut. CUT2 -/
section
variable {H1 H : Heap} {g N : Nat} {s : St} {B : List Nat} {K : Value → Heap → Prop}
theorem rcut_t {t : Txt} {k : Int} (R : GAt H1 H g s B) (c : Cok s N)
    (hk : ∀ H' B', GAt H1 H' g (s.cut (bs t) k).2 B' → Stq H H' B B' → K (.int .i64 (s.cut (bs t) k).1) H') : HCalls Tryz.prog 38 [.pointer (some ⟨g, 0, none⟩), .string (bs t), .int .i64 k] H K := by
  refine hcalls (fn := Tryz.f38) [(8, [(0, 0), (1, 0), (2, 0), (3, 0), (4, 0), (5, 0), (6, 0), (7, 0), (8, 0), (9, 0), (10, 0), (11, 0), (12, 0), (13, 0), (14, 0), (15, 0), (16, 0), (17, 0), (18, 0)]), (9, [(0, 0), (1, 0), (2, 0), (3, 0), (4, 0), (5, 0), (6, 0), (7, 0), (8, 0), (9, 0), (10, 0), (11, 0), (12, 0), (13, 0), (14, 0), (15, 0), (16, 0), (17, 0)])] mixed Tryz.func38 rfl rfl (by decide +kernel) ?_
  (repeat first | refine HReg.step ?_ | refine HCode.step ?_)
  refine HCall.mk ⟨Tryz.f46, Tryz.func46, by rfl, by rfl⟩ ?_
  refine rcounted_t R c.kl c.kh c.lo c.ok (Nat.le_trans c.hN (by decide)) fun H2 R2 S2 => ?_
  (repeat first | refine HReg.step ?_ | refine HCode.step ?_)
  refine hif (fun h1 => ?_) (fun h1 => ?_)
  · have e : s.cut (bs t) k = (62, s.call) := St.has_off h1
    rw [e] at hk
    (repeat first | refine HReg.step ?_ | refine HCode.step ?_)
    exact hk H2 B R2 S2
  · have R2' := R2
    obtain ⟨fs, aF, cF, cl, st, r, rfl⟩ := R2
    (repeat first | refine HReg.step ?_ | refine HCode.step ?_)
    refine HCall.mk ⟨Tryz.f48, Tryz.func48, by rfl, by rfl⟩ ?_
    refine rat_t r (by have := r.cnt; have := c.ok.call.few; omega) (fun i f hf hn => ?_) (fun i hi hlt hgt => ?_)
    · have hg := r.get f (List.mem_of_getElem? hf)
      rw [hn] at hg
      have hm := List.mem_of_getElem? hf
      have hN := c.hN
      have hle := (c.ok.call.le _ _ hg).1
      have hsy := (c.ok.call.le _ _ hg).2
      simp only at hle hsy
      have e : s.cut (bs t) k = if 0 ≤ k ∧ k ≤ f.bytes.length then (0, s.call.put (bs t) (f.bytes.take k.toNat, min f.synced k.toNat)) else (1, s.call) := St.has_yes h1 hg
      have bad : ¬ (0 ≤ k ∧ k ≤ (f.bytes.length : Int)) → K (.int .i64 1) H2 := fun hb => by
        rw [e, if_neg hb] at hk
        exact hk H2 _ R2' S2
      have hil := (List.getElem?_eq_some_iff.1 hf).1
      obtain ⟨bF, rfl⟩ := r.row.addr (by omega)
      have ob := r.obj.rows.get (i := 0) rfl
      have nm := r.row.rows.get (rfV_get hf 1 _ rfl)
      (repeat first | refine HReg.step ?_ | refine HCode.step ?_)
      rw [ltB_false.2 (by omega)]
      (repeat first | refine HReg.step ?_ | refine HCode.step ?_)
      by_cases h2 : k < 0
      · rw [ltB_true.2 h2]
        (repeat first | refine HReg.step ?_ | refine HCode.step ?_)
        exact bad (by omega)
      rw [ltB_false.2 (by omega)]
      (repeat first | refine HReg.step ?_ | refine HCode.step ?_)
      refine HLoad.one (v := .slice (some ⟨bF, 0, none⟩) fs.length cF) (by exact ob) ?_
      (repeat first | refine HReg.step ?_ | refine HCode.step ?_)
      refine HReq.mk ⟨by omega, by omega⟩ ?_
      (repeat first | refine HReg.step ?_ | refine HCode.step ?_)
      refine HLoad.one (v := .slice f.a f.bytes.length f.c) (by exact nm) ?_
      (repeat first | refine HReg.step ?_ | refine HCode.step ?_)
      refine hif (fun h3 => ?_) (fun h3 => ?_)
      · have h3 := ltB_true.1 h3
        (repeat first | refine HReg.step ?_ | refine HCode.step ?_)
        exact bad (by omega)
      have h3 := ltB_false.1 h3
      rw [e, if_pos ⟨by omega, h3⟩] at hk
      generalize hq : k.toNat = q at hk
      obtain rfl : k = (q : Int) := by omega
      have tl1 : q ≤ f.bytes.length := by omega
      have hW := (r.byt f hm).cut tl1
      rw [Nat.mul_one, ← u8s_take] at hW
      (repeat first | refine HReg.step ?_ | refine HCode.step ?_)
      refine HLoad.one (v := .slice (some ⟨bF, 0, none⟩) fs.length cF) (by exact ob) ?_
      (repeat first | refine HReg.step ?_ | refine HCode.step ?_)
      refine HLoad.one (v := .slice (some ⟨bF, 0, none⟩) fs.length cF) (by exact ob) ?_
      (repeat first | refine HReg.step ?_ | refine HCode.step ?_)
      refine HReq.mk ⟨by omega, by omega⟩ ?_
      (repeat first | refine HReg.step ?_ | refine HCode.step ?_)
      refine HLoad.one (v := .slice f.a f.bytes.length f.c) (by exact nm) ?_
      (repeat first | refine HReg.step ?_ | refine HCode.step ?_)
      refine HReq.mk ⟨⟨by omega, by have := (r.byt f hm).le; omega⟩, ⟨by omega, by omega⟩⟩ ?_
      (repeat first | refine HReg.step ?_ | refine HCode.step ?_)
      refine HReq.mk ⟨by omega, by omega⟩ ?_
      (repeat first | refine HReg.step ?_ | refine HCode.step ?_)
      refine r.ph.store (k := 1) (f' := ⟨f.name, f.a, q, f.bytes.take q, f.synced⟩) hf rfl (by decide) (by unfold RFl.cells; simp only [List.set, List.length_take]; rw [Nat.min_eq_left tl1]; rfl) rfl (by rw [List.length_take, Nat.min_eq_left tl1]; exact hW) (by show 0 + (i : Int).toNat * 3 + 1 = _; omega) fun H5 ph5 u5 => ?_
      have hm5 : (⟨f.name, f.a, q, f.bytes.take q, f.synced⟩ : RFl) ∈ fs.set i ⟨f.name, f.a, q, f.bytes.take q, f.synced⟩ := List.mem_of_getElem? (i := i) (by rw [List.getElem?_set_self (by omega)])
      have w5 := ph5.byt _ hm5
      have ob5 := ph5.obj.rows.get (i := 0) rfl
      rw [List.length_set] at ob5
      have nm5 := ph5.row.rows.get (rfV_get (fs := fs.set i ⟨f.name, f.a, q, f.bytes.take q, f.synced⟩) (i := i) (by rw [List.getElem?_set_self (by omega)]) 2 _ rfl)
      (repeat first | refine HReg.step ?_ | refine HCode.step ?_)
      refine HLoad.one (v := .slice (some ⟨bF, 0, none⟩) fs.length cF) (by exact ob5) ?_
      (repeat first | refine HReg.step ?_ | refine HCode.step ?_)
      refine HLoad.one (v := .slice (some ⟨bF, 0, none⟩) fs.length cF) (by exact ob5) ?_
      (repeat first | refine HReg.step ?_ | refine HCode.step ?_)
      refine HReq.mk ⟨by omega, by omega⟩ ?_
      (repeat first | refine HReg.step ?_ | refine HCode.step ?_)
      refine HLoad.one (v := .int .i64 (f.synced : Int)) (by exact nm5) ?_
      (repeat first | refine HReg.step ?_ | refine HCode.step ?_)
      refine HReq.mk ⟨by omega, by omega⟩ ?_
      (repeat first | refine HReg.step ?_ | refine HCode.step ?_)
      rw [ite_mn, ite_min]
      have hmin : min (f.synced : Int) (q : Int) = ((min f.synced q : Nat) : Int) := by omega
      rw [hmin]
      refine ph5.store (k := 2) (f := ⟨f.name, f.a, q, f.bytes.take q, f.synced⟩) (f' := ⟨f.name, f.a, q, f.bytes.take q, min f.synced q⟩) (by rw [List.getElem?_set_self (by omega)]) rfl (by decide) rfl rfl w5 (by show 0 + (i : Int).toNat * 3 + 2 = _; omega) fun H6 ph6 u6 => ?_
      rw [List.set_set] at ph6
      have r6 := r.setf (f' := ⟨f.name, f.a, q, f.bytes.take q, min f.synced q⟩) hf rfl ph6 (by show min f.synced q ≤ (f.bytes.take q).length; rw [List.length_take]; omega)
      (repeat first | refine HReg.step ?_ | refine HCode.step ?_)
      rw [← hn] at hk
      refine hk H6 _ ⟨_, _, _, _, _, r6, rfl⟩ (S2.trans ?_)
      rw [rblk_set (f' := ⟨f.name, f.a, q, f.bytes.take q, min f.synced q⟩) hf rfl]
      exact ⟨(u5.trans u6).mono (fun k hk => by rw [List.mem_singleton.1 hk]; exact mem_rblk.2 (.inr (.inl (by simp [blk])))), fun b hb => .inl hb⟩
    · have hnn := r.none hlt hgt
      have e : s.cut (bs t) k = (61, s.call) := St.has_no h1 hnn
      rw [e] at hk
      (repeat first | refine HReg.step ?_ | refine HCode.step ?_)
      rw [ltB_true.2 (by omega)]
      (repeat first | refine HReg.step ?_ | refine HCode.step ?_)
      exact hk H2 _ R2' S2
end
end Go.Proofs.YtfcmjomnpahllaaGreat
namespace Go.Proofs.YtfcmjomnpahllaaGreat
open Go Hv
set_option linter.unusedVariables false
set_option linter.unusedSimpArgs false
set_option maxRecDepth 10000
set_option maxHeartbeats 4000000
/-! The document's disk: new slices of files. CUT2 -/
theorem append_rf {a b : Option Addr} {n cap m c : Nat} {xs ys : List RFl} {H : Heap} {K : Value → Heap → Prop} (ho : OwnRow H 87 3 a n cap (rfV xs)) (hy : RowAt H b (rfV ys)) (hm : ys.length = m) (hlim : n + m ≤ 1000)
    (hk : ∀ a' cap' H', OwnRow H' 87 3 a' (n + m) cap' (rfV (xs ++ ys)) → Upd (blk a) H H' → (∀ p, a' = some p → a = some p ∨ H p.block = none) → K (.slice a' (n + m) cap') H') :
    HSem Tryz.prog (Builtin.append_ #[65, 65] 65 [.slice a n cap, .slice b m c].toArray) H K := by
  refine append_rows (ie := Tryz.t87) (z := .agg #[.string ⟨#[]⟩, .slice none 0 0, .int .i64 0]) (ys := rfV ys) (xs := rfV xs) Tryz.underlying65 rfl rfl rfl (by decide) ho hy (by rw [rfV_length, hm]; rfl) (plain_rf _) (by show (n + m) * 48 ≤ _; omega) (by omega) fun a' cap' H' o u f => ?_
  rw [← rfV_append] at o
  exact hk a' cap' H' o u f
theorem RPh.redo {H1 H H' : Heap} {g : Nat} {fs fs' : List RFl} {aF aF' : Option Addr} {cF cF' : Nat} {off : Bool} {rf cl st : Int} (R : RPh H1 H g fs aF cF off rf cl st) (u : Upd [g] H H') (o : OwnRow H' 67 1 (some ⟨g, 0, none⟩) 5 5 (rdcells aF' fs'.length cF' off rf cl st))
    (row : OwnRow H' 87 3 aF' fs'.length cF' (rfV fs')) (na : ∀ b ∈ blk aF', H b = none) (byt : ∀ f ∈ fs', WRow H 5 1 f.a f.bytes.length f.c (u8s f.bytes)) (ap : ∀ (i j : Nat) f f', i ≠ j → fs'[i]? = some f → fs'[j]? = some f' → ∀ b ∈ f.bl, b ∉ f'.bl)
    (sub : ∀ f ∈ fs', ∀ b ∈ f.bl, b ∈ rblk g aF fs) : RPh H1 H' g fs' aF' cF' off rf cl st ∧ Stq H H' (rblk g aF fs) (rblk g aF' fs') := by
  have hgb : ∀ f ∈ fs', ∀ b ∈ f.bl, b ∉ [g] := fun f hf b hb hm => by
    rw [List.mem_singleton.1 hm] at hb
    obtain ⟨c, z, e⟩ := own_live R.obj
    obtain ⟨c', z', e'⟩ := (byt f hf).live g hb
    rw [e] at e'; cases e'
  refine ⟨⟨o, row, fun f hf => (byt f hf).upd u (off_notin (hgb f hf)), ap, fun b hb => ?_, Upd.drop R.base u (fun b hb => by rw [List.mem_singleton.1 hb]; exact R.new g (mem_rblk.2 (.inl rfl)))⟩, ⟨u.mono (fun k hk => by rw [List.mem_singleton.1 hk]; exact mem_rblk.2 (.inl rfl)), fun b hb => ?_⟩⟩
  · rcases mem_rblk.1 hb with h | h | ⟨f, hf, h⟩
    · exact R.new b (mem_rblk.2 (.inl h))
    · exact Classical.byContradiction fun hn => hn (by rw [← R.base b (by simp) hn]; exact na b h)
    · exact R.new b (sub f hf b h)
  · rcases mem_rblk.1 hb with h | h | ⟨f, hf, h⟩
    · exact .inl (mem_rblk.2 (.inl h))
    · exact .inr (na b h)
    · exact .inl (sub f hf b h)
end Go.Proofs.YtfcmjomnpahllaaGreat
namespace Go.Proofs.YtfcmjomnpahllaaGreat
open Go Hv
set_option linter.unusedVariables false
set_option linter.unusedSimpArgs false
set_option maxRecDepth 10000
set_option maxHeartbeats 4000000
/-! The document's disk: gone. CUT2 -/
theorem rfV_take : ∀ (fs : List RFl) (i : Nat), rfV (fs.take i) = (rfV fs).take (i * 3)
  | [], i => by simp [rfV]
  | f :: fs, 0 => by simp [rfV]
  | f :: fs, i + 1 => by
    show f.cells ++ rfV (fs.take i) = (f.cells ++ rfV fs).take _
    have e : f.cells.length = 3 := rfl
    have e2 : (i + 1) * 3 = f.cells.length + i * 3 := by rw [e]; omega
    rw [rfV_take fs i, e2, List.take_length_add_append]
theorem rfV_drop : ∀ (fs : List RFl) (i : Nat), rfV (fs.drop i) = (rfV fs).drop (i * 3)
  | [], i => by simp [rfV]
  | f :: fs, 0 => by simp [rfV]
  | f :: fs, i + 1 => by
    show rfV (fs.drop i) = (f.cells ++ rfV fs).drop _
    have e : f.cells.length = 3 := rfl
    have e2 : (i + 1) * 3 = f.cells.length + i * 3 := by rw [e]; omega
    rw [rfV_drop fs i, e2, List.drop_length_add_append]
section
variable {H1 H : Heap} {g : Nat} {K : Value → Heap → Prop}
end
end Go.Proofs.YtfcmjomnpahllaaGreat
namespace Go.Proofs.YtfcmjomnpahllaaGreat
open Go Hv
set_option linter.unusedVariables false
set_option linter.unusedSimpArgs false
set_option maxRecDepth 10000
set_option maxHeartbeats 4000000
/-! The document's disk: Delete. CUT2 -/
theorem erase_get {fs : List RFl} {i : Nat} : ∀ (j : Nat) f, (fs.take i ++ fs.drop (i + 1))[j]? = some f → fs[if j < i then j else j + 1]? = some f := fun j f h => by
  rw [← List.eraseIdx_eq_take_drop_succ, List.getElem?_eraseIdx] at h
  split at h <;> rename_i q
  · rw [if_pos q]; exact h
  · rw [if_neg q]; exact h
theorem RIn.del {H1 H H' : Heap} {g : Nat} {s : St} {fs : List RFl} {aF aF' : Option Addr} {cF cF' i : Nat} {cl st : Int} {f : RFl} (r : RIn H1 H g s fs aF cF cl st) (hi : fs[i]? = some f)
    (ph : RPh H1 H' g (fs.take i ++ fs.drop (i + 1)) aF' cF' s.d.off s.d.refuses cl st) : RIn H1 H' g (s.del (bs f.name)) (fs.take i ++ fs.drop (i + 1)) aF' cF' cl st := by
  have hil := (List.getElem?_eq_some_iff.1 hi).1
  have hmem : ∀ x ∈ fs.take i ++ fs.drop (i + 1), ∃ j, j ≠ i ∧ fs[j]? = some x := fun x hx => by
    obtain ⟨j, hj⟩ := List.getElem?_of_mem hx
    exact ⟨_, by split <;> omega, erase_get j x hj⟩
  have hne : ∀ x ∈ fs.take i ++ fs.drop (i + 1), ¬ bs x.name = bs f.name := fun x hx h => by
    obtain ⟨j, hj, hjx⟩ := hmem x hx
    exact names_ne r.ri hjx hi hj (bs_inj h)
  refine ⟨ph.obj, ph.row, ph.byt, ph.ap, ph.new, ph.base, ?_, fun x hx => ?_, fun k y hy => ?_, fun x hx => ?_, ?_, r.arm, r.hi, r.rhi⟩
  · rw [← List.eraseIdx_eq_take_drop_succ]
    exact r.ri.sublist ((List.eraseIdx_sublist fs i).map _)
  · show (if bs x.name = bs f.name then Option.none else s.fs (bs x.name)) = _
    rw [if_neg (hne x hx)]
    obtain ⟨j, hj, hjx⟩ := hmem x hx
    exact r.get x (List.mem_of_getElem? hjx)
  · have hy : (if k = bs f.name then Option.none else s.fs k) = some y := hy
    split at hy
    · cases hy
    · rename_i e
      obtain ⟨x, hx, hxn⟩ := r.all k y hy
      obtain ⟨j, hj⟩ := List.getElem?_of_mem hx
      have hji : j ≠ i := fun h => by subst h; rw [hi] at hj; cases hj; exact e hxn.symm
      refine ⟨x, ?_, hxn⟩
      rw [← List.eraseIdx_eq_take_drop_succ]
      by_cases q : j < i
      · exact List.mem_of_getElem? (i := j) (by rw [List.getElem?_eraseIdx, if_pos q]; exact hj)
      · exact List.mem_of_getElem? (i := j - 1) (by rw [List.getElem?_eraseIdx, if_neg (by omega), Nat.sub_add_cancel (by omega)]; exact hj)
  · obtain ⟨j, hj, hjx⟩ := hmem x hx
    exact r.syn x (List.mem_of_getElem? hjx)
  · have := r.cnt
    show (if (s.fs (bs f.name)).isSome then s.cnt - 1 else s.cnt) = _
    rw [r.get f (List.mem_of_getElem? hi)]
    show s.cnt - 1 = _
    rw [List.length_append, List.length_take, List.length_drop]; omega
end Go.Proofs.YtfcmjomnpahllaaGreat
namespace Go.Proofs.YtfcmjomnpahllaaGreat
open Go Hv
set_option linter.unusedVariables false
set_option linter.unusedSimpArgs false
set_option maxRecDepth 10000
set_option maxHeartbeats 4000000
/-! The document's disk: Delete. CUT2 -/
section
variable {H1 H : Heap} {g N : Nat} {s : St} {B : List Nat} {K : Value → Heap → Prop}
end
end Go.Proofs.YtfcmjomnpahllaaGreat
namespace Go.Proofs.YtfcmjomnpahllaaGreat
open Go Hv
set_option linter.unusedVariables false
set_option linter.unusedSimpArgs false
set_option maxRecDepth 10000
set_option maxHeartbeats 4000000
/-! The document's disk: a file is added or taken in the place of one of its name. CUT2 -/
theorem RPh.redo2 {H1 H H' : Heap} {g : Nat} {fs fs' : List RFl} {aF aF' : Option Addr} {cF cF' : Nat} {off : Bool} {rf cl st : Int} {X : List Nat} (R : RPh H1 H g fs aF cF off rf cl st) (u : Upd [g] H H') (o : OwnRow H' 67 1 (some ⟨g, 0, none⟩) 5 5 (rdcells aF' fs'.length cF' off rf cl st))
    (row : OwnRow H' 87 3 aF' fs'.length cF' (rfV fs')) (na : ∀ b ∈ blk aF', H b = none) (byt : ∀ f ∈ fs', WRow H 5 1 f.a f.bytes.length f.c (u8s f.bytes)) (ap : ∀ (i j : Nat) f f', i ≠ j → fs'[i]? = some f → fs'[j]? = some f' → ∀ b ∈ f.bl, b ∉ f'.bl)
    (sub : ∀ f ∈ fs', ∀ b ∈ f.bl, b ∈ rblk g aF fs ∨ b ∈ X) (hX : ∀ b ∈ X, H1 b = none) : RPh H1 H' g fs' aF' cF' off rf cl st ∧ Stq H H' (rblk g aF fs ++ X) (rblk g aF' fs') := by
  have hgb : ∀ f ∈ fs', ∀ b ∈ f.bl, b ∉ [g] := fun f hf b hb hm => by
    rw [List.mem_singleton.1 hm] at hb
    obtain ⟨c, z, e⟩ := own_live R.obj
    obtain ⟨c', z', e'⟩ := (byt f hf).live g hb
    rw [e] at e'; cases e'
  refine ⟨⟨o, row, fun f hf => (byt f hf).upd u (off_notin (hgb f hf)), ap, fun b hb => ?_, Upd.drop R.base u (fun b hb => by rw [List.mem_singleton.1 hb]; exact R.new g (mem_rblk.2 (.inl rfl)))⟩, ⟨u.mono (fun k hk => by rw [List.mem_singleton.1 hk]; exact List.mem_append_left _ (mem_rblk.2 (.inl rfl))), fun b hb => ?_⟩⟩
  · rcases mem_rblk.1 hb with h | h | ⟨f, hf, h⟩
    · exact R.new b (mem_rblk.2 (.inl h))
    · exact Classical.byContradiction fun hn => hn (by rw [← R.base b (by simp) hn]; exact na b h)
    · rcases sub f hf b h with h | h
      · exact R.new b h
      · exact hX b h
  · rcases mem_rblk.1 hb with h | h | ⟨f, hf, h⟩
    · exact .inl (List.mem_append_left _ (mem_rblk.2 (.inl h)))
    · exact .inr (na b h)
    · rcases sub f hf b h with h | h
      · exact .inl (List.mem_append_left _ h)
      · exact .inl (List.mem_append_right _ h)
theorem ins_get {fs : List RFl} {i : Nat} {f : RFl} (hi : i ≤ fs.length) : ∀ (j : Nat) x, (fs.take i ++ f :: fs.drop i)[j]? = some x → (j = i ∧ x = f) ∨ (j ≠ i ∧ fs[if j < i then j else j - 1]? = some x) := fun j x h => by
  have hl : (fs.take i).length = i := by rw [List.length_take]; omega
  by_cases q : j < i
  · rw [List.getElem?_append_left (by omega), List.getElem?_take, if_pos q] at h
    exact .inr ⟨by omega, by rw [if_pos q]; exact h⟩
  · rw [List.getElem?_append_right (by omega), hl] at h
    by_cases e : j = i
    · subst e; rw [Nat.sub_self] at h; exact .inl ⟨rfl, by cases h; rfl⟩
    · obtain ⟨d, rfl⟩ : ∃ d, j = i + 1 + d := ⟨j - i - 1, by omega⟩
      have e2 : i + 1 + d - i = d + 1 := by omega
      rw [e2, List.getElem?_cons_succ, List.getElem?_drop] at h
      exact .inr ⟨e, by rw [if_neg q]; have : i + 1 + d - 1 = i + d := by omega
                        rw [this]; exact h⟩
end Go.Proofs.YtfcmjomnpahllaaGreat
namespace Go.Proofs.YtfcmjomnpahllaaGreat
open Go Hv
set_option linter.unusedVariables false
set_option linter.unusedSimpArgs false
set_option maxRecDepth 10000
set_option maxHeartbeats 4000000
/-! The document's disk: put. CUT2 -/
theorem mem_ins {fs : List RFl} {i : Nat} {f x : RFl} (h : x ∈ fs.take i ++ f :: fs.drop i) : x = f ∨ x ∈ fs := by
  rcases List.mem_append.1 h with h | h
  · exact .inr (List.mem_of_mem_take h)
  · rcases List.mem_cons.1 h with h | h
    · exact .inl h
    · exact .inr (List.mem_of_mem_drop h)
theorem mem_ins' {fs : List RFl} {i : Nat} {f x : RFl} (h : x = f ∨ x ∈ fs) : x ∈ fs.take i ++ f :: fs.drop i := by
  rcases h with h | h
  · rw [h]; simp
  · rw [← List.take_append_drop i fs] at h
    rcases List.mem_append.1 h with h | h
    · exact List.mem_append_left _ h
    · exact List.mem_append_right _ (List.mem_cons_of_mem _ h)
theorem RIn.ins {H1 H H' : Heap} {g : Nat} {s : St} {fs : List RFl} {aF aF' : Option Addr} {cF cF' i : Nat} {cl st : Int} {f : RFl} (r : RIn H1 H g s fs aF cF cl st) (hi : i ≤ fs.length)
    (h1 : ∀ (j : Nat) x, j < i → fs[j]? = some x → x.name < f.name) (h2 : ∀ (j : Nat) x, i ≤ j → fs[j]? = some x → f.name < x.name)
    (ph : RPh H1 H' g (fs.take i ++ f :: fs.drop i) aF' cF' s.d.off s.d.refuses cl st) (hs : f.synced ≤ f.bytes.length) : RIn H1 H' g (s.put (bs f.name) (f.bytes, f.synced)) (fs.take i ++ f :: fs.drop i) aF' cF' cl st := by
  have hnn := r.none h1 h2
  have hne : ∀ x ∈ fs, ¬ bs x.name = bs f.name := fun x hx h => by
    have := r.get x hx; rw [h, hnn] at this; cases this
  refine ⟨ph.obj, ph.row, ph.byt, ph.ap, ph.new, ph.base, ?_, fun x hx => ?_, fun k y hy => ?_, fun x hx => ?_, ?_, r.arm, r.hi, r.rhi⟩
  · have tk : ∀ a ∈ (fs.take i).map RFl.name, a < f.name := fun a ha => by
      obtain ⟨x, hx, rfl⟩ := List.mem_map.1 ha
      obtain ⟨j, hj⟩ := List.getElem?_of_mem hx
      rw [List.getElem?_take] at hj
      split at hj
      · exact h1 j x (by assumption) hj
      · cases hj
    have dr : ∀ a ∈ (fs.drop i).map RFl.name, f.name < a := fun a ha => by
      obtain ⟨x, hx, rfl⟩ := List.mem_map.1 ha
      obtain ⟨j, hj⟩ := List.getElem?_of_mem hx
      rw [List.getElem?_drop] at hj
      exact h2 (i + j) x (by omega) hj
    rw [List.map_append, List.map_cons]
    refine List.pairwise_append.2 ⟨r.ri.sublist ((List.take_sublist i fs).map _), List.pairwise_cons.2 ⟨dr, r.ri.sublist ((List.drop_sublist i fs).map _)⟩, fun a ha b hb => ?_⟩
    rcases List.mem_cons.1 hb with h | h
    · rw [h]; exact tk a ha
    · exact List.lt_trans (tk a ha) (dr b h)
  · show (if bs x.name = bs f.name then some (f.bytes, f.synced) else s.fs (bs x.name)) = _
    rcases mem_ins hx with rfl | h
    · rw [if_pos rfl]
    · rw [if_neg (hne x h)]; exact r.get x h
  · have hy : (if k = bs f.name then some (f.bytes, f.synced) else s.fs k) = some y := hy
    split at hy
    · rename_i e; exact ⟨f, mem_ins' (.inl rfl), e.symm⟩
    · obtain ⟨x, hx, hxn⟩ := r.all k y hy
      exact ⟨x, mem_ins' (.inr hx), hxn⟩
  · rcases mem_ins hx with rfl | h
    · exact hs
    · exact r.syn x h
  · have := r.cnt
    show (if (s.fs (bs f.name)).isSome then s.cnt else s.cnt + 1) = _
    rw [hnn, List.length_append, List.length_cons, List.length_take, List.length_drop]
    show s.cnt + 1 = _
    omega
end Go.Proofs.YtfcmjomnpahllaaGreat
namespace Go.Proofs.YtfcmjomnpahllaaGreat
open Go Hv
set_option linter.unusedVariables false
set_option linter.unusedSimpArgs false
set_option maxRecDepth 10000
set_option maxHeartbeats 4000000
/-! The document's disk: put. CUT2 -/
theorem store_file {H : Heap} {b cF i j : Nat} {fs : List RFl} {f0 f : RFl} {K : Heap → Prop} (row : OwnRow H 87 3 (some ⟨b, 0, none⟩) fs.length cF (rfV fs)) (hi : fs[i]? = some f0) (hj : j = i * 3)
    (hk : ∀ H', OwnRow H' 87 3 (some ⟨b, 0, none⟩) fs.length cF (rfV (fs.set i f)) → Upd [b] H H' → K H') : storeN H b j 0 K f.cells := by
  have hil := (List.getElem?_eq_some_iff.1 hi).1
  have hl : ∀ x, (fs.set i x)[i]? = some x := fun x => by rw [List.getElem?_set_self hil]
  refine store_row row.flat (v := .string (bs f.name)) rfl (i := i * 3 + 0) (by omega) (by omega) fun H1 o1 u1 => ?_
  rw [← rfV_set (f' := ⟨f.name, f0.a, f0.c, f0.bytes, f0.synced⟩) hi (by decide) rfl] at o1
  refine store_row o1 (v := .slice f.a f.bytes.length f.c) rfl (i := i * 3 + 1) (by omega) (by omega) fun H2 o2 u2 => ?_
  rw [← rfV_set (f' := ⟨f.name, f.a, f.c, f.bytes, f0.synced⟩) (hl _) (by decide) rfl, List.set_set] at o2
  refine store_row o2 (v := .int .i64 (f.synced : Int)) rfl (i := i * 3 + 2) (by omega) (by omega) fun H3 o3 u3 => ?_
  rw [← rfV_set (f' := f) (hl _) (by decide) rfl, List.set_set] at o3
  exact hk H3 (unflat o3 (by rw [rfV_length, List.length_set]) (by decide)) ((u1.trans u2).trans u3)
theorem RPh.redo3 {H1 H H' : Heap} {g : Nat} {fs fs' : List RFl} {aF : Option Addr} {cF : Nat} {off : Bool} {rf cl st : Int} {X : List Nat} (R : RPh H1 H g fs aF cF off rf cl st) (u : Upd (blk aF) H H') (hl : fs'.length = fs.length)
    (row : OwnRow H' 87 3 aF fs.length cF (rfV fs')) (byt : ∀ f ∈ fs', WRow H 5 1 f.a f.bytes.length f.c (u8s f.bytes)) (ap : ∀ (i j : Nat) f f', i ≠ j → fs'[i]? = some f → fs'[j]? = some f' → ∀ b ∈ f.bl, b ∉ f'.bl)
    (sub : ∀ f ∈ fs', ∀ b ∈ f.bl, b ∈ rblk g aF fs ∨ b ∈ X) (hX : ∀ b ∈ X, H1 b = none) : RPh H1 H' g fs' aF cF off rf cl st ∧ Stq H H' (rblk g aF fs ++ X) (rblk g aF fs') := by
  have t5 : ∀ {a : Option Addr} {n c : Nat} {xs : List Value}, WRow H 5 1 a n c xs → Off (blk aF) a := fun w => off_notin fun b hb hm => by
    obtain ⟨c, z, e⟩ := w.live b hb
    exact R.row.notT (by decide) b hm _ _ e
  refine ⟨⟨by rw [hl]; exact R.obj.upd u (R.row.offT R.obj (by decide)), by rw [hl]; exact row, fun f hf => (byt f hf).upd u (t5 (byt f hf)), ap, fun b hb => ?_, Upd.drop R.base u (fun b hb => R.new b (mem_rblk.2 (.inr (.inl hb))))⟩, ⟨u.mono (fun k hk => List.mem_append_left _ (mem_rblk.2 (.inr (.inl hk)))), fun b hb => ?_⟩⟩
  · rcases mem_rblk.1 hb with h | h | ⟨f, hf, h⟩
    · exact R.new b (mem_rblk.2 (.inl h))
    · exact R.new b (mem_rblk.2 (.inr (.inl h)))
    · rcases sub f hf b h with h | h
      · exact R.new b h
      · exact hX b h
  · rcases mem_rblk.1 hb with h | h | ⟨f, hf, h⟩
    · exact .inl (List.mem_append_left _ (mem_rblk.2 (.inl h)))
    · exact .inl (List.mem_append_left _ (mem_rblk.2 (.inr (.inl h))))
    · rcases sub f hf b h with h | h
      · exact .inl (List.mem_append_left _ h)
      · exact .inl (List.mem_append_right _ h)
theorem mem_set_f {fs : List RFl} {i : Nat} {f x : RFl} (hx : x ∈ fs.set i f) : x = f ∨ x ∈ fs := by
  rcases List.mem_or_eq_of_mem_set hx with h | h
  · exact .inr h
  · exact .inl h
section
variable {H1 H : Heap} {g : Nat} {s : St} {K : Value → Heap → Prop}
theorem rput_t {fs : List RFl} {aF : Option Addr} {cF : Nat} {cl st : Int} {f : RFl} (r : RIn H1 H g s fs aF cF cl st) (hl : fs.length ≤ 100) (w : WRow H 5 1 f.a f.bytes.length f.c (u8s f.bytes)) (hsy : f.synced ≤ f.bytes.length)
    (hap : ∀ x ∈ fs, ∀ b ∈ f.bl, b ∉ x.bl) (hnew : ∀ b ∈ f.bl, H1 b = none)
    (hk : ∀ H' B', GAt H1 H' g (s.put (bs f.name) (f.bytes, f.synced)) B' → Stq H H' (rblk g aF fs ++ f.bl) B' → K (.tuple #[]) H') : HCalls Tryz.prog 49 [.pointer (some ⟨g, 0, none⟩), .agg f.cells.toArray] H K := by
  refine hcalls (fn := Tryz.f49) [(3, [(0, 0), (1, 0), (2, 0), (3, 0), (4, 0), (5, 0), (6, 0), (7, 0)])] mixed Tryz.func49 rfl rfl (by decide +kernel) ?_
  (repeat first | refine HReg.step ?_ | refine HCode.step ?_)
  refine HNew.mk fun b1 hb1 => ?_
  have u1 : Upd [] H (H.upd b1 (.cells f.cells.toArray 87)) := Upd.new hb1 _
  have o1 : RowAt (H.upd b1 (.cells f.cells.toArray 87)) (some ⟨b1, 0, none⟩) f.cells := RowAt.of_cells (upd_same _ _ _)
  have hH' : H.upd b1 (.cells [Value.string (bs f.name), .slice f.a f.bytes.length f.c, .int .i64 (f.synced : Int)].toArray 87) = H.upd b1 (.cells f.cells.toArray 87) := rfl
  rw [hH']
  generalize hH2 : H.upd b1 (.cells f.cells.toArray 87) = H2 at u1 o1
  have r2 := r.upd0 u1
  have w2 := w.upd u1 (Off.nil _)
  (repeat first | refine HReg.step ?_ | refine HCode.step ?_)
  refine HLoad.one (v := .string (bs f.name)) (by exact o1.get (i := 0) rfl) ?_
  (repeat first | refine HReg.step ?_ | refine HCode.step ?_)
  refine HCall.mk ⟨Tryz.f48, Tryz.func48, by rfl, by rfl⟩ ?_
  refine rat_t r2 (by omega) (fun i f0 hf hn => ?_) (fun i hi hlt hgt => ?_)
  · have hil := (List.getElem?_eq_some_iff.1 hf).1
    obtain ⟨bF, rfl⟩ := r2.row.addr (by omega)
    have ob := r2.obj.rows.get (i := 0) rfl
    (repeat first | refine HReg.step ?_ | refine HCode.step ?_)
    rw [ltB_false.2 (by omega)]
    (repeat first | refine HReg.step ?_ | refine HCode.step ?_)
    refine HLoad.one (v := .slice (some ⟨bF, 0, none⟩) fs.length cF) (by exact ob) ?_
    (repeat first | refine HReg.step ?_ | refine HCode.step ?_)
    refine HLoadN_row o1 rfl ?_
    (repeat first | refine HReg.step ?_ | refine HCode.step ?_)
    refine HReq.mk ⟨by omega, by omega⟩ ?_
    (repeat first | refine HReg.step ?_ | refine HCode.step ?_)
    refine store_file (f := f) r2.row hf (by show 0 + (i : Int).toNat * 3 = _; omega) fun H3 o3 u3 => ?_
    have hg : ∀ (k : Nat) x, (fs.set i f)[k]? = some x → (k = i ∧ x = f) ∨ (k ≠ i ∧ fs[k]? = some x) := fun k x hx => by
      rw [List.getElem?_set] at hx
      split at hx
      · rename_i e; subst e
        cases hx; exact .inl ⟨rfl, rfl⟩
      · rename_i e; exact .inr ⟨fun h => e h.symm, hx⟩
    obtain ⟨p3, s3⟩ := r2.ph.redo3 (fs' := fs.set i f) (X := f.bl) u3 List.length_set o3 (fun x hx => by
      rcases mem_set_f hx with rfl | h
      · exact w2
      · exact r2.byt x h) (fun a b x y hab hx hy z hz => by
      rcases hg a x hx with ⟨rfl, rfl⟩ | ⟨ha, hx'⟩
      · rcases hg b y hy with ⟨rfl, rfl⟩ | ⟨hb, hy'⟩
        · exact absurd rfl hab
        · exact hap y (List.mem_of_getElem? hy') z hz
      · rcases hg b y hy with ⟨rfl, rfl⟩ | ⟨hb, hy'⟩
        · exact fun hz' => hap x (List.mem_of_getElem? hx') z hz' hz
        · exact r2.ap a b x y hab hx' hy' z hz) (fun x hx b hb => by
      rcases mem_set_f hx with rfl | h
      · exact .inr hb
      · exact .inl (mem_rblk.2 (.inr (.inr ⟨x, h, hb⟩)))) hnew
    have r3 := r2.setf (f' := f) hf hn.symm p3 hsy
    rw [hn] at r3
    (repeat first | refine HReg.step ?_ | refine HCode.step ?_)
    exact hk H3 _ ⟨_, _, _, _, _, r3, rfl⟩ ((Stq.new0 u1).trans s3)
  · have wi : wr .i64 (-1 - (-1 - (i : Int))) = (i : Int) := by rw [wr_i64 (by omega) (by omega)]; omega
    have hle := r2.row.le
    (repeat first | refine HReg.step ?_ | refine HCode.step ?_)
    rw [ltB_true.2 (by omega)]
    (repeat first | refine HReg.step ?_ | refine HCode.step ?_)
    rw [wi]
    refine HLoad.one (v := .slice aF fs.length cF) (by exact r2.obj.rows.get (i := 0) rfl) ?_
    (repeat first | refine HReg.step ?_ | refine HCode.step ?_)
    refine HReq.mk ⟨by omega, by omega⟩ ?_
    (repeat first | refine HReg.step ?_ | refine HCode.step ?_)
    refine append_rf (xs := []) (ys := fs.take i) (OwnRow.nil _ _ _) (by rw [rfV_take]; exact r2.row.rows.take _) (m := i) (by rw [List.length_take]; omega) (by omega) fun a3 c3 H3 o3 u3 f3 => ?_
    have u3' : Upd [] H2 H3 := u3
    have o13 := o1.upd (S := []) u3' (.inr (Off.nil _))
    (repeat first | refine HReg.step ?_ | refine HCode.step ?_)
    refine HLoadN_row o13 rfl ?_
    (repeat first | refine HReg.step ?_ | refine HCode.step ?_)
    refine HReq.mk (by decide) ?_
    (repeat first | refine HReg.step ?_ | refine HCode.step ?_)
    refine HNew.mk fun b4 hb4 => ?_
    have u4 : Upd [] H3 (H3.upd b4 (.cells f.cells.toArray 87)) := Upd.new hb4 _
    have o4 : RowAt (H3.upd b4 (.cells f.cells.toArray 87)) (some ⟨b4, 0, none⟩) (rfV [f]) := RowAt.of_cells (upd_same _ _ _)
    have hH4' : H3.upd b4 (.cells [Value.string (bs f.name), .slice f.a f.bytes.length f.c, .int .i64 (f.synced : Int)].toArray 87) = H3.upd b4 (.cells f.cells.toArray 87) := rfl
    rw [hH4']
    generalize hH4 : H3.upd b4 (.cells f.cells.toArray 87) = H4 at u4 o4
    (repeat first | refine HReg.step ?_ | refine HCode.step ?_)
    refine append_rf (xs := fs.take i) (ys := [f]) (by rw [List.nil_append] at o3; exact o3.upd u4 (Off.nil _)) o4 (m := 1) rfl (by omega) fun a5 c5 H5 o5 u5 f5 => ?_
    have u34 : Upd [] H2 H4 := u3'.trans u4
    have n3 : ∀ b ∈ blk a3, H2 b = none := fun b hb => by
      obtain ⟨p, hp, rfl⟩ := blk_of hb
      rcases f3 p hp with h | h
      · cases h
      · exact h
    have u25 : Upd [] H2 H5 := Upd.drop u34 u5 n3
    have n5 : ∀ b ∈ blk a5, H2 b = none := fun b hb => by
      obtain ⟨p, hp, rfl⟩ := blk_of hb
      rcases f5 p hp with h | h
      · exact n3 _ (by rw [h]; simp [blk])
      · exact Upd.none (S := []) u34 (by simp) h
    have r5 := r2.upd0 u25
    (repeat first | refine HReg.step ?_ | refine HCode.step ?_)
    refine HLoad.one (v := .slice aF fs.length cF) (by exact r5.obj.rows.get (i := 0) rfl) ?_
    (repeat first | refine HReg.step ?_ | refine HCode.step ?_)
    refine HReq.mk ⟨by omega, by omega⟩ ?_
    (repeat first | refine HReg.step ?_ | refine HCode.step ?_)
    have ry := RowAt.sl (size := 3) r5.row.rows (l := i) (cap := cF) (by rw [rfV_length]; omega)
    rw [← rfV_drop] at ry
    refine append_rf (xs := fs.take i ++ [f]) (ys := fs.drop i) o5 ry (m := fs.length - i) (by rw [List.length_drop]) (by omega) fun a6 c6 H6 o6 u6 f6 => ?_
    have u26 : Upd [] H2 H6 := Upd.drop u25 u6 n5
    have n6 : ∀ b ∈ blk a6, H2 b = none := fun b hb => by
      obtain ⟨p, hp, rfl⟩ := blk_of hb
      rcases f6 p hp with h | h
      · exact n5 _ (by rw [h]; simp [blk])
      · exact Upd.none (S := []) u25 (by simp) h
    have r6 := r2.upd0 u26
    have e6 : fs.take i ++ [f] ++ fs.drop i = fs.take i ++ f :: fs.drop i := by simp
    have hlen : 0 + i + 1 + (fs.length - i) = (fs.take i ++ f :: fs.drop i).length := by rw [List.length_append, List.length_cons, List.length_take, List.length_drop]; omega
    rw [hlen, e6] at o6
    rw [hlen]
    (repeat first | refine HReg.step ?_ | refine HCode.step ?_)
    refine store_row r6.obj (v := .slice a6 (fs.take i ++ f :: fs.drop i).length c6) rfl (i := 0) (by decide) (by rfl) fun H7 o7 u7 => ?_
    have hg7 : Off [g] a6 := off_notin fun b hb hm => by
      rw [List.mem_singleton.1 hm] at hb
      obtain ⟨c, z, e⟩ := own_live r2.obj
      rw [n6 g hb] at e; cases e
    obtain ⟨p7, s7⟩ := r2.ph.redo2 (H' := H7) (aF' := a6) (cF' := c6) (fs' := fs.take i ++ f :: fs.drop i) (X := f.bl) ((u26.mono (fun k hk => by simp at hk)).trans u7) o7 (o6.upd u7 hg7) n6 (fun x hx => by
      rcases mem_ins hx with rfl | h
      · exact w2
      · exact r2.byt x h) (fun a b x y hab hx hy z hz => by
      rcases ins_get hi a x hx with ⟨rfl, rfl⟩ | ⟨ha, hx'⟩
      · rcases ins_get hi b y hy with ⟨rfl, rfl⟩ | ⟨hb, hy'⟩
        · exact absurd rfl hab
        · exact hap y (List.mem_of_getElem? hy') z hz
      · rcases ins_get hi b y hy with ⟨rfl, rfl⟩ | ⟨hb, hy'⟩
        · exact fun hz' => hap x (List.mem_of_getElem? hx') z hz' hz
        · exact r2.ap _ _ x y (by split <;> split <;> omega) hx' hy' z hz) (fun x hx b hb => by
      rcases mem_ins hx with rfl | h
      · exact .inr hb
      · exact .inl (mem_rblk.2 (.inr (.inr ⟨x, h, hb⟩)))) hnew
    have r7 := r2.ins hi hlt hgt p7 hsy
    (repeat first | refine HReg.step ?_ | refine HCode.step ?_)
    exact hk H7 _ ⟨_, _, _, _, _, r7, rfl⟩ ((Stq.new0 u1).trans s7)
end
end Go.Proofs.YtfcmjomnpahllaaGreat
namespace Go.Proofs.YtfcmjomnpahllaaGreat
open Go Hv
set_option linter.unusedVariables false
set_option linter.unusedSimpArgs false
set_option maxRecDepth 10000
set_option maxHeartbeats 4000000
/-! The document's disk: Append. CUT2 -/
/-- A file's bytes have grown, and their slice is stored. -/
theorem rin_grow {H1 H H2 : Heap} {g bF cF i j c' : Nat} {s : St} {fs : List RFl} {cl st : Int} {f : RFl} {a' : Option Addr} {l' : List UInt8} {K : Heap → Prop} (r : RIn H1 H g s fs (some ⟨bF, 0, none⟩) cF cl st) (hf : fs[i]? = some f)
    (w : WRow H2 5 1 a' l'.length c' (u8s l')) (u2 : Upd (blk f.a) H H2) (fr : ∀ p, a' = some p → f.a = some p ∨ H p.block = none) (hj : j = i * 3 + 1) (hs : f.synced ≤ l'.length)
    (hK : ∀ H3, RIn H1 H3 g (s.put (bs f.name) (l', f.synced)) (fs.set i ⟨f.name, a', c', l', f.synced⟩) (some ⟨bF, 0, none⟩) cF cl st → Stq H H3 (rblk g (some ⟨bF, 0, none⟩) fs) (rblk g (some ⟨bF, 0, none⟩) (fs.set i ⟨f.name, a', c', l', f.synced⟩)) → K H3) :
    HStore H2 ⟨bF, j, none⟩ (.slice a' l'.length c') K := by
  have hfm := List.mem_of_getElem? hf
  have hil := (List.getElem?_eq_some_iff.1 hf).1
  have og : Off (blk f.a) (some ⟨g, 0, none⟩) := fun p hp hb => by
    cases hp
    obtain ⟨c, z, e⟩ := (r.byt f hfm).live _ hb
    obtain ⟨c2, z2, e2⟩ := own_live r.obj
    rw [e] at e2; cases e2
  have oF : Off (blk f.a) (some ⟨bF, 0, none⟩) := fun p hp hb => by
    cases hp
    obtain ⟨c, z, e⟩ := (r.byt f hfm).live _ hb
    exact r.row.notT (e' := 87) (by decide) bF (by simp [blk]) _ _ e
  have obj2 := r.obj.upd u2 og
  have row2 := r.row.upd u2 oF
  refine store_row row2.flat (v := .slice a' l'.length c') rfl (i := i * 3 + 1) (by omega) hj fun H3 o3 u3 => ?_
  rw [← rfV_set (f' := ⟨f.name, a', c', l', f.synced⟩) hf (by decide) rfl] at o3
  have o3 := unflat o3 (by rw [rfV_length, List.length_set]) (by decide)
  have hl : (fs.set i (⟨f.name, a', c', l', f.synced⟩ : RFl)).length = fs.length := List.length_set
  have t5 : ∀ {a : Option Addr} {n c : Nat} {xs : List Value}, WRow H2 5 1 a n c xs → Off [bF] a := fun w => off_notin fun b hb hm => by
    obtain ⟨c, z, e⟩ := w.live b hb
    rw [List.mem_singleton.1 hm] at e
    exact row2.notT (e' := 87) (by decide) bF (by simp [blk]) _ _ e
  have nb : ∀ b ∈ blk a', b ∈ blk f.a ∨ H b = none := fun b hb => by
    obtain ⟨p, hp, rfl⟩ := blk_of hb
    rcases fr p hp with h | h
    · exact .inl (by rw [h]; simp [blk])
    · exact .inr h
  have hg : ∀ (k : Nat) x, (fs.set i (⟨f.name, a', c', l', f.synced⟩ : RFl))[k]? = some x → (k = i ∧ x = ⟨f.name, a', c', l', f.synced⟩) ∨ (k ≠ i ∧ fs[k]? = some x) := fun k x hx => by
    rw [List.getElem?_set] at hx
    split at hx
    · rename_i e; subst e
      cases hx; exact .inl ⟨rfl, rfl⟩
    · rename_i e; exact .inr ⟨fun h => e h.symm, hx⟩
  have nw1 : ∀ b ∈ blk f.a, H1 b = none := fun b hb => r.new b (mem_rblk.2 (.inr (.inr ⟨f, hfm, hb⟩)))
  have ph : RPh H1 H3 g (fs.set i ⟨f.name, a', c', l', f.synced⟩) (some ⟨bF, 0, none⟩) cF s.d.off s.d.refuses cl st := by
    refine ⟨by rw [hl]; exact obj2.upd u3 (fun p hp hb => by
        cases hp
        have e : g = bF := List.mem_singleton.1 hb
        obtain ⟨c2, z2, e2⟩ := own_live obj2
        rw [e] at e2
        exact row2.notT (e' := 87) (by decide) bF (by simp [blk]) _ _ e2), by rw [hl]; exact o3, fun x hx => ?_, fun a b x y hab hx hy z hz => ?_, fun b hb => ?_, ?_⟩
    · obtain ⟨k, hk⟩ := List.getElem?_of_mem hx
      rcases hg k x hk with ⟨rfl, rfl⟩ | ⟨hk1, hk2⟩
      · exact w.upd u3 (t5 w)
      · have w2 := (r.byt x (List.mem_of_getElem? hk2)).upd u2 (off_notin fun b hb hm => r.ap k i x f hk1 hk2 hf b hb hm)
        exact w2.upd u3 (t5 w2)
    · rcases hg a x hx with ⟨rfl, rfl⟩ | ⟨ha, hx'⟩
      · rcases hg b y hy with ⟨rfl, rfl⟩ | ⟨hb, hy'⟩
        · exact absurd rfl hab
        · intro hzy
          rcases nb z hz with h | h
          · exact r.ap a b f y (fun e => hb e.symm) hf hy' z h hzy
          · obtain ⟨c, q, e⟩ := (r.byt y (List.mem_of_getElem? hy')).live z hzy
            rw [h] at e; cases e
      · rcases hg b y hy with ⟨rfl, rfl⟩ | ⟨hb, hy'⟩
        · intro hzy
          rcases nb z hzy with h | h
          · exact r.ap a b x f ha hx' hf z hz h
          · obtain ⟨c, q, e⟩ := (r.byt x (List.mem_of_getElem? hx')).live z hz
            rw [h] at e; cases e
        · exact r.ap a b x y hab hx' hy' z hz
    · rcases mem_rblk.1 hb with h | h | ⟨x, hx, h⟩
      · exact r.new b (mem_rblk.2 (.inl h))
      · exact r.new b (mem_rblk.2 (.inr (.inl h)))
      · obtain ⟨k, hk⟩ := List.getElem?_of_mem hx
        rcases hg k x hk with ⟨rfl, rfl⟩ | ⟨hk1, hk2⟩
        · rcases nb b h with h | h
          · exact nw1 b h
          · exact Upd.none (S := []) r.base (by simp) h
        · exact r.new b (mem_rblk.2 (.inr (.inr ⟨x, List.mem_of_getElem? hk2, h⟩)))
    · exact Upd.drop (Upd.drop r.base u2 nw1) u3 (fun b hb => by rw [List.mem_singleton.1 hb]; exact r.new bF (mem_rblk.2 (.inr (.inl (by simp [blk])))))
  have r3 := r.setf (f' := ⟨f.name, a', c', l', f.synced⟩) hf rfl ph hs
  refine hK H3 r3 ⟨(u2.mono (fun k hk => mem_rblk.2 (.inr (.inr ⟨f, hfm, hk⟩)))).trans (u3.mono (fun k hk => by rw [List.mem_singleton.1 hk]; exact mem_rblk.2 (.inr (.inl (by simp [blk]))))), fun b hb => ?_⟩
  rcases mem_rblk.1 hb with h | h | ⟨x, hx, h⟩
  · exact .inl (mem_rblk.2 (.inl h))
  · exact .inl (mem_rblk.2 (.inr (.inl h)))
  · obtain ⟨k, hk⟩ := List.getElem?_of_mem hx
    rcases hg k x hk with ⟨rfl, rfl⟩ | ⟨hk1, hk2⟩
    · rcases nb b h with h | h
      · exact .inl (mem_rblk.2 (.inr (.inr ⟨f, hfm, h⟩)))
      · exact .inr h
    · exact .inl (mem_rblk.2 (.inr (.inr ⟨x, List.mem_of_getElem? hk2, h⟩)))
theorem append_fl {a b : Option Addr} {n cap m c : Nat} {xs ys : List UInt8} {H : Heap} {K : Value → Heap → Prop} (ho : WRow H 5 1 a n cap (u8s xs)) (hy : RowAt H b (u8s ys)) (hm : ys.length = m) (hlim : n + m ≤ 140737488355328)
    (hk : ∀ a' cap' H', WRow H' 5 1 a' (n + m) cap' (u8s (xs ++ ys)) → Upd (blk a) H H' → (∀ p, a' = some p → a = some p ∨ H p.block = none) → K (.slice a' (n + m) cap') H') :
    HSem Tryz.prog (Builtin.append_ #[42, 42] 42 [.slice a n cap, .slice b m c].toArray) H K := by
  refine append_rowsW (ie := Tryz.t5) (z := .int .u8 0) (ys := u8s ys) (xs := u8s xs) Tryz.underlying42 rfl rfl rfl (by decide) ho hy (by rw [u8s_length, hm]; exact (Nat.mul_one _).symm) (plain_u8s _) (by show (n + m) * 1 ≤ _; omega) (by omega) fun a' cap' H' o u f _ => ?_
  rw [← u8s_append] at o
  exact hk a' cap' H' o u f
theorem put_put {s : St} {n : ByteArray} {x y : List UInt8 × Nat} : (s.put n x).put n y = s.put n y := by
  have e1 : (s.put n x).fs n = some x := by show (if n = n then _ else _) = _; rw [if_pos rfl]
  show St.mk s.d (fun k => if k = n then some y else (if k = n then some x else s.fs k)) (if ((s.put n x).fs n).isSome then (if (s.fs n).isSome then s.cnt else s.cnt + 1) else (if (s.fs n).isSome then s.cnt else s.cnt + 1) + 1) = St.mk s.d (fun k => if k = n then some y else s.fs k) (if (s.fs n).isSome then s.cnt else s.cnt + 1)
  rw [e1]
  congr 1
  funext k
  split <;> rfl
section
variable {H1 H : Heap} {g N : Nat} {s : St} {B : List Nat} {K : Value → Heap → Prop}
/-- The bytes are laid at the end of a file that is there. -/
theorem rlay_t {t : Txt} {b : Option Addr} {m c : Nat} {ys : List UInt8} (R : GAt H1 H g s B) (c0 : Cok s N) (hy : RowAt H b (u8s ys)) (hm : ys.length = m) (ho : u8s ys = [] ∨ Off B b) (hlim : ∀ x y, s.call.fs (bs t) = some (x, y) → x.length + m ≤ 140737488355328) (hlim0 : m ≤ 140737488355328)
    (hk : ∀ H' B', GAt H1 H' g (s.append (bs t) ys).2 B' → Stq H H' B B' → K (.int .i64 (s.append (bs t) ys).1) H') : HCalls Tryz.prog 24 [.pointer (some ⟨g, 0, none⟩), .string (bs t), .slice b m c] H K := by
  refine hcalls (fn := Tryz.f24) [(14, [(5, 0), (6, 0), (7, 0), (8, 0), (9, 0), (10, 0), (11, 0), (12, 0), (13, 0), (14, 0), (0, 1), (1, 1), (2, 1), (3, 1), (4, 1), (15, 0), (16, 0), (17, 0)])] mixed Tryz.func24 rfl rfl (by decide +kernel) ?_
  (repeat first | refine HReg.step ?_ | refine HCode.step ?_)
  refine HCall.mk ⟨Tryz.f46, Tryz.func46, by rfl, by rfl⟩ ?_
  refine rcounted_t R c0.kl c0.kh c0.lo c0.ok (Nat.le_trans c0.hN (by decide)) fun H2 R2 S2 => ?_
  (repeat first | refine HReg.step ?_ | refine HCode.step ?_)
  refine hif (fun h1 => ?_) (fun h1 => ?_)
  · have e : s.append (bs t) ys = (62, s.call) := by unfold St.append; simp [h1]
    rw [e] at hk
    (repeat first | refine HReg.step ?_ | refine HCode.step ?_)
    exact hk H2 B R2 S2
  have hy2 : RowAt H2 b (u8s ys) := hy.upd S2.upd ho
  (repeat first | refine HReg.step ?_ | refine HCode.step ?_)
  refine HCall.mk ⟨Tryz.f47, Tryz.func47, by rfl, by rfl⟩ ?_
  refine rnamed_t ?_
  (repeat first | refine HReg.step ?_ | refine HCode.step ?_)
  refine hif (fun h5 => ?_) (fun h5 => ?_)
  · have hn1 : ¬ (1 ≤ (bs t).size ∧ (bs t).size ≤ 32) := not_dec_true h5
    have e : s.append (bs t) ys = (1, s.call) := by unfold St.append; simp only [h1, Bool.false_eq_true, if_false, if_pos hn1]
    rw [e] at hk
    (repeat first | refine HReg.step ?_ | refine HCode.step ?_)
    exact hk H2 B R2 S2
  have hn1 : ¬ ¬ (1 ≤ (bs t).size ∧ (bs t).size ≤ 32) := fun h => h (not_dec_false h5)
  have R2' := R2
  obtain ⟨fs, aF, cF, cl, st, r, rfl⟩ := R2
  have hcnt := r.cnt
  have hfew := c0.ok.call.few
  have ho2 : u8s ys = [] ∨ Off (rblk g aF fs) b := ho
  (repeat first | refine HReg.step ?_ | refine HCode.step ?_)
  refine HCall.mk ⟨Tryz.f48, Tryz.func48, by rfl, by rfl⟩ ?_
  refine rat_t r (by omega) (fun i f hf hn => ?_) (fun i hi hlt hgt => ?_)
  · have hg := r.get f (List.mem_of_getElem? hf)
    rw [hn] at hg
    have hl1 := hlim _ _ hg
    have hil := (List.getElem?_eq_some_iff.1 hf).1
    obtain ⟨bF, rfl⟩ := r.row.addr (by omega)
    have h2 : ¬ (s.call.fs (bs t) = none ∧ 16 ≤ s.call.cnt) := fun h => by rw [hg] at h; cases h.1
    (repeat first | refine HReg.step ?_ | refine HCode.step ?_)
    rw [ltB_false.2 (by omega)]
    (repeat first | refine HReg.step ?_ | refine HCode.step ?_)
    refine hif (fun h3 => ?_) (fun h3 => ?_)
    · have h3 := ltB_true.1 h3
      (repeat first | refine HReg.step ?_ | refine HCode.step ?_)
      refine HLoad.one (v := .int .i64 s.call.d.refuses) (by exact r.obj.rows.get (i := 2) rfl) ?_
      (repeat first | refine HReg.step ?_ | refine HCode.step ?_)
      refine hif (fun h4 => ?_) (fun h4 => ?_)
      · skip
        have h4 := ltB_true.1 h4
        have h34 : 0 < ys.length ∧ 0 < s.call.d.refuses := ⟨by omega, h4⟩
        have e : s.append (bs t) ys = (60, { s.call with d := { s.call.d with refuses := s.call.d.refuses - 1 } }) := by unfold St.append; simp only [h1, Bool.false_eq_true, if_false, if_neg hn1, if_neg h2, if_pos h34]
        rw [e] at hk
        have hrr := r.rhi
        have hw : wr .i64 (s.call.d.refuses - 1) = s.call.d.refuses - 1 := wr_i64 (by omega) (by omega)
        (repeat first | refine HReg.step ?_ | refine HCode.step ?_)
        refine HLoad.one (v := .int .i64 s.call.d.refuses) (by exact r.obj.rows.get (i := 2) rfl) ?_
        (repeat first | refine HReg.step ?_ | refine HCode.step ?_)
        rw [hw]
        refine store_row r.obj (v := .int .i64 (s.call.d.refuses - 1)) rfl (i := 2) (by decide) (by rfl) fun H4 o4 u4 => ?_
        have r4 := r.setd (s' := { s.call with d := { s.call.d with refuses := s.call.d.refuses - 1 } }) (cl' := cl) (st' := st) u4 o4 rfl rfl r.arm r.hi (by show s.call.d.refuses - 1 ≤ _; omega)
        (repeat first | refine HReg.step ?_ | refine HCode.step ?_)
        exact hk H4 _ ⟨_, _, _, _, _, r4, rfl⟩ (S2.trans (Stq.g u4))
      · have h4 := ltB_false.1 h4
        have h34 : ¬ (0 < ys.length ∧ 0 < s.call.d.refuses) := fun h => by omega
        (repeat first | refine HReg.step ?_ | refine HCode.step ?_)
        rw [show ltB ((i : Nat) : Int) 0 = false from ltB_false.2 (by omega)]
        (repeat first | refine HReg.step ?_ | refine HCode.step ?_)
        refine HLoad.one (v := .slice (some ⟨bF, 0, none⟩) fs.length cF) (by exact r.obj.rows.get (i := 0) rfl) ?_
        (repeat first | refine HReg.step ?_ | refine HCode.step ?_)
        refine HReq.mk ⟨by omega, by omega⟩ ?_
        (repeat first | refine HReg.step ?_ | refine HCode.step ?_)
        refine HLoad.one (v := .slice f.a f.bytes.length f.c) (by exact r.row.rows.get (rfV_get hf 1 _ rfl)) ?_
        (repeat first | refine HReg.step ?_ | refine HCode.step ?_)
        refine append_fl (r.byt f (List.mem_of_getElem? hf)) hy2 hm (by omega) fun a6 c6 H6 w6 u6 f6 => ?_
        have hl6 : (f.bytes ++ ys).length = f.bytes.length + m := by rw [List.length_append, hm]
        rw [← hl6] at w6 ⊢
        have ob6 := (r.obj.upd u6 (fun p hp hb => by
          cases hp
          obtain ⟨c, z, e⟩ := (r.byt f (List.mem_of_getElem? hf)).live _ hb
          obtain ⟨c2, z2, e2⟩ := own_live r.obj
          rw [e] at e2; cases e2)).rows.get (i := 0) rfl
        (repeat first | refine HReg.step ?_ | refine HCode.step ?_)
        refine HLoad_two (v := .slice (some ⟨bF, 0, none⟩) fs.length cF) (by exact ob6) (by exact r.obj.rows.get (i := 0) rfl) ?_
        (repeat first | refine HReg.step ?_ | refine HCode.step ?_)
        refine HReq.mk ⟨by omega, by omega⟩ ?_
        (repeat first | refine HReg.step ?_ | refine HCode.step ?_)
        refine rin_grow r hf w6 u6 f6 (by show 0 + (i : Int).toNat * 3 + 1 = _; omega) (by have := r.syn f (List.mem_of_getElem? hf); omega) fun H7 r7 s7 => ?_
        rw [hn] at r7 s7
        (repeat first | refine HReg.step ?_ | refine HCode.step ?_)
        have e : s.append (bs t) ys = (0, s.call.put (bs t) (f.bytes ++ ys, f.synced)) := St.append_grown h1 hn1 h2 h34 hg
        rw [e] at hk
        exact hk H7 _ ⟨_, _, _, _, _, r7, rfl⟩ (S2.trans s7)
    · have h3 := ltB_false.1 h3
      have h34 : ¬ (0 < ys.length ∧ 0 < s.call.d.refuses) := fun h => by omega
      (repeat first | refine HReg.step ?_ | refine HCode.step ?_)
      rw [show ltB ((i : Nat) : Int) 0 = false from ltB_false.2 (by omega)]
      (repeat first | refine HReg.step ?_ | refine HCode.step ?_)
      refine HLoad.one (v := .slice (some ⟨bF, 0, none⟩) fs.length cF) (by exact r.obj.rows.get (i := 0) rfl) ?_
      (repeat first | refine HReg.step ?_ | refine HCode.step ?_)
      refine HReq.mk ⟨by omega, by omega⟩ ?_
      (repeat first | refine HReg.step ?_ | refine HCode.step ?_)
      refine HLoad.one (v := .slice f.a f.bytes.length f.c) (by exact r.row.rows.get (rfV_get hf 1 _ rfl)) ?_
      (repeat first | refine HReg.step ?_ | refine HCode.step ?_)
      refine append_fl (r.byt f (List.mem_of_getElem? hf)) hy2 hm (by omega) fun a6 c6 H6 w6 u6 f6 => ?_
      have hl6 : (f.bytes ++ ys).length = f.bytes.length + m := by rw [List.length_append, hm]
      rw [← hl6] at w6 ⊢
      have ob6 := (r.obj.upd u6 (fun p hp hb => by
        cases hp
        obtain ⟨c, z, e⟩ := (r.byt f (List.mem_of_getElem? hf)).live _ hb
        obtain ⟨c2, z2, e2⟩ := own_live r.obj
        rw [e] at e2; cases e2)).rows.get (i := 0) rfl
      (repeat first | refine HReg.step ?_ | refine HCode.step ?_)
      refine HLoad_two (v := .slice (some ⟨bF, 0, none⟩) fs.length cF) (by exact ob6) (by exact r.obj.rows.get (i := 0) rfl) ?_
      (repeat first | refine HReg.step ?_ | refine HCode.step ?_)
      refine HReq.mk ⟨by omega, by omega⟩ ?_
      (repeat first | refine HReg.step ?_ | refine HCode.step ?_)
      refine rin_grow r hf w6 u6 f6 (by show 0 + (i : Int).toNat * 3 + 1 = _; omega) (by have := r.syn f (List.mem_of_getElem? hf); omega) fun H7 r7 s7 => ?_
      rw [hn] at r7 s7
      (repeat first | refine HReg.step ?_ | refine HCode.step ?_)
      have e : s.append (bs t) ys = (0, s.call.put (bs t) (f.bytes ++ ys, f.synced)) := St.append_grown h1 hn1 h2 h34 hg
      rw [e] at hk
      exact hk H7 _ ⟨_, _, _, _, _, r7, rfl⟩ (S2.trans s7)
  · have hnn := r.none hlt hgt
    (repeat first | refine HReg.step ?_ | refine HCode.step ?_)
    rw [ltB_true.2 (by omega)]
    (repeat first | refine HReg.step ?_ | refine HCode.step ?_)
    refine HLoad.one (v := .slice aF fs.length cF) (by exact r.obj.rows.get (i := 0) rfl) ?_
    (repeat first | refine HReg.step ?_ | refine HCode.step ?_)
    refine hif (fun h2 => ?_) (fun h2 => ?_)
    · have h2 := not_ltB_true.1 h2
      have h2 : s.call.fs (bs t) = none ∧ 16 ≤ s.call.cnt := ⟨hnn, by omega⟩
      have e : s.append (bs t) ys = (3, s.call) := by unfold St.append; simp only [h1, Bool.false_eq_true, if_false, if_neg hn1, if_pos h2]
      rw [e] at hk
      (repeat first | refine HReg.step ?_ | refine HCode.step ?_)
      exact hk H2 _ R2' S2
    have h2 := not_ltB_false.1 h2
    have h2 : ¬ (s.call.fs (bs t) = none ∧ 16 ≤ s.call.cnt) := fun h => by omega
    (repeat first | refine HReg.step ?_ | refine HCode.step ?_)
    refine hif (fun h3 => ?_) (fun h3 => ?_)
    · have h3 := ltB_true.1 h3
      (repeat first | refine HReg.step ?_ | refine HCode.step ?_)
      refine HLoad.one (v := .int .i64 s.call.d.refuses) (by exact r.obj.rows.get (i := 2) rfl) ?_
      (repeat first | refine HReg.step ?_ | refine HCode.step ?_)
      refine hif (fun h4 => ?_) (fun h4 => ?_)
      · skip
        have h4 := ltB_true.1 h4
        have h34 : 0 < ys.length ∧ 0 < s.call.d.refuses := ⟨by omega, h4⟩
        have e : s.append (bs t) ys = (60, { s.call with d := { s.call.d with refuses := s.call.d.refuses - 1 } }) := by unfold St.append; simp only [h1, Bool.false_eq_true, if_false, if_neg hn1, if_neg h2, if_pos h34]
        rw [e] at hk
        have hrr := r.rhi
        have hw : wr .i64 (s.call.d.refuses - 1) = s.call.d.refuses - 1 := wr_i64 (by omega) (by omega)
        (repeat first | refine HReg.step ?_ | refine HCode.step ?_)
        refine HLoad.one (v := .int .i64 s.call.d.refuses) (by exact r.obj.rows.get (i := 2) rfl) ?_
        (repeat first | refine HReg.step ?_ | refine HCode.step ?_)
        rw [hw]
        refine store_row r.obj (v := .int .i64 (s.call.d.refuses - 1)) rfl (i := 2) (by decide) (by rfl) fun H4 o4 u4 => ?_
        have r4 := r.setd (s' := { s.call with d := { s.call.d with refuses := s.call.d.refuses - 1 } }) (cl' := cl) (st' := st) u4 o4 rfl rfl r.arm r.hi (by show s.call.d.refuses - 1 ≤ _; omega)
        (repeat first | refine HReg.step ?_ | refine HCode.step ?_)
        exact hk H4 _ ⟨_, _, _, _, _, r4, rfl⟩ (S2.trans (Stq.g u4))
      · have h4 := ltB_false.1 h4
        have h34 : ¬ (0 < ys.length ∧ 0 < s.call.d.refuses) := fun h => by omega
        (repeat first | refine HReg.step ?_ | refine HCode.step ?_)
        rw [show ltB (-1 - (i : Int)) 0 = true from ltB_true.2 (by omega)]
        (repeat first | refine HReg.step ?_ | refine HCode.step ?_)
        refine HCall.mk ⟨Tryz.f49, Tryz.func49, by rfl, by rfl⟩ ?_
        refine rput_t (f := ⟨t, none, 0, [], 0⟩) r (by omega) (WRow.nil _ _ _) (Nat.le_refl _) (fun x hx b hb => by simp [RFl.bl, blk] at hb) (fun b hb => by simp [RFl.bl, blk] at hb) fun H3 B3 R3 s3 => ?_
        have s3 : Stq H2 H3 (rblk g aF fs) B3 := by
          have e : rblk g aF fs ++ (⟨t, none, 0, [], 0⟩ : RFl).bl = rblk g aF fs := by simp [RFl.bl, blk]
          rw [e] at s3; exact s3
        have hy3 : RowAt H3 b (u8s ys) := hy2.upd s3.upd ho2
        have hcnt3 := r.cnt
        have hne3 : (s.call.put (bs t) ([], 0)).fs (bs t) = some ([], 0) := by show (if bs t = bs t then _ else _) = _; rw [if_pos rfl]
        obtain ⟨fs3, aF3, cF3, cl3, st3, r3, e3⟩ := R3
        have hl3 : fs3.length ≤ 1000 := by
          have h : (s.call.put (bs t) ([], 0)).cnt = fs3.length := r3.cnt
          have h5 : (s.call.put (bs t) ([], 0)).cnt ≤ s.call.cnt + 1 := by unfold St.put; dsimp only; split <;> omega
          have := c0.ok.call.few
          omega
        (repeat first | refine HReg.step ?_ | refine HCode.step ?_)
        refine HCall.mk ⟨Tryz.f48, Tryz.func48, by rfl, by rfl⟩ ?_
        refine rat_t r3 hl3 (fun i3 f3 hf hn => ?_) (fun i3 hi3 hlt3 hgt3 => ?_)
        · have hil := (List.getElem?_eq_some_iff.1 hf).1
          obtain ⟨bF, rfl⟩ := r3.row.addr (by omega)
          have hg3 := r3.get f3 (List.mem_of_getElem? hf)
          rw [hn, hne3] at hg3
          obtain ⟨hb3, hs3⟩ := Prod.mk.inj (Option.some.inj hg3)
          have hbl : f3.bytes.length = 0 := by rw [← hb3]; rfl
          (repeat first | refine HReg.step ?_ | refine HCode.step ?_)
          refine HLoad.one (v := .slice (some ⟨bF, 0, none⟩) fs3.length cF3) (by exact r3.obj.rows.get (i := 0) rfl) ?_
          (repeat first | refine HReg.step ?_ | refine HCode.step ?_)
          refine HReq.mk ⟨by omega, by omega⟩ ?_
          (repeat first | refine HReg.step ?_ | refine HCode.step ?_)
          refine HLoad.one (v := .slice f3.a f3.bytes.length f3.c) (by exact r3.row.rows.get (rfV_get hf 1 _ rfl)) ?_
          (repeat first | refine HReg.step ?_ | refine HCode.step ?_)
          refine append_fl (r3.byt f3 (List.mem_of_getElem? hf)) hy3 hm (by omega) fun a6 c6 H6 w6 u6 f6 => ?_
          have hl6 : (f3.bytes ++ ys).length = f3.bytes.length + m := by rw [List.length_append, hm]
          rw [← hl6] at w6 ⊢
          have ob6 := (r3.obj.upd u6 (fun p hp hb => by
            cases hp
            obtain ⟨c, z, e⟩ := (r3.byt f3 (List.mem_of_getElem? hf)).live _ hb
            obtain ⟨c2, z2, e2⟩ := own_live r3.obj
            rw [e] at e2; cases e2)).rows.get (i := 0) rfl
          (repeat first | refine HReg.step ?_ | refine HCode.step ?_)
          refine HLoad_two (v := .slice (some ⟨bF, 0, none⟩) fs3.length cF3) (by exact ob6) (by exact r3.obj.rows.get (i := 0) rfl) ?_
          (repeat first | refine HReg.step ?_ | refine HCode.step ?_)
          refine HReq.mk ⟨by omega, by omega⟩ ?_
          (repeat first | refine HReg.step ?_ | refine HCode.step ?_)
          refine rin_grow r3 hf w6 u6 f6 (by show 0 + (i3 : Int).toNat * 3 + 1 = _; omega) (by have := r3.syn f3 (List.mem_of_getElem? hf); omega) fun H7 r7 s7 => ?_
          rw [hn] at r7 s7
          (repeat first | refine HReg.step ?_ | refine HCode.step ?_)
          have e : s.append (bs t) ys = (0, s.call.put (bs t) (ys, 0)) := St.append_fresh h1 hn1 h2 h34 hnn
          rw [e] at hk
          rw [← hb3, ← hs3, List.nil_append, put_put] at r7
          rw [← hb3, ← hs3, List.nil_append] at s7
          refine hk H7 _ ⟨_, _, _, _, _, r7, rfl⟩ (S2.trans (s3.trans ?_))
          rw [e3]; exact s7
        · have := r3.none hlt3 hgt3
          rw [hne3] at this; cases this
    · have h3 := ltB_false.1 h3
      have h34 : ¬ (0 < ys.length ∧ 0 < s.call.d.refuses) := fun h => by omega
      (repeat first | refine HReg.step ?_ | refine HCode.step ?_)
      rw [show ltB (-1 - (i : Int)) 0 = true from ltB_true.2 (by omega)]
      (repeat first | refine HReg.step ?_ | refine HCode.step ?_)
      refine HCall.mk ⟨Tryz.f49, Tryz.func49, by rfl, by rfl⟩ ?_
      refine rput_t (f := ⟨t, none, 0, [], 0⟩) r (by omega) (WRow.nil _ _ _) (Nat.le_refl _) (fun x hx b hb => by simp [RFl.bl, blk] at hb) (fun b hb => by simp [RFl.bl, blk] at hb) fun H3 B3 R3 s3 => ?_
      have s3 : Stq H2 H3 (rblk g aF fs) B3 := by
        have e : rblk g aF fs ++ (⟨t, none, 0, [], 0⟩ : RFl).bl = rblk g aF fs := by simp [RFl.bl, blk]
        rw [e] at s3; exact s3
      have hy3 : RowAt H3 b (u8s ys) := hy2.upd s3.upd ho2
      have hcnt3 := r.cnt
      have hne3 : (s.call.put (bs t) ([], 0)).fs (bs t) = some ([], 0) := by show (if bs t = bs t then _ else _) = _; rw [if_pos rfl]
      obtain ⟨fs3, aF3, cF3, cl3, st3, r3, e3⟩ := R3
      have hl3 : fs3.length ≤ 1000 := by
        have h : (s.call.put (bs t) ([], 0)).cnt = fs3.length := r3.cnt
        have h5 : (s.call.put (bs t) ([], 0)).cnt ≤ s.call.cnt + 1 := by unfold St.put; dsimp only; split <;> omega
        have := c0.ok.call.few
        omega
      (repeat first | refine HReg.step ?_ | refine HCode.step ?_)
      refine HCall.mk ⟨Tryz.f48, Tryz.func48, by rfl, by rfl⟩ ?_
      refine rat_t r3 hl3 (fun i3 f3 hf hn => ?_) (fun i3 hi3 hlt3 hgt3 => ?_)
      · have hil := (List.getElem?_eq_some_iff.1 hf).1
        obtain ⟨bF, rfl⟩ := r3.row.addr (by omega)
        have hg3 := r3.get f3 (List.mem_of_getElem? hf)
        rw [hn, hne3] at hg3
        obtain ⟨hb3, hs3⟩ := Prod.mk.inj (Option.some.inj hg3)
        have hbl : f3.bytes.length = 0 := by rw [← hb3]; rfl
        (repeat first | refine HReg.step ?_ | refine HCode.step ?_)
        refine HLoad.one (v := .slice (some ⟨bF, 0, none⟩) fs3.length cF3) (by exact r3.obj.rows.get (i := 0) rfl) ?_
        (repeat first | refine HReg.step ?_ | refine HCode.step ?_)
        refine HReq.mk ⟨by omega, by omega⟩ ?_
        (repeat first | refine HReg.step ?_ | refine HCode.step ?_)
        refine HLoad.one (v := .slice f3.a f3.bytes.length f3.c) (by exact r3.row.rows.get (rfV_get hf 1 _ rfl)) ?_
        (repeat first | refine HReg.step ?_ | refine HCode.step ?_)
        refine append_fl (r3.byt f3 (List.mem_of_getElem? hf)) hy3 hm (by omega) fun a6 c6 H6 w6 u6 f6 => ?_
        have hl6 : (f3.bytes ++ ys).length = f3.bytes.length + m := by rw [List.length_append, hm]
        rw [← hl6] at w6 ⊢
        have ob6 := (r3.obj.upd u6 (fun p hp hb => by
          cases hp
          obtain ⟨c, z, e⟩ := (r3.byt f3 (List.mem_of_getElem? hf)).live _ hb
          obtain ⟨c2, z2, e2⟩ := own_live r3.obj
          rw [e] at e2; cases e2)).rows.get (i := 0) rfl
        (repeat first | refine HReg.step ?_ | refine HCode.step ?_)
        refine HLoad_two (v := .slice (some ⟨bF, 0, none⟩) fs3.length cF3) (by exact ob6) (by exact r3.obj.rows.get (i := 0) rfl) ?_
        (repeat first | refine HReg.step ?_ | refine HCode.step ?_)
        refine HReq.mk ⟨by omega, by omega⟩ ?_
        (repeat first | refine HReg.step ?_ | refine HCode.step ?_)
        refine rin_grow r3 hf w6 u6 f6 (by show 0 + (i3 : Int).toNat * 3 + 1 = _; omega) (by have := r3.syn f3 (List.mem_of_getElem? hf); omega) fun H7 r7 s7 => ?_
        rw [hn] at r7 s7
        (repeat first | refine HReg.step ?_ | refine HCode.step ?_)
        have e : s.append (bs t) ys = (0, s.call.put (bs t) (ys, 0)) := St.append_fresh h1 hn1 h2 h34 hnn
        rw [e] at hk
        rw [← hb3, ← hs3, List.nil_append, put_put] at r7
        rw [← hb3, ← hs3, List.nil_append] at s7
        refine hk H7 _ ⟨_, _, _, _, _, r7, rfl⟩ (S2.trans (s3.trans ?_))
        rw [e3]; exact s7
      · have := r3.none hlt3 hgt3
        rw [hne3] at this; cases this
end
end Go.Proofs.YtfcmjomnpahllaaGreat
namespace Go.Proofs.YtfcmjomnpahllaaGreat
open Go Hv
set_option linter.unusedVariables false
set_option linter.unusedSimpArgs false
set_option maxRecDepth 10000
set_option maxHeartbeats 4000000
/-! The document's disk: Rename, List. CUT2 -/
theorem Stq.more {H H' : Heap} {B B' X : List Nat} (h : Stq H H' B B') (hX : ∀ b ∈ X, b ∈ B) : Stq H H' B (B' ++ X) :=
  ⟨h.upd, fun b hb => by
    rcases List.mem_append.1 hb with h1 | h1
    · exact h.sub b h1
    · exact .inl (hX b h1)⟩
section
variable {H1 H : Heap} {g N : Nat} {s : St} {B : List Nat} {K : Value → Heap → Prop}
theorem app_texts {a b : Option Addr} {k cap m c : Nat} {xs ys : List Txt} {H0 H : Heap} {K : Value → Heap → Prop} (hm : Made H0 H 9 1 a k cap (txts xs)) (hy : RowAt H b (txts ys)) (hyl : ys.length = m) (hb : k + m ≤ 8796093022208)
    (hk : ∀ a' cap' H', Made H0 H' 9 1 a' (k + m) cap' (txts (xs ++ ys)) → K (.slice a' (k + m) cap') H') :
    HSem Tryz.prog (Builtin.append_ #[39, 39] 39 [.slice a k cap, .slice b m c].toArray) H K := by
  refine append_madeG (ie := Tryz.t9) (z := .string ⟨#[]⟩) (xs := txts xs) (ys := txts ys) Tryz.underlying39 rfl rfl rfl (by decide) hm hy (by unfold txts; rw [List.length_map, hyl]; exact (Nat.mul_one _).symm) (fun v hv => by
    unfold txts at hv
    obtain ⟨x, _, rfl⟩ := List.mem_map.1 hv
    rfl) (by show (k + m) * 16 ≤ _; omega) (by omega) fun a' cap' H' m' => ?_
  have e : txts xs ++ txts ys = txts (xs ++ ys) := by unfold txts; rw [List.map_append]
  rw [e] at m'
  exact hk a' cap' H' m'
structure RlInv (H2 : Heap) (fs : List RFl) (m : Nat) (vs : List Value) (H' : Heap) : Prop where
  ex : ∃ (i : Nat) (a : Option Addr) (c : Nat), vs = [.slice a i c, .int .i64 (i : Int)] ∧ m + i = fs.length ∧ Made H2 H' 9 1 a i c (txts ((fs.take i).map RFl.name))
theorem rlist_t (R : GAt H1 H g s B) (c : Cok s N)
    (hno : s.call.d.off = true → ∀ H', GAt H1 H' g s.call B → Stq H H' B B → K (.tuple #[.slice none 0 0, .int .i64 62]) H')
    (hyes : s.call.d.off = false → ∀ a c ns H2 H', GAt H1 H2 g s.call B → Stq H H2 B B → Nms s.call ns → ns.length ≤ 16 → Made H2 H' 9 1 a ns.length c (txts ns) → K (.tuple #[.slice a ns.length c, .int .i64 0]) H') : HCalls Tryz.prog 51 [.pointer (some ⟨g, 0, none⟩)] H K := by
  refine hcalls (fn := Tryz.f51) [] mixed Tryz.func51 rfl rfl (by decide +kernel) ?_
  (repeat first | refine HReg.step ?_ | refine HCode.step ?_)
  refine HCall.mk ⟨Tryz.f46, Tryz.func46, by rfl, by rfl⟩ ?_
  refine rcounted_t R c.kl c.kh c.lo c.ok (Nat.le_trans c.hN (by decide)) fun H2 R2 S2 => ?_
  (repeat first | refine HReg.step ?_ | refine HCode.step ?_)
  refine hif (fun h1 => ?_) (fun h1 => ?_)
  · (repeat first | refine HReg.step ?_ | refine HCode.step ?_)
    exact hno h1 H2 R2 S2
  have R2' := R2
  obtain ⟨fs, aF, cF, cl, st, r, rfl⟩ := R2
  have hfew := c.ok.call.few
  have hcn := r.cnt
  (repeat first | refine HReg.step ?_ | refine HCode.step ?_)
  refine hloopC [4, 5, 8, 9, 10, 11, 12, 13, 14, 15, 16, 17, 18, 19, 20, 21, 22, 23, 24, 25, 26, 27] [4, 5] (RlInv H2 fs) rfl (by repeat' first | exact Resp.retD | exact Resp1.valuesK | refine Resp.blockD ?_ | refine Resp.thenD ?_ ?_ | refine Resp.hcode ?_) ?_ ?_
  · exact ⟨fs.length, RlInv.mk ⟨0, none, 0, rfl, rfl, ⟨OwnRow.nil _ _ _, Upd.refl _ _, fun p hp => by cases hp⟩⟩⟩
  rintro m _ fe H3 ⟨i, a3, c3, rfl, hmi, m3⟩
  have r3 := r.upd0 m3.upd
  (repeat first | refine HReg.step ?_ | refine HCode.step ?_)
  refine HLoad.one (v := .slice aF fs.length cF) (by exact r3.obj.rows.get (i := 0) rfl) ?_
  (repeat first | refine HReg.step ?_ | refine HCode.step ?_)
  refine hif (fun h2 => ?_) (fun h2 => ?_)
  · have h2 := ltB_true.1 h2
    have wi : wr .i64 ((i : Int) + 1) = ((i + 1 : Nat) : Int) := by rw [wr_i64 (by omega) (by omega)]; omega
    obtain ⟨f, hf⟩ : ∃ f, fs[i]? = some f := ⟨fs[i]'(by omega), by simp⟩
    obtain ⟨bF, rfl⟩ := r3.row.addr (by omega)
    (repeat first | refine HReg.step ?_ | refine HCode.step ?_)
    refine HLoad.one (v := .slice (some ⟨bF, 0, none⟩) fs.length cF) (by exact r3.obj.rows.get (i := 0) rfl) ?_
    (repeat first | refine HReg.step ?_ | refine HCode.step ?_)
    refine HReq.mk ⟨by omega, by omega⟩ ?_
    (repeat first | refine HReg.step ?_ | refine HCode.step ?_)
    refine HLoad.one (v := .string (bs f.name)) (by exact r3.row.rows.get (rfV_get hf 0 _ rfl)) ?_
    (repeat first | refine HReg.step ?_ | refine HCode.step ?_)
    refine HReq.mk (by decide) ?_
    (repeat first | refine HReg.step ?_ | refine HCode.step ?_)
    refine HNew.mk fun b4 hb4 => ?_
    have u4 : Upd [] H3 (H3.upd b4 (.cells [Value.string (bs f.name)].toArray 9)) := Upd.new hb4 _
    have r4 : RowAt (H3.upd b4 (.cells [Value.string (bs f.name)].toArray 9)) (some ⟨b4, 0, none⟩) (txts [f.name]) := RowAt.of_cells (upd_same _ _ _)
    generalize hH4 : H3.upd b4 (.cells [Value.string (bs f.name)].toArray 9) = H4 at u4 r4
    (repeat first | refine HReg.step ?_ | refine HCode.step ?_)
    refine app_texts (m3.step u4) r4 rfl (by omega) fun a5 c5 H5 m5 => ?_
    (repeat first | refine HReg.step ?_ | refine HCode.step ?_)
    rw [wi]
    refine ⟨m - 1, by omega, RlInv.mk ⟨i + 1, a5, c5, rfl, by omega, ?_⟩⟩
    have e : (fs.take (i + 1)).map RFl.name = (fs.take i).map RFl.name ++ [f.name] := by rw [List.take_add_one, hf]; simp
    rw [e]; exact m5
  · have h2 := ltB_false.1 h2
    obtain rfl : i = fs.length := by omega
    rw [List.take_length] at m3
    have hnl : (fs.map RFl.name).length = fs.length := List.length_map _
    (repeat first | refine HReg.step ?_ | refine HCode.step ?_)
    have := hyes h1 a3 c3 (fs.map RFl.name) H2 H3 R2' S2 ⟨r.ri, fun t => ⟨fun ht => ?_, fun ht => ?_⟩⟩ (by rw [hnl]; omega) (by rw [hnl]; exact m3)
    · rw [hnl] at this; exact this
    · obtain ⟨f, hf, rfl⟩ := List.mem_map.1 ht
      rw [r.get f hf]; simp
    · cases hx : s.call.fs (bs t) with
      | none => exact absurd hx ht
      | some x =>
        obtain ⟨f, hf, hn⟩ := r.all _ _ hx
        exact List.mem_map.2 ⟨f, hf, bs_inj hn⟩
end
end Go.Proofs.YtfcmjomnpahllaaGreat
namespace Go.Proofs.YtfcmjomnpahllaaGreat
open Go Hv
set_option linter.unusedVariables false
set_option linter.unusedSimpArgs false
set_option maxRecDepth 10000
set_option maxHeartbeats 4000000
/-! A disk and the document's, side by side; plays. CUT2 -/
structure Two (H1 H : Heap) (g r : Nat) (fl : List Fl) (q : Nat) (B : List Nat) (s : St) : Prop where
  p : DiskAt H1 H g r s fl
  d : GAt H1 H q s B
  ap : ∀ b ∈ dblk g r fl, b ∉ B
theorem row_off {H1 : Heap} {a : Option Addr} {cs : List Value} {B : List Nat} (h : RowAt H1 a cs) (hB : ∀ b ∈ B, H1 b = none) : cs = [] ∨ Off B a := by
  cases cs with
  | nil => exact .inl rfl
  | cons v cs =>
    refine .inr fun p hp hb => ?_
    obtain ⟨b, off, ha, hc⟩ := h 0 v rfl
    rw [hp] at ha
    cases ha
    have hb : H1 b = none := hB b hb
    unfold Heap.cell? at hc
    rw [show (⟨b, off + 0, none⟩ : Addr).block = b from rfl] at hc
    rw [hb] at hc
    cases hc
section
variable {H1 H H' : Heap} {g r q : Nat} {fl fl' : List Fl} {B B' : List Nat} {s s' : St} {K : Value → Heap → Prop}
theorem Two.upd {S : List Nat} (T : Two H1 H g r fl q B s) (u : Upd S H H') (h1 : ∀ b ∈ S, b ∉ dblk g r fl) (h2 : ∀ b ∈ S, b ∉ B) (hn : ∀ b ∈ S, H1 b = none) : Two H1 H' g r fl q B s := ⟨T.p.upd u h1 hn, T.d.upd u h2 hn, T.ap⟩
theorem Two.upd0 (T : Two H1 H g r fl q B s) (u : Upd [] H H') : Two H1 H' g r fl q B s := ⟨T.p.upd0 u, T.d.upd0 u, T.ap⟩
/-- The program's disk has made a call: the document's is as it was. -/
theorem Two.prog (T : Two H1 H g r fl q B s) (S : Stp H H' g r fl fl') : GAt H1 H' q s B ∧ ∀ b ∈ dblk g r fl', b ∉ B :=
  ⟨T.d.upd S.upd T.ap T.p.phys.old, fun b hb hB => by
    rcases S.sub b hb with h | h
    · exact T.ap b h hB
    · exact T.d.live b hB h⟩
theorem two_ref (P : DiskAt H1 H g r s' fl) (R : GAt H1 H q s B) (ap : ∀ b ∈ dblk g r fl, b ∉ B) (R' : GAt H1 H' q s' B') (S : Stq H H' B B') : Two H1 H' g r fl q B' s' :=
  ⟨P.upd S.upd (fun b hb h => ap b h hb) R.old, R', fun b hb hB => by
    rcases S.sub b hB with h | h
    · exact ap b hb h
    · exact P.phys.live b hb h⟩
/-- A change inside of the blocks of the two. -/
theorem two_stq {H2 : Heap} {fl'' : List Fl} (S : Stp H H2 g r fl fl') (Q : Stq H2 H' B B') (hB : ∀ b ∈ B, H b ≠ none → True) : Stq H H' (dblk g r fl ++ B) (dblk g r fl' ++ B') := by
  refine ⟨fun b hb hn => ?_, fun b hb => ?_⟩
  · have h1 : b ∉ dblk g r fl := fun h => hb (List.mem_append_left _ h)
    have h2 : b ∉ B := fun h => hb (List.mem_append_right _ h)
    have e1 := S.upd b h1 hn
    rw [Q.upd b h2 (by rw [e1]; exact hn), e1]
  · rcases List.mem_append.1 hb with h | h
    · rcases S.sub b h with h | h
      · exact .inl (List.mem_append_left _ h)
      · exact .inr h
    · rcases Q.sub b h with h | h
      · exact .inl (List.mem_append_right _ h)
      · by_cases h1 : b ∈ dblk g r fl
        · exact .inl (List.mem_append_left _ h1)
        · exact .inr (Classical.byContradiction fun hn => hn (by rw [← S.upd b h1 hn]; exact h))
/-- The two, in their blocks. -/
def TAt (H1 H : Heap) (g r q : Nat) (s : St) (W : List Nat) : Prop := ∃ fl B, Two H1 H g r fl q B s ∧ W = dblk g r fl ++ B
theorem TAt.upd0 {W : List Nat} (T : TAt H1 H g r q s W) (u : Upd [] H H') : TAt H1 H' g r q s W := by obtain ⟨fl, B, t, e⟩ := T; exact ⟨fl, B, t.upd0 u, e⟩
theorem TAt.upd {S W : List Nat} (T : TAt H1 H g r q s W) (u : Upd S H H') (h : ∀ b ∈ S, b ∉ W) (hn : ∀ b ∈ S, H1 b = none) : TAt H1 H' g r q s W := by
  obtain ⟨fl, B, t, rfl⟩ := T
  exact ⟨fl, B, t.upd u (fun b hb h' => h b hb (List.mem_append_left _ h')) (fun b hb h' => h b hb (List.mem_append_right _ h')) hn, rfl⟩
theorem TAt.live {W : List Nat} (T : TAt H1 H g r q s W) : ∀ b ∈ W, H b ≠ none := by
  obtain ⟨fl, B, t, rfl⟩ := T
  intro b hb
  rcases List.mem_append.1 hb with h | h
  · exact t.p.phys.live b h
  · exact t.d.live b h
theorem TAt.old {W : List Nat} (T : TAt H1 H g r q s W) : ∀ b ∈ W, H1 b = none := by
  obtain ⟨fl, B, t, rfl⟩ := T
  intro b hb
  rcases List.mem_append.1 hb with h | h
  · exact t.p.phys.old b h
  · exact t.d.old b h
theorem TAt.base {W : List Nat} (T : TAt H1 H g r q s W) : Upd [] H1 H := by obtain ⟨fl, B, t, rfl⟩ := T; exact t.d.base
theorem cell_up {S : List Nat} {H H' : Heap} {b : Nat} {xs : List Value} (h : RowAt H (some ⟨b, 0, none⟩) xs) (u : Upd S H H') (hb : b ∉ S) : RowAt H' (some ⟨b, 0, none⟩) xs := h.upd u (.inr fun p hp hm => by cases hp; exact hb hm)
end
end Go.Proofs.YtfcmjomnpahllaaGreat
