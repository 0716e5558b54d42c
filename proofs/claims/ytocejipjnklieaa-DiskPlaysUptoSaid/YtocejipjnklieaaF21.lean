import Derived.Test.YtocejipjnklieaaF20
import Derived.Test.YtocejipjnklieaaE8
namespace Go.Proofs.Ytocejipjnklieaa
open Go Hv
set_option linter.unusedVariables false
set_option linter.unusedSimpArgs false
set_option maxRecDepth 10000
set_option maxHeartbeats 4000000
/-! DiskPlays. CUT2 -/
theorem RAt.rebase {H1 H2 H : Heap} {g : Nat} {s : St} {B : List Nat} (R : RAt H2 H g s B) (u : Upd [] H1 H2) : RAt H1 H g s B := by
  obtain ⟨fs, aF, cF, cl, st, r, e⟩ := R
  exact ⟨fs, aF, cF, cl, st, ⟨r.obj, r.row, r.byt, r.ap, fun b hb => Upd.none (S := []) u (by simp) (r.new b hb), u.trans r.base, r.ri, r.get, r.all, r.syn, r.cnt, r.arm, r.hi, r.rhi⟩, e⟩
/-- Two pairs of disks apart. -/
structure Four (H1 H : Heap) (g0 r0 q0 g1 r1 q1 N : Nat) (W0 W1 : List Nat) (s0 s1 : St) : Prop where
  a : TAt H1 H g0 r0 q0 s0 W0
  b : TAt H1 H g1 r1 q1 s1 W1
  ap : ∀ x ∈ W0, x ∉ W1
  oa : s0.Ok N
  ob : s1.Ok N
  ka : Kin s0.d.keep
  kb : Kin s1.d.keep
structure PlI (H1 H0 : Heap) (ops : List OpA) (g0 r0 q0 g1 r1 q1 b3 b4 : Nat) (m : Nat) (vs : List Value) (H' : Heap) : Prop where
  ex : ∃ (i : Nat) (s0 s1 : St) (W0 W1 : List Nat), vs = [.int .i64 (i : Int)] ∧ m + i = ops.length ∧ Four H1 H' g0 r0 q0 g1 r1 q1 (opSum (ops.take i)) W0 W1 s0 s1 ∧
    RowAt H' (some ⟨b3, 0, none⟩) [.pointer (some ⟨g0, 0, none⟩), .pointer (some ⟨g1, 0, none⟩)] ∧ RowAt H' (some ⟨b4, 0, none⟩) [.pointer (some ⟨q0, 0, none⟩), .pointer (some ⟨q1, 0, none⟩)] ∧
    b3 ∉ W0 ∧ b3 ∉ W1 ∧ b4 ∉ W0 ∧ b4 ∉ W1 ∧ H' b3 ≠ none ∧ H' b4 ≠ none
section
variable {H1 H H' : Heap} {g0 r0 q0 g1 r1 q1 N : Nat} {W0 W1 W' : List Nat} {s0 s1 s' : St} {K : Value → Heap → Prop}
theorem Four.stepA (F : Four H1 H g0 r0 q0 g1 r1 q1 N W0 W1 s0 s1) {M : Nat} (T : TAt H1 H' g0 r0 q0 s' W') (S : Stq H H' W0 W') (ok : s'.Ok M) (hM : N ≤ M) (k : Kin s'.d.keep) : Four H1 H' g0 r0 q0 g1 r1 q1 M W' W1 s' s1 :=
  ⟨T, F.b.upd S.upd F.ap F.a.old, fun x hx h1 => by
    rcases S.sub x hx with h | h
    · exact F.ap x h h1
    · exact F.b.live x h1 h, ok, F.ob.mono hM, k, F.kb⟩
theorem Four.stepB (F : Four H1 H g0 r0 q0 g1 r1 q1 N W0 W1 s0 s1) {M : Nat} (T : TAt H1 H' g1 r1 q1 s' W') (S : Stq H H' W1 W') (ok : s'.Ok M) (hM : N ≤ M) (k : Kin s'.d.keep) : Four H1 H' g0 r0 q0 g1 r1 q1 M W0 W' s0 s' :=
  ⟨F.a.upd S.upd (fun b hb h => F.ap b h hb) F.b.old, T, fun x hx h1 => by
    rcases S.sub x h1 with h | h
    · exact F.ap x hx h
    · exact F.a.live x hx h, F.oa.mono hM, ok, F.ka, k⟩
theorem stq_off {b : Nat} (S : Stq H H' W0 W') (hb : b ∉ W0) (hl : H b ≠ none) : b ∉ W' := fun h => by
  rcases S.sub b h with h | h
  · exact hb h
  · exact hl h
theorem who_bit (w : Int) : bitsS .and .i64 w 1 = 0 ∨ bitsS .and .i64 w 1 = 1 := by
  have e := and_mask w 1 (by decide)
  have e2 : (((2 ^ 1 - 1 : Nat) : Int)) = 1 := by decide
  have e3 : (((2 ^ 1 : Nat) : Int)) = 2 := by decide
  rw [e2, e3] at e
  rw [e]
  omega
theorem store_ptrs {b T : Nat} {p q : Option Addr} {xs : List Value} {K : Heap → Prop} (h : OwnRow H T 1 (some ⟨b, 0, none⟩) 2 2 xs) (hl : xs.length = 2)
    (hk : ∀ H', OwnRow H' T 1 (some ⟨b, 0, none⟩) 2 2 [.pointer p, .pointer q] → Upd [b] H H' → K H') : storeN H b 0 0 K [.pointer p, .pointer q] := by
  obtain ⟨y0, y1, rfl⟩ : ∃ a b, xs = [a, b] := by
    match xs, hl with
    | [a, b], _ => exact ⟨a, b, rfl⟩
  refine store_row h (v := .pointer p) rfl (i := 0) (by decide) (by rfl) fun H1 o1 u1 => ?_
  refine store_row o1 (v := .pointer q) rfl (i := 1) (by decide) (by rfl) fun H2 o2 u2 => ?_
  exact hk H2 o2 (u1.trans u2)
theorem stq_live {b : Nat} (S : Stq H H' W0 W') (hb : b ∉ W0) (h : H b ≠ none) : H' b ≠ none := by rw [S.upd b hb h]; exact h
theorem live_up {b : Nat} (u : Upd [] H H') (h : H b ≠ none) : H' b ≠ none := fun e => h (Upd.none (S := []) u (by simp) e)
theorem diskPlays_t {a : Option Addr} {c : Nat} {ops : List OpA} (hr : RowAt H a (orow ops)) (hin : ∀ o ∈ ops, OpIn H o) (hl : ops.length ≤ 1048576) (hs : opSum ops ≤ 1048576)
    (hk : ∀ H', Upd [] H H' → K (.bool true) H') : HCalls Try.prog 5 [.slice a ops.length c] H K := by
  refine hcalls (fn := Try.f5) [(11, [(0, 0), (1, 0), (2, 0), (3, 0), (4, 0), (5, 0), (6, 0), (7, 0), (8, 0), (9, 0), (10, 0), (11, 0)]), (12, [(0, 0), (1, 0), (2, 0), (3, 0), (4, 0), (5, 0), (6, 0), (7, 1), (8, 1), (9, 1), (10, 0), (11, 0), (12, 0)])] mixed Try.func5 rfl rfl (by decide +kernel) ?_
  (repeat first | refine HReg.step ?_ | refine HCode.step ?_)
  refine HCall.mk ⟨Try.f9, Try.func9, by rfl, by rfl⟩ ?_
  refine alive_t fun H1 u1 => ?_
  (repeat first | refine HReg.step ?_ | refine HCode.step ?_)
  refine HCall.mk ⟨Try.f10, Try.func10, by rfl, by rfl⟩ ?_
  refine new_t fun g0 r0 H2 D0 u2 => ?_
  (repeat first | refine HReg.step ?_ | refine HCode.step ?_)
  refine HCall.mk ⟨Try.f10, Try.func10, by rfl, by rfl⟩ ?_
  refine new_t fun g1 r1 H3 D1 u3 => ?_
  (repeat first | refine HReg.step ?_ | refine HCode.step ?_)
  refine HNew.mk fun b3 hb3 => ?_
  (repeat first | refine HReg.step ?_ | refine HCode.step ?_)
  refine store_ptrs (OwnRow.lit (upd_same _ _ _) rfl) rfl fun H4 o4 u4 => ?_
  have u4 : Upd [] H3 H4 := Upd.drop (Upd.new hb3 _) u4 (fun q hq => by rw [List.mem_singleton.1 hq]; exact hb3)
  (repeat first | refine HReg.step ?_ | refine HCode.step ?_)
  refine HCall.mk ⟨Try.f24, Try.func24, by rfl, by rfl⟩ ?_
  refine rnew_t fun q0 B0 H5 R0 u5 => ?_
  (repeat first | refine HReg.step ?_ | refine HCode.step ?_)
  refine HCall.mk ⟨Try.f24, Try.func24, by rfl, by rfl⟩ ?_
  refine rnew_t fun q1 B1 H6 R1 u6 => ?_
  (repeat first | refine HReg.step ?_ | refine HCode.step ?_)
  refine HNew.mk fun b4 hb4 => ?_
  (repeat first | refine HReg.step ?_ | refine HCode.step ?_)
  refine store_ptrs (OwnRow.lit (upd_same _ _ _) rfl) rfl fun H7 o7 u7 => ?_
  have u7 : Upd [] H6 H7 := Upd.drop (Upd.new hb4 _) u7 (fun q hq => by rw [List.mem_singleton.1 hq]; exact hb4)
  have P0 : ∀ b ∈ dblk g0 r0 [], H2 b ≠ none := D0.phys.live
  have P1 : ∀ b ∈ dblk g1 r1 [], H3 b ≠ none := D1.phys.live
  have l0 : ∀ b ∈ dblk g0 r0 [], H4 b ≠ none := fun b hb => live_up u4 (live_up u3 (P0 b hb))
  have l1 : ∀ b ∈ dblk g1 r1 [], H4 b ≠ none := fun b hb => live_up u4 (P1 b hb)
  have x12 : Upd [] H1 H4 := u2.trans (u3.trans u4)
  have x47 : Upd [] H4 H7 := u5.trans (u6.trans u7)
  have n3 : H1 b3 = none := Upd.none (S := []) (u2.trans u3) (by simp) hb3
  have l3 : H4 b3 ≠ none := o4.there rfl
  have n5 : ∀ b, H5 b = none → H4 b = none := fun b h => Upd.none (S := []) u5 (by simp) h
  have n4 : H4 b4 = none := Upd.none (S := []) (u5.trans u6) (by simp) hb4
  have T0 : TAt H1 H7 g0 r0 q0 St0 (dblk g0 r0 [] ++ B0) := ⟨[], B0, ⟨D0.upd0 (u3.trans (u4.trans x47)), (R0.upd0 (u6.trans u7)).rebase x12, fun b hb h => l0 b hb (R0.old b h)⟩, rfl⟩
  have D1' : DiskAt H1 H7 g1 r1 St0 [] := (D1.upd0 (u4.trans x47)).rebase (fun b hb => Upd.none (S := []) u2 (by simp) (D1.phys.old b hb)) (x12.trans x47)
  have T1 : TAt H1 H7 g1 r1 q1 St0 (dblk g1 r1 [] ++ B1) := ⟨[], B1, ⟨D1', (R1.upd0 u7).rebase (x12.trans u5), fun b hb h => l1 b hb (n5 b (R1.old b h))⟩, rfl⟩
  have F0 : Four H1 H7 g0 r0 q0 g1 r1 q1 0 (dblk g0 r0 [] ++ B0) (dblk g1 r1 [] ++ B1) St0 St0 := by
    refine ⟨T0, T1, fun b hb hb' => ?_, ok0 _, ok0 _, ⟨by decide, by decide⟩, ⟨by decide, by decide⟩⟩
    rcases List.mem_append.1 hb with h | h
    · rcases List.mem_append.1 hb' with h' | h'
      · exact P0 b h (D1.phys.old b h')
      · exact l0 b h (n5 b (R1.old b h'))
    · rcases List.mem_append.1 hb' with h' | h'
      · exact l1 b h' (R0.old b h)
      · exact R0.live b h (R1.old b h')
  have b3W0 : b3 ∉ dblk g0 r0 [] ++ B0 := fun hb => by
    rcases List.mem_append.1 hb with h | h
    · exact live_up u3 (P0 b3 h) hb3
    · exact l3 (R0.old b3 h)
  have b3W1 : b3 ∉ dblk g1 r1 [] ++ B1 := fun hb => by
    rcases List.mem_append.1 hb with h | h
    · exact P1 b3 h hb3
    · exact l3 (n5 b3 (R1.old b3 h))
  have b4W0 : b4 ∉ dblk g0 r0 [] ++ B0 := fun hb => by
    rcases List.mem_append.1 hb with h | h
    · exact l0 b4 h n4
    · exact R0.live b4 h (Upd.none (S := []) u6 (by simp) hb4)
  have b4W1 : b4 ∉ dblk g1 r1 [] ++ B1 := fun hb => by
    rcases List.mem_append.1 hb with h | h
    · exact l1 b4 h n4
    · exact R1.live b4 h hb4
  have n4' : H1 b4 = none := Upd.none (S := []) x12 (by simp) n4
  have row3 := o4.rows.upd (S := []) x47 (.inr (Off.nil _))
  have row4 := o7.rows
  have L3 : H7 b3 ≠ none := live_up x47 l3
  have L4 : H7 b4 ≠ none := o7.there rfl
  have rw1 := hr.upd (S := []) u1 (.inr (Off.nil _))
  (repeat first | refine HReg.step ?_ | refine HCode.step ?_)
  refine HReq.mk (by decide) ?_
  (repeat first | refine HReg.step ?_ | refine HCode.step ?_)
  refine HLoad.one (v := .pointer (some ⟨g0, 0, none⟩)) (by exact row3.get (i := 0) rfl) ?_
  (repeat first | refine HReg.step ?_ | refine HCode.step ?_)
  refine HReq.mk (by decide) ?_
  (repeat first | refine HReg.step ?_ | refine HCode.step ?_)
  refine HLoad.one (v := .pointer (some ⟨g1, 0, none⟩)) (by exact row3.get (i := 1) rfl) ?_
  (repeat first | refine HReg.step ?_ | refine HCode.step ?_)
  refine hloopC [2, 5, 6, 7, 24, 25, 26, 27, 28, 29, 30, 31, 32, 33, 34, 35, 36, 37, 38, 39, 40, 41, 42, 43, 44, 45, 46, 47, 48, 49, 50, 51, 52, 53, 54, 55, 56, 57, 58, 59] [5] (PlI H1 H7 ops g0 r0 q0 g1 r1 q1 b3 b4) rfl (by repeat' first | exact Resp.retD | exact Resp1.valuesK | refine Resp.blockD ?_ | refine Resp.thenD ?_ ?_ | refine Resp.hcode ?_) ?_ ?_
  · exact ⟨ops.length, PlI.mk ⟨0, St0, St0, _, _, rfl, rfl, F0, row3, row4, b3W0, b3W1, b4W0, b4W1, L3, L4⟩⟩
  rintro m _ fe H8 ⟨i, s0, s1, W0, W1, rfl, hmi, F, row3, row4, b3W0, b3W1, b4W0, b4W1, L3, L4⟩
  have wi : wr .i64 ((i : Int) + 1) = ((i + 1 : Nat) : Int) := by rw [wr_i64 (by omega) (by omega)]; omega
  (repeat first | refine HReg.step ?_ | refine HCode.step ?_)
  refine hif (fun h2 => ?_) (fun h2 => ?_)
  · have h2 := ltB_true.1 h2
    obtain ⟨o, ho⟩ : ∃ o, ops[i]? = some o := ⟨ops[i]'(by omega), by simp⟩
    obtain ⟨ba, bo, rfl, _⟩ := rw1 _ _ (orow_get ho 0 _ rfl)
    have hin' := (hin o (List.mem_of_getElem? ho)).upd0 u1
    have hs' := opSum_take ho
    have hle := opSum_le ops (i + 1)
    have rr := rw1.upd (S := []) F.a.base (.inr (Off.nil _))
    (repeat first | refine HReg.step ?_ | refine HCode.step ?_)
    refine HReq.mk ⟨by omega, by omega⟩ ?_
    (repeat first | refine HReg.step ?_ | refine HCode.step ?_)
    refine HLoad.one (v := .int .i64 o.o.who) (by rw [Nat.add_assoc]; exact rr.get (orow_get ho 1 _ rfl)) ?_
    rcases who_bit o.o.who with hw | hw
    · (repeat first | refine HReg.step ?_ | refine HCode.step ?_)
      rw [hw]
      (repeat first | refine HReg.step ?_ | refine HCode.step ?_)
      refine HReq.mk (by decide) ?_
      (repeat first | refine HReg.step ?_ | refine HCode.step ?_)
      refine HLoad.one (v := .pointer (some ⟨g0, 0, none⟩)) (by exact row3.get (i := 0) rfl) ?_
      (repeat first | refine HReg.step ?_ | refine HCode.step ?_)
      refine HReq.mk (by decide) ?_
      (repeat first | refine HReg.step ?_ | refine HCode.step ?_)
      refine HLoad.one (v := .pointer (some ⟨q0, 0, none⟩)) (by exact row4.get (i := 0) rfl) ?_
      (repeat first | refine HReg.step ?_ | refine HCode.step ?_)
      refine HReq.mk ⟨by omega, by omega⟩ ?_
      (repeat first | refine HReg.step ?_ | refine HCode.step ?_)
      refine HLoadN_op rr ho ?_
      (repeat first | refine HReg.step ?_ | refine HCode.step ?_)
      refine HCall.mk ⟨Try.f25, Try.func25, by rfl, by rfl⟩ ?_
      refine plays_t (o := o.o) (a := o.a) (c := o.c) F.a F.oa hin'.row (by omega) hin'.fits F.ka.1 F.ka.2 fun W' H9 T9 S => ?_
      have ok9 := F.oa.does o.o
      rw [← hs'] at ok9
      have F9 := F.stepA T9 S ok9 (by omega) (keep_does _ _ F.ka ⟨hin'.fits.klo, hin'.fits.khi⟩)
      have row39 := cell_up row3 S.upd b3W0
      have row49 := cell_up row4 S.upd b4W0
      have L39 := stq_live S b3W0 L3
      have L49 := stq_live S b4W0 L4
      have fin : PlI H1 H7 ops g0 r0 q0 g1 r1 q1 b3 b4 (m - 1) [.int .i64 ((i + 1 : Nat) : Int)] H9 := PlI.mk ⟨i + 1, (s0.does o.o).2, s1, W', W1, rfl, by omega, F9, row39, row49, stq_off S b3W0 L3, b3W1, stq_off S b4W0 L4, b4W1, L39, L49⟩
      obtain ⟨fl9, B9, t9, _⟩ := T9
      (repeat first | refine HReg.step ?_ | refine HCode.step ?_)
      refine HReq.mk (by decide) ?_
      (repeat first | refine HReg.step ?_ | refine HCode.step ?_)
      refine HLoad.one (v := .pointer (some ⟨g0, 0, none⟩)) (by exact row39.get (i := 0) rfl) ?_
      (repeat first | refine HReg.step ?_ | refine HCode.step ?_)
      refine HCall.mk ⟨Try.f26, Try.func26, by rfl, by rfl⟩ ?_
      refine down_t t9.p ?_
      (repeat first | refine HReg.step ?_ | refine HCode.step ?_)
      refine HReq.mk (by decide) ?_
      (repeat first | refine HReg.step ?_ | refine HCode.step ?_)
      refine HLoad_two (v := .pointer (some ⟨q0, 0, none⟩)) (by exact row49.get (i := 0) rfl) (by exact row49.get (i := 0) rfl) ?_
      (repeat first | refine HReg.step ?_ | refine HCode.step ?_)
      refine HCall.mk ⟨Try.f27, Try.func27, by rfl, by rfl⟩ ?_
      refine rdown_t t9.d ?_
      generalize (s0.does o.o).2.d.off = x
      cases x
      · (repeat first | refine HReg.step ?_ | refine HCode.step ?_)
        rw [wi]
        exact ⟨m - 1, by omega, fin⟩
      · (repeat first | refine HReg.step ?_ | refine HCode.step ?_)
        rw [wi]
        exact ⟨m - 1, by omega, fin⟩
    · (repeat first | refine HReg.step ?_ | refine HCode.step ?_)
      rw [hw]
      (repeat first | refine HReg.step ?_ | refine HCode.step ?_)
      refine HReq.mk (by decide) ?_
      (repeat first | refine HReg.step ?_ | refine HCode.step ?_)
      refine HLoad.one (v := .pointer (some ⟨g1, 0, none⟩)) (by exact row3.get (i := 1) rfl) ?_
      (repeat first | refine HReg.step ?_ | refine HCode.step ?_)
      refine HReq.mk (by decide) ?_
      (repeat first | refine HReg.step ?_ | refine HCode.step ?_)
      refine HLoad.one (v := .pointer (some ⟨q1, 0, none⟩)) (by exact row4.get (i := 1) rfl) ?_
      (repeat first | refine HReg.step ?_ | refine HCode.step ?_)
      refine HReq.mk ⟨by omega, by omega⟩ ?_
      (repeat first | refine HReg.step ?_ | refine HCode.step ?_)
      refine HLoadN_op rr ho ?_
      (repeat first | refine HReg.step ?_ | refine HCode.step ?_)
      refine HCall.mk ⟨Try.f25, Try.func25, by rfl, by rfl⟩ ?_
      refine plays_t (o := o.o) (a := o.a) (c := o.c) F.b F.ob hin'.row (by omega) hin'.fits F.kb.1 F.kb.2 fun W' H9 T9 S => ?_
      have ok9 := F.ob.does o.o
      rw [← hs'] at ok9
      have F9 := F.stepB T9 S ok9 (by omega) (keep_does _ _ F.kb ⟨hin'.fits.klo, hin'.fits.khi⟩)
      have row39 := cell_up row3 S.upd b3W1
      have row49 := cell_up row4 S.upd b4W1
      have L39 := stq_live S b3W1 L3
      have L49 := stq_live S b4W1 L4
      have fin : PlI H1 H7 ops g0 r0 q0 g1 r1 q1 b3 b4 (m - 1) [.int .i64 ((i + 1 : Nat) : Int)] H9 := PlI.mk ⟨i + 1, s0, (s1.does o.o).2, W0, W', rfl, by omega, F9, row39, row49, b3W0, stq_off S b3W1 L3, b4W0, stq_off S b4W1 L4, L39, L49⟩
      obtain ⟨fl9, B9, t9, _⟩ := T9
      (repeat first | refine HReg.step ?_ | refine HCode.step ?_)
      refine HReq.mk (by decide) ?_
      (repeat first | refine HReg.step ?_ | refine HCode.step ?_)
      refine HLoad.one (v := .pointer (some ⟨g1, 0, none⟩)) (by exact row39.get (i := 1) rfl) ?_
      (repeat first | refine HReg.step ?_ | refine HCode.step ?_)
      refine HCall.mk ⟨Try.f26, Try.func26, by rfl, by rfl⟩ ?_
      refine down_t t9.p ?_
      (repeat first | refine HReg.step ?_ | refine HCode.step ?_)
      refine HReq.mk (by decide) ?_
      (repeat first | refine HReg.step ?_ | refine HCode.step ?_)
      refine HLoad_two (v := .pointer (some ⟨q1, 0, none⟩)) (by exact row49.get (i := 1) rfl) (by exact row49.get (i := 1) rfl) ?_
      (repeat first | refine HReg.step ?_ | refine HCode.step ?_)
      refine HCall.mk ⟨Try.f27, Try.func27, by rfl, by rfl⟩ ?_
      refine rdown_t t9.d ?_
      generalize (s1.does o.o).2.d.off = x
      cases x
      · (repeat first | refine HReg.step ?_ | refine HCode.step ?_)
        rw [wi]
        exact ⟨m - 1, by omega, fin⟩
      · (repeat first | refine HReg.step ?_ | refine HCode.step ?_)
        rw [wi]
        exact ⟨m - 1, by omega, fin⟩
  · have h2 := ltB_false.1 h2
    (repeat first | refine HReg.step ?_ | refine HCode.step ?_)
    refine HReq.mk (by decide) ?_
    (repeat first | refine HReg.step ?_ | refine HCode.step ?_)
    refine HLoad.one (v := .pointer (some ⟨g0, 0, none⟩)) (by exact row3.get (i := 0) rfl) ?_
    (repeat first | refine HReg.step ?_ | refine HCode.step ?_)
    refine HReq.mk (by decide) ?_
    (repeat first | refine HReg.step ?_ | refine HCode.step ?_)
    refine HLoad.one (v := .pointer (some ⟨q0, 0, none⟩)) (by exact row4.get (i := 0) rfl) ?_
    (repeat first | refine HReg.step ?_ | refine HCode.step ?_)
    have hle := opSum_le ops i
    refine HCall.mk ⟨Try.f28, Try.func28, by rfl, by rfl⟩ ?_
    refine alike_t F.a F.oa (by omega) F.ka fun s' W' H9 T9 S => ?_
    have row39 := cell_up row3 S.upd b3W0
    have row49 := cell_up row4 S.upd b4W0
    have T1 := F.b.upd S.upd F.ap F.a.old
    (repeat first | refine HReg.step ?_ | refine HCode.step ?_)
    refine HReq.mk (by decide) ?_
    (repeat first | refine HReg.step ?_ | refine HCode.step ?_)
    refine HLoad.one (v := .pointer (some ⟨g1, 0, none⟩)) (by exact row39.get (i := 1) rfl) ?_
    (repeat first | refine HReg.step ?_ | refine HCode.step ?_)
    refine HReq.mk (by decide) ?_
    (repeat first | refine HReg.step ?_ | refine HCode.step ?_)
    refine HLoad.one (v := .pointer (some ⟨q1, 0, none⟩)) (by exact row49.get (i := 1) rfl) ?_
    (repeat first | refine HReg.step ?_ | refine HCode.step ?_)
    refine HCall.mk ⟨Try.f28, Try.func28, by rfl, by rfl⟩ ?_
    refine alike_t T1 F.ob (by omega) F.kb fun s2 W2 H10 T10 S2 => ?_
    (repeat first | refine HReg.step ?_ | refine HCode.step ?_)
    exact hk H10 (u1.trans T10.base)
end
end Go.Proofs.Ytocejipjnklieaa
