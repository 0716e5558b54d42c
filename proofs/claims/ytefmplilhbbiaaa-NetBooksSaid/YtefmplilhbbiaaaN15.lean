import Derived.Test.YtefmplilhbbiaaaN14
namespace Go.Proofs.Ytefmplilhbbiaaa
open Go Hv
set_option linter.unusedVariables false
set_option maxRecDepth 10000
set_option maxHeartbeats 4000000
theorem all2_of {α β : Type} {R : α → β → Prop} : ∀ {xs : List α} {ys : List β}, xs.length = ys.length → (∀ (i : Nat) (x : α) (y : β), xs[i]? = some x → ys[i]? = some y → R x y) → All2 R xs ys
  | [], [], _, _ => trivial
  | x :: xs, y :: ys, hl, h => ⟨h 0 x y rfl rfl, all2_of (by simpa using hl) fun i a b ha hb => h (i + 1) a b (by simpa using ha) (by simpa using hb)⟩
structure L0Inv (b2 bn br : Nat) (zs : List Value) (Hb : Heap) (m : Nat) (vs : List Value) (H' : Heap) : Prop where
  ex : ∃ (k : Nat) (ps rs : List Value) (Ss : List (List Nat)), vs = [.int .i64 (k : Int)] ∧ m + k = 2 ∧ OwnRow H' 44 1 (some ⟨b2, 0, none⟩) 4 4 zs ∧ OwnRow H' 46 1 (some ⟨bn, 0, none⟩) 2 2 ps ∧ OwnRow H' 48 1 (some ⟨br, 0, none⟩) 2 2 rs ∧ Two Hb H' ps rs Ss 0 ∧ (∀ j, k ≤ j → j < 2 → Ss[j]? = some []) ∧ Upd [] Hb H'
structure L2Inv (bn br ns : Nat) (Hb : Heap) (m : Nat) (vs : List Value) (H' : Heap) : Prop where
  ex : ∃ (i : Nat) (ps rs : List Value) (Ss : List (List Nat)), vs = [.int .i64 (i : Int)] ∧ m + i = ns ∧ OwnRow H' 46 1 (some ⟨bn, 0, none⟩) 2 2 ps ∧ OwnRow H' 48 1 (some ⟨br, 0, none⟩) 2 2 rs ∧ Two Hb H' ps rs Ss i ∧ Upd [] Hb H'
theorem netPlays_t {z0 z1 z2 z3 : Int} {sa : Option Addr} {ns cs : Nat} {ops : List Opr} {H : Heap} (h1 : RowAt H sa (orow ops)) (l1 : ops.length = ns) (b1 : ns ≤ 2932031007401) (hok : ∀ o ∈ ops, OprOk H o) :
    HCalls Try.prog 5 [.agg #[.int .i64 z0, .int .i64 z1, .int .i64 z2, .int .i64 z3], .slice sa ns cs] H (fun v H' => v = .bool true ∧ Upd [] H H') := by
  refine hcalls (fn := Try.f5) [(8, [(0, 0), (1, 0), (2, 0), (3, 0), (4, 0), (5, 0), (6, 0), (7, 0), (8, 0), (9, 0), (10, 0), (11, 0), (12, 0), (13, 0), (14, 0)]), (9, [(0, 0), (1, 0), (2, 0), (3, 0), (4, 0), (5, 0), (6, 0), (7, 0), (8, 0), (9, 0), (10, 0), (11, 0), (12, 0), (13, 0), (14, 0)]), (19, [(0, 0), (1, 0), (2, 0), (3, 0), (4, 0), (5, 0), (6, 0), (7, 0), (8, 0), (9, 0), (10, 0), (11, 0)]), (20, [(0, 0), (1, 0), (2, 0), (3, 0), (4, 0), (5, 0), (6, 0), (7, 1), (8, 1), (9, 1), (10, 0), (11, 0), (12, 0), (13, 0), (14, 0), (15, 0), (16, 0), (17, 0), (18, 1), (19, 1), (20, 1), (21, 0), (22, 0), (23, 0), (24, 0)])] mixed Try.func5 rfl rfl (by decide +kernel) ?_
  (repeat first | refine HReg.step ?_ | refine HCode.step ?_)
  refine HNew.mk fun b2 hb2 => ?_
  have u2 : Upd [] H (H.upd b2 (.cells [.int .i64 z0, .int .i64 z1, .int .i64 z2, .int .i64 z3].toArray 44)) := Upd.new hb2 _
  have o2 : OwnRow (H.upd b2 (.cells [.int .i64 z0, .int .i64 z1, .int .i64 z2, .int .i64 z3].toArray 44)) 44 1 (some ⟨b2, 0, none⟩) 4 4 [.int .i64 z0, .int .i64 z1, .int .i64 z2, .int .i64 z3] := OwnRow.lit (upd_same _ _ _) rfl
  (repeat first | refine HReg.step ?_ | refine HCode.step ?_)
  refine HCall.mk ⟨Try.f7, Try.func7, by rfl, by rfl⟩ ?_
  refine alive_t fun H3 u3 => ?_
  have o3 := o2.upd u3 (Off.nil _)
  have u03 : Upd [] H H3 := u2.trans u3
  have hok3 : ∀ o ∈ ops, OprOk H3 o := fun o ho => ⟨(hok o ho).1.upd u03 (.inr (Off.nil _)), (hok o ho).2⟩
  have h13 := h1.upd u03 (.inr (Off.nil _))
  (repeat first | refine HReg.step ?_ | refine HCode.step ?_)
  refine HNew.mk fun bn hbn => ?_
  have un : Upd [] H3 (H3.upd bn (.cells [Value.pointer none, .pointer none].toArray 46)) := Upd.new hbn _
  have on : OwnRow (H3.upd bn (.cells [Value.pointer none, .pointer none].toArray 46)) 46 1 (some ⟨bn, 0, none⟩) 2 2 [.pointer none, .pointer none] := OwnRow.lit (upd_same _ _ _) rfl
  (repeat first | refine HReg.step ?_ | refine HCode.step ?_)
  refine HNew.mk fun br hbr => ?_
  have ur : Upd [] (H3.upd bn (.cells [Value.pointer none, .pointer none].toArray 46)) ((H3.upd bn (.cells [Value.pointer none, .pointer none].toArray 46)).upd br (.cells [Value.pointer none, .pointer none].toArray 48)) := Upd.new hbr _
  have or : OwnRow ((H3.upd bn (.cells [Value.pointer none, .pointer none].toArray 46)).upd br (.cells [Value.pointer none, .pointer none].toArray 48)) 48 1 (some ⟨br, 0, none⟩) 2 2 [.pointer none, .pointer none] := OwnRow.lit (upd_same _ _ _) rfl
  have nbr : H3 br = none := Upd.none (S := []) un (by simp) hbr
  (repeat first | refine HReg.step ?_ | refine HCode.step ?_)
  refine hloopC [4, 7, 8, 9, 10, 11, 17, 18, 19, 20, 21, 22, 23, 24, 25, 26, 27, 28, 29, 30, 31, 32, 33, 34, 35, 36, 37, 38, 39, 40, 41, 42, 43, 44, 45, 46, 47, 48, 49, 50, 51, 52, 53, 54, 55, 56, 57, 58, 59, 60, 61, 62] [7] (L0Inv b2 bn br [.int .i64 z0, .int .i64 z1, .int .i64 z2, .int .i64 z3] H3) rfl (by repeat' first | exact Resp.retD | exact Resp1.valuesK | refine Resp.blockD ?_ | refine Resp.thenD ?_ ?_ | refine Resp.hcode ?_) ?_ ?_
  · refine ⟨2, L0Inv.mk ⟨0, _, _, [[], []], rfl, rfl, o3.upd (un.trans ur) (Off.nil _), on.upd ur (Off.nil _), or, ⟨rfl, rfl, rfl, fun j pv rv S h1 h2 h3 => ?_, fun i j S T hij h1 h2 => ?_⟩, fun j _ hj => ?_, un.trans ur⟩⟩
    · match j, h1, h2, h3 with
      | 0, h1, h2, h3 => cases h1; cases h2; cases h3; exact .inl ⟨rfl, rfl, rfl⟩
      | 1, h1, h2, h3 => cases h1; cases h2; cases h3; exact .inl ⟨rfl, rfl, rfl⟩
      | j + 2, h1, _, _ => simp at h1
    · match i, h1 with
      | 0, h1 => cases h1; intro b hb; simp at hb
      | 1, h1 => cases h1; intro b hb; simp at hb
      | i + 2, h1 => simp at h1
    · match j, hj with
      | 0, _ => rfl
      | 1, _ => rfl
  rintro m vs f H4 ⟨k, ps, rs, Ss, rfl, hmk, oz, op, oR, W, hfree, u4⟩
  (repeat first | refine HReg.step ?_ | refine HCode.step ?_)
  refine hif (fun h => ?_) (fun h => ?_)
  · have h := ltB_true.1 h
    have zint : ∀ i, i < 4 → ∃ x : Int, [Value.int .i64 z0, .int .i64 z1, .int .i64 z2, .int .i64 z3][i]? = some (.int .i64 x) := fun i hi => by
      match i, hi with
      | 0, _ => exact ⟨_, rfl⟩
      | 1, _ => exact ⟨_, rfl⟩
      | 2, _ => exact ⟨_, rfl⟩
      | 3, _ => exact ⟨_, rfl⟩
    obtain ⟨x, hx⟩ := zint (2 * k) (by omega)
    obtain ⟨y, hy⟩ := zint (2 * k + 1) (by omega)
    have hw2 : wr .i64 (2 * (k : Int)) = ((2 * k : Nat) : Int) := by rw [wr_i64 (by omega) (by omega)]; omega
    have hw3 : wr .i64 (((2 * k : Nat) : Int) + 1) = ((2 * k + 1 : Nat) : Int) := by rw [wr_i64 (by omega) (by omega)]; omega
    have hw : wr .i64 ((k : Int) + 1) = ((k + 1 : Nat) : Int) := by rw [wr_i64 (by omega) (by omega)]; omega
    have hSk := hfree k (Nat.le_refl _) (by omega)
    (repeat first | refine HReg.step ?_ | refine HCode.step ?_)
    rw [hw2]
    refine HReq.mk ⟨by omega, by omega⟩ ?_
    (repeat first | refine HReg.step ?_ | refine HCode.step ?_)
    refine HLoad.one (v := .int .i64 x) (by exact oz.rows.get hx) ?_
    (repeat first | refine HReg.step ?_ | refine HCode.step ?_)
    rw [hw2, hw3]
    refine HReq.mk ⟨by omega, by omega⟩ ?_
    (repeat first | refine HReg.step ?_ | refine HCode.step ?_)
    refine HLoad.one (v := .int .i64 y) (by exact oz.rows.get hy) ?_
    (repeat first | refine HReg.step ?_ | refine HCode.step ?_)
    refine HCall.mk ⟨Try.f8, Try.func8, by rfl, by rfl⟩ ?_
    refine new_t (fun hpc g H5 N5 u5 => ?_) (fun hpc => ?_)
    · have oz5 := oz.upd u5 (Off.nil _)
      (repeat first | refine HReg.step ?_ | refine HCode.step ?_)
      rw [hw2]
      refine HReq.mk ⟨by omega, by omega⟩ ?_
      (repeat first | refine HReg.step ?_ | refine HCode.step ?_)
      refine HLoad.one (v := .int .i64 x) (by exact oz5.rows.get hx) ?_
      (repeat first | refine HReg.step ?_ | refine HCode.step ?_)
      rw [hw2, hw3]
      refine HReq.mk ⟨by omega, by omega⟩ ?_
      (repeat first | refine HReg.step ?_ | refine HCode.step ?_)
      refine HLoad.one (v := .int .i64 y) (by exact oz5.rows.get hy) ?_
      (repeat first | refine HReg.step ?_ | refine HCode.step ?_)
      refine HCall.mk ⟨Try.f18, Try.func18, by rfl, by rfl⟩ ?_
      refine rnew_t (fun _ g' H6 N6' u6 => ?_) (fun h => absurd hpc h)
      have N6 := (N5.upd0 u6).back u4
      have N6b := N6'.back (u4.trans u5)
      have op6 := op.upd (u5.trans u6) (Off.nil _)
      have oR6 := oR.upd (u5.trans u6) (Off.nil _)
      have oz6 := oz5.upd u6 (Off.nil _)
      (repeat first | refine HReg.step ?_ | refine HCode.step ?_)
      refine hif (fun h => absurd rfl (not_eqB_true.1 h)) (fun _ => ?_)
      (repeat first | refine HReg.step ?_ | refine HCode.step ?_)
      refine HReq.mk ⟨by omega, by omega⟩ ?_
      (repeat first | refine HReg.step ?_ | refine HCode.step ?_)
      refine store_row op6 (v := .pointer (some ⟨g, 0, none⟩)) rfl (i := k) (by omega) (by show 0 + k + 0 = k; omega) fun H7 op7 u7 => ?_
      (repeat first | refine HReg.step ?_ | refine HCode.step ?_)
      refine HReq.mk ⟨by omega, by omega⟩ ?_
      (repeat first | refine HReg.step ?_ | refine HCode.step ?_)
      have oR7 := oR6.upd u7 (op6.offT oR6 (by decide))
      refine store_row oR7 (v := .pointer (some ⟨g', 0, none⟩)) rfl (i := k) (by omega) (by show 0 + k + 0 = k; omega) fun H8 oR8 u8' => ?_
      (repeat first | refine HReg.step ?_ | refine HCode.step ?_)
      rw [hw]
      have op8 := op7.upd u8' (oR7.offT op7 (by decide))
      have Q6 : PairAt H3 H6 g g' x y (nblk g none ++ nblk g' none) 0 := PairAt.mk ⟨0, none, 0, 0, [], none, 0, [], [], N6, N6b, trivial, trivial, trivial, rfl, hpc.1, ⟨hpc.2.2.1, hpc.2.2.2⟩, by omega, by omega, by omega, fun l hl => by simp at hl⟩
      have ng4 : H4 g = none := N5.newg
      have ng4' : H4 g' = none := Upd.none (S := []) u5 (by simp) N6'.newg
      have W6 := W.set (pv := .pointer (some ⟨g, 0, none⟩)) (rv := .pointer (some ⟨g', 0, none⟩)) (S' := nblk g none ++ nblk g' none) (Nat.le_refl 0) (by omega : k < 2) hSk (u5.trans u6) (by simp) (by simp) (.inr ⟨g, g', x, y, rfl, rfl, Q6⟩) (fun b hb => by
        right
        simp only [nblk, blk, List.mem_append, List.mem_cons, List.not_mem_nil, or_false] at hb
        rcases hb with rfl | rfl
        · exact ng4
        · exact ng4')
      have W7 := W6.updT u7 (fun j S hS b hb hb' => off_notE op6 (W6.notE hS (e := 46) (by decide) (by decide) (by decide) (by decide)) ⟨bn, 0, none⟩ rfl (by have e := List.mem_singleton.1 hb; subst e; exact hb')) (fun b hb => by rw [List.mem_singleton.1 hb]; exact hbn) (op6.notE (by decide))
      have W8 := W7.updT u8' (fun j S hS b hb hb' => off_notE oR7 (W7.notE hS (e := 48) (by decide) (by decide) (by decide) (by decide)) ⟨br, 0, none⟩ rfl (by have e := List.mem_singleton.1 hb; subst e; exact hb')) (fun b hb => by rw [List.mem_singleton.1 hb]; exact nbr) (oR7.notE (by decide))
      have oz8 := (oz6.upd u7 (op6.offT oz6 (by decide))).upd u8' (oR7.offT (oz6.upd u7 (op6.offT oz6 (by decide))) (by decide))
      refine Exists.intro (m - 1) ?_
      refine And.intro (by omega) ?_
      refine L0Inv.mk ⟨k + 1, _, _, _, rfl, by omega, oz8, op8, oR8, W8, fun j hj1 hj2 => ?_, ?_⟩
      · rw [List.getElem?_set, if_neg (by omega)]
        exact hfree j (by omega) hj2
      · exact Upd.drop (Upd.drop (u4.trans (u5.trans u6)) u7 fun b hb => by rw [List.mem_singleton.1 hb]; exact hbn) u8' fun b hb => by rw [List.mem_singleton.1 hb]; exact nbr
    · (repeat first | refine HReg.step ?_ | refine HCode.step ?_)
      rw [hw2]
      refine HReq.mk ⟨by omega, by omega⟩ ?_
      (repeat first | refine HReg.step ?_ | refine HCode.step ?_)
      refine HLoad.one (v := .int .i64 x) (by exact oz.rows.get hx) ?_
      (repeat first | refine HReg.step ?_ | refine HCode.step ?_)
      rw [hw2, hw3]
      refine HReq.mk ⟨by omega, by omega⟩ ?_
      (repeat first | refine HReg.step ?_ | refine HCode.step ?_)
      refine HLoad.one (v := .int .i64 y) (by exact oz.rows.get hy) ?_
      (repeat first | refine HReg.step ?_ | refine HCode.step ?_)
      refine HCall.mk ⟨Try.f18, Try.func18, by rfl, by rfl⟩ ?_
      refine rnew_t (fun h _ _ _ _ => absurd h hpc) (fun _ => ?_)
      (repeat first | refine HReg.step ?_ | refine HCode.step ?_)
      refine hif (fun h => absurd rfl (not_eqB_true.1 h)) (fun _ => ?_)
      (repeat first | refine HReg.step ?_ | refine HCode.step ?_)
      refine HReq.mk ⟨by omega, by omega⟩ ?_
      (repeat first | refine HReg.step ?_ | refine HCode.step ?_)
      refine store_row op (v := .pointer none) rfl (i := k) (by omega) (by show 0 + k + 0 = k; omega) fun H7 op7 u7 => ?_
      (repeat first | refine HReg.step ?_ | refine HCode.step ?_)
      refine HReq.mk ⟨by omega, by omega⟩ ?_
      (repeat first | refine HReg.step ?_ | refine HCode.step ?_)
      have oR7 := oR.upd u7 (op.offT oR (by decide))
      refine store_row oR7 (v := .pointer none) rfl (i := k) (by omega) (by show 0 + k + 0 = k; omega) fun H8 oR8 u8' => ?_
      (repeat first | refine HReg.step ?_ | refine HCode.step ?_)
      rw [hw]
      have op8 := op7.upd u8' (oR7.offT op7 (by decide))
      have W6 := W.set (pv := .pointer none) (rv := .pointer none) (S' := []) (Nat.le_refl 0) (by omega : k < 2) hSk (Upd.refl _ _) (by simp) (by simp) (.inl ⟨rfl, rfl, rfl⟩) (fun b hb => by simp at hb)
      have W7 := W6.updT u7 (fun j S hS b hb hb' => off_notE op (W6.notE hS (e := 46) (by decide) (by decide) (by decide) (by decide)) ⟨bn, 0, none⟩ rfl (by have e := List.mem_singleton.1 hb; subst e; exact hb')) (fun b hb => by rw [List.mem_singleton.1 hb]; exact hbn) (op.notE (by decide))
      have W8 := W7.updT u8' (fun j S hS b hb hb' => off_notE oR7 (W7.notE hS (e := 48) (by decide) (by decide) (by decide) (by decide)) ⟨br, 0, none⟩ rfl (by have e := List.mem_singleton.1 hb; subst e; exact hb')) (fun b hb => by rw [List.mem_singleton.1 hb]; exact nbr) (oR7.notE (by decide))
      have oz8 := (oz.upd u7 (op.offT oz (by decide))).upd u8' (oR7.offT (oz.upd u7 (op.offT oz (by decide))) (by decide))
      refine Exists.intro (m - 1) ?_
      refine And.intro (by omega) ?_
      refine L0Inv.mk ⟨k + 1, _, _, _, rfl, by omega, oz8, op8, oR8, W8, fun j hj1 hj2 => ?_, ?_⟩
      · rw [List.getElem?_set, if_neg (by omega)]
        exact hfree j (by omega) hj2
      · exact Upd.drop (Upd.drop u4 u7 fun b hb => by rw [List.mem_singleton.1 hb]; exact hbn) u8' fun b hb => by rw [List.mem_singleton.1 hb]; exact nbr
  have h := ltB_false.1 h
  (repeat first | refine HReg.step ?_ | refine HCode.step ?_)
  refine hloopC [4, 12, 13, 14, 63, 64, 65, 66, 67, 68, 69, 70, 71, 72, 73, 74, 75, 76, 77, 78, 79, 80, 81, 82, 83, 84, 85, 86, 87, 88, 89, 90, 91, 92, 93, 94, 95, 96, 97, 98, 99, 100, 101, 102, 103, 104, 105, 106, 107, 108, 109, 110, 111, 112, 113, 114] [12] (L2Inv bn br ns H3) rfl (by repeat' first | exact Resp.retD | exact Resp1.valuesK | refine Resp.blockD ?_ | refine Resp.thenD ?_ ?_ | refine Resp.hcode ?_) ?_ ?_
  · exact ⟨ns, L2Inv.mk ⟨0, ps, rs, Ss, rfl, rfl, op, oR, W, u4⟩⟩
  clear W op oR u4 hfree oz
  rintro m2 vs2 f2 H4' ⟨i, ps, rs, Ss, rfl, hmi, op, oR, W, u4⟩
  (repeat first | refine HReg.step ?_ | refine HCode.step ?_)
  refine hif (fun h => ?_) (fun h => ?_)
  · have h := ltB_true.1 h
    obtain ⟨o, ho⟩ : ∃ o, ops[i]? = some o := ⟨ops[i]'(by omega), by simp⟩
    obtain ⟨hy, hyl, hyb⟩ := hok3 o (List.mem_of_getElem? ho)
    obtain ⟨bs_, off, rfl⟩ : ∃ b off, sa = some ⟨b, off, none⟩ := by
      obtain ⟨b, off, hh, _⟩ := h13 _ _ (orow_get (k := 0) ho rfl)
      exact ⟨b, off, hh⟩
    have r4 := h13.upd u4 (.inr (Off.nil _))
    obtain ⟨k2, hk2, hk3⟩ := and1_any o.who
    have hw : wr .i64 ((i : Int) + 1) = ((i + 1 : Nat) : Int) := by rw [wr_i64 (by omega) (by omega)]; omega
    have lp := W.lp; have lr := W.lr; have lS := W.lS
    obtain ⟨pv, hpv⟩ : ∃ x, ps[k2]? = some x := ⟨ps[k2]'(by omega), by simp⟩
    obtain ⟨rv, hrv⟩ : ∃ x, rs[k2]? = some x := ⟨rs[k2]'(by omega), by simp⟩
    obtain ⟨S, hS⟩ : ∃ x, Ss[k2]? = some x := ⟨Ss[k2]'(by omega), by simp⟩
    (repeat first | refine HReg.step ?_ | refine HCode.step ?_)
    refine HReq.mk ⟨by omega, by omega⟩ ?_
    (repeat first | refine HReg.step ?_ | refine HCode.step ?_)
    refine HLoad.one (v := .int .i64 o.who) (by exact or_get r4 ho (k := 1) rfl) ?_
    (repeat first | refine HReg.step ?_ | refine HCode.step ?_)
    rw [hk2]
    refine HReq.mk ⟨by omega, by omega⟩ ?_
    (repeat first | refine HReg.step ?_ | refine HCode.step ?_)
    refine HLoad.one (v := pv) (by exact op.rows.get hpv) ?_
    rcases W.slot k2 pv rv S hpv hrv hS with ⟨rfl, rfl, rfl⟩ | ⟨g, g', P, C, rfl, rfl, Q⟩
    · (repeat first | refine HReg.step ?_ | refine HCode.step ?_)
      rw [hw]
      refine Exists.intro (m2 - 1) ?_
      refine And.intro (by omega) ?_
      exact L2Inv.mk ⟨i + 1, ps, rs, Ss, rfl, by omega, op, oR, W.upd0 (by omega) (Upd.refl _ _), u4⟩
    · (repeat first | refine HReg.step ?_ | refine HCode.step ?_)
      refine HReq.mk ⟨by omega, by omega⟩ ?_
      (repeat first | refine HReg.step ?_ | refine HCode.step ?_)
      refine HLoad.one (v := .pointer (some ⟨g, 0, none⟩)) (by exact op.rows.get hpv) ?_
      (repeat first | refine HReg.step ?_ | refine HCode.step ?_)
      refine HReq.mk ⟨by omega, by omega⟩ ?_
      (repeat first | refine HReg.step ?_ | refine HCode.step ?_)
      refine HLoad.one (v := .pointer (some ⟨g', 0, none⟩)) (by exact oR.rows.get hrv) ?_
      (repeat first | refine HReg.step ?_ | refine HCode.step ?_)
      refine HReq.mk ⟨by omega, by omega⟩ ?_
      (repeat first | refine HReg.step ?_ | refine HCode.step ?_)
      refine HLoadN.mk ⟨ocells o, fun Hx hx j v hv => ?_, rfl, ?_⟩
      · rw [List.mem_singleton.1 hx]
        exact or_get r4 ho hv
      (repeat first | refine HReg.step ?_ | refine HCode.step ?_)
      refine HCall.mk ⟨Try.f19, Try.func19, by rfl, by rfl⟩ ?_
      refine plays_t Q hy hyl hyb (by omega) fun H5 S' Q5 u5 hS5 => ?_
      have W5 := W.set (pv := .pointer (some ⟨g, 0, none⟩)) (rv := .pointer (some ⟨g', 0, none⟩)) (S' := S') (by omega : i ≤ i + 1) hk3 hS u5 Q.old (Q.notE (by decide) (by decide) (by decide) (by decide)) (.inr ⟨g, g', P, C, rfl, rfl, Q5⟩) hS5
      rw [set_self hpv, set_self hrv] at W5
      have op5 := op.upd u5 (off_notE op (Q.notE (by decide) (by decide) (by decide) (by decide)))
      have oR5 := oR.upd u5 (off_notE oR (Q.notE (by decide) (by decide) (by decide) (by decide)))
      have u45 : Upd [] H3 H5 := Upd.drop u4 u5 Q.old
      obtain ⟨L, a, n, cap, fs, a', cap', fs', ls, N, N', SA, SB, FS, hSS, hP, hC, hL0, hLk, hnk, hll⟩ := Q5
      have hll' : ∀ l ∈ ls, List.length l ≤ 140737488355328 := fun l hl => by have := hll l hl; omega
      (repeat first | refine HReg.step ?_ | refine HCode.step ?_)
      refine HReq.mk ⟨by omega, by omega⟩ ?_
      (repeat first | refine HReg.step ?_ | refine HCode.step ?_)
      refine HLoad.one (v := .pointer (some ⟨g, 0, none⟩)) (by exact op5.rows.get hpv) ?_
      (repeat first | refine HReg.step ?_ | refine HCode.step ?_)
      refine HCall.mk ⟨Try.f11, Try.func11, by rfl, by rfl⟩ ?_
      refine len_t N ?_
      (repeat first | refine HReg.step ?_ | refine HCode.step ?_)
      refine HReq.mk ⟨by omega, by omega⟩ ?_
      (repeat first | refine HReg.step ?_ | refine HCode.step ?_)
      refine HLoad_two (v := .pointer (some ⟨g', 0, none⟩)) (by exact oR5.rows.get hrv) (by exact oR5.rows.get hrv) ?_
      (repeat first | refine HReg.step ?_ | refine HCode.step ?_)
      refine HCall.mk ⟨Try.f20, Try.func20, by rfl, by rfl⟩ ?_
      refine rlen_t N' ?_
      (repeat first | refine HReg.step ?_ | refine HCode.step ?_)
      refine hif (fun h => absurd rfl (not_eqB_true.1 h)) (fun _ => ?_)
      (repeat first | refine HReg.step ?_ | refine HCode.step ?_)
      refine HReq.mk ⟨by omega, by omega⟩ ?_
      (repeat first | refine HReg.step ?_ | refine HCode.step ?_)
      refine HLoad.one (v := .pointer (some ⟨g, 0, none⟩)) (by exact op5.rows.get hpv) ?_
      (repeat first | refine HReg.step ?_ | refine HCode.step ?_)
      refine HCall.mk ⟨Try.f15, Try.func15, by rfl, by rfl⟩ ?_
      refine flight_t N SA hll' (by omega) fun x cx X H6 rX sX GX fX => ?_
      have oR6 := oR5.upd GX.upd (Off.nil _)
      (repeat first | refine HReg.step ?_ | refine HCode.step ?_)
      refine HReq.mk ⟨by omega, by omega⟩ ?_
      (repeat first | refine HReg.step ?_ | refine HCode.step ?_)
      refine HLoad_two (v := .pointer (some ⟨g', 0, none⟩)) (by exact oR6.rows.get hrv) (by exact oR5.rows.get hrv) ?_
      (repeat first | refine HReg.step ?_ | refine HCode.step ?_)
      refine HCall.mk ⟨Try.f22, Try.func22, by rfl, by rfl⟩ ?_
      refine rflight_t (N'.upd0 GX.upd) (all_upd SB GX.upd) hll' (by omega) fun y cy Y H7 rY sY GY fY => ?_
      have hXY : All2 FrSame X Y := by
        have lx := sX.length; have ly := sY.length; have lf := FS.length
        refine all2_of (by omega) fun j p q hp hq => ?_
        obtain ⟨f1, hf1⟩ : ∃ x, fs[j]? = some x := ⟨fs[j]'(by have := (List.getElem?_eq_some_iff.1 hp).1; omega), by simp⟩
        obtain ⟨f2, hf2⟩ : ∃ x, fs'[j]? = some x := ⟨fs'[j]'(by have := (List.getElem?_eq_some_iff.1 hp).1; omega), by simp⟩
        have e1 := All2.geti sX hp hf1
        have e2 := All2.geti sY hq hf2
        have e3 := All2.geti FS hf1 hf2
        exact ⟨by rw [e1.1, e2.1, e3.1], by rw [e1.2.1, e2.2.1, e3.2.1], by rw [e1.2.2, e2.2.2, e3.2.2]⟩
      (repeat first | refine HReg.step ?_ | refine HCode.step ?_)
      refine HCall.mk ⟨Try.f21, Try.func21, by rfl, by rfl⟩ ?_
      refine sameFlight_t (ls := ls) (rX.upd GY.upd (Off.nil _)) rY hXY (all_upd (grpM_all GX) GY.upd) (grpM_all GY) (by omega) fun H8 u8' => ?_
      have u58 : Upd [] H5 H8 := GX.upd.trans (GY.upd.trans u8')
      (repeat first | refine HReg.step ?_ | refine HCode.step ?_)
      rw [hw]
      refine Exists.intro (m2 - 1) ?_
      refine And.intro (by omega) ?_
      exact L2Inv.mk ⟨i + 1, ps, rs, _, rfl, by omega, op5.upd u58 (Off.nil _), oR5.upd u58 (Off.nil _), W5.upd0 (Nat.le_refl _) u58, u45.trans u58⟩
  · (repeat first | refine HReg.step ?_ | refine HCode.step ?_)
    exact ⟨rfl, u03.trans u4⟩
end Go.Proofs.Ytefmplilhbbiaaa
