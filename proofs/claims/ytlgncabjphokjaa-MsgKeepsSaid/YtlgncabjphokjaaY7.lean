import Derived.Test.YtlgncabjphokjaaY6
namespace Go.Proofs.Ytlgncabjphokjaa
open Go Hv
set_option linter.unusedVariables false
set_option linter.unusedSimpArgs false
set_option maxRecDepth 10000
set_option maxHeartbeats 1000000
/-! MsgKeeps. CUT2 -/
structure TnInv (H1 : Heap) (m : Nat) (vs : List Value) (H : Heap) : Prop where
  ex : ∃ (r : Nat) (k w t u : Ls) (lK lT : List (List Value)), vs = [k.val, w.val, t.val, u.val, .int .i64 (r : Int)] ∧ m + r = 2 ∧ k.n = 2 * r ∧ w.n = 2 * r ∧ t.n ≤ 4 * r ∧ u.n = t.n ∧ KSt H1 k w t u lK lT H
structure WiInv (g : Nat) (cw : Nat) (n : Nat) (H : Heap) (m : Nat) (vs : List Value) (H' : Heap) : Prop where
  ex : ∃ (i : Nat) (xs : List Value), vs = [.int .i64 (i : Int)] ∧ m + i = n ∧ OwnRow H' 5 1 (some ⟨g, 0, none⟩) n cw xs ∧ Upd [g] H H'
theorem KSt.upd0 {H1 H H' : Heap} {k w t u : Ls} {lK lT : List (List Value)} (s : KSt H1 k w t u lK lT H) (v : Upd [] H H') : KSt H1 k w t u lK lT H' :=
  ⟨s.g.upd0 v, s.rk.upd0 v, s.rw.upd0 v, s.rt.upd0 v, s.ru.upd0 v, s.dw, s.du, s.bl, s.tl⟩
structure P4Inv (Hs : Heap) (n0 : Nat) (L0 : List Value) (xs : List VerA) (m : Nat) (vs : List Value) (H : Heap) : Prop where
  ex : ∃ (i : Nat) (a : Option Addr) (c : Nat), vs = [.slice a (n0 + i) c, .int .i64 (i : Int)] ∧ m + i = xs.length ∧ Made Hs H 25 1 a (n0 + i) c (L0 ++ (xs.take i).map vsl)
structure P8Inv (H1 Hs : Heap) (k w : Ls) (lK : List (List Value)) (tV : List Value) (tn : Nat) (LV : List Value) (lT LL : List (List Value)) (aL : Option Addr) (cL : Nat) (m : Nat) (vs : List Value) (H : Heap) : Prop where
  ex : ∃ (i : Nat) (t u : Ls), vs = [t.val, u.val, .int .i64 (i : Int)] ∧ m + i = LV.length ∧ t.n = tn + i ∧ u.n = t.n ∧ t.V = tV ++ LV.take i ∧
    KG H1 k.V lK (tV ++ LV) (lT ++ LL) w.V u.V H ∧ NewR H1 H 30 1 k.a k.n k.c k.V ∧ NewR H1 H 30 1 w.a w.n w.c w.V ∧ NewR H1 H 25 1 t.a t.n t.c t.V ∧ NewR H1 H 25 1 u.a u.n u.c u.V ∧ (∀ b ∈ blk t.a, b ∉ blk u.a) ∧
    NewR H1 H 25 1 aL LV.length cL LV ∧ (∀ b ∈ blk aL, b ∉ blk t.a ∧ b ∉ blk u.a)
structure Side (A B : List UInt8) (aA : Option Addr) (cA : Nat) (aB : Option Addr) (cB : Nat) (p q : MsgA) (bp bq : Nat) (H : Heap) : Prop where
  oA : OwnRow H 5 1 aA A.length cA (u8s A)
  oB : OwnRow H 5 1 aB B.length cB (u8s B)
  oP : OwnRow H 29 1 (some ⟨bp, 0, none⟩) 8 8 p.cells
  oQ : OwnRow H 29 1 (some ⟨bq, 0, none⟩) 8 8 q.cells
  vP : OwnRow H 52 4 p.av p.vs.length p.cv (versV p.vs)
  vQ : OwnRow H 52 4 q.av q.vs.length q.cv (versV q.vs)
theorem Side.upd0 {A B : List UInt8} {aA aB : Option Addr} {cA cB bp bq : Nat} {p q : MsgA} {H H' : Heap} (s : Side A B aA cA aB cB p q bp bq H) (u : Upd [] H H') : Side A B aA cA aB cB p q bp bq H' :=
  ⟨s.oA.upd u (Off.nil _), s.oB.upd u (Off.nil _), s.oP.upd u (Off.nil _), s.oQ.upd u (Off.nil _), s.vP.upd u (Off.nil _), s.vQ.upd u (Off.nil _)⟩
theorem Side.row {A B : List UInt8} {aA aB : Option Addr} {cA cB bp bq : Nat} {p q : MsgA} {H H' : Heap} {e : TypeId} {a : Option Addr} {n c : Nat} {xs : List Value} (s : Side A B aA cA aB cB p q bp bq H) (o : OwnRow H e 1 a n c xs) (u : Upd (blk a) H H') (h5 : e ≠ 5) (h29 : e ≠ 29) (h52 : e ≠ 52) : Side A B aA cA aB cB p q bp bq H' :=
  ⟨s.oA.upd u (o.offT s.oA h5), s.oB.upd u (o.offT s.oB h5), s.oP.upd u (o.offT s.oP h29), s.oQ.upd u (o.offT s.oQ h29), s.vP.upd u (o.offT s.vP h52), s.vQ.upd u (o.offT s.vQ h52)⟩
theorem NewR.offR {H1 H H' : Heap} {e e' : TypeId} {size n c n' c' : Nat} {a a' : Option Addr} {xs ys : List Value} (r : NewR H1 H e size a n c xs) (o : OwnRow H e' 1 a' n' c' ys) (u : Upd (blk a') H H') (he : e' ≠ e) : NewR H1 H' e size a n c xs := ⟨r.own.upd u (o.offT r.own he), r.new⟩
theorem live_ne {H : Heap} {e : TypeId} {size n cap : Nat} {a : Option Addr} {xs : List Value} (h : OwnRow H e size a n cap xs) : ∀ b ∈ blk a, H b ≠ none := fun b hb hn => by
  obtain ⟨c, f, hc⟩ := live_cells h b hb
  rw [hn] at hc; cases hc
theorem vlive_ne {e : TypeId} {H1 H : Heap} {vs : List Value} {ls : List (List Value)} (h : Grv e H1 H vs ls) {v : Value} (hv : v ∈ vs) {b : Nat} (hb : b ∈ vblk v) : H b ≠ none := fun hn => by
  obtain ⟨i, hi⟩ := List.getElem?_of_mem hv
  obtain ⟨c, f, hc⟩ := h.live hi hb
  rw [hn] at hc; cases hc
section
variable {H0 H : Heap} {a b : Option Addr} {n c m d : Nat} {V ys : List Value} {K : Value → Heap → Prop}
theorem app25M (r : Made H0 H 25 1 a n c V) (hy : RowAt H b ys) (hl : ys.length = m) (hp : ∀ v ∈ ys, Value.plain v = true) (hb : n + m ≤ 1024)
    (hk : ∀ a' c' H', Made H0 H' 25 1 a' (n + m) c' (V ++ ys) → K (.slice a' (n + m) c') H') :
    HSem Try.prog (Builtin.append_ #[50, 50] 50 [.slice a n c, .slice b m d].toArray) H K :=
  append_madeG (ie := Try.t25) (z := .slice none 0 0) (xs := V) (ys := ys) Try.underlying50 rfl rfl rfl (by decide) r hy (by rw [hl]; exact (Nat.mul_one _).symm) hp (by show (n + m) * 24 ≤ _; omega) (by omega) hk
end
section
variable {H : Heap} {K : Value → Heap → Prop}
theorem msgKeeps_t {x z : MsgA} (hx : MsgIn H x) (hz : MsgIn H z) (hw : x.ws.length ≤ 5864062014634) (hv : x.vs.length ≤ 2199023255488)
    (hk : ∀ H', Upd [] H H' → K (.bool true) H') : HCalls Try.prog 7 [x.val, z.val] H K := by
  refine hcalls (fn := Try.f7) [(41, [(0, 0), (1, 0), (2, 0), (3, 0), (4, 0), (5, 0), (6, 0), (7, 0), (8, 0), (9, 0)]), (46, [(0, 0), (1, 0), (2, 0), (3, 0), (4, 0), (5, 0), (6, 0), (7, 0), (8, 0), (9, 0)])] mixed Try.func7 rfl rfl (by decide +kernel) ?_
  (repeat first | refine HReg.step ?_ | refine HCode.step ?_)
  refine HNew.mk fun b1 hb1 => ?_
  have u1 : Upd [] H (H.upd b1 (.cells x.cells.toArray 29)) := Upd.new hb1 _
  have o1 : RowAt (H.upd b1 (.cells x.cells.toArray 29)) (some ⟨b1, 0, none⟩) x.cells := RowAt.of_cells (upd_same _ _ _)
  have hH1' : H.upd b1 (.cells [Value.int .i64 x.kind, .int .i64 x.client, .int .u64 (x.req : Int), .int .u64 (x.id : Int), .slice x.ap x.ps.length x.cp, .slice x.ak x.ks.length x.ck, .slice x.aw x.ws.length x.cw, .slice x.av x.vs.length x.cv].toArray 29) = H.upd b1 (.cells x.cells.toArray 29) := rfl
  rw [hH1']
  generalize hH1 : H.upd b1 (.cells x.cells.toArray 29) = H1 at u1 o1
  (repeat first | refine HReg.step ?_ | refine HCode.step ?_)
  refine HNew.mk fun b2 hb2 => ?_
  have u2 : Upd [] H1 (H1.upd b2 (.cells z.cells.toArray 29)) := Upd.new hb2 _
  have o2 : RowAt (H1.upd b2 (.cells z.cells.toArray 29)) (some ⟨b2, 0, none⟩) z.cells := RowAt.of_cells (upd_same _ _ _)
  have hH2' : H1.upd b2 (.cells [Value.int .i64 z.kind, .int .i64 z.client, .int .u64 (z.req : Int), .int .u64 (z.id : Int), .slice z.ap z.ps.length z.cp, .slice z.ak z.ks.length z.ck, .slice z.aw z.ws.length z.cw, .slice z.av z.vs.length z.cv].toArray 29) = H1.upd b2 (.cells z.cells.toArray 29) := rfl
  rw [hH2']
  have o1 := o1.upd (S := []) u2 (.inr (Off.nil _))
  have u2 := u1.trans u2
  generalize hH2 : H1.upd b2 (.cells z.cells.toArray 29) = H2 at u2 o2 o1
  (repeat first | refine HReg.step ?_ | refine HCode.step ?_)
  refine HLoadN_row o1 rfl ?_
  (repeat first | refine HReg.step ?_ | refine HCode.step ?_)
  refine HCall.mk ⟨Try.f19, Try.func19, by rfl, by rfl⟩ ?_
  refine lent_t (hx.upd0 u2) hw hv fun y H3 hym sp3 in3 u3 => ?_
  (repeat first | refine HReg.step ?_ | refine HCode.step ?_)
  refine HNew.mk fun b4 hb4 => ?_
  (repeat first | refine HReg.step ?_ | refine HCode.step ?_)
  refine store_msg (x := y) (OwnRow.lit (upd_same _ _ _) rfl) rfl fun H4 o4 u4 => ?_
  have u34 : Upd [] H3 H4 := Upd.drop (Upd.new hb4 _) u4 (fun q hq => by rw [List.mem_singleton.1 hq]; exact hb4)
  (repeat first | refine HReg.step ?_ | refine HCode.step ?_)
  refine HCall.mk ⟨Try.f12, Try.func12, by rfl, by rfl⟩ ?_
  refine known_t fun H5 u5 => ?_
  have o4 := o4.rows.upd (S := []) u5 (.inr (Off.nil _))
  have u25 : Upd [] H2 H5 := (u3.trans u34).trans u5
  have o1 := o1.upd (S := []) u25 (.inr (Off.nil _))
  have o2 := o2.upd (S := []) u25 (.inr (Off.nil _))
  have sp := (sp3.upd0 u34).upd0 u5
  have iny := (in3.upd0 u34).upd0 u5
  have u05 := u2.trans u25
  have inx := hx.upd0 u05
  have inz := hz.upd0 u05
  clear u1 u2 u3 u4 u5 u25 u34 sp3 in3 hb1 hb2 hb4 hH1 hH2 hH1' hH2' hx hz
  have rb1 : ∀ {H'}, Upd [] H5 H' → RowAt H' (some ⟨b1, 0, none⟩) x.cells := fun u => o1.upd (S := []) u (.inr (Off.nil _))
  have rb2 : ∀ {H'}, Upd [] H5 H' → RowAt H' (some ⟨b2, 0, none⟩) z.cells := fun u => o2.upd (S := []) u (.inr (Off.nil _))
  have rb4 : ∀ {H'}, Upd [] H5 H' → RowAt H' (some ⟨b4, 0, none⟩) y.cells := fun u => o4.upd (S := []) u (.inr (Off.nil _))
  (repeat first | refine HReg.step ?_ | refine HCode.step ?_)
  refine hloopC [4, 6, 7, 8, 9, 10, 11, 12, 13, 14, 15, 16, 17, 18, 19, 20, 21, 22, 23, 24, 31, 32, 33, 34, 35, 36, 37, 38, 39, 40, 41, 42, 43, 44, 45, 46, 47, 48, 49, 50, 51, 52, 53, 54, 55, 56, 57, 58, 59, 60, 61, 62, 63, 64, 65, 66, 67, 68, 69, 70, 71, 72, 73, 74, 75, 76, 77, 78, 79, 80, 81, 82, 83, 84, 85, 86, 87, 88, 89, 90, 91, 92, 93, 94, 95, 96, 97, 98, 99, 100, 101, 102, 103, 104, 105, 106, 107, 108, 109, 110, 111, 112, 113, 114, 115, 116, 117, 118, 119, 120, 121, 122, 123, 124, 125, 126, 127, 128, 129, 130, 131, 132, 133, 134, 135, 136, 137, 138, 139, 140, 141, 142, 143, 144, 145, 146, 147, 148, 149, 150, 151, 152, 153, 154, 155, 156, 157, 158, 159, 160, 161, 162, 163, 164, 165, 166, 167, 168, 169, 170] [6, 7, 8, 9, 10] (TnInv H5) rfl (by repeat' first | exact Resp.retD | exact Resp1.valuesK | refine Resp.blockD ?_ | refine Resp.thenD ?_ ?_ | refine Resp.hcode ?_) ?_ ?_
  · refine ⟨2, TnInv.mk ⟨0, ⟨none, 0, 0, []⟩, ⟨none, 0, 0, []⟩, ⟨none, 0, 0, []⟩, ⟨none, 0, 0, []⟩, [], [], rfl, rfl, rfl, rfl, Nat.le_refl _, rfl, ⟨⟨Grv.nil 5 (Upd.refl _ _), Grv.nil 9 (Upd.refl _ _), ⟨Nat.le_refl _, fun i w h => by simp at h⟩, ⟨Nat.le_refl _, fun i w h => by simp at h⟩⟩, ⟨OwnRow.nil _ _ _, fun b hb => by simp [blk] at hb⟩, ⟨OwnRow.nil _ _ _, fun b hb => by simp [blk] at hb⟩, ⟨OwnRow.nil _ _ _, fun b hb => by simp [blk] at hb⟩, ⟨OwnRow.nil _ _ _, fun b hb => by simp [blk] at hb⟩, fun b hb => by simp [blk] at hb, fun b hb => by simp [blk] at hb, fun l hl => by simp at hl, fun l hl => by simp at hl⟩⟩⟩
  rintro m _ fe H6 ⟨r, k, w, t, u, lK, lT, rfl, hmr, hkn, hwn, htn, hun, s⟩
  have u6 := s.g.G.upd
  (repeat first | refine HReg.step ?_ | refine HCode.step ?_)
  refine hif (fun h1 => ?_) (fun h1 => ?_)
  · have h1 := ltB_true.1 h1
    have hr : r < 2 := by omega
    have wr1 : wr .i64 ((r : Int) + 1) = ((r + 1 : Nat) : Int) := by rw [wr_i64 (by omega) (by omega)]; omega
    (repeat first | refine HReg.step ?_ | refine HCode.step ?_)
    refine HLoadN_row (rb4 u6) rfl ?_
    (repeat first | refine HReg.step ?_ | refine HCode.step ?_)
    refine HCall.mk ⟨Try.f13, Try.func13, by rfl, by rfl⟩ ?_
    refine may_t (iny.upd0 u6) fun _ H7 _ u7 => ?_
    have v7 := u6.trans u7
    (repeat first | refine HReg.step ?_ | refine HCode.step ?_)
    refine HLoadN_row (rb4 v7) rfl ?_
    (repeat first | refine HReg.step ?_ | refine HCode.step ?_)
    refine HCall.mk ⟨Try.f10, Try.func10, by rfl, by rfl⟩ ?_
    refine size_t (iny.upd0 v7) fun H8 u8_ => ?_
    have v8 := v7.trans u8_
    (repeat first | refine HReg.step ?_ | refine HCode.step ?_)
    refine HLoadN_row (rb4 v8) rfl ?_
    (repeat first | refine HReg.step ?_ | refine HCode.step ?_)
    refine HCall.mk ⟨Try.f8, Try.func8, by rfl, by rfl⟩ ?_
    refine encode_t (iny.upd0 v8) fun aA cA H9 mA => ?_
    have v9 := v8.trans mA.upd
    (repeat first | refine HReg.step ?_ | refine HCode.step ?_)
    refine HLoadN_row (rb2 v9) rfl ?_
    (repeat first | refine HReg.step ?_ | refine HCode.step ?_)
    refine HCall.mk ⟨Try.f8, Try.func8, by rfl, by rfl⟩ ?_
    refine encode_t (inz.upd0 v9) fun aB cB H10 mB => ?_
    have v10 := v9.trans mB.upd
    have lA := encode_len y.m
    have lB := encode_len z.m
    have u610 : Upd [] H6 H9 := (u7.trans u8_).trans mA.upd
    obtain ⟨A, hA⟩ : ∃ A, A = (encodeM y.m).1 := ⟨_, rfl⟩
    obtain ⟨B, hB⟩ : ∃ B, B = (encodeM z.m).1 := ⟨_, rfl⟩
    rw [← hA] at mA lA ⊢
    rw [← hB] at mB lB ⊢
    have rA10 := mA.own.rows.upd (S := []) mB.upd (.inr (Off.nil _))
    (repeat first | refine HReg.step ?_ | refine HCode.step ?_)
    refine append_own (xs := []) (OwnRow.nil _ _ _) rA10 rfl (by omega) fun a11 c11 H11 o11 u11 f11 => ?_
    rw [List.nil_append, Nat.zero_add] at o11
    rw [Nat.zero_add A.length]
    have u11 : Upd [] H10 H11 := u11
    (repeat first | refine HReg.step ?_ | refine HCode.step ?_)
    refine HReq.mk (by decide) ?_
    (repeat first | refine HReg.step ?_ | refine HCode.step ?_)
    refine HNew.mk fun b12 hb12 => ?_
    have u12 : Upd [] H11 (H11.upd b12 (.cells [Value.int .u8 171].toArray 5)) := Upd.new hb12 _
    have r12 : RowAt (H11.upd b12 (.cells [Value.int .u8 171].toArray 5)) (some ⟨b12, 0, none⟩) (u8s [171]) := RowAt.of_cells (upd_same _ _ _)
    generalize hH12 : H11.upd b12 (.cells [Value.int .u8 171].toArray 5) = H12 at u12 r12
    (repeat first | refine HReg.step ?_ | refine HCode.step ?_)
    refine append_own (o11.upd u12 (Off.nil _)) r12 rfl (by omega) fun a13 c13 H13 o13 u13 f13 => ?_
    have n11 : ∀ b ∈ blk a11, H10 b = none := fun b hb => by
      obtain ⟨p, hp, rfl⟩ := blk_of hb
      rcases f11 p hp with h | h
      · cases h
      · exact h
    have u1013 : Upd [] H10 H13 := Upd.drop (u11.trans u12) u13 n11
    have n13 : ∀ b ∈ blk a13, H10 b = none := fun b hb => by
      obtain ⟨p, hp, rfl⟩ := blk_of hb
      rcases f13 p hp with h | h
      · exact n11 _ (by rw [h]; simp [blk])
      · exact Upd.none (S := []) (u11.trans u12) (by simp) h
    obtain ⟨gw, rfl⟩ := o13.addr (by omega)
    have hle13 := o13.le
    have v13 := v10.trans u1013
    have r13 : RowAt H13 (some ⟨gw, 0, none⟩) (u8s A) := by
      have := o13.rows.take A.length
      rw [← u8s_take, List.take_append_of_le_length (Nat.le_refl _), List.take_of_length_le (Nat.le_refl _)] at this
      exact this
    clear o11 u11 u12 u13 f11 f13 r12 hH12 hb12 n11
    (repeat first | refine HReg.step ?_ | refine HCode.step ?_)
    refine HReq.mk ⟨by omega, by omega⟩ ?_
    (repeat first | refine HReg.step ?_ | refine HCode.step ?_)
    refine HCall.mk ⟨Try.f16, Try.func16, by rfl, by rfl⟩ ?_
    refine decode_t (l := A) r13 rfl (by omega) (by omega) fun p H14 hp nP u14 => ?_
    (repeat first | refine HReg.step ?_ | refine HCode.step ?_)
    refine HNew.mk fun b15 hb15 => ?_
    (repeat first | refine HReg.step ?_ | refine HCode.step ?_)
    refine store_msg (x := p) (OwnRow.lit (upd_same _ _ _) rfl) rfl fun H15 o15 u15 => ?_
    have u1415 : Upd [] H14 H15 := Upd.drop (Upd.new hb15 _) u15 (fun q hq => by rw [List.mem_singleton.1 hq]; exact hb15)
    have v15 := (v13.trans u14).trans u1415
    (repeat first | refine HReg.step ?_ | refine HCode.step ?_)
    have rB15 := mB.own.rows.upd (S := []) ((u1013.trans u14).trans u1415) (.inr (Off.nil _))
    have hleB := mB.own.le
    refine HCall.mk ⟨Try.f16, Try.func16, by rfl, by rfl⟩ ?_
    refine decode_t (l := B) rB15 rfl hleB (by omega) fun q H16 hq nQ u16 => ?_
    (repeat first | refine HReg.step ?_ | refine HCode.step ?_)
    refine HNew.mk fun b17 hb17 => ?_
    (repeat first | refine HReg.step ?_ | refine HCode.step ?_)
    refine store_msg (x := q) (OwnRow.lit (upd_same _ _ _) rfl) rfl fun H17 o17 u17 => ?_
    have u1617 : Upd [] H16 H17 := Upd.drop (Upd.new hb17 _) u17 (fun q hq => by rw [List.mem_singleton.1 hq]; exact hb17)
    have v17 := (v15.trans u16).trans u1617
    have u1317 : Upd [] H13 H17 := ((u14.trans u1415).trans u16).trans u1617
    have u1017 := u1013.trans u1317
    (repeat first | refine HReg.step ?_ | refine HCode.step ?_)
    refine HReq.mk ⟨by omega, by omega⟩ ?_
    (repeat first | refine HReg.step ?_ | refine HCode.step ?_)
    refine HCall.mk ⟨Try.f15, Try.func15, by rfl, by rfl⟩ ?_
    refine same_eq (x := A) (y := A) (r13.upd (S := []) u1317 (.inr (Off.nil _))) rfl (rA10.upd (S := []) u1017 (.inr (Off.nil _))) rfl rfl ?_
    have o17w := o13.upd u1317 (Off.nil _)
    (repeat first | refine HReg.step ?_ | refine HCode.step ?_)
    refine HReq.mk ⟨by omega, by omega⟩ ?_
    (repeat first | refine HReg.step ?_ | refine HCode.step ?_)
    refine HLoad.one (v := u8 171) (by exact o17w.rows.get (u8s_get (l := A ++ [171]) (i := A.length) (by simp))) ?_
    (repeat first | refine HReg.step ?_ | refine HCode.step ?_)
    rw [show eqB ((171 : UInt8).toNat : Int) 171 = true from eqB_true.2 rfl]
    (repeat first | refine HReg.step ?_ | refine HCode.step ?_)
    refine HLoadN_row (rb4 v17) rfl ?_
    (repeat first | refine HReg.step ?_ | refine HCode.step ?_)
    refine HLoadN_row (rb1 v17) rfl ?_
    (repeat first | refine HReg.step ?_ | refine HCode.step ?_)
    refine HCall.mk ⟨Try.f17, Try.func17, by rfl, by rfl⟩ ?_
    refine same_t2 (iny.upd0 v17) (inx.upd0 v17) fun t18 H18 ht18 u18 => ?_
    have htt : t18 = true := ht18.2 hym
    subst htt
    have v18 := v17.trans u18
    (repeat first | refine HReg.step ?_ | refine HCode.step ?_)
    refine HLoadN_row (rb4 v18) rfl ?_
    (repeat first | refine HReg.step ?_ | refine HCode.step ?_)
    refine HCall.mk ⟨Try.f20, Try.func20, by rfl, by rfl⟩ ?_
    refine spared_t (sp.upd0 v18) (iny.upd0 v18) fun H19 u19 => ?_
    have v19 := v18.trans u19
    have o19w := (o17w.upd u18 (Off.nil _)).upd u19 (Off.nil _)
    (repeat first | refine HReg.step ?_ | refine HCode.step ?_)
    refine hloopC [20, 92, 93, 94, 95, 96, 97, 98, 99, 100] [20] (WiInv gw c13 (A.length + 1) H19) rfl (by repeat' first | exact Resp.retD | exact Resp1.valuesK | refine Resp.blockD ?_ | refine Resp.thenD ?_ ?_ | refine Resp.hcode ?_) ?_ ?_
    · exact ⟨A.length + 1, WiInv.mk ⟨0, _, rfl, rfl, o19w, Upd.refl _ _⟩⟩
    rintro m2 _ fe2 H20 ⟨i, xs, rfl, hmi, o20, u20⟩
    (repeat first | refine HReg.step ?_ | refine HCode.step ?_)
    refine hif (fun h2 => ?_) (fun h2 => ?_)
    · have h2 := ltB_true.1 h2
      have wi : wr .i64 ((i : Int) + 1) = ((i + 1 : Nat) : Int) := by rw [wr_i64 (by omega) (by omega)]; omega
      (repeat first | refine HReg.step ?_ | refine HCode.step ?_)
      refine HReq.mk ⟨by omega, by omega⟩ ?_
      (repeat first | refine HReg.step ?_ | refine HCode.step ?_)
      refine store_row o20 (v := .int .u8 7) rfl (i := i) (by omega) (by show 0 + i + 0 = i; omega) fun H21 o21 u21 => ?_
      (repeat first | refine HReg.step ?_ | refine HCode.step ?_)
      rw [wi]
      refine Exists.intro (m2 - 1) ?_
      refine And.intro (by omega) ?_
      exact WiInv.mk ⟨i + 1, _, rfl, by omega, o21, u20.trans u21⟩
    have h2 := ltB_false.1 h2
    have ngw : H10 gw = none := n13 gw (by simp [blk])
    have u1020 : Upd [] H10 H20 := Upd.drop ((u1017.trans u18).trans u19) u20 (fun q hq => by rw [List.mem_singleton.1 hq]; exact ngw)
    have u920 := mB.upd.trans u1020
    have u620 := u610.trans u920
    have n6A : ∀ b ∈ blk aA, H6 b = none := fun b hb => by
      obtain ⟨p, hp, rfl⟩ := blk_of hb
      exact Upd.none (S := []) (u7.trans u8_) (by simp) (mA.new p hp)
    have n9B : ∀ b ∈ blk aB, H9 b = none := fun b hb => by
      obtain ⟨p, hp, rfl⟩ := blk_of hb
      exact mB.new p hp
    have n6B : ∀ b ∈ blk aB, H6 b = none := fun b hb => Upd.none (S := []) u610 (by simp) (n9B b hb)
    have oA := mA.own.upd u920 (Off.nil _)
    have oB := mB.own.upd u1020 (Off.nil _)
    have lvA : ∀ b ∈ blk aA, H9 b ≠ none := live_ne mA.own
    have nP15 := (nP.upd0 u1415)
    have nP20 : MsgNew H13 H20 p := ((((nP15.upd0 u16).upd0 u1617).upd0 u18).upd0 u19).off o19w (by decide) u20
    have nQ20 : MsgNew H15 H20 q := (((nQ.upd0 u1617).upd0 u18).upd0 u19).off o19w (by decide) u20
    have rP := ((((o15.upd u16 (Off.nil _)).upd u1617 (Off.nil _)).upd u18 (Off.nil _)).upd u19 (Off.nil _))
    have rP := (rP.upd u20 (o19w.offT rP (by decide)))
    have rQ := ((o17.upd u18 (Off.nil _)).upd u19 (Off.nil _))
    have rQ := (rQ.upd u20 (o19w.offT rQ (by decide)))
    have u613 : Upd [] H6 H13 := (u610.trans mB.upd).trans u1013
    have u615 : Upd [] H6 H15 := (u613.trans u14).trans u1415
    have s20 := s.upd0 u620
    have v20 := u6.trans u620
    have apK : ∀ {a : Option Addr}, (∀ b ∈ blk a, H6 b = none) → ∀ v ∈ k.V, ∀ b ∈ vblk v, b ∉ blk a := fun h v hv b hb hb' => vlive_ne s.g.G hv hb (h b hb')
    have apT : ∀ {a : Option Addr}, (∀ b ∈ blk a, H6 b = none) → ∀ v ∈ t.V, ∀ b ∈ vblk v, b ∉ blk a := fun h v hv b hb hb' => vlive_ne s.g.G' hv hb (h b hb')
    have n65 : ∀ {b}, H6 b = none → H5 b = none := fun h => Upd.none (S := []) u6 (by simp) h
    have n136 : ∀ {b}, H13 b = none → H6 b = none := fun h => Upd.none (S := []) u613 (by simp) h
    have n156 : ∀ {b}, H15 b = none → H6 b = none := fun h => Upd.none (S := []) u615 (by simp) h
    have gK : Grv 5 H5 H20 (k.V ++ [.slice aA A.length cA] ++ [.slice aB B.length cB]) (lK ++ [u8s A] ++ [u8s B]) := by
      refine (s20.g.G.put oA (fun b hb => n65 (n6A b hb)) (apK n6A)).put oB (fun b hb => n65 (n6B b hb)) fun v hv b hb => ?_
      rcases List.mem_append.1 hv with hv | hv
      · exact apK n6B v hv b hb
      · rw [List.mem_singleton.1 hv, vblk_slice] at hb
        exact fun hb' => lvA b hb (n9B b hb')
    have gT : Grv 9 H5 H20 (t.V ++ [.slice p.ak p.ks.length p.ck] ++ [.slice q.ak q.ks.length q.ck] ++ p.vs.map vsl ++ q.vs.map vsl) (lT ++ [txts p.ks] ++ [txts q.ks] ++ (p.vs.map fun v => txts v.v.ks) ++ (q.vs.map fun v => txts v.v.ks)) := by
      have g1 := s20.g.G'.put nP20.k (fun b hb => n65 (n136 (nP20.kn b hb))) (apT fun b hb => n136 (nP20.kn b hb))
      have g2 := g1.put nQ20.k (fun b hb => n65 (n156 (nQ20.kn b hb))) (fun v hv b hb => by
        rcases List.mem_append.1 hv with hv | hv
        · exact apT (fun b hb => n156 (nQ20.kn b hb)) v hv b hb
        · rw [List.mem_singleton.1 hv, vblk_slice] at hb
          exact fun hb' => live_ne nP15.k b hb (nQ20.kn b hb'))
      have g3 := g2.putV nP20.nv nP20.vk (fun v hv b hb => n65 (n136 (nP20.vkn v hv b hb))) (fun x hx v hv b hb => by
        rcases List.mem_append.1 hv with hv | hv
        · rcases List.mem_append.1 hv with hv | hv
          · exact apT (fun b hb => n136 (nP20.vkn x hx b hb)) v hv b hb
          · rw [List.mem_singleton.1 hv, vblk_slice, nP20.one (List.ne_nil_of_mem hx)] at hb
            simp [blk] at hb
        · rw [List.mem_singleton.1 hv, vblk_slice] at hb
          exact fun hb' => live_ne (nP15.vk x hx) b hb' (nQ20.kn b hb))
      refine g3.putV nQ20.nv nQ20.vk (fun v hv b hb => n65 (n156 (nQ20.vkn v hv b hb))) (fun x hx v hv b hb => ?_)
      have hn : ∀ b ∈ blk x.a, H15 b = none := nQ20.vkn x hx
      rcases List.mem_append.1 hv with hv | hv
      · rcases List.mem_append.1 hv with hv | hv
        · rcases List.mem_append.1 hv with hv | hv
          · exact apT (fun b hb => n156 (hn b hb)) v hv b hb
          · rw [List.mem_singleton.1 hv, vblk_slice] at hb
            exact fun hb' => live_ne nP15.k b hb (hn b hb')
        · rw [List.mem_singleton.1 hv, vblk_slice, nQ20.one (List.ne_nil_of_mem hx)] at hb
          simp [blk] at hb
      · obtain ⟨y2, hy2, rfl⟩ := List.mem_map.1 hv
        have hb : b ∈ vblk (.slice y2.a y2.v.ks.length y2.c) := hb
        rw [vblk_slice] at hb
        exact fun hb' => live_ne (nP15.vk y2 hy2) b hb (hn b hb')
    obtain ⟨sA, hsA⟩ : ∃ v, v = Value.slice aA A.length cA := ⟨_, rfl⟩
    obtain ⟨sB, hsB⟩ : ∃ v, v = Value.slice aB B.length cB := ⟨_, rfl⟩
    have plA : ∀ v ∈ [sA, sB], Value.plain v = true := fun v hv => by
      rcases List.mem_cons.1 hv with h | h
      · rw [h, hsA]; rfl
      · rw [List.mem_singleton.1 h, hsB]; rfl
    rw [← hsA, ← hsB] at gK
    obtain ⟨LV, hLV⟩ : ∃ LV, LV = [Value.slice p.ak p.ks.length p.ck, Value.slice q.ak q.ks.length q.ck] ++ p.vs.map vsl ++ q.vs.map vsl := ⟨_, rfl⟩
    obtain ⟨LL, hLL⟩ : ∃ LL, LL = [txts p.ks, txts q.ks] ++ (p.vs.map fun v => txts v.v.ks) ++ (q.vs.map fun v => txts v.v.ks) := ⟨_, rfl⟩
    have gT : Grv 9 H5 H20 (t.V ++ LV) (lT ++ LL) := by rw [hLV, hLL]; simpa [List.append_assoc] using gT
    have hnP := nP20.nv
    have hnQ := nQ20.nv
    have hLn : LV.length = 2 + p.vs.length + q.vs.length := by rw [hLV]; simp; omega
    have hLLt : ∀ l ∈ lT ++ LL, ∃ ts : List Txt, l = txts ts ∧ ts.length ≤ 4294967296 := fun l hl => by
      rcases List.mem_append.1 hl with hl | hl
      · exact s.tl l hl
      · rw [hLL] at hl
        rcases List.mem_append.1 hl with hl | hl
        · rcases List.mem_append.1 hl with hl | hl
          · rcases List.mem_cons.1 hl with rfl | hl
            · exact ⟨_, rfl, nP20.nk⟩
            · rw [List.mem_singleton.1 hl]; exact ⟨_, rfl, nQ20.nk⟩
          · obtain ⟨v, hv, rfl⟩ := List.mem_map.1 hl
            exact ⟨_, rfl, nP20.nvk v hv⟩
        · obtain ⟨v, hv, rfl⟩ := List.mem_map.1 hl
          exact ⟨_, rfl, nQ20.nvk v hv⟩
    have g20 : KG H5 (k.V ++ [sA] ++ [sB]) (lK ++ [u8s A] ++ [u8s B]) (t.V ++ LV) (lT ++ LL) w.V u.V H20 := ⟨gK, gT, s20.g.cw.more.more, s20.g.cu.more⟩
    have rk20 := s20.rk
    have rw20 := s20.rw
    have rt20 := s20.rt
    have ru20 := s20.ru
    clear u17 u18 u19 u20 o19w o17w nP nQ nP15 o13 r13 rA10 rB15 mA mB hk gK
    (repeat first | refine HReg.step ?_ | refine HCode.step ?_)
    refine HReq.mk (by decide) ?_
    (repeat first | refine HReg.step ?_ | refine HCode.step ?_)
    refine HNew.mk fun b21 hb21 => ?_
    rw [← hsA, ← hsB]
    have u21 : Upd [] H20 (H20.upd b21 (.cells [sA, sB].toArray 30)) := Upd.new hb21 _
    have r21 : RowAt (H20.upd b21 (.cells [sA, sB].toArray 30)) (some ⟨b21, 0, none⟩) [sA, sB] := RowAt.of_cells (upd_same _ _ _)
    generalize hH21 : H20.upd b21 (.cells [sA, sB].toArray 30) = H21 at u21 r21
    (repeat first | refine HReg.step ?_ | refine HCode.step ?_)
    refine app30 (rk20.upd0 u21) (v20.trans u21) r21 rfl plA (by omega) fun a22 c22 H22 rk22 u22 f22 => ?_
    have sd20 : Side A B aA cA aB cB p q b15 b17 H20 := ⟨oA, oB, rP, rQ, nP20.v, nQ20.v⟩
    have sd21 := sd20.upd0 u21
    have rk21 := rk20.upd0 u21
    have rw21 := rw20.upd0 u21
    have sd22 := sd21.row rk21.own u22 (by decide) (by decide) (by decide)
    have g22 := (g20.upd0 u21).row rk21 u22 (by decide) (by decide)
    have rw22 := rw21.off u22 (fun b hb hb' => s.dw b hb' hb)
    have rt22 := (rt20.upd0 u21).offR rk21.own u22 (by decide)
    have ru22 := (ru20.upd0 u21).offR rk21.own u22 (by decide)
    have v22 := g22.G.upd
    have dw22 : ∀ b ∈ blk a22, b ∉ blk w.a := fun b hb hb' => by
      rcases f22 b hb with h | h
      · exact s.dw b h hb'
      · exact live_ne rw21.own b hb' h
    have rk22 : NewR H5 H22 30 1 a22 (k.n + 2) c22 (k.V ++ [sA] ++ [sB]) := by rw [List.append_assoc]; exact rk22
    clear sd20 sd21 rk20 rk21 rw20 rw21 rt20 ru20 g20 s20 u22 f22 r21 u21 hH21 hb21 oA oB rP rQ
    rw [hsA, hsB]
    (repeat first | refine HReg.step ?_ | refine HCode.step ?_)
    refine append_own (xs := []) (OwnRow.nil _ _ _) sd22.oA.rows rfl (by omega) fun a23 c23 H23 o23 u23 f23 => ?_
    rw [List.nil_append, Nat.zero_add] at o23
    rw [Nat.zero_add A.length]
    have u23 : Upd [] H22 H23 := u23
    (repeat first | refine HReg.step ?_ | refine HCode.step ?_)
    refine append_own (xs := []) (OwnRow.nil _ _ _) (sd22.upd0 u23).oB.rows rfl (by omega) fun a24 c24 H24 o24 u24 f24 => ?_
    rw [List.nil_append, Nat.zero_add] at o24
    rw [Nat.zero_add B.length]
    have u24 : Upd [] H23 H24 := u24
    obtain ⟨tA, htA⟩ : ∃ v, v = Value.slice a23 A.length c23 := ⟨_, rfl⟩
    obtain ⟨tB, htB⟩ : ∃ v, v = Value.slice a24 B.length c24 := ⟨_, rfl⟩
    have plB : ∀ v ∈ [tA, tB], Value.plain v = true := fun v hv => by
      rcases List.mem_cons.1 hv with h | h
      · rw [h, htA]; rfl
      · rw [List.mem_singleton.1 h, htB]; rfl
    (repeat first | refine HReg.step ?_ | refine HCode.step ?_)
    refine HReq.mk (by decide) ?_
    (repeat first | refine HReg.step ?_ | refine HCode.step ?_)
    refine HNew.mk fun b25 hb25 => ?_
    rw [← htA, ← htB]
    have u25 : Upd [] H24 (H24.upd b25 (.cells [tA, tB].toArray 30)) := Upd.new hb25 _
    have r25 : RowAt (H24.upd b25 (.cells [tA, tB].toArray 30)) (some ⟨b25, 0, none⟩) [tA, tB] := RowAt.of_cells (upd_same _ _ _)
    generalize hH25 : H24.upd b25 (.cells [tA, tB].toArray 30) = H25 at u25 r25
    have u2225 : Upd [] H22 H25 := (u23.trans u24).trans u25
    have g25 := g22.upd0 u2225
    have o23 := (o23.upd u24 (Off.nil _)).upd u25 (Off.nil _)
    have o24 := o24.upd u25 (Off.nil _)
    have hwl : w.V.length = w.n := by have := s.rw.own.len; omega
    have hkl : lK.length = k.n := by have h1 := s.g.G.len; have := s.rk.own.len; omega
    have g25 : KG H5 (k.V ++ [sA] ++ [sB]) (lK ++ [u8s A] ++ [u8s B]) (t.V ++ LV) (lT ++ LL) (w.V ++ [tA] ++ [tB]) u.V H25 := by
      refine ⟨g25.G, g25.G', ?_, g25.cu⟩
      have c1 := g25.cw.put (l := u8s A) (by rw [List.getElem?_append_left (by simp; omega), List.getElem?_append_right (by omega)]; simp [hwl, hkl, hwn, hkn]) o23
      have c2 := c1.put (l := u8s B) (by rw [List.length_append, List.getElem?_append_right (by simp; omega)]; simp [hwl, hkl, hwn, hkn]) o24
      rw [htA, htB]; exact c2
    (repeat first | refine HReg.step ?_ | refine HCode.step ?_)
    refine app30 (rw22.upd0 u2225) (v22.trans u2225) r25 rfl plB (by omega) fun a26 c26 H26 rw26 u26 f26 => ?_
    have rw25 := rw22.upd0 u2225
    have rk25 := rk22.upd0 u2225
    have g26 := g25.row rw25 u26 (by decide) (by decide)
    have sd26 := (sd22.upd0 u2225).row rw25.own u26 (by decide) (by decide) (by decide)
    have rt26 := (rt22.upd0 u2225).offR rw25.own u26 (by decide)
    have ru26 := (ru22.upd0 u2225).offR rw25.own u26 (by decide)
    have rk26 := rk25.off u26 dw22
    have dw26 : ∀ b ∈ blk a22, b ∉ blk a26 := fun b hb hb' => by
      rcases f26 b hb' with h | h
      · exact dw22 b hb h
      · exact live_ne rk25.own b hb h
    have rw26 : NewR H5 H26 30 1 a26 (w.n + 2) c26 (w.V ++ [tA] ++ [tB]) := by rw [List.append_assoc]; exact rw26
    clear sd22 rk22 rk25 rw22 rw25 rt22 ru22 g22 g25 u26 f26 r25 u25 hH25 hb25 o23 o24 u23 u24 f23 f24 u2225 dw22
    (repeat first | refine HReg.step ?_ | refine HCode.step ?_)
    refine HLoad.one (v := .slice p.ak p.ks.length p.ck) (by exact sd26.oP.rows.get (i := 5) rfl) ?_
    (repeat first | refine HReg.step ?_ | refine HCode.step ?_)
    refine HLoad.one (v := .slice q.ak q.ks.length q.ck) (by exact sd26.oQ.rows.get (i := 5) rfl) ?_
    (repeat first | refine HReg.step ?_ | refine HCode.step ?_)
    refine HReq.mk (by decide) ?_
    (repeat first | refine HReg.step ?_ | refine HCode.step ?_)
    refine HNew.mk fun b27 hb27 => ?_
    have m27 : Made H26 (H26.upd b27 (.cells [Value.slice p.ak p.ks.length p.ck, Value.slice q.ak q.ks.length q.ck].toArray 25)) 25 1 (some ⟨b27, 0, none⟩) 2 2 [Value.slice p.ak p.ks.length p.ck, Value.slice q.ak q.ks.length q.ck] := ⟨OwnRow.lit (upd_same _ _ _) rfl, Upd.new hb27 _, fun x hx => by cases hx; exact hb27⟩
    generalize hH27 : H26.upd b27 (.cells [Value.slice p.ak p.ks.length p.ck, Value.slice q.ak q.ks.length q.ck].toArray 25) = H27 at m27
    have nvP := nP20.nv
    (repeat first | refine HReg.step ?_ | refine HCode.step ?_)
    refine hloopC [21, 22, 118, 119, 120, 121, 122, 123, 124, 125, 126, 127, 128, 129, 130, 131, 132, 133] [21, 22] (P4Inv H26 (2) ([Value.slice p.ak p.ks.length p.ck, Value.slice q.ak q.ks.length q.ck]) p.vs) rfl (by repeat' first | exact Resp.retD | exact Resp1.valuesK | refine Resp.blockD ?_ | refine Resp.thenD ?_ ?_ | refine Resp.hcode ?_) ?_ ?_
    · exact ⟨p.vs.length, P4Inv.mk ⟨0, _, _, rfl, rfl, by simpa using m27⟩⟩
    rintro m2 _ fe2 H28 ⟨i2, a2, c2, rfl, hmi2, mL2⟩
    have u262 := mL2.upd
    have rb2 := (sd26.upd0 u262)
    (repeat first | refine HReg.step ?_ | refine HCode.step ?_)
    refine HLoad.one (v := .slice p.av p.vs.length p.cv) (by exact rb2.oP.rows.get (i := 7) rfl) ?_
    (repeat first | refine HReg.step ?_ | refine HCode.step ?_)
    refine hif (fun h2 => ?_) (fun h2 => ?_)
    · have h2 := ltB_true.1 h2
      have wi2 : wr .i64 ((i2 : Int) + 1) = ((i2 + 1 : Nat) : Int) := by rw [wr_i64 (by omega) (by omega)]; omega
      obtain ⟨y2, hy2⟩ := get_len (l := p.vs) rfl (by omega : i2 < p.vs.length)
      have rv2 := rb2.vP.rows
      obtain ⟨bv2, ov2, hav2, _⟩ := rv2 _ _ (versV_get hy2 3 _ rfl)
      rw [hav2] at rv2
      (repeat first | refine HReg.step ?_ | refine HCode.step ?_)
      refine HLoad.one (v := .slice p.av p.vs.length p.cv) (by exact rb2.oP.rows.get (i := 7) rfl) ?_
      rw [hav2]
      (repeat first | refine HReg.step ?_ | refine HCode.step ?_)
      refine HReq.mk ⟨by omega, by omega⟩ ?_
      (repeat first | refine HReg.step ?_ | refine HCode.step ?_)
      refine HLoad.one (v := .slice y2.a y2.v.ks.length y2.c) (by rw [Nat.add_assoc]; exact rv2.get (versV_get hy2 3 _ rfl)) ?_
      (repeat first | refine HReg.step ?_ | refine HCode.step ?_)
      refine HReq.mk (by decide) ?_
      (repeat first | refine HReg.step ?_ | refine HCode.step ?_)
      refine HNew.mk fun bn2 hbn2 => ?_
      have un2 : Upd [] H28 (H28.upd bn2 (.cells [Value.slice y2.a y2.v.ks.length y2.c].toArray 25)) := Upd.new hbn2 _
      have rn2 : RowAt (H28.upd bn2 (.cells [Value.slice y2.a y2.v.ks.length y2.c].toArray 25)) (some ⟨bn2, 0, none⟩) [vsl y2] := RowAt.of_cells (upd_same _ _ _)
      generalize hHn2 : H28.upd bn2 (.cells [Value.slice y2.a y2.v.ks.length y2.c].toArray 25) = Hn2 at un2 rn2
      (repeat first | refine HReg.step ?_ | refine HCode.step ?_)
      refine app25M (mL2.step un2) rn2 rfl (fun v hv => by rw [List.mem_singleton.1 hv]; rfl) (by omega) fun aN2 cN2 HN2 mN2 => ?_
      (repeat first | refine HReg.step ?_ | refine HCode.step ?_)
      rw [wi2]
      refine Exists.intro (m2 - 1) ?_
      refine And.intro (by omega) ?_
      refine P4Inv.mk ⟨i2 + 1, aN2, cN2, rfl, by omega, ?_⟩
      have e : ([Value.slice p.ak p.ks.length p.ck, Value.slice q.ak q.ks.length q.ck]) ++ (p.vs.take (i2 + 1)).map vsl = ([Value.slice p.ak p.ks.length p.ck, Value.slice q.ak q.ks.length q.ck]) ++ (p.vs.take i2).map vsl ++ [vsl y2] := by rw [List.take_add_one, hy2, List.map_append, ← List.append_assoc]; rfl
      rw [e]; exact mN2
    have h2 := ltB_false.1 h2
    have hi2 : i2 = p.vs.length := by omega
    subst hi2
    rw [List.take_length] at mL2
    have nvQ := nQ20.nv
    (repeat first | refine HReg.step ?_ | refine HCode.step ?_)
    refine hloopC [21, 23, 134, 135, 136, 137, 138, 139, 140, 141, 142, 143, 144, 145, 146, 147, 148, 149] [21, 23] (P4Inv H26 (2 + p.vs.length) ([Value.slice p.ak p.ks.length p.ck, Value.slice q.ak q.ks.length q.ck] ++ p.vs.map vsl) q.vs) rfl (by repeat' first | exact Resp.retD | exact Resp1.valuesK | refine Resp.blockD ?_ | refine Resp.thenD ?_ ?_ | refine Resp.hcode ?_) ?_ ?_
    · exact ⟨q.vs.length, P4Inv.mk ⟨0, _, _, rfl, rfl, by simpa using mL2⟩⟩
    rintro m3 _ fe3 H29 ⟨i3, a3, c3, rfl, hmi3, mL3⟩
    have u263 := mL3.upd
    have rb3 := (sd26.upd0 u263)
    (repeat first | refine HReg.step ?_ | refine HCode.step ?_)
    refine HLoad.one (v := .slice q.av q.vs.length q.cv) (by exact rb3.oQ.rows.get (i := 7) rfl) ?_
    (repeat first | refine HReg.step ?_ | refine HCode.step ?_)
    refine hif (fun h3 => ?_) (fun h3 => ?_)
    · have h3 := ltB_true.1 h3
      have wi3 : wr .i64 ((i3 : Int) + 1) = ((i3 + 1 : Nat) : Int) := by rw [wr_i64 (by omega) (by omega)]; omega
      obtain ⟨y3, hy3⟩ := get_len (l := q.vs) rfl (by omega : i3 < q.vs.length)
      have rv3 := rb3.vQ.rows
      obtain ⟨bv3, ov3, hav3, _⟩ := rv3 _ _ (versV_get hy3 3 _ rfl)
      rw [hav3] at rv3
      (repeat first | refine HReg.step ?_ | refine HCode.step ?_)
      refine HLoad.one (v := .slice q.av q.vs.length q.cv) (by exact rb3.oQ.rows.get (i := 7) rfl) ?_
      rw [hav3]
      (repeat first | refine HReg.step ?_ | refine HCode.step ?_)
      refine HReq.mk ⟨by omega, by omega⟩ ?_
      (repeat first | refine HReg.step ?_ | refine HCode.step ?_)
      refine HLoad.one (v := .slice y3.a y3.v.ks.length y3.c) (by rw [Nat.add_assoc]; exact rv3.get (versV_get hy3 3 _ rfl)) ?_
      (repeat first | refine HReg.step ?_ | refine HCode.step ?_)
      refine HReq.mk (by decide) ?_
      (repeat first | refine HReg.step ?_ | refine HCode.step ?_)
      refine HNew.mk fun bn3 hbn3 => ?_
      have un3 : Upd [] H29 (H29.upd bn3 (.cells [Value.slice y3.a y3.v.ks.length y3.c].toArray 25)) := Upd.new hbn3 _
      have rn3 : RowAt (H29.upd bn3 (.cells [Value.slice y3.a y3.v.ks.length y3.c].toArray 25)) (some ⟨bn3, 0, none⟩) [vsl y3] := RowAt.of_cells (upd_same _ _ _)
      generalize hHn3 : H29.upd bn3 (.cells [Value.slice y3.a y3.v.ks.length y3.c].toArray 25) = Hn3 at un3 rn3
      (repeat first | refine HReg.step ?_ | refine HCode.step ?_)
      refine app25M (mL3.step un3) rn3 rfl (fun v hv => by rw [List.mem_singleton.1 hv]; rfl) (by omega) fun aN3 cN3 HN3 mN3 => ?_
      (repeat first | refine HReg.step ?_ | refine HCode.step ?_)
      rw [wi3]
      refine Exists.intro (m3 - 1) ?_
      refine And.intro (by omega) ?_
      refine P4Inv.mk ⟨i3 + 1, aN3, cN3, rfl, by omega, ?_⟩
      have e : ([Value.slice p.ak p.ks.length p.ck, Value.slice q.ak q.ks.length q.ck] ++ p.vs.map vsl) ++ (q.vs.take (i3 + 1)).map vsl = ([Value.slice p.ak p.ks.length p.ck, Value.slice q.ak q.ks.length q.ck] ++ p.vs.map vsl) ++ (q.vs.take i3).map vsl ++ [vsl y3] := by rw [List.take_add_one, hy3, List.map_append, ← List.append_assoc]; rfl
      rw [e]; exact mN3
    have h3 := ltB_false.1 h3
    have hi3 : i3 = q.vs.length := by omega
    subst hi3
    rw [List.take_length] at mL3
    rw [← hLV, ← hLn] at mL3
    rw [← hLn]
    have v26 := g26.G.upd
    have lr3 : NewR H5 H29 25 1 a3 LV.length c3 LV := ⟨mL3.own, fun b hb => by
      obtain ⟨x, hx, rfl⟩ := blk_of hb
      exact Upd.none (S := []) v26 (by simp) (mL3.new x hx)⟩
    have dl3 : ∀ b ∈ blk a3, b ∉ blk t.a ∧ b ∉ blk u.a := fun b hb => by
      obtain ⟨x, hx, rfl⟩ := blk_of hb
      exact ⟨fun h => live_ne rt26.own _ h (mL3.new x hx), fun h => live_ne ru26.own _ h (mL3.new x hx)⟩
    have htl : t.V.length = t.n := by have := s.rt.own.len; omega
    (repeat first | refine HReg.step ?_ | refine HCode.step ?_)
    refine hloopC [8, 9, 24, 150, 151, 152, 153, 154, 155, 156, 157, 158, 159, 160, 161, 162, 163, 164, 165, 166, 167, 168, 169, 170] [8, 9, 24] (P8Inv H5 H26 ⟨a22, k.n + 2, c22, k.V ++ [sA] ++ [sB]⟩ ⟨a26, w.n + 2, c26, w.V ++ [tA] ++ [tB]⟩ (lK ++ [u8s A] ++ [u8s B]) t.V t.n LV lT LL a3 c3) rfl (by repeat' first | exact Resp.retD | exact Resp1.valuesK | refine Resp.blockD ?_ | refine Resp.thenD ?_ ?_ | refine Resp.hcode ?_) ?_ ?_
    · exact ⟨LV.length, P8Inv.mk ⟨0, t, u, rfl, rfl, rfl, hun, by simp, g26.upd0 u263, rk26.upd0 u263, rw26.upd0 u263, rt26.upd0 u263, ru26.upd0 u263, s.du, lr3, dl3⟩⟩
    clear rt26 ru26 g26 rk26 rw26 lr3 dl3 mL3 sd26
    rintro m4 _ fe4 H31 ⟨i4, t4, u4, rfl, hmi4, htn4, hun4, htV4, g31, rk31, rw31, rt31, ru31, du31, lr31, dl31⟩
    (repeat first | refine HReg.step ?_ | refine HCode.step ?_)
    refine hif (fun h4 => ?_) (fun h4 => ?_)
    · have h4 := ltB_true.1 h4
      have wi4 : wr .i64 ((i4 : Int) + 1) = ((i4 + 1 : Nat) : Int) := by rw [wr_i64 (by omega) (by omega)]; omega
      obtain ⟨vv, hvv⟩ := get_len (l := LV) rfl (by omega : i4 < LV.length)
      have hvg : (t.V ++ LV)[t.n + i4]? = some vv := by rw [List.getElem?_append_right (by omega), htl, Nat.add_sub_cancel_left]; exact hvv
      have v31 := g31.G.upd
      obtain ⟨l0, _, a0, c0, rfl, _⟩ := g31.G'.val hvg
      obtain ⟨ga, rfl⟩ := lr31.own.addr (by omega)
      (repeat first | refine HReg.step ?_ | refine HCode.step ?_)
      refine HReq.mk ⟨by omega, by omega⟩ ?_
      (repeat first | refine HReg.step ?_ | refine HCode.step ?_)
      refine HLoad.one (v := .slice a0 l0.length c0) (by exact lr31.own.rows.get hvv) ?_
      (repeat first | refine HReg.step ?_ | refine HCode.step ?_)
      refine HReq.mk (by decide) ?_
      (repeat first | refine HReg.step ?_ | refine HCode.step ?_)
      refine HNew.mk fun b32 hb32 => ?_
      have u32 : Upd [] H31 (H31.upd b32 (.cells [Value.slice a0 l0.length c0].toArray 25)) := Upd.new hb32 _
      have r32 : RowAt (H31.upd b32 (.cells [Value.slice a0 l0.length c0].toArray 25)) (some ⟨b32, 0, none⟩) [Value.slice a0 l0.length c0] := RowAt.of_cells (upd_same _ _ _)
      generalize hH32 : H31.upd b32 (.cells [Value.slice a0 l0.length c0].toArray 25) = H32 at u32 r32
      have rt32 := rt31.upd0 u32
      (repeat first | refine HReg.step ?_ | refine HCode.step ?_)
      refine app25 rt32 (v31.trans u32) r32 rfl (fun v hv => by rw [List.mem_singleton.1 hv]; rfl) (by omega) fun a33 c33 H33 rt33 u33 f33 => ?_
      have g33 := (g31.upd0 u32).row rt32 u33 (by decide) (by decide)
      have rk33 := (rk31.upd0 u32).offR rt32.own u33 (by decide)
      have rw33 := (rw31.upd0 u32).offR rt32.own u33 (by decide)
      have ru32 := ru31.upd0 u32
      have lr32 := lr31.upd0 u32
      have ru33 := ru32.off u33 (fun b hb hb' => du31 b hb' hb)
      have lr33 := lr32.off u33 (fun b hb hb' => (dl31 b hb).1 hb')
      have du33 : ∀ b ∈ blk a33, b ∉ blk u4.a := fun b hb hb' => by
        rcases f33 b hb with h | h
        · exact du31 b h hb'
        · exact live_ne ru32.own b hb' h
      have dl33 : ∀ b ∈ [ga], b ∉ blk a33 ∧ b ∉ blk u4.a := fun b hb => by
        refine ⟨fun hb' => ?_, (dl31 b hb).2⟩
        rcases f33 b hb' with h | h
        · exact (dl31 b hb).1 h
        · exact live_ne lr32.own b hb h
      have v33 := g33.G.upd
      clear rt31 rt32 g31 rk31 rw31 ru31 ru32 lr31 lr32 u33 f33 r32 u32 hH32 hb32 du31 dl31
      obtain ⟨l, hl, a, c, e33, o33⟩ := g33.G'.val hvg
      obtain ⟨ts, rfl, hts⟩ := hLLt l (List.mem_of_getElem? hl)
      rw [txts_length] at e33 o33
      (repeat first | refine HReg.step ?_ | refine HCode.step ?_)
      refine HReq.mk ⟨by omega, by omega⟩ ?_
      (repeat first | refine HReg.step ?_ | refine HCode.step ?_)
      refine HLoad.one (v := .slice a0 l0.length c0) (by exact lr33.own.rows.get hvv) ?_
      rw [e33]
      (repeat first | refine HReg.step ?_ | refine HCode.step ?_)
      refine app_textsZ (xs := []) (made_nil _ 9 1) o33.rows rfl (by omega) fun a34 c34 H34 m34 => ?_
      rw [List.nil_append, Nat.zero_add] at m34
      rw [Nat.zero_add ts.length]
      (repeat first | refine HReg.step ?_ | refine HCode.step ?_)
      refine HReq.mk (by decide) ?_
      (repeat first | refine HReg.step ?_ | refine HCode.step ?_)
      refine HNew.mk fun b35 hb35 => ?_
      have u35 : Upd [] H34 (H34.upd b35 (.cells [Value.slice a34 ts.length c34].toArray 25)) := Upd.new hb35 _
      have r35 : RowAt (H34.upd b35 (.cells [Value.slice a34 ts.length c34].toArray 25)) (some ⟨b35, 0, none⟩) [Value.slice a34 ts.length c34] := RowAt.of_cells (upd_same _ _ _)
      generalize hH35 : H34.upd b35 (.cells [Value.slice a34 ts.length c34].toArray 25) = H35 at u35 r35
      have u3335 := m34.upd.trans u35
      have ru35 := ru33.upd0 u3335
      have lr35 := lr33.upd0 u3335
      have rt35 := rt33.upd0 u3335
      have hul : u4.V.length = u4.n := by have := ru35.own.len; omega
      have g35 := g33.upd0 u3335
      have g35 : KG H5 (k.V ++ [sA] ++ [sB]) (lK ++ [u8s A] ++ [u8s B]) (t.V ++ LV) (lT ++ LL) (w.V ++ [tA] ++ [tB]) (u4.V ++ [.slice a34 ts.length c34]) H35 :=
        ⟨g35.G, g35.G', g35.cw, g35.cu.put (l := txts ts) (by rw [hul, hun4, htn4]; exact hl) (m34.own.upd u35 (Off.nil _))⟩
      (repeat first | refine HReg.step ?_ | refine HCode.step ?_)
      refine app25 ru35 (v33.trans u3335) r35 rfl (fun v hv => by rw [List.mem_singleton.1 hv]; rfl) (by omega) fun a36 c36 H36 ru36 u36 f36 => ?_
      (repeat first | refine HReg.step ?_ | refine HCode.step ?_)
      rw [wi4]
      refine Exists.intro (m4 - 1) ?_
      refine And.intro (by omega) ?_
      refine P8Inv.mk ⟨i4 + 1, ⟨a33, t4.n + 1, c33, t4.V ++ [.slice a0 l0.length c0]⟩, ⟨a36, u4.n + 1, c36, _⟩, rfl, by omega, by show t4.n + 1 = _; omega, by show u4.n + 1 = t4.n + 1; omega, ?_, g35.row ru35 u36 (by decide) (by decide), (rk33.upd0 u3335).offR ru35.own u36 (by decide), (rw33.upd0 u3335).offR ru35.own u36 (by decide), rt35.off u36 du33, ru36, fun b hb hb' => ?_, lr35.off u36 (fun b hb => (dl33 b hb).2), fun b hb => ⟨(dl33 b hb).1, fun hb' => ?_⟩⟩
      · show t4.V ++ [.slice a0 l0.length c0] = _
        rw [htV4, List.take_add_one, hvv, ← List.append_assoc]; rfl
      · rcases f36 b hb' with h | h
        · exact du33 b hb h
        · exact live_ne rt35.own b hb h
      · rcases f36 b hb' with h | h
        · exact (dl33 b hb).2 h
        · exact live_ne lr35.own b hb h
    have h4 := ltB_false.1 h4
    have hi4 : i4 = LV.length := by omega
    subst hi4
    rw [List.take_length] at htV4
    (repeat first | refine HReg.step ?_ | refine HCode.step ?_)
    rw [wr1]
    refine Exists.intro (m - 1) ?_
    refine And.intro (by omega) ?_
    refine TnInv.mk ⟨r + 1, ⟨a22, k.n + 2, c22, k.V ++ [sA] ++ [sB]⟩, ⟨a26, w.n + 2, c26, w.V ++ [tA] ++ [tB]⟩, t4, u4, lK ++ [u8s A] ++ [u8s B], lT ++ LL, rfl, by omega, by show k.n + 2 = _; omega, by show w.n + 2 = _; omega, by omega, hun4, ⟨?_, rk31, rw31, rt31, ru31, dw26, du31, fun l hl => ?_, hLLt⟩⟩
    · rw [htV4]; exact g31
    · rcases List.mem_append.1 hl with hl | hl
      · rcases List.mem_append.1 hl with hl | hl
        · exact s.bl l hl
        · rw [List.mem_singleton.1 hl]; exact ⟨A, rfl, lA⟩
      · rw [List.mem_singleton.1 hl]; exact ⟨B, rfl, lB⟩
  · have h1 := ltB_false.1 h1
    have hr : r = 2 := by omega
    subst hr
    have hkl : k.V.length = k.n := by have := s.rk.own.len; omega
    have hwl : w.V.length = w.n := by have := s.rw.own.len; omega
    have htl : t.V.length = t.n := by have := s.rt.own.len; omega
    have hul : u.V.length = u.n := by have := s.ru.own.len; omega
    (repeat first | refine HReg.step ?_ | refine HCode.step ?_)
    refine hloopC [4, 25, 171, 172, 173, 174, 175, 176, 177, 178, 179, 180, 181, 182, 183, 184, 185, 186] [25] (KjInv H6 k.n) rfl (by repeat' first | exact Resp.retD | exact Resp1.valuesK | refine Resp.blockD ?_ | refine Resp.thenD ?_ ?_ | refine Resp.hcode ?_) ?_ ?_
    · exact ⟨k.n, KjInv.mk ⟨0, rfl, rfl, rfl⟩⟩
    rintro m2 _ fe2 H7 ⟨i, rfl, hmi, rfl⟩
    (repeat first | refine HReg.step ?_ | refine HCode.step ?_)
    refine hif (fun h2 => ?_) (fun h2 => ?_)
    · have h2 := ltB_true.1 h2
      have wi : wr .i64 ((i : Int) + 1) = ((i + 1 : Nat) : Int) := by rw [wr_i64 (by omega) (by omega)]; omega
      obtain ⟨vk, hvk⟩ := get_len hkl (by omega : i < k.n)
      obtain ⟨vw, hvw⟩ := get_len hwl (by omega : i < w.n)
      obtain ⟨l, hl, a, c, rfl, o⟩ := s.g.G.val hvk
      obtain ⟨l', a', c', hl', rfl, o'⟩ := s.g.cw.2 i vw hvw
      obtain rfl : l' = l := by rw [hl] at hl'; exact (Option.some.inj hl').symm
      obtain ⟨ys, rfl, hys⟩ := s.bl l' (List.mem_of_getElem? hl)
      obtain ⟨gk, hgk⟩ := s.rk.own.addr (by omega)
      obtain ⟨gw, hgw⟩ := s.rw.own.addr (by omega)
      have rk := s.rk.own.rows
      have rw' := s.rw.own.rows
      rw [hgk] at rk
      rw [hgw] at rw'
      have e1 : (Ls.val k) = .slice (some ⟨gk, 0, none⟩) k.n k.c := by unfold Ls.val; rw [hgk]
      have e2 : (Ls.val w) = .slice (some ⟨gw, 0, none⟩) w.n w.c := by unfold Ls.val; rw [hgw]
      rw [e1, e2]
      (repeat first | refine HReg.step ?_ | refine HCode.step ?_)
      refine HReq.mk ⟨by omega, by omega⟩ ?_
      (repeat first | refine HReg.step ?_ | refine HCode.step ?_)
      refine HLoad.one (v := .slice a (u8s ys).length c) (by exact rk.get hvk) ?_
      (repeat first | refine HReg.step ?_ | refine HCode.step ?_)
      refine HReq.mk ⟨by omega, by omega⟩ ?_
      (repeat first | refine HReg.step ?_ | refine HCode.step ?_)
      refine HLoad.one (v := .slice a' (u8s ys).length c') (by exact rw'.get hvw) ?_
      (repeat first | refine HReg.step ?_ | refine HCode.step ?_)
      refine HCall.mk ⟨Try.f15, Try.func15, by rfl, by rfl⟩ ?_
      refine same_eq o.rows (u8s_length ys).symm o'.rows (u8s_length ys).symm rfl ?_
      (repeat first | refine HReg.step ?_ | refine HCode.step ?_)
      rw [wi]
      exact ⟨m2 - 1, by omega, KjInv.mk ⟨i + 1, rfl, by omega, rfl⟩⟩
    (repeat first | refine HReg.step ?_ | refine HCode.step ?_)
    refine hloopC [4, 26, 187, 188, 189, 190, 191, 192, 193, 194, 195, 196, 197, 198, 199, 200, 201, 202] [26] (KjInv H7 t.n) rfl (by repeat' first | exact Resp.retD | exact Resp1.valuesK | refine Resp.blockD ?_ | refine Resp.thenD ?_ ?_ | refine Resp.hcode ?_) ?_ ?_
    · exact ⟨t.n, KjInv.mk ⟨0, rfl, rfl, rfl⟩⟩
    rintro m3 _ fe3 H8 ⟨i, rfl, hmi, rfl⟩
    (repeat first | refine HReg.step ?_ | refine HCode.step ?_)
    refine hif (fun h3 => ?_) (fun h3 => ?_)
    · have h3 := ltB_true.1 h3
      have wi : wr .i64 ((i : Int) + 1) = ((i + 1 : Nat) : Int) := by rw [wr_i64 (by omega) (by omega)]; omega
      obtain ⟨vk, hvk⟩ := get_len htl (by omega : i < t.n)
      obtain ⟨vw, hvw⟩ := get_len hul (by omega : i < u.n)
      obtain ⟨l, hl, a, c, rfl, o⟩ := s.g.G'.val hvk
      obtain ⟨l', a', c', hl', rfl, o'⟩ := s.g.cu.2 i vw hvw
      obtain rfl : l' = l := by rw [hl] at hl'; exact (Option.some.inj hl').symm
      obtain ⟨ts, rfl, hts⟩ := s.tl l' (List.mem_of_getElem? hl)
      obtain ⟨gk, hgk⟩ := s.rt.own.addr (by omega)
      obtain ⟨gw, hgw⟩ := s.ru.own.addr (by omega)
      have rk := s.rt.own.rows
      have rw' := s.ru.own.rows
      rw [hgk] at rk
      rw [hgw] at rw'
      have e1 : (Ls.val t) = .slice (some ⟨gk, 0, none⟩) t.n t.c := by unfold Ls.val; rw [hgk]
      have e2 : (Ls.val u) = .slice (some ⟨gw, 0, none⟩) u.n u.c := by unfold Ls.val; rw [hgw]
      rw [e1, e2]
      (repeat first | refine HReg.step ?_ | refine HCode.step ?_)
      refine HReq.mk ⟨by omega, by omega⟩ ?_
      (repeat first | refine HReg.step ?_ | refine HCode.step ?_)
      refine HLoad.one (v := .slice a (txts ts).length c) (by exact rk.get hvk) ?_
      (repeat first | refine HReg.step ?_ | refine HCode.step ?_)
      refine HReq.mk ⟨by omega, by omega⟩ ?_
      (repeat first | refine HReg.step ?_ | refine HCode.step ?_)
      refine HLoad.one (v := .slice a' (txts ts).length c') (by exact rw'.get hvw) ?_
      (repeat first | refine HReg.step ?_ | refine HCode.step ?_)
      refine HCall.mk ⟨Try.f21, Try.func21, by rfl, by rfl⟩ ?_
      refine sameTexts_t o.rows o'.rows (txts_length ts).symm (txts_length ts).symm (by rw [txts_length]; omega) ?_
      rw [decide_eq_true rfl]
      (repeat first | refine HReg.step ?_ | refine HCode.step ?_)
      rw [wi]
      exact ⟨m3 - 1, by omega, KjInv.mk ⟨i + 1, rfl, by omega, rfl⟩⟩
    (repeat first | refine HReg.step ?_ | refine HCode.step ?_)
    refine HCall.mk ⟨Try.f22, Try.func22, by rfl, by rfl⟩ ?_
    refine marked_t (V := k.V) (X := t.V) (ls := lK) (lx := lT) ⟨s.g.G, s.g.G', s.rk.own, s.rt.own⟩ (by omega) (by omega) (fun n hn => ?_) (fun n hn => ?_) fun H9 u9 => ?_
    · obtain ⟨l, hl, rfl⟩ := List.mem_map.1 hn
      obtain ⟨ys, rfl, hys⟩ := s.bl l hl
      rw [u8s_length]; omega
    · obtain ⟨l, hl, rfl⟩ := List.mem_map.1 hn
      obtain ⟨ts, rfl, hts⟩ := s.tl l hl
      rw [txts_length]; omega
    (repeat first | refine HReg.step ?_ | refine HCode.step ?_)
    refine HLoadN_row (rb4 u9) rfl ?_
    (repeat first | refine HReg.step ?_ | refine HCode.step ?_)
    refine HLoadN_row (rb1 u9) rfl ?_
    (repeat first | refine HReg.step ?_ | refine HCode.step ?_)
    refine HCall.mk ⟨Try.f17, Try.func17, by rfl, by rfl⟩ ?_
    refine same_t2 (iny.upd0 u9) (inx.upd0 u9) fun t10 H10 ht10 u10 => ?_
    have htt : t10 = true := ht10.2 hym
    subst htt
    (repeat first | refine HReg.step ?_ | refine HCode.step ?_)
    exact hk H10 (u05.trans (u9.trans u10))
end
end Go.Proofs.Ytlgncabjphokjaa
