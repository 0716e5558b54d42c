import Derived.Test.YtefmplilhbbiaaaN8
namespace Go.Proofs.Ytefmplilhbbiaaa
open Go Hv
set_option linter.unusedVariables false
set_option maxRecDepth 10000
set_option maxHeartbeats 4000000
def inter : List Value → List Value → List Value → List Value
  | x :: xs, y :: ys, z :: zs => x :: y :: z :: inter xs ys zs
  | _, _, _ => []
theorem inter_take : ∀ {xs ys zs : List Value} {i : Nat} {x y z : Value}, xs[i]? = some x → ys[i]? = some y → zs[i]? = some z → (inter xs ys zs).take (3 * (i + 1)) = (inter xs ys zs).take (3 * i) ++ [x, y, z]
  | a :: xs, b :: ys, c :: zs, 0, x, y, z, h1, h2, h3 => by
    simp at h1 h2 h3; subst h1; subst h2; subst h3; simp [inter]
  | a :: xs, b :: ys, c :: zs, i + 1, x, y, z, h1, h2, h3 => by
    have := inter_take (xs := xs) (ys := ys) (zs := zs) (i := i) (by simpa using h1) (by simpa using h2) (by simpa using h3)
    have e1 : 3 * (i + 1 + 1) = 3 * (i + 1) + 1 + 1 + 1 := by omega
    have e2 : 3 * (i + 1) = 3 * i + 1 + 1 + 1 := by omega
    show (a :: b :: c :: inter xs ys zs).take (3 * (i + 1 + 1)) = (a :: b :: c :: inter xs ys zs).take (3 * (i + 1)) ++ [x, y, z]
    rw [e1, e2]
    simp only [List.take_succ_cons]
    rw [← e2, this]; rfl
  | [], _, _, i, x, y, z, h1, _, _ => by simp at h1
  | _ :: _, [], _, i, x, y, z, _, h2, _ => by simp at h2
  | _ :: _, _ :: _, [], i, x, y, z, _, _, h3 => by simp at h3
theorem app_get {α : Type} {A B : List α} {i : Nat} {x : α} (h : B[i]? = some x) : (A ++ B)[A.length + i]? = some x := by rw [List.getElem?_append_right (by omega), Nat.add_sub_cancel_left]; exact h
theorem app_getl {α : Type} {A B : List α} {i : Nat} {x : α} (h : A[i]? = some x) : (A ++ B)[i]? = some x := by rw [List.getElem?_append_left (List.getElem?_eq_some_iff.1 h).1]; exact h
theorem all2_four {α β : Type} {R : α → β → Prop} {xs : List α} {a b c d : β} (h : All2 R xs [a, b, c, d]) : ∃ x0 x1 x2 x3, xs = [x0, x1, x2, x3] ∧ R x0 a ∧ R x1 b ∧ R x2 c ∧ R x3 d := by
  match xs, h with
  | [x0, x1, x2, x3], h => exact ⟨x0, x1, x2, x3, rfl, h.1, h.2.1, h.2.2.1, h.2.2.2.1⟩
theorem frv_get {X X' : List Fr} {i : Nat} {x : Fr} (h : X'.map Fr.v = X.map Fr.v) (hx : X[i]? = some x) : ∃ x', X'[i]? = some x' ∧ x'.v = x.v := by
  have h1 : (X'.map Fr.v)[i]? = some x.v := by rw [h, List.getElem?_map, hx]; rfl
  rw [List.getElem?_map] at h1
  cases h2 : X'[i]? with
  | none => rw [h2] at h1; cases h1
  | some x' => rw [h2] at h1; exact ⟨x', rfl, by simpa using h1⟩
theorem frv_set {X X' : List Fr} {i : Nat} {x' f : Fr} (h : X'.map Fr.v = X.map Fr.v) (hx : X'[i]? = some x') (hv : f.v = x'.v) : (X'.set i f).map Fr.v = X.map Fr.v := by
  rw [← h]
  apply List.ext_getElem?
  intro k
  rw [List.getElem?_map, List.getElem?_map, List.getElem?_set]
  split
  · rename_i e; subst e
    rw [if_pos (List.getElem?_eq_some_iff.1 hx).1, hx]; simp [hv]
  · rfl
structure WantJ (W : List UInt8) (H0 : Heap) (vs : List Value) (H' : Heap) : Prop where
  ex : ∃ aw nw cw, vs = [.slice aw nw cw] ∧ RowAt H' aw (u8s W) ∧ W.length = nw ∧ H0 = H'
structure MeInv (Nt : Heap → Prop) (xg yg zg cx cy cz : Nat) (X Y Z : List Fr) (LA vsA : List Value) (lsA : List (List UInt8)) (H1 : Heap) (m : Nat) (vs : List Value) (H' : Heap) : Prop where
  ex : ∃ (i : Nat) (lo : Option Addr) (lc : Nat) (X' Y' : List Fr), vs = [.slice lo (3 * i) lc, .int .i64 (i : Int)] ∧ m + i = 4 ∧ OwnRow H' 22 1 lo (3 * i) lc (LA.take (3 * i)) ∧ (∀ p, lo = some p → H1 p.block = none) ∧
    OwnRow H' 33 4 (some ⟨xg, 0, none⟩) 4 cx (frow X') ∧ X'.map Fr.v = X.map Fr.v ∧ (∀ k f, k < i → X'[k]? = some f → f.frm = 77) ∧
    OwnRow H' 33 4 (some ⟨yg, 0, none⟩) 4 cy (frow Y') ∧ Y'.map Fr.v = Y.map Fr.v ∧ (∀ k f, k < i → Y'[k]? = some f → f.frm = 78) ∧
    OwnRow H' 33 4 (some ⟨zg, 0, none⟩) 4 cz (frow Z) ∧ Nt H' ∧ GrpM 5 H1 H' vsA lsA
theorem net_off {T F e : TypeId} {H1 H : Heap} {g : Nat} {P C L : Int} {a b : Option Addr} {n cap size m cb : Nat} {fs : List Fr} {xs : List Value} (N : NetAt T F H1 H g P C L a n cap fs) (r : OwnRow H e size b m cb xs) (hT : T ≠ e) (hF : F ≠ e) : Off (nblk g a) b := fun p hp hb => by
  rcases r.ok with ⟨ha, _⟩ | ⟨g', cur, ha, hg, _⟩
  · rw [ha] at hp; cases hp
  · rw [ha] at hp; cases hp; exact N.notE hT hF _ hb _ _ hg
theorem net_vall {T F : TypeId} {H1 H H' : Heap} {g : Nat} {P C L : Int} {a : Option Addr} {n cap : Nat} {fs : List Fr} {vs : List Value} {ls : List (List UInt8)} (N : NetAt T F H1 H g P C L a n cap fs) (G : GrpM 5 H1 H vs ls) (hT : T ≠ 5) (hF : F ≠ 5) (u : Upd (vall vs) H H') : NetAt T F H1 H' g P C L a n cap fs := by
  refine N.upd u (fun hb => ?_) (off_vall N.row G.grp hF) fun b hb => ?_
  · exact off_vall N.obj G.grp hT _ rfl hb
  · obtain ⟨v, hv, hb⟩ := List.mem_flatMap.1 hb
    exact G.new v hv b hb
/-- A frame told, laid into a variable. -/
theorem netMemory_t {a0 a1 : Option Addr} {n0 c0 n1 c1 : Nat} {B C : List UInt8} {H : Heap} (h0 : RowAt H a0 (u8s B)) (l0 : B.length = n0) (b0 : n0 ≤ 140737488351232) (h1 : RowAt H a1 (u8s C)) (l1 : C.length = n1) (b1 : n1 ≤ 140737488351232) :
    HCalls Try.prog 4 [.slice a0 n0 c0, .slice a1 n1 c1] H (fun v H' => v = .bool true ∧ Upd [] H H') := by
  refine hcalls (fn := Try.f4) [(24, [(1, 0), (2, 0), (3, 0), (4, 0), (5, 0), (6, 0), (7, 0), (8, 0), (9, 0), (10, 0), (11, 0), (12, 0), (13, 0), (14, 0), (15, 0), (16, 0), (0, 1), (17, 0), (18, 0)]), (43, [(0, 0), (1, 0), (2, 0), (3, 0), (4, 0), (5, 0), (6, 0), (7, 0), (8, 0), (9, 0), (10, 0)])] mixed Try.func4 rfl rfl (by decide +kernel) ?_
  (repeat first | refine HReg.step ?_ | refine HCode.step ?_)
  refine HCall.mk ⟨Try.f7, Try.func7, by rfl, by rfl⟩ ?_
  refine alive_t fun H1 u1 => ?_
  (repeat first | refine HReg.step ?_ | refine HCode.step ?_)
  refine HCall.mk ⟨Try.f8, Try.func8, by rfl, by rfl⟩ ?_
  refine new_t (fun _ g H2 N2 u2 => ?_) (fun h => absurd ⟨by decide, by decide, by decide, by decide⟩ h)
  (repeat first | refine HReg.step ?_ | refine HCode.step ?_)
  refine hif (fun h => absurd rfl (not_eqB_true.1 h)) (fun _ => ?_)
  (repeat first | refine HReg.step ?_ | refine HCode.step ?_)
  refine HCall.mk ⟨Try.f10, Try.func10, by rfl, by rfl⟩ ?_
  refine own_t (h0.upd (u1.trans u2) (.inr (Off.nil _))) l0 (by omega) fun a3 c3 H3 m3 => ?_
  have N3 := N2.upd0 m3.upd
  have G3 : GrpM 5 H1 H3 [] [] := (GrpM.nil 5 H1).step0 (u2.trans m3.upd)
  (repeat first | refine HReg.step ?_ | refine HCode.step ?_)
  refine HCall.mk ⟨Try.f9, Try.func9, by rfl, by rfl⟩ ?_
  refine send_t N3 ⟨by decide, by decide⟩ ⟨by decide, by decide⟩ (by decide) (fun f hf => by simp at hf) m3.own.rows (N3.obj.offT m3.own (by decide)) l0 (by omega) (fun _ H4 l4 => ?_) (fun h => absurd (.inr ⟨by decide, by decide, by decide, by decide⟩) h)
  obtain ⟨v4, a4, cap4, N4, s4, w4, u4, f4⟩ := l4
  have G4 := grpM_laid G3 N3 (by decide) (by decide) u4 s4 w4
  (repeat first | refine HReg.step ?_ | refine HCode.step ?_)
  refine HCall.mk ⟨Try.f10, Try.func10, by rfl, by rfl⟩ ?_
  refine own_t (h1.upd (u1.trans N4.base) (.inr (Off.nil _))) l1 (by omega) fun a5 c5 H5 m5 => ?_
  have N5 := N4.upd0 m5.upd
  have G5 := G4.step0 m5.upd
  (repeat first | refine HReg.step ?_ | refine HCode.step ?_)
  refine HCall.mk ⟨Try.f9, Try.func9, by rfl, by rfl⟩ ?_
  refine send_t N5 ⟨by decide, by decide⟩ ⟨by decide, by decide⟩ (by decide) (isSl_of (ls := [B]) (grpM_all G5)) m5.own.rows (N5.obj.offT m5.own (by decide)) l1 (by omega) (fun _ H6 l6 => ?_) (fun h => absurd (.inl ⟨by decide, by decide, by decide, by decide⟩) h)
  obtain ⟨v6, a6, cap6, N6, s6, w6, u6, f6⟩ := l6
  have G6 := grpM_laid G5 N5 (by decide) (by decide) u6 s6 w6
  have lim : ∀ l : List UInt8, (l = B ∨ l = C) → l.length ≤ 140737488355328 := fun l hl => by rcases hl with rfl | rfl <;> omega
  (repeat first | refine HReg.step ?_ | refine HCode.step ?_)
  refine HCall.mk ⟨Try.f14, Try.func14, by rfl, by rfl⟩ ?_
  refine twin_t (ls := [B, C]) N6 (grpM_all G6) (fun l hl => lim l (by simpa using hl)) ⟨by decide, by decide⟩ (by decide) (fun i f l H8 hi hf hl l8 => ?_) (fun h => absurd ⟨by decide, by decide⟩ h)
  have hi0 : i = 0 := by omega
  subst hi0
  cases hf; cases hl
  obtain ⟨v8, a8, cap8, N8, s8, w8, u8', f8⟩ := l8
  have G8 := grpM_laid G6 N6 (by decide) (by decide) u8' s8 w8
  (repeat first | refine HReg.step ?_ | refine HCode.step ?_)
  refine HCall.mk ⟨Try.f14, Try.func14, by rfl, by rfl⟩ ?_
  refine twin_t (ls := [B, C, B]) N8 (grpM_all G8) (fun l hl => lim l (by
    simp only [List.mem_cons, List.not_mem_nil, or_false] at hl
    rcases hl with rfl | rfl | rfl <;> simp)) ⟨by decide, by decide⟩ (by decide) (fun i f l H10 hi hf hl l10 => ?_) (fun h => absurd ⟨by decide, by decide⟩ h)
  have hi0 : i = 0 := by omega
  subst hi0
  cases hf; cases hl
  obtain ⟨v10, a10, cap10, N10, s10, w10, u10, f10⟩ := l10
  have G10 := grpM_laid G8 N8 (by decide) (by decide) u10 s10 w10
  have lim4 : ∀ l ∈ [B, C, B, B], List.length l ≤ 140737488355328 := fun l hl => lim l (by
    simp only [List.mem_cons, List.not_mem_nil, or_false] at hl
    rcases hl with rfl | rfl | rfl | rfl <;> simp)
  (repeat first | refine HReg.step ?_ | refine HCode.step ?_)
  refine HCall.mk ⟨Try.f15, Try.func15, by rfl, by rfl⟩ ?_
  refine flight_t (ls := [B, C, B, B]) N10 (grpM_all G10) lim4 (by decide) fun x cx X H11 rX sX GX fX => ?_
  have N11 := N10.upd0 GX.upd
  have G11 := G10.join GX.upd GX.grp GX.new
  (repeat first | refine HReg.step ?_ | refine HCode.step ?_)
  refine HCall.mk ⟨Try.f15, Try.func15, by rfl, by rfl⟩ ?_
  refine flight_t (ls := [B, C, B, B]) N11 (all_upd (grpM_all G10) GX.upd) lim4 (by decide) fun y cy Y H12 rY sY GY fY => ?_
  have N12 := N11.upd0 GY.upd
  have G12 := G11.join GY.upd GY.grp GY.new
  (repeat first | refine HReg.step ?_ | refine HCode.step ?_)
  refine HCall.mk ⟨Try.f15, Try.func15, by rfl, by rfl⟩ ?_
  refine flight_t (ls := [B, C, B, B]) N12 (all_upd (grpM_all G10) (GX.upd.trans GY.upd)) lim4 (by decide) fun z cz Z H13 rZ sZ GZ fZ => ?_
  have N13 := N12.upd0 GZ.upd
  have G13 := G12.join GZ.upd GZ.grp GZ.new
  have rX13 := rX.upd (GY.upd.trans GZ.upd) (Off.nil _)
  have rY13 := rY.upd GZ.upd (Off.nil _)
  (repeat first | refine HReg.step ?_ | refine HCode.step ?_)
  refine hif (fun h => absurd rfl (not_eqB_true.1 h)) (fun _ => ?_)
  (repeat first | refine HReg.step ?_ | refine HCode.step ?_)
  refine hif (fun h => absurd rfl (not_eqB_true.1 h)) (fun _ => ?_)
  (repeat first | refine HReg.step ?_ | refine HCode.step ?_)
  refine hif (fun h => absurd rfl (not_eqB_true.1 h)) (fun _ => ?_)
  obtain ⟨xg, rfl⟩ := rX.addr (by decide)
  obtain ⟨yg, rfl⟩ := rY.addr (by decide)
  obtain ⟨zg, rfl⟩ := rZ.addr (by decide)
  have nx10 : H10 xg = none := fX _ rfl
  have ny11 : H11 yg = none := fY _ rfl
  have nz12 : H12 zg = none := fZ _ rfl
  have nx : H1 xg = none := Upd.none (S := []) N10.base (by simp) nx10
  have ny : H1 yg = none := Upd.none (S := []) N11.base (by simp) ny11
  have nz : H1 zg = none := Upd.none (S := []) N12.base (by simp) nz12
  have xn : xg ∉ nblk g a10 := fun hb => N10.live _ hb nx10
  have yn : yg ∉ nblk g a10 := fun hb => N11.live _ hb ny11
  have zn : zg ∉ nblk g a10 := fun hb => N12.live _ hb nz12
  have xy : xg ≠ yg := fun e => (rX.there rfl) (by show H11 xg = none; rw [e]; exact ny11)
  have xz : xg ≠ zg := fun e => ((rX.upd GY.upd (Off.nil _)).there rfl) (by show H12 xg = none; rw [e]; exact nz12)
  have yz : yg ≠ zg := fun e => (rY.there rfl) (by show H12 yg = none; rw [e]; exact nz12)
  obtain ⟨x0, x1, x2, x3, rfl, sx0, sx1, sx2, sx3⟩ := all2_four sX
  obtain ⟨y0, y1, y2, y3, rfl, sy0, sy1, sy2, sy3⟩ := all2_four sY
  obtain ⟨z0, z1, z2, z3, rfl, sz0, sz1, sz2, sz3⟩ := all2_four sZ
  have GA : GrpM 5 H1 H13 ([v4, v6, v8, v10] ++ ([x0.v, x1.v, x2.v, x3.v] ++ ([y0.v, y1.v, y2.v, y3.v] ++ [z0.v, z1.v, z2.v, z3.v]))) ([B, C, B, B] ++ ([B, C, B, B] ++ ([B, C, B, B] ++ [B, C, B, B]))) := G13
  obtain ⟨LA, hLA⟩ : ∃ LA, LA = inter [x0.v, x1.v, x2.v, x3.v] [y0.v, y1.v, y2.v, y3.v] [z0.v, z1.v, z2.v, z3.v] := ⟨_, rfl⟩
  (repeat first | refine HReg.step ?_ | refine HCode.step ?_)
  refine hloopC [4, 10, 11, 12, 64, 65, 66, 67, 68, 69, 70, 71, 72, 73, 74, 75, 76, 77, 78, 79, 80, 81, 82, 83, 84, 85, 86, 87, 88, 89, 90, 91, 92, 93, 94, 95, 96, 97, 98, 99, 100, 101, 102, 103, 104, 105, 106, 107, 108, 109, 110, 111, 112, 113, 114, 115, 116, 117, 118, 119, 120, 121, 122, 123, 124, 125] [10, 11] (MeInv (fun H' => NetAt 61 33 H1 H' g 3 2 (0 + 1 + 1 + 1 + 1) a10 (0 + 1 + 1 + 1 + 1) cap10 [⟨0 + 1, -1, 2, v4⟩, ⟨0 + 1 + 1, 0, -2, v6⟩, ⟨0 + 1 + 1 + 1, -1, 2, v8⟩, ⟨0 + 1 + 1 + 1 + 1, -1, 2, v10⟩]) xg yg zg cx cy cz [x0, x1, x2, x3] [y0, y1, y2, y3] [z0, z1, z2, z3] LA ([v4, v6, v8, v10] ++ ([x0.v, x1.v, x2.v, x3.v] ++ ([y0.v, y1.v, y2.v, y3.v] ++ [z0.v, z1.v, z2.v, z3.v]))) ([B, C, B, B] ++ ([B, C, B, B] ++ ([B, C, B, B] ++ [B, C, B, B]))) H1) rfl (by repeat' first | exact Resp.retD | exact Resp1.valuesK | refine Resp.blockD ?_ | refine Resp.thenD ?_ ?_ | refine Resp.hcode ?_) ?_ ?_
  · exact ⟨4, MeInv.mk ⟨0, none, 0, [x0, x1, x2, x3], [y0, y1, y2, y3], rfl, rfl, OwnRow.nil _ _ _, fun p hp => (by cases hp), rX13, rfl, fun k f hk => by omega, rY13, rfl, fun k f hk => by omega, rZ, N13, GA⟩⟩
  rintro m vs f H14 ⟨i, lo, lc, X', Y', rfl, hmi, rl, fl, rX', eX, qX, rY', eY, qY, rZ', Nt, G⟩
  (repeat first | refine HReg.step ?_ | refine HCode.step ?_)
  refine hif (fun h => ?_) (fun h => ?_)
  · have h := ltB_true.1 h
    obtain ⟨x, hx⟩ : ∃ x, [x0, x1, x2, x3][i]? = some x := ⟨_, List.getElem?_eq_getElem (by show i < 4; omega)⟩
    obtain ⟨y, hy⟩ : ∃ x, [y0, y1, y2, y3][i]? = some x := ⟨_, List.getElem?_eq_getElem (by show i < 4; omega)⟩
    obtain ⟨z, hz⟩ : ∃ x, [z0, z1, z2, z3][i]? = some x := ⟨_, List.getElem?_eq_getElem (by show i < 4; omega)⟩
    obtain ⟨W, hW⟩ : ∃ x, [B, C, B, B][i]? = some x := ⟨_, List.getElem?_eq_getElem (by show i < 4; omega)⟩
    obtain ⟨x', hx', ex'⟩ := frv_get eX hx
    obtain ⟨y', hy', ey'⟩ := frv_get eY hy
    have hxv : [x0.v, x1.v, x2.v, x3.v][i]? = some x.v := by
      show ([x0, x1, x2, x3].map Fr.v)[i]? = _
      rw [List.getElem?_map, hx]; rfl
    have hyv : [y0.v, y1.v, y2.v, y3.v][i]? = some y.v := by
      show ([y0, y1, y2, y3].map Fr.v)[i]? = _
      rw [List.getElem?_map, hy]; rfl
    have hzv : [z0.v, z1.v, z2.v, z3.v][i]? = some z.v := by
      show ([z0, z1, z2, z3].map Fr.v)[i]? = _
      rw [List.getElem?_map, hz]; rfl
    obtain ⟨ax, kx, hxe, ox⟩ := G.grp.ok _ x.v W (app_get (A := [v4, v6, v8, v10]) (app_getl hxv)) (app_get (A := [B, C, B, B]) (app_getl hW))
    obtain ⟨ay, ky, hye, oy⟩ := G.grp.ok _ y.v W (app_get (A := [v4, v6, v8, v10]) (app_get (A := [x0.v, x1.v, x2.v, x3.v]) (app_getl hyv))) (app_get (A := [B, C, B, B]) (app_get (A := [B, C, B, B]) (app_getl hW)))
    obtain ⟨az, kz, hze, oz⟩ := G.grp.ok _ z.v W (app_get (A := [v4, v6, v8, v10]) (app_get (A := [x0.v, x1.v, x2.v, x3.v]) (app_get (A := [y0.v, y1.v, y2.v, y3.v]) hzv))) (app_get (A := [B, C, B, B]) (app_get (A := [B, C, B, B]) (app_get (A := [B, C, B, B]) hW)))
    iterate 5 refine HCode.step ?_
    repeat refine HReg.step ?_
    refine hcutC [12, 69, 70, 71] [12] (WantJ W H14) rfl (by repeat' first | exact Resp.retD | exact Resp1.valuesK | refine Resp.blockD ?_ | refine Resp.thenD ?_ ?_ | refine Resp.hcode ?_) ?_ ?_
    · (repeat first | refine HReg.step ?_ | refine HCode.step ?_)
      refine hif (fun h2 => ?_) (fun h2 => ?_)
      · have h2 := eqB_true.1 h2
        have e1 : i = 1 := by omega
        subst e1
        cases hW
        (repeat first | refine HReg.step ?_ | refine HCode.step ?_)
        exact WantJ.mk ⟨a1, n1, c1, rfl, h1.upd (u1.trans G.upd) (.inr (Off.nil _)), l1, rfl⟩
      · have h2 := eqB_false.1 h2
        have e1 : i = 0 ∨ i = 2 ∨ i = 3 := by omega
        have eW : W = B := by rcases e1 with rfl | rfl | rfl <;> (cases hW; rfl)
        subst eW
        (repeat first | refine HReg.step ?_ | refine HCode.step ?_)
        exact WantJ.mk ⟨a0, n0, c0, rfl, h0.upd (u1.trans G.upd) (.inr (Off.nil _)), l0, rfl⟩
    rintro _ f15 _ ⟨aw, nw, cw, rfl, rw_, lw, rfl⟩
    (repeat first | refine HReg.step ?_ | refine HCode.step ?_)
    refine HReq.mk ⟨by omega, by omega⟩ ?_
    (repeat first | refine HReg.step ?_ | refine HCode.step ?_)
    refine HLoad.one (v := .slice ax W.length kx) (by exact fr_get rX' hx' (k := 3) (by show some x'.v = _; rw [ex', hxe])) ?_
    (repeat first | refine HReg.step ?_ | refine HCode.step ?_)
    refine HCall.mk ⟨Try.f16, Try.func16, by rfl, by rfl⟩ ?_
    refine same_eq (x := W) (y := W) ox.rows rfl rw_ lw rfl ?_
    (repeat first | refine HReg.step ?_ | refine HCode.step ?_)
    refine HReq.mk ⟨by omega, by omega⟩ ?_
    (repeat first | refine HReg.step ?_ | refine HCode.step ?_)
    refine HLoad.one (v := .slice ay W.length ky) (by exact fr_get rY' hy' (k := 3) (by show some y'.v = _; rw [ey', hye])) ?_
    (repeat first | refine HReg.step ?_ | refine HCode.step ?_)
    refine HCall.mk ⟨Try.f16, Try.func16, by rfl, by rfl⟩ ?_
    refine same_eq (x := W) (y := W) oy.rows rfl rw_ lw rfl ?_
    (repeat first | refine HReg.step ?_ | refine HCode.step ?_)
    refine HReq.mk ⟨by omega, by omega⟩ ?_
    (repeat first | refine HReg.step ?_ | refine HCode.step ?_)
    refine HLoad.one (v := .slice az W.length kz) (by exact fr_get rZ' hz (k := 3) (by show some z.v = _; rw [hze])) ?_
    (repeat first | refine HReg.step ?_ | refine HCode.step ?_)
    refine HCall.mk ⟨Try.f16, Try.func16, by rfl, by rfl⟩ ?_
    refine same_eq (x := W) (y := W) oz.rows rfl rw_ lw rfl ?_
    (repeat first | refine HReg.step ?_ | refine HCode.step ?_)
    refine HReq.mk ⟨by omega, by omega⟩ ?_
    (repeat first | refine HReg.step ?_ | refine HCode.step ?_)
    refine HLoad.one (v := .slice ax W.length kx) (by exact fr_get rX' hx' (k := 3) (by show some x'.v = _; rw [ex', hxe])) ?_
    (repeat first | refine HReg.step ?_ | refine HCode.step ?_)
    refine HReq.mk ⟨by omega, by omega⟩ ?_
    (repeat first | refine HReg.step ?_ | refine HCode.step ?_)
    refine HLoad.one (v := .slice ay W.length ky) (by exact fr_get rY' hy' (k := 3) (by show some y'.v = _; rw [ey', hye])) ?_
    (repeat first | refine HReg.step ?_ | refine HCode.step ?_)
    refine HReq.mk ⟨by omega, by omega⟩ ?_
    (repeat first | refine HReg.step ?_ | refine HCode.step ?_)
    refine HLoad.one (v := .slice az W.length kz) (by exact fr_get rZ' hz (k := 3) (by show some z.v = _; rw [hze])) ?_
    (repeat first | refine HReg.step ?_ | refine HCode.step ?_)
    refine HReq.mk (by decide) ?_
    (repeat first | refine HReg.step ?_ | refine HCode.step ?_)
    refine HNew.mk fun b16 hb16 => ?_
    have u16 : Upd [] H14 (H14.upd b16 (.cells [Value.slice ax W.length kx, .slice ay W.length ky, .slice az W.length kz].toArray 22)) := Upd.new hb16 _
    (repeat first | refine HReg.step ?_ | refine HCode.step ?_)
    have rl16 := rl.upd u16 (Off.nil _)
    refine append_rows (ie := Try.t22) (z := .slice none 0 0) (xs := LA.take (3 * i)) (ys := [.slice ax W.length kx, .slice ay W.length ky, .slice az W.length kz]) Try.underlying41 rfl rfl rfl (by decide) rl16 (RowAt.of_cells (upd_same _ _ _)) rfl ?_ ?_ (by omega) fun a17 c17 H17 r17 u17 f17 => ?_
    · intro v hv
      simp only [List.mem_cons, List.not_mem_nil, or_false] at hv
      rcases hv with rfl | rfl | rfl <;> rfl
    · show (3 * i + 3) * 24 ≤ _; omega
    have nlo : ∀ b ∈ blk lo, H1 b = none := fun b hb => by
      obtain ⟨p, hp, rfl⟩ := blk_of hb
      exact fl p hp
    have G17 := (G.step0 u16).step u17 (rl16.notT (by decide)) nlo
    have N17 := (Nt.upd0 u16).upd u17 (fun hb => by
      have := rl16.notT (e := 61) (by decide) g hb
      obtain ⟨c, f, hc⟩ : ∃ c f, (H14.upd b16 (.cells [Value.slice ax W.length kx, .slice ay W.length ky, .slice az W.length kz].toArray 22)) g = some (.cells c 61 f) := by
        rcases (Nt.upd0 u16).obj.ok with ⟨ha, _⟩ | ⟨g', cur, ha, hg, _⟩
        · cases ha
        · cases ha; exact ⟨_, _, hg⟩
      exact this c f hc) (rl16.offT (Nt.upd0 u16).row (by decide)) nlo
    have rX17 := (rX'.upd u16 (Off.nil _)).upd u17 (rl16.offT (rX'.upd u16 (Off.nil _)) (by decide))
    have rY17 := (rY'.upd u16 (Off.nil _)).upd u17 (rl16.offT (rY'.upd u16 (Off.nil _)) (by decide))
    have rZ17 := (rZ'.upd u16 (Off.nil _)).upd u17 (rl16.offT (rZ'.upd u16 (Off.nil _)) (by decide))
    have eLA : LA.take (3 * i) ++ [.slice ax W.length kx, .slice ay W.length ky, .slice az W.length kz] = LA.take (3 * (i + 1)) := by
      rw [hLA, inter_take hxv hyv hzv, hxe, hye, hze]
    have r17' : OwnRow H17 22 1 a17 (3 * (i + 1)) c17 (LA.take (3 * (i + 1))) := by
      have : OwnRow H17 22 1 a17 (3 * i + 3) c17 (LA.take (3 * i) ++ [.slice ax W.length kx, .slice ay W.length ky, .slice az W.length kz]) := r17
      rw [eLA] at this; exact this
    (repeat first | refine HReg.step ?_ | refine HCode.step ?_)
    refine HReq.mk ⟨by omega, by omega⟩ ?_
    (repeat first | refine HReg.step ?_ | refine HCode.step ?_)
    refine store_fr (f' := ⟨x'.num, 77, x'.to, x'.v⟩) rX17 hx' (k := 1) (by decide) rfl rfl (by show 0 + i * 4 + 1 + 0 = i * 4 + 1; omega) fun H18 r18 u18 => ?_
    (repeat first | refine HReg.step ?_ | refine HCode.step ?_)
    refine HReq.mk ⟨by omega, by omega⟩ ?_
    (repeat first | refine HReg.step ?_ | refine HCode.step ?_)
    have rY18 := rY17.upd u18 (fun p hp hb => by cases hp; exact xy (List.mem_singleton.1 hb).symm)
    refine store_fr (f' := ⟨y'.num, 78, y'.to, y'.v⟩) rY18 hy' (k := 1) (by decide) rfl rfl (by show 0 + i * 4 + 1 + 0 = i * 4 + 1; omega) fun H19 r19 u19 => ?_
    (repeat first | refine HReg.step ?_ | refine HCode.step ?_)
    have hw : wr .i64 ((i : Int) + 1) = ((i + 1 : Nat) : Int) := by rw [wr_i64 (by omega) (by omega)]; omega
    rw [hw]
    refine Exists.intro (m - 1) ?_
    refine And.intro (by omega) ?_
    have sx : ∀ b ∈ [xg], H1 b = none := fun b hb => by rw [List.mem_singleton.1 hb]; exact nx
    have sy : ∀ b ∈ [yg], H1 b = none := fun b hb => by rw [List.mem_singleton.1 hb]; exact ny
    have G19 := (G17.step u18 (rX17.notE (by decide)) sx).step u19 (rY18.notE (by decide)) sy
    have N18 := N17.upd u18 (fun hb => xn (by rw [← List.mem_singleton.1 hb]; exact mem_nblk_g _ _)) (fun p hp hb => xn (blk_nblk _ _ _ (by rw [hp]; show xg ∈ [p.block]; rw [List.mem_singleton.1 hb]; simp))) sx
    have N19 := N18.upd u19 (fun hb => yn (by rw [← List.mem_singleton.1 hb]; exact mem_nblk_g _ _)) (fun p hp hb => yn (blk_nblk _ _ _ (by rw [hp]; show yg ∈ [p.block]; rw [List.mem_singleton.1 hb]; simp))) sy
    have rl19 := (r17'.upd u18 (rX17.offT r17' (by decide))).upd u19 (rY18.offT (r17'.upd u18 (rX17.offT r17' (by decide))) (by decide))
    have rX19 := r18.upd u19 (fun p hp hb => by cases hp; exact xy (List.mem_singleton.1 hb))
    have rZ19 := (rZ17.upd u18 (fun p hp hb => by cases hp; exact xz (List.mem_singleton.1 hb).symm)).upd u19 (fun p hp hb => by cases hp; exact yz (List.mem_singleton.1 hb).symm)
    refine MeInv.mk ⟨i + 1, a17, c17, X'.set i ⟨x'.num, 77, x'.to, x'.v⟩, Y'.set i ⟨y'.num, 78, y'.to, y'.v⟩, by rfl, by omega, rl19, fun p hp => ?_, rX19, frv_set eX hx' rfl, fun k f hk hf => ?_, r19, frv_set eY hy' rfl, fun k f hk hf => ?_, rZ19, N19, G19⟩
    · rcases f17 p hp with h | h
      · exact fl p h
      · exact Upd.none (S := []) (G.upd.trans u16) (by simp) h
    · rw [List.getElem?_set] at hf
      split at hf
      · rename_i e; subst e
        rw [if_pos (List.getElem?_eq_some_iff.1 hx').1] at hf; cases hf; rfl
      · exact qX k f (by omega) hf
    · rw [List.getElem?_set] at hf
      split at hf
      · rename_i e; subst e
        rw [if_pos (List.getElem?_eq_some_iff.1 hy').1] at hf; cases hf; rfl
      · exact qY k f (by omega) hf
  have h := ltB_false.1 h
  have hi4 : i = 4 := by omega
  subst hi4
  have eL : LA.take (3 * 4) = LA := by rw [hLA]; rfl
  rw [eL] at rl
  have SN := grpM_all (grpM_split G rfl).1
  obtain ⟨b8, k8, rfl, o8⟩ := G.grp.ok 2 _ _ rfl rfl
  (repeat first | refine HReg.step ?_ | refine HCode.step ?_)
  refine HCall.mk ⟨Try.f12, Try.func12, by rfl, by rfl⟩ ?_
  refine deliver_t Nt (isSl_of (ls := [B, C, B, B]) SN) (by decide) (fun i f H15 hi hf N15 u15 => ?_) (fun h => absurd ⟨by decide, by decide⟩ h)
  have hi2 : i = 2 := by omega
  subst hi2
  cases hf
  have G15 := grpM_net G Nt (by decide) (by decide) u15
  have rX15 := rX'.upd u15 (fun p hp hb => by cases hp; exact xn hb)
  have rY15 := rY'.upd u15 (fun p hp hb => by cases hp; exact yn hb)
  have rZ15 := rZ'.upd u15 (fun p hp hb => by cases hp; exact zn hb)
  have rl15 := rl.upd u15 (net_off Nt rl (by decide) (by decide))
  have o8' : OwnRow H15 5 1 b8 B.length k8 (u8s B) := o8.upd u15 (net_off Nt o8 (by decide) (by decide))
  (repeat first | refine HReg.step ?_ | refine HCode.step ?_)
  refine HNew.mk fun b13 hb13 => ?_
  have o13 : OwnRow (H15.upd b13 (.cells zfr.toArray 33)) 33 1 (some ⟨b13, 0, none⟩) 4 4 zfr := OwnRow.lit (upd_same _ _ _) rfl
  (repeat first | refine HReg.step ?_ | refine HCode.step ?_)
  refine storeN_own (i := 0) (fcells ⟨0 + 1 + 1 + 1, -1, 2, .slice b8 B.length k8⟩) o13 rfl (plain_fcells (f := ⟨0 + 1 + 1 + 1, -1, 2, .slice b8 B.length k8⟩) ⟨b8, _, k8, rfl⟩) fun H16 p13 u16 => ?_
  have q13 : OwnRow H16 33 1 (some ⟨b13, 0, none⟩) 4 4 (fcells ⟨0 + 1 + 1 + 1, -1, 2, .slice b8 B.length k8⟩) := p13
  have u156 : Upd [] H15 H16 := Upd.drop (Upd.new hb13 _) u16 fun z hz => by rw [List.mem_singleton.1 hz]; exact hb13
  have hB16 : RowAt H16 a0 (u8s B) := h0.upd (u1.trans (G15.upd.trans u156)) (.inr (Off.nil _))
  (repeat first | refine HReg.step ?_ | refine HCode.step ?_)
  refine hif (fun h => absurd rfl (not_eqB_true.1 h)) (fun _ => ?_)
  (repeat first | refine HReg.step ?_ | refine HCode.step ?_)
  refine HLoad.one (v := .int .i64 (0 + 1 + 1 + 1)) (by exact q13.rows.get (i := 0) rfl) ?_
  (repeat first | refine HReg.step ?_ | refine HCode.step ?_)
  refine hif (fun h => absurd rfl (not_eqB_true.1 h)) (fun _ => ?_)
  (repeat first | refine HReg.step ?_ | refine HCode.step ?_)
  refine HLoad.one (v := .slice b8 B.length k8) (by exact q13.rows.get (i := 3) rfl) ?_
  (repeat first | refine HReg.step ?_ | refine HCode.step ?_)
  refine HCall.mk ⟨Try.f16, Try.func16, by rfl, by rfl⟩ ?_
  refine same_eq (x := B) (y := B) (o8'.rows.upd u156 (.inr (Off.nil _))) rfl hB16 l0 rfl ?_
  (repeat first | refine HReg.step ?_ | refine HCode.step ?_)
  refine HLoad.one (v := .slice b8 B.length k8) (by exact q13.rows.get (i := 3) rfl) ?_
  (repeat first | refine HReg.step ?_ | refine HCode.step ?_)
  refine HReq.mk (by decide) ?_
  (repeat first | refine HReg.step ?_ | refine HCode.step ?_)
  refine HNew.mk fun b17 hb17 => ?_
  have u17 : Upd [] H16 (H16.upd b17 (.cells [Value.slice b8 B.length k8].toArray 22)) := Upd.new hb17 _
  have u157 := u156.trans u17
  have rl17 := rl15.upd u157 (Off.nil _)
  (repeat first | refine HReg.step ?_ | refine HCode.step ?_)
  refine append_rows (ie := Try.t22) (z := .slice none 0 0) (xs := LA) (ys := [.slice b8 B.length k8]) Try.underlying41 rfl rfl rfl (by decide) rl17 (RowAt.of_cells (upd_same _ _ _)) rfl ?_ (by decide) (by decide) fun a18 c18 H18 r18 u18 f18 => ?_
  · intro v hv; rw [List.mem_singleton.1 hv]; rfl
  have nlo : ∀ b ∈ blk lo, H1 b = none := fun b hb => by
    obtain ⟨p, hp, rfl⟩ := blk_of hb
    exact fl p hp
  have G18 := (G15.step0 u157).step u18 (rl17.notT (by decide)) nlo
  have N17 := N15.upd0 u157
  have N18 := N17.upd u18 (fun hb => rl17.offT N17.obj (by decide) _ rfl hb) (rl17.offT N17.row (by decide)) nlo
  have rX18 := (rX15.upd u157 (Off.nil _)).upd u18 (rl17.offT (rX15.upd u157 (Off.nil _)) (by decide))
  have rY18 := (rY15.upd u157 (Off.nil _)).upd u18 (rl17.offT (rY15.upd u157 (Off.nil _)) (by decide))
  have rZ18 := (rZ15.upd u157 (Off.nil _)).upd u18 (rl17.offT (rZ15.upd u157 (Off.nil _)) (by decide))
  have GP : GrpM 5 H1 H18 ((LA ++ [.slice b8 B.length k8]) ++ [v4, v6, v10]) ([B, B, B, C, C, C, B, B, B, B, B, B, B] ++ [B, C, B]) := by
    rw [hLA]
    exact G18.pick [4, 8, 12, 5, 9, 13, 6, 10, 14, 7, 11, 15, 2, 0, 1, 3] (by decide) (by simp) undef []
  obtain ⟨GL, GN, hdis⟩ := grpM_split GP (by rw [hLA]; rfl)
  have r18' : OwnRow H18 22 1 a18 13 c18 (LA ++ [.slice b8 B.length k8]) := r18
  (repeat first | refine HReg.step ?_ | refine HCode.step ?_)
  refine HCall.mk ⟨Try.f17, Try.func17, by rfl, by rfl⟩ ?_
  refine marks_t r18' GL (fun l hl => by
    have : l = B ∨ l = C := by
      simp only [List.mem_cons, List.not_mem_nil, or_false] at hl
      rcases hl with h | h | h | h | h | h | h | h | h | h | h | h | h <;> simp [h]
    rcases this with rfl | rfl <;> omega) (by decide) fun H19 ls19 GL19 u19 => ?_
  have GN19 : GrpM 5 H1 H19 [v4, v6, v10] [B, C, B] := ⟨grp_updD GN.grp u19 (fun v hv b hb => hdis v hv b hb), GN.new, GL19.upd⟩
  have N19 := net_vall N18 GL (by decide) (by decide) u19
  have rX19 := rX18.upd u19 (off_vall rX18 GL.grp (by decide))
  have rY19 := rY18.upd u19 (off_vall rY18 GL.grp (by decide))
  have rZ19 := rZ18.upd u19 (off_vall rZ18 GL.grp (by decide))
  have zfrm : ∀ (i : Nat) z, [z0, z1, z2, z3][i]? = some z → z.frm = -1 ∨ z.frm = 0 := fun i z hz => by
    match i, hz with
    | 0, hz => cases hz; exact .inl sz0.2.1
    | 1, hz => cases hz; exact .inr sz1.2.1
    | 2, hz => cases hz; exact .inl sz2.2.1
    | 3, hz => cases hz; exact .inl sz3.2.1
  (repeat first | refine HReg.step ?_ | refine HCode.step ?_)
  refine hloopC [4, 15, 153, 154, 155, 156, 157, 158, 159, 160, 161, 162, 163, 164, 165, 166, 167, 168, 169, 170, 171, 172, 173, 174, 175, 176, 177, 178, 179, 180, 181, 182, 183, 184, 185, 186] [15] (KxInv 4 H19) rfl (by repeat' first | exact Resp.retD | exact Resp1.valuesK | refine Resp.blockD ?_ | refine Resp.thenD ?_ ?_ | refine Resp.hcode ?_) ?_ ?_
  · exact ⟨4, KxInv.mk ⟨0, rfl, rfl, rfl⟩⟩
  rintro m2 vs2 f2 _ ⟨i, rfl, hmi2, rfl⟩
  (repeat first | refine HReg.step ?_ | refine HCode.step ?_)
  refine hif (fun h => ?_) (fun h => ?_)
  · have h := ltB_true.1 h
    obtain ⟨x, hx⟩ : ∃ x, [x0, x1, x2, x3][i]? = some x := ⟨_, List.getElem?_eq_getElem (by show i < 4; omega)⟩
    obtain ⟨y, hy⟩ : ∃ x, [y0, y1, y2, y3][i]? = some x := ⟨_, List.getElem?_eq_getElem (by show i < 4; omega)⟩
    obtain ⟨z, hz⟩ : ∃ x, [z0, z1, z2, z3][i]? = some x := ⟨_, List.getElem?_eq_getElem (by show i < 4; omega)⟩
    obtain ⟨x', hx', ex'⟩ := frv_get eX hx
    obtain ⟨y', hy', ey'⟩ := frv_get eY hy
    have hqx := qX i x' (by omega) hx'
    have hqy := qY i y' (by omega) hy'
    have hqz := zfrm i z hz
    (repeat first | refine HReg.step ?_ | refine HCode.step ?_)
    refine HReq.mk ⟨by omega, by omega⟩ ?_
    (repeat first | refine HReg.step ?_ | refine HCode.step ?_)
    refine HLoad.one (v := .int .i64 77) (by exact fr_get rX19 hx' (k := 1) (by show some (Value.int .i64 x'.frm) = _; rw [hqx])) ?_
    (repeat first | refine HReg.step ?_ | refine HCode.step ?_)
    refine hif (fun h => absurd rfl (not_eqB_true.1 h)) (fun _ => ?_)
    (repeat first | refine HReg.step ?_ | refine HCode.step ?_)
    refine HReq.mk ⟨by omega, by omega⟩ ?_
    (repeat first | refine HReg.step ?_ | refine HCode.step ?_)
    refine HLoad.one (v := .int .i64 78) (by exact fr_get rY19 hy' (k := 1) (by show some (Value.int .i64 y'.frm) = _; rw [hqy])) ?_
    (repeat first | refine HReg.step ?_ | refine HCode.step ?_)
    refine hif (fun h => absurd rfl (not_eqB_true.1 h)) (fun _ => ?_)
    (repeat first | refine HReg.step ?_ | refine HCode.step ?_)
    refine HReq.mk ⟨by omega, by omega⟩ ?_
    (repeat first | refine HReg.step ?_ | refine HCode.step ?_)
    refine HLoad.one (v := .int .i64 z.frm) (by exact fr_get rZ19 hz (k := 1) rfl) ?_
    (repeat first | refine HReg.step ?_ | refine HCode.step ?_)
    refine hif (fun h => absurd (eqB_true.1 h) (by omega)) (fun _ => ?_)
    (repeat first | refine HReg.step ?_ | refine HCode.step ?_)
    refine HReq.mk ⟨by omega, by omega⟩ ?_
    (repeat first | refine HReg.step ?_ | refine HCode.step ?_)
    refine HLoad.one (v := .int .i64 z.frm) (by exact fr_get rZ19 hz (k := 1) rfl) ?_
    (repeat first | refine HReg.step ?_ | refine HCode.step ?_)
    refine hif (fun h => absurd (eqB_true.1 h) (by omega)) (fun _ => ?_)
    (repeat first | refine HReg.step ?_ | refine HCode.step ?_)
    have hw : wr .i64 ((i : Int) + 1) = ((i + 1 : Nat) : Int) := by rw [wr_i64 (by omega) (by omega)]; omega
    rw [hw]
    refine Exists.intro (m2 - 1) ?_
    refine And.intro (by omega) ?_
    exact KxInv.mk ⟨i + 1, rfl, by omega, rfl⟩
  (repeat first | refine HReg.step ?_ | refine HCode.step ?_)
  obtain ⟨b10, k10, rfl, o10⟩ := GN19.grp.ok 2 _ _ rfl rfl
  obtain ⟨b4, k4, rfl, o4⟩ := GN19.grp.ok 0 _ _ rfl rfl
  have NA : NetAt 61 33 H1 H19 g 3 2 (0 + 1 + 1 + 1 + 1) a10 3 cap10 [⟨0 + 1, -1, 2, .slice b4 B.length k4⟩, ⟨0 + 1 + 1, 0, -2, v6⟩, ⟨0 + 1 + 1 + 1 + 1, -1, 2, .slice b10 B.length k10⟩] := N19
  refine HCall.mk ⟨Try.f12, Try.func12, by rfl, by rfl⟩ ?_
  refine deliver_t NA (isSl_of (ls := [B, C, B]) (grpM_all GN19)) (by decide) (fun i f H20 hi hf N20 u20 => ?_) (fun h => absurd ⟨by decide, by decide⟩ h)
  have hi2 : i = 2 := by omega
  subst hi2
  cases hf
  have G20 := grpM_net GN19 NA (by decide) (by decide) u20
  have NB : NetAt 61 33 H1 H20 g 3 2 (0 + 1 + 1 + 1 + 1) a10 2 cap10 [⟨0 + 1, -1, 2, .slice b4 B.length k4⟩, ⟨0 + 1 + 1, 0, -2, v6⟩] := N20
  (repeat first | refine HReg.step ?_ | refine HCode.step ?_)
  refine HNew.mk fun b16 hb16 => ?_
  have o16 : OwnRow (H20.upd b16 (.cells zfr.toArray 33)) 33 1 (some ⟨b16, 0, none⟩) 4 4 zfr := OwnRow.lit (upd_same _ _ _) rfl
  (repeat first | refine HReg.step ?_ | refine HCode.step ?_)
  refine storeN_own (i := 0) (fcells ⟨0 + 1 + 1 + 1 + 1, -1, 2, .slice b10 B.length k10⟩) o16 rfl (plain_fcells (f := ⟨0 + 1 + 1 + 1 + 1, -1, 2, .slice b10 B.length k10⟩) ⟨b10, _, k10, rfl⟩) fun H21 p16 u21 => ?_
  have q16 : OwnRow H21 33 1 (some ⟨b16, 0, none⟩) 4 4 (fcells ⟨0 + 1 + 1 + 1 + 1, -1, 2, .slice b10 B.length k10⟩) := p16
  have u201 : Upd [] H20 H21 := Upd.drop (Upd.new hb16 _) u21 fun z hz => by rw [List.mem_singleton.1 hz]; exact hb16
  have N21 := NB.upd0 u201
  have G21 := G20.step0 u201
  have n16 : b16 ∉ nblk g a10 := fun hb => NB.live _ hb hb16
  (repeat first | refine HReg.step ?_ | refine HCode.step ?_)
  refine HCall.mk ⟨Try.f12, Try.func12, by rfl, by rfl⟩ ?_
  refine deliver_t N21 (isSl_of (ls := [B, C]) ⟨(grpM_all G21).1, (grpM_all G21).2.1, trivial⟩) (by decide) (fun i f H22 hi hf N22 u22 => ?_) (fun h => absurd ⟨by decide, by decide⟩ h)
  have hi0 : i = 0 := by omega
  subst hi0
  cases hf
  have G22 := grpM_net G21 N21 (by decide) (by decide) u22
  have q16b := q16.upd u22 (fun p hp hb => by cases hp; exact n16 hb)
  have NC : NetAt 61 33 H1 H22 g 3 2 (0 + 1 + 1 + 1 + 1) a10 1 cap10 [⟨0 + 1 + 1, 0, -2, v6⟩] := N22
  (repeat first | refine HReg.step ?_ | refine HCode.step ?_)
  refine HNew.mk fun b18 hb18 => ?_
  have o18 : OwnRow (H22.upd b18 (.cells zfr.toArray 33)) 33 1 (some ⟨b18, 0, none⟩) 4 4 zfr := OwnRow.lit (upd_same _ _ _) rfl
  (repeat first | refine HReg.step ?_ | refine HCode.step ?_)
  refine storeN_own (i := 0) (fcells ⟨0 + 1, -1, 2, .slice b4 B.length k4⟩) o18 rfl (plain_fcells (f := ⟨0 + 1, -1, 2, .slice b4 B.length k4⟩) ⟨b4, _, k4, rfl⟩) fun H23 p18 u23 => ?_
  have q18 : OwnRow H23 33 1 (some ⟨b18, 0, none⟩) 4 4 (fcells ⟨0 + 1, -1, 2, .slice b4 B.length k4⟩) := p18
  have u223 : Upd [] H22 H23 := Upd.drop (Upd.new hb18 _) u23 fun z hz => by rw [List.mem_singleton.1 hz]; exact hb18
  have N23 := NC.upd0 u223
  have G23 := G22.step0 u223
  have q16c := q16b.upd u223 (Off.nil _)
  (repeat first | refine HReg.step ?_ | refine HCode.step ?_)
  refine HCall.mk ⟨Try.f15, Try.func15, by rfl, by rfl⟩ ?_
  refine flight_t (ls := [C]) N23 ⟨(grpM_all G23).2.1, trivial⟩ (fun l hl => by rw [List.mem_singleton.1 hl]; omega) (by decide) fun u cu U H24 rU sU GU fU => ?_
  have u24 := GU.upd
  have N24 := N23.upd0 u24
  have G24 := G23.join u24 GU.grp GU.new
  have q16d := q16c.upd u24 (Off.nil _)
  have q18d := q18.upd u24 (Off.nil _)
  obtain ⟨u0, rfl⟩ : ∃ u0, U = [u0] := by
    have := sU.length
    match U, this with
    | [x], _ => exact ⟨x, rfl⟩
  have G24' : GrpM 5 H1 H24 [.slice b4 B.length k4, v6, .slice b10 B.length k10, u0.v] [B, C, B, C] := G24
  obtain ⟨bu, ku, hu0, ou⟩ := G24'.grp.ok 3 _ _ rfl rfl
  obtain ⟨ug, rfl⟩ := rU.addr (by decide)
  have hB24 : RowAt H24 a0 (u8s B) := h0.upd (u1.trans G24.upd) (.inr (Off.nil _))
  have hC24 : RowAt H24 a1 (u8s C) := h1.upd (u1.trans G24.upd) (.inr (Off.nil _))
  have o10' := (G24'.grp.own (i := 2) rfl rfl).2
  have o4' := (G24'.grp.own (i := 0) rfl rfl).2
  (repeat first | refine HReg.step ?_ | refine HCode.step ?_)
  refine hif (fun h => absurd rfl (not_eqB_true.1 h)) (fun _ => ?_)
  (repeat first | refine HReg.step ?_ | refine HCode.step ?_)
  refine hif (fun h => absurd rfl (not_eqB_true.1 h)) (fun _ => ?_)
  (repeat first | refine HReg.step ?_ | refine HCode.step ?_)
  refine HLoad.one (v := .int .i64 (0 + 1 + 1 + 1 + 1)) (by exact q16d.rows.get (i := 0) rfl) ?_
  (repeat first | refine HReg.step ?_ | refine HCode.step ?_)
  refine hif (fun h => absurd rfl (not_eqB_true.1 h)) (fun _ => ?_)
  (repeat first | refine HReg.step ?_ | refine HCode.step ?_)
  refine HLoad.one (v := .slice b10 B.length k10) (by exact q16d.rows.get (i := 3) rfl) ?_
  (repeat first | refine HReg.step ?_ | refine HCode.step ?_)
  refine HCall.mk ⟨Try.f16, Try.func16, by rfl, by rfl⟩ ?_
  refine same_eq (x := B) (y := B) o10'.rows rfl hB24 l0 rfl ?_
  (repeat first | refine HReg.step ?_ | refine HCode.step ?_)
  refine HLoad.one (v := .slice b4 B.length k4) (by exact q18d.rows.get (i := 3) rfl) ?_
  (repeat first | refine HReg.step ?_ | refine HCode.step ?_)
  refine HCall.mk ⟨Try.f16, Try.func16, by rfl, by rfl⟩ ?_
  refine same_eq (x := B) (y := B) o4'.rows rfl hB24 l0 rfl ?_
  (repeat first | refine HReg.step ?_ | refine HCode.step ?_)
  refine hif (fun h => absurd rfl (not_eqB_true.1 h)) (fun _ => ?_)
  (repeat first | refine HReg.step ?_ | refine HCode.step ?_)
  refine HReq.mk ⟨by decide, by decide⟩ ?_
  (repeat first | refine HReg.step ?_ | refine HCode.step ?_)
  refine HLoad.one (v := .slice bu C.length ku) (by exact fr_get rU (i := 0) (k := 3) rfl (by show some u0.v = _; rw [hu0])) ?_
  (repeat first | refine HReg.step ?_ | refine HCode.step ?_)
  refine HCall.mk ⟨Try.f16, Try.func16, by rfl, by rfl⟩ ?_
  refine same_eq (x := C) (y := C) ou.rows rfl hC24 l1 rfl ?_
  (repeat first | refine HReg.step ?_ | refine HCode.step ?_)
  refine HLoad.one (v := .slice b10 B.length k10) (by exact q16d.rows.get (i := 3) rfl) ?_
  (repeat first | refine HReg.step ?_ | refine HCode.step ?_)
  refine HLoad.one (v := .slice b4 B.length k4) (by exact q18d.rows.get (i := 3) rfl) ?_
  (repeat first | refine HReg.step ?_ | refine HCode.step ?_)
  refine HReq.mk ⟨by decide, by decide⟩ ?_
  (repeat first | refine HReg.step ?_ | refine HCode.step ?_)
  refine HLoad.one (v := .slice bu C.length ku) (by exact fr_get rU (i := 0) (k := 3) rfl (by show some u0.v = _; rw [hu0])) ?_
  (repeat first | refine HReg.step ?_ | refine HCode.step ?_)
  refine HReq.mk (by decide) ?_
  (repeat first | refine HReg.step ?_ | refine HCode.step ?_)
  refine HNew.mk fun b25 hb25 => ?_
  have u25 : Upd [] H24 (H24.upd b25 (.cells [Value.slice b10 B.length k10, .slice b4 B.length k4, .slice bu C.length ku].toArray 22)) := Upd.new hb25 _
  have r25 : OwnRow (H24.upd b25 (.cells [Value.slice b10 B.length k10, .slice b4 B.length k4, .slice bu C.length ku].toArray 22)) 22 1 (some ⟨b25, 0, none⟩) 3 3 [.slice b10 B.length k10, .slice b4 B.length k4, .slice bu C.length ku] := OwnRow.lit (upd_same _ _ _) rfl
  have GQ : GrpM 5 H1 (H24.upd b25 (.cells [Value.slice b10 B.length k10, .slice b4 B.length k4, .slice bu C.length ku].toArray 22)) ([.slice b10 B.length k10, .slice b4 B.length k4, .slice bu C.length ku] ++ [v6]) ([B, B, C] ++ [C]) := by
    rw [← hu0]
    rw [← hu0] at u25
    exact (G24'.step0 u25).pick [2, 0, 3, 1] (by decide) (by simp) undef []
  obtain ⟨GL2, GN2, hdis2⟩ := grpM_split GQ rfl
  have N25 := N24.upd0 u25
  (repeat first | refine HReg.step ?_ | refine HCode.step ?_)
  refine HCall.mk ⟨Try.f17, Try.func17, by rfl, by rfl⟩ ?_
  refine marks_t r25 GL2 (fun l hl => by
    have : l = B ∨ l = C := by
      simp only [List.mem_cons, List.not_mem_nil, or_false] at hl
      rcases hl with h | h | h <;> simp [h]
    rcases this with rfl | rfl <;> omega) (by decide) fun H26 ls26 GL26 u26 => ?_
  have GN26 : GrpM 5 H1 H26 [v6] [C] := ⟨grp_updD GN2.grp u26 (fun v hv b hb => hdis2 v hv b hb), GN2.new, GL26.upd⟩
  have N26 := net_vall N25 GL2 (by decide) (by decide) u26
  (repeat first | refine HReg.step ?_ | refine HCode.step ?_)
  refine HCall.mk ⟨Try.f15, Try.func15, by rfl, by rfl⟩ ?_
  refine flight_t (ls := [C]) N26 (grpM_all GN26) (fun l hl => by rw [List.mem_singleton.1 hl]; omega) (by decide) fun w cw Ws H27 rW sW GW fW => ?_
  have hC27 : RowAt H27 a1 (u8s C) := h1.upd (u1.trans (GN26.upd.trans GW.upd)) (.inr (Off.nil _))
  obtain ⟨w0, rfl⟩ : ∃ w0, Ws = [w0] := by
    have := sW.length
    match Ws, this with
    | [x], _ => exact ⟨x, rfl⟩
  obtain ⟨bw, kw, hw0, ow⟩ := GW.grp.ok 0 _ _ rfl rfl
  obtain ⟨wg, rfl⟩ := rW.addr (by decide)
  (repeat first | refine HReg.step ?_ | refine HCode.step ?_)
  refine hif (fun _ => ?_) (fun h => absurd rfl (eqB_false.1 h))
  (repeat first | refine HReg.step ?_ | refine HCode.step ?_)
  refine HReq.mk ⟨by decide, by decide⟩ ?_
  (repeat first | refine HReg.step ?_ | refine HCode.step ?_)
  refine HLoad.one (v := .slice bw C.length kw) (by exact fr_get rW (i := 0) (k := 3) rfl (by show some w0.v = _; rw [hw0])) ?_
  (repeat first | refine HReg.step ?_ | refine HCode.step ?_)
  refine HCall.mk ⟨Try.f16, Try.func16, by rfl, by rfl⟩ ?_
  refine same_eq (x := C) (y := C) ow.rows rfl hC27 l1 rfl ?_
  (repeat first | refine HReg.step ?_ | refine HCode.step ?_)
  exact ⟨rfl, u1.trans (GN26.upd.trans GW.upd)⟩
end Go.Proofs.Ytefmplilhbbiaaa
