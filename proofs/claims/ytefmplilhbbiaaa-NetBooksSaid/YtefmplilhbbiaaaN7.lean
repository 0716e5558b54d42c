import Derived.Test.YtefmplilhbbiaaaN5
namespace Go.Proofs.Ytefmplilhbbiaaa
open Go Hv
set_option linter.unusedVariables false
set_option maxRecDepth 10000
set_option maxHeartbeats 2000000
theorem byte_lo {n : Nat} : Value.int .u8 (wr .u8 (n : Int)) = u8 (UInt8.ofNat n) := by
  unfold u8
  congr 1
  rw [wr_u8, UInt8.toNat_ofNat']
  omega
theorem set_self {α : Type} {ls : List α} {i : Nat} {l : α} (h : ls[i]? = some l) : ls.set i l = ls := by
  apply List.ext_getElem?
  intro k
  rw [List.getElem?_set]
  split
  · rename_i e; subst e
    rw [if_pos (List.getElem?_eq_some_iff.1 h).1, h]
  · rfl
theorem get_set {α : Type} {ls : List α} {i : Nat} {l x : α} (h : ls[i]? = some l) : (ls.set i x)[i]? = some x := by
  rw [List.getElem?_set, if_pos rfl, if_pos (List.getElem?_eq_some_iff.1 h).1]

def mk (k : Nat) : UInt8 := UInt8.ofNat (k + 1)
def P2 (ns : List Nat) (i : Nat) (ls : List (List UInt8)) : Prop := ls.length = ns.length ∧ ∀ (k : Nat) (l : List UInt8), ls[k]? = some l → ns[k]? = some l.length ∧ (k < i → l = List.replicate l.length (mk k))
theorem P2.step {ns : List Nat} {i : Nat} {ls : List (List UInt8)} {l : List UInt8} (h : P2 ns i ls) (hi : ls[i]? = some l) : P2 ns (i + 1) (ls.set i (List.replicate l.length (mk i))) := by
  refine ⟨by simpa using h.1, fun k l' hk => ?_⟩
  rw [List.getElem?_set] at hk
  split at hk
  · rename_i e; subst e
    split at hk
    · cases hk
      refine ⟨?_, fun _ => by simp⟩
      rw [List.length_replicate]; exact (h.2 _ _ hi).1
    · cases hk
  · rename_i e
    refine ⟨(h.2 _ _ hk).1, fun h1 => (h.2 _ _ hk).2 (by omega)⟩

def vall (vs : List Value) : List Nat := vs.flatMap vblk
theorem mem_vall {vs : List Value} {i : Nat} {v : Value} (h : vs[i]? = some v) : ∀ b ∈ vblk v, b ∈ vall vs := fun b hb => List.mem_flatMap.2 ⟨v, List.mem_of_getElem? h, hb⟩
theorem grp_updD {e : TypeId} {H H' : Heap} {vs : List Value} {ls : List (List UInt8)} {S : List Nat} (G : Grp e H vs ls) (hu : Upd S H H') (hS : ∀ v ∈ vs, ∀ b ∈ vblk v, b ∉ S) : Grp e H' vs ls :=
  ⟨G.len, fun i v l hv hl => (G.ok i v l hv hl).upd hu (hS v (List.mem_of_getElem? hv)), G.apart⟩
theorem grp_vall {e : TypeId} {H : Heap} {vs : List Value} {ls : List (List UInt8)} (G : Grp e H vs ls) : ∀ b ∈ vall vs, ∃ c f, H b = some (.cells c e f) := fun b hb => by
  obtain ⟨v, hv, hb⟩ := List.mem_flatMap.1 hb
  obtain ⟨i, hi⟩ := List.getElem?_of_mem hv
  exact G.live hi hb
theorem off_vall {e e' : TypeId} {H : Heap} {vs : List Value} {ls : List (List UInt8)} {size n cap : Nat} {a : Option Addr} {xs : List Value} (r : OwnRow H e' size a n cap xs) (G : Grp e H vs ls) (hne : e' ≠ e) : Off (vall vs) a := fun p hp hb => by
  obtain ⟨c, f, hc⟩ := grp_vall G _ hb
  rcases r.ok with ⟨ha, _⟩ | ⟨g', cur, ha, hg, _⟩
  · rw [ha] at hp; cases hp
  · rw [ha] at hp; cases hp; rw [hg] at hc; cases hc; exact hne rfl
theorem append_own' {a b : Option Addr} {n cap m c : Nat} {xs ys : List UInt8} {H : Heap} {K : Value → Heap → Prop} (ho : OwnRow H 5 1 a n cap (u8s xs)) (hy : RowAt H b (u8s ys)) (hm : ys.length = m) (hlim : n + m ≤ 140737488355328)
    (hk : ∀ a' cap' H', OwnRow H' 5 1 a' (n + m) cap' (u8s (xs ++ ys)) → Upd (blk a) H H' → (n + m ≤ cap → a' = a ∧ cap' = cap) ∧ (¬ n + m ≤ cap → Upd [] H H' ∧ ∀ p, a' = some p → H p.block = none) → K (.slice a' (n + m) cap') H') :
    HSem Try.prog (Builtin.append_ #[22, 22] 22 [.slice a n cap, .slice b m c].toArray) H K := by
  refine append_rows' (ie := Try.t5) (z := .int .u8 0) (ys := u8s ys) (xs := u8s xs) Try.underlying22 rfl rfl rfl (by decide) ho hy ?_ (plain_u8s _) ?_ ?_ ?_
  · rw [u8s_length, hm]; exact (Nat.mul_one _).symm
  · show (n + m) * 1 ≤ _; omega
  · omega
  · intro a' cap' H' h1 h2 _ h4
    rw [← u8s_append] at h1
    exact hk a' cap' H' h1 h2 h4
structure K1Inv (ns : List Nat) (vs0 : List Value) (al : Option Addr) (nl cl : Nat) (H1 H0 : Heap) (m : Nat) (vs : List Value) (H' : Heap) : Prop where
  ex : ∃ (i : Nat) (ls : List (List UInt8)), vs = [.int .i64 (i : Int)] ∧ m + i = nl ∧ OwnRow H' 22 1 al nl cl vs0 ∧ GrpM 5 H1 H' vs0 ls ∧ P2 ns i ls ∧ Upd (vall vs0) H0 H'
structure K2Inv (i : Nat) (l : List UInt8) (ls : List (List UInt8)) (vs0 : List Value) (al : Option Addr) (nl cl : Nat) (H1 H0 : Heap) (m : Nat) (vs : List Value) (H' : Heap) : Prop where
  ex : ∃ j : Nat, vs = [.int .i64 (j : Int)] ∧ m + j = l.length ∧ OwnRow H' 22 1 al nl cl vs0 ∧ GrpM 5 H1 H' vs0 (ls.set i (List.replicate j (mk i) ++ l.drop j)) ∧ Upd (vall vs0) H0 H'
structure K3Inv (ls : List (List UInt8)) (vs0 : List Value) (al : Option Addr) (nl cl : Nat) (H1 H0 : Heap) (m : Nat) (vs : List Value) (H' : Heap) : Prop where
  ex : ∃ (i : Nat) (mo : Option Addr) (mc : Nat) (ws : List Value) (lm : List (List UInt8)), vs = [.slice mo i mc, .int .i64 (i : Int)] ∧ m + i = nl ∧ OwnRow H' 22 1 mo i mc ws ∧ (∀ p, mo = some p → H0 p.block = none) ∧ OwnRow H' 22 1 al nl cl vs0 ∧
    GrpM 5 H1 H' vs0 ls ∧ GrpM 5 H1 H' (ws ++ vs0.drop i) (lm ++ ls.drop i) ∧ lm.length = i ∧ (∀ k l, k < i → ls[k]? = some l → ∃ t, lm[k]? = some (l ++ t)) ∧ Upd (vall vs0) H0 H' ∧ (∀ w ∈ ws, isSl w)
structure K4Inv (i : Nat) (a : Option Addr) (c : Nat) (l : List UInt8) (ls lm : List (List UInt8)) (vs0 ws : List Value) (al mo : Option Addr) (nl cl mc : Nat) (H1 H0 : Heap) (m : Nat) (vs : List Value) (H' : Heap) : Prop where
  ex : ∃ (j : Nat) (am : Option Addr) (cm : Nat), vs = [.slice am (l.length + j) cm, .int .i64 (j : Int)] ∧ m + j = 80 ∧ OwnRow H' 22 1 mo i mc ws ∧ OwnRow H' 22 1 al nl cl vs0 ∧
    GrpM 5 H1 H' vs0 ls ∧ GrpM 5 H1 H' (ws ++ .slice am (l.length + j) cm :: vs0.drop (i + 1)) (lm ++ (l ++ List.replicate j 251) :: ls.drop (i + 1)) ∧ Upd (vall vs0) H0 H' ∧ ((am = a ∧ cm = c) ∨ ∀ b ∈ blk am, H0 b = none)
structure KxInv (n : Nat) (H0 : Heap) (m : Nat) (vs : List Value) (H' : Heap) : Prop where
  ex : ∃ j : Nat, vs = [.int .i64 (j : Int)] ∧ m + j = n ∧ H0 = H'
theorem marks_t {al : Option Addr} {nl cl : Nat} {vs0 : List Value} {ls0 : List (List UInt8)} {H1 H0 : Heap} {K : Value → Heap → Prop} (ro : OwnRow H0 22 1 al nl cl vs0) (G0 : GrpM 5 H1 H0 vs0 ls0) (hlim : ∀ l ∈ ls0, List.length l ≤ 140737488351232) (hnl : nl ≤ 1000000)
    (hk : ∀ H' ls, GrpM 5 H1 H' vs0 ls → Upd (vall vs0) H0 H' → K (.bool true) H') : HCalls Try.prog 17 [.slice al nl cl] H0 K := by
  have lv : vs0.length = nl := by have := ro.len; omega
  have l0 : ls0.length = nl := by rw [← G0.grp.len]; exact lv
  obtain ⟨ns, hns⟩ : ∃ ns, ns = ls0.map List.length := ⟨_, rfl⟩
  have ln : ns.length = nl := by rw [hns, List.length_map]; exact l0
  have bn : ∀ (k n : Nat), ns[k]? = some n → n ≤ 140737488351232 := fun k n hk => by
    rw [hns, List.getElem?_map] at hk
    cases h : ls0[k]? with
    | none => rw [h] at hk; cases hk
    | some l => rw [h] at hk; cases hk; exact hlim l (List.mem_of_getElem? h)
  have live0 : ∀ b ∈ vall vs0, H0 b ≠ none := fun b hb => by obtain ⟨c, f, hc⟩ := grp_vall G0.grp b hb; rw [hc]; simp
  refine hcalls (fn := Try.f17) [] mixed Try.func17 rfl rfl (by decide +kernel) ?_
  (repeat first | refine HReg.step ?_ | refine HCode.step ?_)
  refine hloopC [3, 4, 11, 12, 13, 14, 15, 16, 17, 18, 19, 20, 21, 22, 23, 24, 25, 26, 27, 28, 29, 30, 31, 32, 33, 34] [3] (K1Inv ns vs0 al nl cl H1 H0) rfl (by repeat' first | exact Resp.retD | exact Resp1.valuesK | refine Resp.blockD ?_ | refine Resp.thenD ?_ ?_ | refine Resp.hcode ?_) ?_ ?_
  · refine ⟨nl, K1Inv.mk ⟨0, ls0, rfl, rfl, ro, G0, ⟨by rw [hns, List.length_map], fun k l hk => ⟨by rw [hns, List.getElem?_map, hk]; rfl, fun h => by omega⟩⟩, Upd.refl _ _⟩⟩
  rintro m1 vs1 f1 H2 ⟨i, ls, rfl, hmi, r2, G2, PP, u2⟩
  have lls : ls.length = nl := by rw [PP.1, ln]
  (repeat first | refine HReg.step ?_ | refine HCode.step ?_)
  refine hif (fun h => ?_) (fun h => ?_)
  · have h := ltB_true.1 h
    obtain ⟨l, hl⟩ : ∃ l, ls[i]? = some l := ⟨ls[i]'(by omega), by simp⟩
    obtain ⟨v, hv, av, cv, rfl, ov⟩ := G2.grp.get hl
    have hbn := bn _ _ (PP.2 _ _ hl).1
    obtain ⟨gl, rfl⟩ := r2.addr (by omega)
    (repeat first | refine HReg.step ?_ | refine HCode.step ?_)
    refine hloopC [4, 17, 18, 19, 20, 21, 22, 23, 24, 25, 26, 27, 28, 29, 30, 31, 32, 33, 34] [4] (K2Inv i l ls vs0 (some ⟨gl, 0, none⟩) nl cl H1 H0) rfl (by repeat' first | exact Resp.retD | exact Resp1.valuesK | refine Resp.blockD ?_ | refine Resp.thenD ?_ ?_ | refine Resp.hcode ?_) ?_ ?_
    · refine ⟨l.length, K2Inv.mk ⟨0, rfl, rfl, r2, ?_, u2⟩⟩
      have : List.replicate 0 (mk i) ++ l.drop 0 = l := by simp
      rw [this, set_self hl]; exact G2
    rintro m3 vs3 f3 H3 ⟨j, rfl, hmj, r3, G3, u3⟩
    (repeat first | refine HReg.step ?_ | refine HCode.step ?_)
    refine HReq.mk ⟨by omega, by omega⟩ ?_
    (repeat first | refine HReg.step ?_ | refine HCode.step ?_)
    refine HLoad.one (v := .slice av l.length cv) (by exact r3.rows.get hv) ?_
    (repeat first | refine HReg.step ?_ | refine HCode.step ?_)
    refine hif (fun h2 => ?_) (fun h2 => ?_)
    · have h2 := ltB_true.1 h2
      obtain ⟨gv, rfl⟩ := ov.addr (by omega)
      (repeat first | refine HReg.step ?_ | refine HCode.step ?_)
      refine HReq.mk ⟨by omega, by omega⟩ ?_
      (repeat first | refine HReg.step ?_ | refine HCode.step ?_)
      refine HLoad.one (v := .slice (some ⟨gv, 0, none⟩) l.length cv) (by exact r3.rows.get hv) ?_
      (repeat first | refine HReg.step ?_ | refine HCode.step ?_)
      refine HReq.mk ⟨by omega, by omega⟩ ?_
      (repeat first | refine HReg.step ?_ | refine HCode.step ?_)
      have hb : Value.int .u8 (wr .u8 (wr .i64 ((i : Int) + 1))) = u8 (mk i) := by
        have : wr .i64 ((i : Int) + 1) = ((i + 1 : Nat) : Int) := by rw [wr_i64 (by omega) (by omega)]; omega
        rw [this, byte_lo]; rfl
      rw [hb]
      refine G3.store (i := i) (k := j) (l := List.replicate j (mk i) ++ l.drop j) hv (get_set hl) (by rw [List.length_append, List.length_replicate, List.length_drop]; omega) (by show 0 + j + 0 = j; omega) fun H4 G4 u4 => ?_
      (repeat first | refine HReg.step ?_ | refine HCode.step ?_)
      rw [List.set_set, set_rep (by omega)] at G4
      have hw : wr .i64 ((j : Int) + 1) = ((j + 1 : Nat) : Int) := by rw [wr_i64 (by omega) (by omega)]; omega
      rw [hw]
      refine Exists.intro (m3 - 1) ?_
      refine And.intro (by omega) ?_
      exact K2Inv.mk ⟨j + 1, rfl, by omega, r3.upd u4 (r3.apart G3.grp (by decide) hv), G4, upd_join u3 u4 fun b hb => .inl (mem_vall hv b (by simpa [vblk] using hb))⟩
    · have h2 := ltB_false.1 h2
      (repeat first | refine HReg.step ?_ | refine HCode.step ?_)
      have hj : j = l.length := by omega
      subst hj
      rw [List.drop_length, List.append_nil] at G3
      have hw : wr .i64 ((i : Int) + 1) = ((i + 1 : Nat) : Int) := by rw [wr_i64 (by omega) (by omega)]; omega
      rw [hw]
      refine Exists.intro (m1 - 1) ?_
      refine And.intro (by omega) ?_
      exact K1Inv.mk ⟨i + 1, _, rfl, by omega, r3, G3, PP.step hl, u3⟩
  have h := ltB_false.1 h
  (repeat first | refine HReg.step ?_ | refine HCode.step ?_)
  have hi : i = nl := by omega
  subst hi
  clear h hmi
  refine hloopC [5, 6, 7, 8, 35, 36, 37, 38, 39, 40, 41, 42, 43, 44, 45, 46, 47, 48, 49, 50, 51, 52, 53, 54, 55] [5, 6] (K3Inv ls vs0 al i cl H1 H0) rfl (by repeat' first | exact Resp.retD | exact Resp1.valuesK | refine Resp.blockD ?_ | refine Resp.thenD ?_ ?_ | refine Resp.hcode ?_) ?_ ?_
  · refine ⟨i, K3Inv.mk ⟨0, none, 0, [], [], rfl, rfl, OwnRow.nil _ _ _, fun p hp => (by cases hp), r2, G2, G2, rfl, fun k l hk => by omega, u2, fun w hw => by simp at hw⟩⟩
  rintro m5 vs5 f5 H5 ⟨k, mo, mc, ws, lm, rfl, hmk, ro5, fo5, r5, G5, GG5, llm, hlm, u5, hws⟩
  have lws : ws.length = k := by have := ro5.len; omega
  (repeat first | refine HReg.step ?_ | refine HCode.step ?_)
  refine hif (fun h => ?_) (fun h => ?_)
  · have h := ltB_true.1 h
    obtain ⟨l, hl⟩ : ∃ l, ls[k]? = some l := ⟨ls[k]'(by omega), by simp⟩
    obtain ⟨v, hv, av, cv, rfl, ov⟩ := G5.grp.get hl
    have hbn := bn _ _ (PP.2 _ _ hl).1
    obtain ⟨gl, rfl⟩ := r5.addr (by omega)
    (repeat first | refine HReg.step ?_ | refine HCode.step ?_)
    refine HReq.mk ⟨by omega, by omega⟩ ?_
    (repeat first | refine HReg.step ?_ | refine HCode.step ?_)
    refine HLoad.one (v := .slice av l.length cv) (by exact r5.rows.get hv) ?_
    (repeat first | refine HReg.step ?_ | refine HCode.step ?_)
    refine hloopC [7, 8, 45, 46, 47, 48, 49, 50, 51] [7, 8] (K4Inv k av cv l ls lm vs0 ws (some ⟨gl, 0, none⟩) mo i cl mc H1 H0) rfl (by repeat' first | exact Resp.retD | exact Resp1.valuesK | refine Resp.blockD ?_ | refine Resp.thenD ?_ ?_ | refine Resp.hcode ?_) ?_ ?_
    · refine ⟨80, K4Inv.mk ⟨0, av, cv, rfl, rfl, ro5, r5, G5, ?_, u5, .inl ⟨rfl, rfl⟩⟩⟩
      have e1 : l ++ List.replicate 0 251 = l := by simp
      have e2 : vs0.drop k = .slice av (l.length + 0) cv :: vs0.drop (k + 1) := by
        obtain ⟨h1, h2⟩ := List.getElem?_eq_some_iff.1 hv
        rw [List.drop_eq_getElem_cons h1, h2]; rfl
      have e3 : ls.drop k = l :: ls.drop (k + 1) := by
        obtain ⟨h1, h2⟩ := List.getElem?_eq_some_iff.1 hl
        rw [List.drop_eq_getElem_cons h1, h2]
      rw [e1, ← e2, ← e3]; exact GG5
    rintro m6 vs6 f6 H6 ⟨j, am, cm, rfl, hmj, ro6, r6, G6, GG6, u6, hab⟩
    have gi : (ws ++ .slice am (l.length + j) cm :: vs0.drop (k + 1))[k]? = some (.slice am (l.length + j) cm) := by
      rw [List.getElem?_append_right (by omega), lws, Nat.sub_self]; rfl
    have gli : (lm ++ (l ++ List.replicate j 251) :: ls.drop (k + 1))[k]? = some (l ++ List.replicate j 251) := by
      rw [List.getElem?_append_right (by omega), llm, Nat.sub_self]; rfl
    obtain ⟨hlen, om⟩ := GG6.grp.own gi gli
    (repeat first | refine HReg.step ?_ | refine HCode.step ?_)
    refine hif (fun h2 => ?_) (fun h2 => ?_)
    · have h2 := ltB_true.1 h2
      (repeat first | refine HReg.step ?_ | refine HCode.step ?_)
      refine HReq.mk (by decide) ?_
      (repeat first | refine HReg.step ?_ | refine HCode.step ?_)
      refine HNew.mk fun b7 hb7 => ?_
      (repeat first | refine HReg.step ?_ | refine HCode.step ?_)
      have u7 : Upd [] H6 (H6.upd b7 (.cells [Value.int .u8 251].toArray 5)) := Upd.new hb7 _
      have G7 := G6.step0 u7
      have GG7 := GG6.step0 u7
      have om7 := om.upd u7 (Off.nil _)
      have u07 : Upd (vall vs0) H0 (H6.upd b7 (.cells [Value.int .u8 251].toArray 5)) := upd_join u6 u7 (by simp)
      refine append_own' (ys := [251]) om7 (row_lit (upd_same _ _ _) rfl) rfl (by omega) fun a8 c8 H8 o8 u8' q8 => ?_
      have elist : l ++ List.replicate j 251 ++ [251] = l ++ List.replicate (j + 1) 251 := by rw [List.append_assoc, ← List.replicate_succ']
      rw [elist] at o8
      have hlen8 : (l ++ List.replicate (j + 1) 251).length = l.length + j + 1 := by rw [List.length_append, List.length_replicate]; omega
      have s8 : Sle 5 H8 (.slice a8 (l.length + j + 1) c8) (l ++ List.replicate (j + 1) 251) := ⟨a8, c8, by rw [hlen8], by rw [hlen8]; exact o8⟩
      have eset : ∀ w : Value, (ws ++ .slice am (l.length + j) cm :: vs0.drop (k + 1)).set k w = ws ++ w :: vs0.drop (k + 1) := fun w => by
        rw [List.set_append_right _ _ (by omega), lws, Nat.sub_self]; rfl
      have eset2 : ∀ w : List UInt8, (lm ++ (l ++ List.replicate j 251) :: ls.drop (k + 1)).set k w = lm ++ w :: ls.drop (k + 1) := fun w => by
        rw [List.set_append_right _ _ (by omega), llm, Nat.sub_self]; rfl
      have r7 := r6.upd u7 (Off.nil _)
      have ro7 := ro6.upd u7 (Off.nil _)
      have bnd : ∀ b ∈ blk am, b ∈ vall vs0 ∨ H0 b = none := fun b hb => by
        rcases hab with ⟨rfl, _⟩ | h
        · exact .inl (mem_vall hv b (by rw [vblk_slice]; exact hb))
        · exact .inr (h b hb)
      have u08 : Upd (vall vs0) H0 H8 := upd_join u07 u8' bnd
      have r8 := r7.upd u8' (om7.offT r7 (by decide))
      have ro8 := ro7.upd u8' (om7.offT ro7 (by decide))
      have GG8 : GrpM 5 H1 H8 (ws ++ .slice a8 (l.length + j + 1) c8 :: vs0.drop (k + 1)) (lm ++ (l ++ List.replicate (j + 1) 251) :: ls.drop (k + 1)) := by
        have := GG7.change (v' := .slice a8 (l.length + j + 1) c8) (l' := l ++ List.replicate (j + 1) 251) gi (by rw [vblk_slice]; exact u8') s8 (fun b hb => by
          rw [vblk_slice] at hb ⊢
          obtain ⟨p, hp, rfl⟩ := blk_of hb
          by_cases hf : l.length + j + 1 ≤ cm
          · obtain ⟨e1, _⟩ := q8.1 hf
            left; rw [← e1, hp]; simp [blk]
          · exact .inr ((q8.2 hf).2 p hp))
        rw [eset, eset2] at this
        exact this
      have G8 : GrpM 5 H1 H8 vs0 ls ∧ ((a8 = av ∧ c8 = cv) ∨ ∀ b ∈ blk a8, H0 b = none) := by
        by_cases hf : l.length + j + 1 ≤ cm
        · obtain ⟨rfl, rfl⟩ := q8.1 hf
          rcases hab with ⟨rfl, rfl⟩ | hfr
          · refine ⟨?_, .inl ⟨rfl, rfl⟩⟩
            have sv : Sle 5 H8 (.slice a8 l.length c8) l := by
              refine ⟨a8, c8, rfl, ?_⟩
              have := own_upto o8 (i := l.length) (by omega)
              rw [Nat.mul_one, ← u8s_take, List.take_left] at this
              exact this
            have := G7.change hv (by rw [vblk_slice]; exact u8') sv fun b hb => .inl hb
            rw [set_self hv, set_self hl] at this
            exact this
          · refine ⟨⟨grp_updD G7.grp u8' fun w hw b hb hb' => ?_, G7.new, ?_⟩, .inr hfr⟩
            · exact live0 b (List.mem_flatMap.2 ⟨w, hw, hb⟩) (hfr b hb')
            · exact GG8.upd
        · obtain ⟨ue, fe⟩ := q8.2 hf
          refine ⟨G7.step0 ue, .inr fun b hb => ?_⟩
          obtain ⟨p, hp, rfl⟩ := blk_of hb
          exact upd_none' u07 (fun x hx => by obtain ⟨c, f, hc⟩ := grp_vall G7.grp x hx; rw [hc]; simp) (fe p hp)
      (repeat first | refine HReg.step ?_ | refine HCode.step ?_)
      have hw : wr .i64 ((j : Int) + 1) = ((j + 1 : Nat) : Int) := by rw [wr_i64 (by omega) (by omega)]; omega
      rw [hw]
      refine Exists.intro (m6 - 1) ?_
      refine And.intro (by omega) ?_
      exact K4Inv.mk ⟨j + 1, a8, c8, rfl, by omega, ro8, r8, G8.1, GG8, u08, G8.2⟩
    · have h2 := ltB_false.1 h2
      (repeat first | refine HReg.step ?_ | refine HCode.step ?_)
      have hj : j = 80 := by omega
      subst hj
      refine HReq.mk (by decide) ?_
      (repeat first | refine HReg.step ?_ | refine HCode.step ?_)
      refine HNew.mk fun b7 hb7 => ?_
      have u7 : Upd [] H6 (H6.upd b7 (.cells [Value.slice am (l.length + 80) cm].toArray 22)) := Upd.new hb7 _
      (repeat first | refine HReg.step ?_ | refine HCode.step ?_)
      have ro7 := ro6.upd u7 (Off.nil _)
      have u07 : Upd (vall vs0) H0 (H6.upd b7 (.cells [Value.slice am (l.length + 80) cm].toArray 22)) := upd_join u6 u7 (by simp)
      refine append_rows (ie := Try.t22) (z := .slice none 0 0) (xs := ws) (ys := [.slice am (l.length + 80) cm]) Try.underlying41 rfl rfl rfl (by decide) ro7 (RowAt.of_cells (upd_same _ _ _)) rfl ?_ ?_ (by omega) fun a8 c8 H8 o8 u8' f8 => ?_
      · intro v hv; rw [List.mem_singleton.1 hv]; rfl
      · show (k + 1) * 24 ≤ _; omega
      have fo : ∀ b ∈ blk mo, H0 b = none := fun b hb => by
        obtain ⟨p, hp, rfl⟩ := blk_of hb
        exact fo5 p hp
      have n1 : ∀ b ∈ blk mo, H1 b = none := fun b hb => Upd.none (S := []) G0.upd (by simp) (fo b hb)
      have G8 := (G6.step0 u7).step u8' (ro7.notT (by decide)) n1
      have GG8 := (GG6.step0 u7).step u8' (ro7.notT (by decide)) n1
      have u08 : Upd (vall vs0) H0 H8 := upd_join u07 u8' fun b hb => .inr (fo b hb)
      have r8 := (r6.upd u7 (Off.nil _)).upd u8' (fun p hp hb => by
        have h1 : H0 p.block ≠ none := ro.there hp
        exact h1 (fo p.block hb))
      (repeat first | refine HReg.step ?_ | refine HCode.step ?_)
      have hw : wr .i64 ((k : Int) + 1) = ((k + 1 : Nat) : Int) := by rw [wr_i64 (by omega) (by omega)]; omega
      rw [hw]
      refine Exists.intro (m5 - 1) ?_
      refine And.intro (by omega) ?_
      refine K3Inv.mk ⟨k + 1, a8, c8, ws ++ [Value.slice am (l.length + 80) cm], lm ++ [l ++ List.replicate 80 251], rfl, by omega, o8, fun p hp => ?_, r8, G8, ?_, by simp [llm], fun k' l' hk' hl' => ?_, u08, ?_⟩
      · rcases f8 p hp with h | h
        · exact fo5 p h
        · exact upd_none' u07 (fun x hx => by obtain ⟨c, f, hc⟩ := grp_vall (G6.step0 u7).grp x hx; rw [hc]; simp) h
      · rw [List.append_assoc, List.append_assoc]; exact GG8
      · by_cases e : k' = k
        · subst e
          rw [hl] at hl'
          cases hl'
          exact ⟨_, by rw [List.getElem?_append_right (by omega), llm, Nat.sub_self]; rfl⟩
        · obtain ⟨t, ht⟩ := hlm k' l' (by omega) hl'
          exact ⟨t, by rw [List.getElem?_append_left (by omega)]; exact ht⟩
      · intro w hw
        rcases List.mem_append.1 hw with h | h
        · exact hws w h
        · rw [List.mem_singleton.1 h]; exact ⟨_, _, _, rfl⟩
  have h := ltB_false.1 h
  (repeat first | refine HReg.step ?_ | refine HCode.step ?_)
  have hi : k = i := by omega
  subst hi
  rw [List.drop_eq_nil_of_le (by omega), List.append_nil, List.drop_eq_nil_of_le (by omega), List.append_nil] at GG5
  refine hloopC [2, 9, 10, 56, 57, 58, 59, 60, 61, 62, 63, 64, 65, 66, 67, 68, 69, 70, 71, 72, 73, 74, 75, 76, 77, 78, 79, 80, 81, 82, 83, 84, 85, 86, 87, 88, 89, 90, 91, 92, 93, 94] [9] (KxInv k H5) rfl (by repeat' first | exact Resp.retD | exact Resp1.valuesK | refine Resp.blockD ?_ | refine Resp.thenD ?_ ?_ | refine Resp.hcode ?_) ?_ ?_
  · exact ⟨k, KxInv.mk ⟨0, rfl, rfl, rfl⟩⟩
  rintro m9 vs9 f9 _ ⟨i, rfl, hmi, rfl⟩
  (repeat first | refine HReg.step ?_ | refine HCode.step ?_)
  refine hif (fun h => ?_) (fun h => ?_)
  · have h := ltB_true.1 h
    obtain ⟨l, hl⟩ : ∃ l, ls[i]? = some l := ⟨ls[i]'(by omega), by simp⟩
    obtain ⟨v, hv, av, cv, rfl, ov⟩ := G5.grp.get hl
    have hbn := bn _ _ (PP.2 _ _ hl).1
    have hrep := (PP.2 _ _ hl).2 (by omega)
    obtain ⟨t, ht⟩ := hlm i l (by omega) hl
    obtain ⟨w, hw', aw, cw, rfl, ow⟩ := GG5.grp.get ht
    obtain ⟨gl, rfl⟩ := r5.addr (by omega)
    obtain ⟨go, rfl⟩ := ro5.addr (by omega)
    have hby : wr .u8 (wr .i64 ((i : Int) + 1)) = (mk i).toNat := by
      have : wr .i64 ((i : Int) + 1) = ((i + 1 : Nat) : Int) := by rw [wr_i64 (by omega) (by omega)]; omega
      have hb : Value.int .u8 (wr .u8 (wr .i64 ((i : Int) + 1))) = u8 (mk i) := by rw [this, byte_lo]; rfl
      exact (Value.int.inj hb).2
    (repeat first | refine HReg.step ?_ | refine HCode.step ?_)
    refine hloopC [2, 10, 62, 63, 64, 65, 66, 67, 68, 69, 70, 71, 72, 73, 74, 75, 76, 77, 78, 79, 80, 81, 82, 83, 84, 85, 86, 87, 88, 89, 90, 91, 92, 93, 94] [10] (KxInv l.length H5) rfl (by repeat' first | exact Resp.retD | exact Resp1.valuesK | refine Resp.blockD ?_ | refine Resp.thenD ?_ ?_ | refine Resp.hcode ?_) ?_ ?_
    · exact ⟨l.length, KxInv.mk ⟨0, rfl, rfl, rfl⟩⟩
    rintro m10 vs10 f10 _ ⟨j, rfl, hmj, rfl⟩
    (repeat first | refine HReg.step ?_ | refine HCode.step ?_)
    refine HReq.mk ⟨by omega, by omega⟩ ?_
    (repeat first | refine HReg.step ?_ | refine HCode.step ?_)
    refine HLoad.one (v := .slice av l.length cv) (by exact r5.rows.get hv) ?_
    (repeat first | refine HReg.step ?_ | refine HCode.step ?_)
    refine hif (fun h2 => ?_) (fun h2 => ?_)
    · have h2 := ltB_true.1 h2
      obtain ⟨gv, rfl⟩ := ov.addr (by omega)
      have hlt : 0 < (l ++ t).length := by rw [List.length_append]; omega
      obtain ⟨gw, rfl⟩ := ow.addr hlt
      have hx : l[j]? = some (mk i) := by rw [hrep, List.getElem?_replicate, if_pos (by omega)]
      have hy : (l ++ t)[j]? = some (mk i) := by rw [List.getElem?_append_left (by omega)]; exact hx
      (repeat first | refine HReg.step ?_ | refine HCode.step ?_)
      refine HReq.mk ⟨by omega, by omega⟩ ?_
      (repeat first | refine HReg.step ?_ | refine HCode.step ?_)
      refine HLoad.one (v := .slice (some ⟨gv, 0, none⟩) l.length cv) (by exact r5.rows.get hv) ?_
      (repeat first | refine HReg.step ?_ | refine HCode.step ?_)
      refine HReq.mk ⟨by omega, by omega⟩ ?_
      (repeat first | refine HReg.step ?_ | refine HCode.step ?_)
      refine HLoad.one (v := u8 (mk i)) (by exact ov.rows.get (u8s_get hx)) ?_
      (repeat first | refine HReg.step ?_ | refine HCode.step ?_)
      refine hif (fun h3 => absurd hby.symm (not_eqB_true.1 h3)) (fun _ => ?_)
      (repeat first | refine HReg.step ?_ | refine HCode.step ?_)
      refine HReq.mk ⟨by omega, by omega⟩ ?_
      (repeat first | refine HReg.step ?_ | refine HCode.step ?_)
      refine HLoad.one (v := .slice (some ⟨gw, 0, none⟩) (l ++ t).length cw) (by exact ro5.rows.get hw') ?_
      (repeat first | refine HReg.step ?_ | refine HCode.step ?_)
      refine HReq.mk ⟨by omega, by rw [List.length_append]; omega⟩ ?_
      (repeat first | refine HReg.step ?_ | refine HCode.step ?_)
      refine HLoad.one (v := u8 (mk i)) (by exact ow.rows.get (u8s_get hy)) ?_
      (repeat first | refine HReg.step ?_ | refine HCode.step ?_)
      refine hif (fun h3 => absurd hby.symm (not_eqB_true.1 h3)) (fun _ => ?_)
      (repeat first | refine HReg.step ?_ | refine HCode.step ?_)
      have hw : wr .i64 ((j : Int) + 1) = ((j + 1 : Nat) : Int) := by rw [wr_i64 (by omega) (by omega)]; omega
      rw [hw]
      refine Exists.intro (m10 - 1) ?_
      refine And.intro (by omega) ?_
      exact KxInv.mk ⟨j + 1, rfl, by omega, rfl⟩
    · have h2 := ltB_false.1 h2
      (repeat first | refine HReg.step ?_ | refine HCode.step ?_)
      have hw : wr .i64 ((i : Int) + 1) = ((i + 1 : Nat) : Int) := by rw [wr_i64 (by omega) (by omega)]; omega
      rw [hw]
      refine Exists.intro (m9 - 1) ?_
      refine And.intro (by omega) ?_
      exact KxInv.mk ⟨i + 1, rfl, by omega, rfl⟩
  · (repeat first | refine HReg.step ?_ | refine HCode.step ?_)
    exact hk H5 ls G5 u5
end Go.Proofs.Ytefmplilhbbiaaa
