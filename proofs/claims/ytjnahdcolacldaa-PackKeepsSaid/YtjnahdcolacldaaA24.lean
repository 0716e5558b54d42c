import Derived.Test.YtjnahdcolacldaaA23
namespace Go.Proofs.Ytjnahdcolacldaa
open Go Hv
set_option linter.unusedVariables false
set_option linter.unusedSimpArgs false
set_option maxRecDepth 10000
set_option maxHeartbeats 1000000
structure K0Inv (H : Heap) (n : Nat) (m : Nat) (vs : List Value) (H' : Heap) : Prop where
  ex : ∃ i : Nat, vs = [.int .i64 (i : Int)] ∧ m + i = n ∧ H' = H
structure K2Inv (H1 : Heap) (a : Option Addr) (n c : Nat) (V : List Value) (ns : List Nat) (T : List Nat) (H : Heap) (m : Nat) (vs : List Value) (H' : Heap) : Prop where
  ex : ∃ (i : Nat) (ls : List (List UInt8)), vs = [.int .i64 (i : Int)] ∧ m + i = n ∧ GrpM 5 H1 H' V ls ∧ Marked i ns ls ∧ OwnRow H' 23 1 a n c V ∧ Upd T H H'
structure K3Inv (H1 : Heap) (a : Option Addr) (n c i : Nat) (V : List Value) (l : List UInt8) (ls : List (List UInt8)) (T : List Nat) (H : Heap) (m : Nat) (vs : List Value) (H' : Heap) : Prop where
  ex : ∃ j : Nat, vs = [.int .i64 (j : Int)] ∧ m + j = l.length ∧ GrpM 5 H1 H' V (ls.set i (List.replicate j (mk i) ++ l.drop j)) ∧ OwnRow H' 23 1 a n c V ∧ Upd T H H'
structure MSt (H1 H : Heap) (a : Option Addr) (n c : Nat) (V : List Value) (ns : List Nat) (T : List Nat) (i t : Nat) (aL : Option Addr) (cL : Nat) (Y : List Value) (lY : List (List UInt8)) (H' : Heap) : Prop where
  G : GrpM 5 H1 H' Y lY
  C : Cont i t ns lY
  D : Held H' V ns Y
  L : OwnRow H' 23 1 aL i cL (Y.take i)
  Ln : ∀ p, aL = some p → H p.block = none
  o : OwnRow H' 23 1 a n c V
  u : Upd T H H'
  yb : ∀ y ∈ Y, ∀ b ∈ vblk y, b ∈ T ∨ H b = none
structure K6Inv (H1 H : Heap) (a : Option Addr) (n c : Nat) (V : List Value) (ns : List Nat) (T : List Nat) (m : Nat) (vs : List Value) (H' : Heap) : Prop where
  ex : ∃ (i : Nat) (aL : Option Addr) (cL : Nat) (Y : List Value) (lY : List (List UInt8)), vs = [.slice aL i cL, .int .i64 (i : Int)] ∧ m + i = n ∧ MSt H1 H a n c V ns T i 0 aL cL Y lY H' ∧ ∀ k, i ≤ k → Y[k]? = V[k]?
structure K7Inv (H1 H : Heap) (a : Option Addr) (n c : Nat) (V : List Value) (ns : List Nat) (T : List Nat) (i : Nat) (aL : Option Addr) (cL : Nat) (L0 : List Value) (m : Nat) (vs : List Value) (H' : Heap) : Prop where
  ex : ∃ (t : Nat) (y : Value) (Y : List Value) (lY : List (List UInt8)), vs = [y, .int .i64 (t : Int)] ∧ m + t = 40 ∧ Y[i]? = some y ∧ MSt H1 H a n c V ns T i t aL cL Y lY H' ∧ Y.take i = L0 ∧ ∀ k, i < k → Y[k]? = V[k]?
theorem take_set_self {α : Type} (l : List α) (i : Nat) (x : α) : (l.set i x).take i = l.take i := by
  apply List.ext_getElem?
  intro k
  rw [List.getElem?_take, List.getElem?_take]
  by_cases h : k < i
  · rw [if_pos h, if_pos h, List.getElem?_set, if_neg (by omega)]
  · rw [if_neg h, if_neg h]
theorem Held.live {H : Heap} {V Y : List Value} {ns : List Nat} (h : Held H V ns Y) : ∀ b ∈ V.flatMap vblk, H b ≠ none := fun b hb => by
  obtain ⟨v, hv, hb⟩ := List.mem_flatMap.1 hb
  obtain ⟨k, hk⟩ := List.getElem?_of_mem hv
  obtain ⟨a, c, m, _, rfl, _, h3, _⟩ := h.ok k v hk
  rw [vblk_slice] at hb
  exact h3 b hb
theorem marked_t {H1 H : Heap} {a b : Option Addr} {n c n' d : Nat} {V us : List Value} {ls : List (List UInt8)} {K : Value → Heap → Prop} (G : GrpM 5 H1 H V ls) (o : OwnRow H 23 1 a n c V) (hu : RowAt H b us) (hnn : n' = n) (cp : Copies H us ls) (hn : n ≤ 1048576) (hl : ∀ l ∈ ls, l.length ≤ 1099511627776)
    (hk : ∀ H', Upd (V.flatMap vblk) H H' → K (.bool true) H') : HCalls Try.prog 15 [.slice a n c, .slice b n' d] H K := by
  refine hcalls (fn := Try.f15) [(4, [(0, 0), (1, 0), (2, 0), (3, 0), (4, 0), (5, 0), (6, 0), (7, 0), (8, 0), (9, 0)])] mixed Try.func15 rfl rfl (by decide +kernel) ?_
  have hV : V.length = n := by have := o.len; omega
  have hls : ls.length = n := by rw [← hV]; exact G.grp.len.symm
  generalize hT : V.flatMap vblk = T at hk
  (repeat first | refine HReg.step ?_ | refine HCode.step ?_)
  refine hloopC [4, 5, 14, 15, 16, 17, 18, 19, 20, 21, 22, 23, 24, 25, 26, 27, 28, 29] [5] (K0Inv H n) rfl (by repeat' first | exact Resp.retD | exact Resp1.valuesK | refine Resp.blockD ?_ | refine Resp.thenD ?_ ?_ | refine Resp.hcode ?_) ?_ ?_
  · exact ⟨n, K0Inv.mk ⟨0, rfl, rfl, rfl⟩⟩
  rintro m _ fe H2 ⟨i, rfl, hmi, rfl⟩
  (repeat first | refine HReg.step ?_ | refine HCode.step ?_)
  refine hif (fun h1 => ?_) (fun h1 => ?_)
  · have h1 := ltB_true.1 h1
    obtain ⟨l, hli⟩ : ∃ l, ls[i]? = some l := ⟨ls[i]'(by omega), by simp⟩
    obtain ⟨v, hv, sl⟩ := G.grp.get hli
    obtain ⟨av, cv, rfl, ov⟩ := sl
    obtain ⟨au, cu, hui, ru⟩ := cp i l hli
    have w2 : wr .i64 ((i : Int) + 1) = ((i + 1 : Nat) : Int) := by rw [wr_i64 (by omega) (by omega)]; omega
    obtain ⟨ga, rfl⟩ := o.addr (by omega)
    obtain ⟨bb, bo, rfl, _⟩ := hu i _ hui
    (repeat first | refine HReg.step ?_ | refine HCode.step ?_)
    refine HReq.mk ⟨by omega, by omega⟩ ?_
    (repeat first | refine HReg.step ?_ | refine HCode.step ?_)
    refine HLoad.one (v := .slice av l.length cv) (by exact o.rows.get hv) ?_
    (repeat first | refine HReg.step ?_ | refine HCode.step ?_)
    refine HReq.mk ⟨by omega, by omega⟩ ?_
    (repeat first | refine HReg.step ?_ | refine HCode.step ?_)
    refine HLoad.one (v := .slice au l.length cu) (by exact hu.get hui) ?_
    (repeat first | refine HReg.step ?_ | refine HCode.step ?_)
    refine HCall.mk ⟨Try.f16, Try.func16, by rfl, by rfl⟩ ?_
    refine same_eq ov.rows rfl ru rfl rfl ?_
    (repeat first | refine HReg.step ?_ | refine HCode.step ?_)
    rw [w2]
    exact ⟨m - 1, by omega, K0Inv.mk ⟨i + 1, rfl, by omega, rfl⟩⟩
  have h1 := ltB_false.1 h1
  have M0 : Marked 0 (ls.map List.length) ls := ⟨by simp, fun k l hk => ⟨by simp [hk], fun h => by omega⟩⟩
  (repeat first | refine HReg.step ?_ | refine HCode.step ?_)
  refine hloopC [6, 7, 30, 31, 32, 33, 34, 35, 36, 37, 38, 39, 40, 41, 42, 43, 44, 45, 46, 47, 48, 49, 50, 51, 52, 53, 54] [6] (K2Inv H1 a n c V (ls.map List.length) T H2) rfl (by repeat' first | exact Resp.retD | exact Resp1.valuesK | refine Resp.blockD ?_ | refine Resp.thenD ?_ ?_ | refine Resp.hcode ?_) ?_ ?_
  · exact ⟨n, K2Inv.mk ⟨0, ls, rfl, rfl, G, M0, o, Upd.refl _ _⟩⟩
  rintro q _ fe2 H3 ⟨j, lj, rfl, hqj, G3, M3, o3, u3⟩
  have hlj : lj.length = n := by rw [M3.1, List.length_map]; exact hls
  (repeat first | refine HReg.step ?_ | refine HCode.step ?_)
  refine hif (fun h2 => ?_) (fun h2 => ?_)
  · have h2 := ltB_true.1 h2
    have w2 : wr .i64 ((j : Int) + 1) = ((j + 1 : Nat) : Int) := by rw [wr_i64 (by omega) (by omega)]; omega
    obtain ⟨l, hli⟩ : ∃ l, lj[j]? = some l := ⟨lj[j]'(by omega), by simp⟩
    have hlB := marked_len M3 hl hli
    obtain ⟨v, hv, sl⟩ := G3.grp.get hli
    obtain ⟨av, cv, rfl, ov⟩ := sl
    obtain ⟨ga, rfl⟩ := o3.addr (by omega)
    (repeat first | refine HReg.step ?_ | refine HCode.step ?_)
    refine hloopC [7, 36, 37, 38, 39, 40, 41, 42, 43, 44, 45, 46, 47, 48, 49, 50, 51, 52, 53, 54] [7] (K3Inv H1 (some ⟨ga, 0, none⟩) n c j V l lj T H2) rfl (by repeat' first | exact Resp.retD | exact Resp1.valuesK | refine Resp.blockD ?_ | refine Resp.thenD ?_ ?_ | refine Resp.hcode ?_) ?_ ?_
    · refine ⟨l.length, K3Inv.mk ⟨0, rfl, rfl, ?_, o3, u3⟩⟩
      have e : List.replicate 0 (mk j) ++ l.drop 0 = l := by simp
      rw [e, set_self hli]; exact G3
    rintro p _ fe3 H4 ⟨k, rfl, hpk, G4, o4, u4⟩
    (repeat first | refine HReg.step ?_ | refine HCode.step ?_)
    refine HReq.mk ⟨by omega, by omega⟩ ?_
    (repeat first | refine HReg.step ?_ | refine HCode.step ?_)
    refine HLoad.one (v := .slice av l.length cv) (by exact o4.rows.get hv) ?_
    (repeat first | refine HReg.step ?_ | refine HCode.step ?_)
    refine hif (fun h3 => ?_) (fun h3 => ?_)
    · have h3 := ltB_true.1 h3
      obtain ⟨gv, rfl⟩ := ov.addr (by omega)
      have w3 : wr .i64 ((k : Int) + 1) = ((k + 1 : Nat) : Int) := by rw [wr_i64 (by omega) (by omega)]; omega
      (repeat first | refine HReg.step ?_ | refine HCode.step ?_)
      refine HReq.mk ⟨by omega, by omega⟩ ?_
      (repeat first | refine HReg.step ?_ | refine HCode.step ?_)
      refine HLoad.one (v := .slice (some ⟨gv, 0, none⟩) l.length cv) (by exact o4.rows.get hv) ?_
      (repeat first | refine HReg.step ?_ | refine HCode.step ?_)
      refine HReq.mk (by decide) ?_
      (repeat first | refine HReg.step ?_ | refine HCode.step ?_)
      refine HReq.mk ⟨by omega, by omega⟩ ?_
      (repeat first | refine HReg.step ?_ | refine HCode.step ?_)
      rw [mk_of j]
      refine G4.store (i := j) (k := k) (l := List.replicate k (mk j) ++ l.drop k) hv (get_set hli) (by rw [List.length_append, List.length_replicate, List.length_drop]; omega) (by show 0 + k + 0 = k; omega) fun H5 G5 u5 => ?_
      (repeat first | refine HReg.step ?_ | refine HCode.step ?_)
      rw [set_set', set_rep (by omega)] at G5
      rw [w3]
      refine Exists.intro (p - 1) ?_
      refine And.intro (by omega) ?_
      refine K3Inv.mk ⟨k + 1, rfl, by omega, G5, o4.upd u5 (o4.apart G4.grp (by decide) hv), upd_join u4 u5 fun b hb => .inl ?_⟩
      rw [← hT]; exact List.mem_flatMap.2 ⟨_, List.mem_of_getElem? hv, hb⟩
    · have h3 := ltB_false.1 h3
      have hkl : k = l.length := by omega
      subst hkl
      rw [List.drop_length, List.append_nil] at G4
      (repeat first | refine HReg.step ?_ | refine HCode.step ?_)
      rw [w2]
      refine Exists.intro (q - 1) ?_
      refine And.intro (by omega) ?_
      exact K2Inv.mk ⟨j + 1, _, rfl, by omega, G4, M3.step hli, o4, u4⟩
  have h2 := ltB_false.1 h2
  have hjn : j = n := by omega
  subst hjn
  have hnl : (ls.map List.length).length ≤ j := by rw [List.length_map]; omega
  have hlive : ∀ b ∈ T, H3 b ≠ none := fun b hb => by
    rw [← hT] at hb
    obtain ⟨v, hv, hb⟩ := List.mem_flatMap.1 hb
    obtain ⟨k, hk⟩ := List.getElem?_of_mem hv
    obtain ⟨cu, z, h⟩ := G3.grp.live hk hb
    rw [h]; simp
  (repeat first | refine HReg.step ?_ | refine HCode.step ?_)
  refine hloopC [8, 9, 10, 11, 55, 56, 57, 58, 59, 60, 61, 62, 63, 64, 65, 66, 67, 68, 69, 70, 71, 72, 73, 74, 75, 76, 77, 78, 79] [8, 9] (K6Inv H1 H3 a j c V (ls.map List.length) T) rfl (by repeat' first | exact Resp.retD | exact Resp1.valuesK | refine Resp.blockD ?_ | refine Resp.thenD ?_ ?_ | refine Resp.hcode ?_) ?_ ?_
  · refine ⟨j, K6Inv.mk ⟨0, none, 0, V, lj, rfl, rfl, ?_, fun _ _ => rfl⟩⟩
    refine ⟨G3, Cont.of M3 hnl, Held.of G3.grp M3 hnl, by rw [List.take_zero]; exact OwnRow.nil _ _ _, fun p hp => (by cases hp), o3, Upd.trans (Upd.refl _ _) (Upd.refl _ _), fun y hy b hb => .inl ?_⟩
    rw [← hT]; exact List.mem_flatMap.2 ⟨y, hy, hb⟩
  rintro q _ fe5 H4 ⟨i, aL, cL, Y, lY, rfl, hqi, s4, tl4⟩
  have hlY : lY.length = j := by have h5 := s4.C.1; rw [List.length_map] at h5; omega
  have hY : Y.length = j := by have h6 := s4.G.grp.len; omega
  (repeat first | refine HReg.step ?_ | refine HCode.step ?_)
  refine hif (fun h3 => ?_) (fun h3 => ?_)
  · have h3 := ltB_true.1 h3
    obtain ⟨y0, hy0⟩ : ∃ v, Y[i]? = some v := ⟨Y[i]'(by omega), by simp⟩
    have hv0 : V[i]? = some y0 := by rw [← tl4 i (Nat.le_refl _)]; exact hy0
    obtain ⟨ga, rfl⟩ := o.addr (by omega)
    have w3 : wr .i64 ((i : Int) + 1) = ((i + 1 : Nat) : Int) := by rw [wr_i64 (by omega) (by omega)]; omega
    obtain ⟨m0, hm0⟩ : ∃ m, (ls.map List.length)[i]? = some m := ⟨_, List.getElem?_eq_getElem (by rw [List.length_map]; omega)⟩
    have hm0B : m0 ≤ 1099511627776 := by
      rw [List.getElem?_map] at hm0
      obtain ⟨x, hx⟩ : ∃ x, ls[i]? = some x := ⟨ls[i]'(by omega), by simp⟩
      rw [hx] at hm0
      have e : x.length = m0 := Option.some.inj hm0
      rw [← e]; exact hl x (List.mem_of_getElem? hx)
    (repeat first | refine HReg.step ?_ | refine HCode.step ?_)
    refine HReq.mk ⟨by omega, by omega⟩ ?_
    (repeat first | refine HReg.step ?_ | refine HCode.step ?_)
    refine HLoad.one (v := y0) (by exact s4.o.rows.get hv0) ?_
    (repeat first | refine HReg.step ?_ | refine HCode.step ?_)
    refine hloopC [10, 11, 65, 66, 67, 68, 69, 70, 71, 72, 73, 74, 75] [10, 11] (K7Inv H1 H3 (some ⟨ga, 0, none⟩) j c V (ls.map List.length) T i aL cL (Y.take i)) rfl (by repeat' first | exact Resp.retD | exact Resp1.valuesK | refine Resp.blockD ?_ | refine Resp.thenD ?_ ?_ | refine Resp.hcode ?_) ?_ ?_
    · exact ⟨40, K7Inv.mk ⟨0, y0, Y, lY, rfl, rfl, hy0, s4, rfl, fun k hk => tl4 k (by omega)⟩⟩
    rintro p _ fe6 H5 ⟨t, y, Y5, lY5, rfl, hpt, hy5, s5, tk5, tl5⟩
    have hlY5 : lY5.length = j := by have h5 := s5.C.1; rw [List.length_map] at h5; omega
    have hY5 : Y5.length = j := by have h6 := s5.G.grp.len; omega
    obtain ⟨l, hli⟩ : ∃ l, lY5[i]? = some l := ⟨lY5[i]'(by omega), by simp⟩
    obtain ⟨m0', hm0', hcont⟩ := s5.C.2 i l hli
    obtain rfl : m0 = m0' := by rw [hm0] at hm0'; exact Option.some.inj hm0'
    rw [if_neg (by omega), if_pos rfl] at hcont
    obtain ⟨lv, hlv, a5, c5, rfl, o5⟩ := s5.G.grp.val hy5
    obtain rfl : l = lv := by rw [hli] at hlv; exact Option.some.inj hlv
    subst hcont
    rw [List.length_replicate] at o5 hy5 ⊢
    (repeat first | refine HReg.step ?_ | refine HCode.step ?_)
    refine hif (fun h4 => ?_) (fun h4 => ?_)
    · have h4 := ltB_true.1 h4
      have w4 : wr .i64 ((t : Int) + 1) = ((t + 1 : Nat) : Int) := by rw [wr_i64 (by omega) (by omega)]; omega
      (repeat first | refine HReg.step ?_ | refine HCode.step ?_)
      refine HReq.mk (by decide) ?_
      (repeat first | refine HReg.step ?_ | refine HCode.step ?_)
      refine HReq.mk (by decide) ?_
      (repeat first | refine HReg.step ?_ | refine HCode.step ?_)
      rw [mk_of i]
      refine HNew.mk fun b7 hb7 => ?_
      have u7 : Upd [] H5 (H5.upd b7 (.cells [u8 (mk i)].toArray 5)) := Upd.new hb7 _
      have r7 : RowAt (H5.upd b7 (.cells [u8 (mk i)].toArray 5)) (some ⟨b7, 0, none⟩) (u8s [mk i]) := row_lit (upd_same _ _ _) rfl
      generalize hH7 : H5.upd b7 (.cells [u8 (mk i)].toArray 5) = H7 at u7 r7
      have o7 := o5.upd u7 (Off.nil _)
      (repeat first | refine HReg.step ?_ | refine HCode.step ?_)
      refine append_rows' (ie := Try.t5) (z := .int .u8 0) (ys := u8s [mk i]) (xs := u8s (List.replicate (m0 + t) (mk i))) Try.underlying23 rfl rfl rfl (by decide) o7 r7 rfl (plain_u8s _) (by show (m0 + t + 1) * 1 ≤ _; omega) (by omega) fun a8 c8 H8 o8 u8' f8 q1 => ?_
      rw [← u8s_append] at o8
      have hlen8 : (List.replicate (m0 + t) (mk i) ++ [mk i]).length = m0 + t + 1 := by simp
      have s8 : Sle 5 H8 (.slice a8 (m0 + t + 1) c8) (List.replicate (m0 + t) (mk i) ++ [mk i]) := ⟨a8, c8, by rw [hlen8], by rw [hlen8]; exact o8⟩
      have G7 := s5.G.step0 u7
      have D7 := s5.D.upd u7 (by simp)
      have L7 := s5.L.upd u7 (Off.nil _)
      have oo7 := s5.o.upd u7 (Off.nil _)
      have u07 : Upd T H3 H7 := upd_join s5.u u7 (by simp)
      have hT7 : ∀ b ∈ T, H7 b ≠ none := by rw [← hT]; exact D7.live
      have yb5 : ∀ b ∈ blk a5, b ∈ T ∨ H3 b = none := fun b hb => s5.yb _ (List.mem_of_getElem? hy5) b (by rw [vblk_slice]; exact hb)
      have nb8 : ∀ b ∈ blk a8, b ∈ blk a5 ∨ H7 b = none := fun b hb => by
        obtain ⟨p, hp, rfl⟩ := blk_of hb
        rcases f8 p hp with h | h
        · left; rw [h]; simp [blk]
        · exact .inr h
      have hY8 : (Y5.set i (.slice a8 (m0 + t + 1) c8))[i]? = some (.slice a8 (m0 + t + 1) c8) := get_set hy5
      (repeat first | refine HReg.step ?_ | refine HCode.step ?_)
      rw [w4]
      refine Exists.intro (p - 1) ?_
      refine And.intro (by omega) ?_
      refine K7Inv.mk ⟨t + 1, _, _, lY5.set i (List.replicate (m0 + t) (mk i) ++ [mk i]), rfl, by omega, hY8, ⟨?_, s5.C.more hli, ?_, ?_, s5.Ln, ?_, ?_, ?_⟩, ?_, ?_⟩
      · exact G7.change hy5 (by rw [vblk_slice]; exact u8') s8 (fun b hb => by rw [vblk_slice] at hb ⊢; exact nb8 b hb)
      · exact held_push D7 hm0 hy5 o8 u8' f8 (fun h => (q1.1 h).1) q1.2
      · rw [take_set_self]; exact L7.upd u8' (o7.offT L7 (by decide))
      · exact oo7.upd u8' (o7.offT oo7 (by decide))
      · exact upd_join u07 u8' yb5
      · intro y hy b hb
        rcases List.mem_or_eq_of_mem_set hy with h | rfl
        · exact s5.yb y h b hb
        · rw [vblk_slice] at hb
          rcases nb8 b hb with h | h
          · exact yb5 b h
          · exact .inr (upd_none' u07 hT7 h)
      · rw [take_set_self]; exact tk5
      · intro k hk; rw [List.getElem?_set, if_neg (by omega)]; exact tl5 k hk
    · have h4 := ltB_false.1 h4
      have ht40 : t = 40 := by omega
      subst ht40
      (repeat first | refine HReg.step ?_ | refine HCode.step ?_)
      refine HReq.mk (by decide) ?_
      (repeat first | refine HReg.step ?_ | refine HCode.step ?_)
      refine HNew.mk fun b7 hb7 => ?_
      have u7 : Upd [] H5 (H5.upd b7 (.cells [Value.slice a5 (m0 + 40) c5].toArray 23)) := Upd.new hb7 _
      have r7 : RowAt (H5.upd b7 (.cells [Value.slice a5 (m0 + 40) c5].toArray 23)) (some ⟨b7, 0, none⟩) [Value.slice a5 (m0 + 40) c5] := RowAt.of_cells (upd_same _ _ _)
      generalize hH7 : H5.upd b7 (.cells [Value.slice a5 (m0 + 40) c5].toArray 23) = H7 at u7 r7
      have L7 := s5.L.upd u7 (Off.nil _)
      have u07 : Upd T H3 H7 := upd_join s5.u u7 (by simp)
      have D7 := s5.D.upd u7 (by simp)
      have hT7 : ∀ b ∈ T, H7 b ≠ none := by rw [← hT]; exact D7.live
      (repeat first | refine HReg.step ?_ | refine HCode.step ?_)
      refine append_rows (ie := Try.t23) (z := .slice none 0 0) (xs := Y5.take i) (ys := [Value.slice a5 (m0 + 40) c5]) Try.underlying30 rfl rfl rfl (by decide) L7 r7 rfl ?_ ?_ (by omega) fun a8 c8 H8 o8 u8' f8 => ?_
      · intro v hv; rw [List.mem_singleton.1 hv]; rfl
      · show (i + 1) * 24 ≤ _; omega
      have fo : ∀ b ∈ blk aL, H3 b = none := fun b hb => by
        obtain ⟨p, hp, rfl⟩ := blk_of hb
        exact s5.Ln p hp
      have n1 : ∀ b ∈ blk aL, H1 b = none := fun b hb => Upd.none (S := []) G3.upd (by simp) (fo b hb)
      have G7 := s5.G.step0 u7
      have oo7 := s5.o.upd u7 (Off.nil _)
      (repeat first | refine HReg.step ?_ | refine HCode.step ?_)
      rw [w3]
      refine Exists.intro (q - 1) ?_
      refine And.intro (by omega) ?_
      have etk : Y5.take (i + 1) = Y5.take i ++ [Value.slice a5 (m0 + 40) c5] := by rw [List.take_add_one, hy5]; rfl
      refine K6Inv.mk ⟨i + 1, a8, c8, Y5, lY5, rfl, by omega, ⟨?_, s5.C.next, ?_, ?_, ?_, ?_, ?_, s5.yb⟩, fun k hk => tl5 k (by omega)⟩
      · exact G7.step u8' (L7.notT (by decide)) n1
      · refine D7.upd u8' fun b hb => .inr fun v hv hb' => ?_
        exact hlive b (by rw [← hT]; exact List.mem_flatMap.2 ⟨v, hv, hb'⟩) (fo b hb)
      · rw [etk]; exact o8
      · intro p hp
        rcases f8 p hp with h | h
        · exact s5.Ln p h
        · exact upd_none' u07 hT7 h
      · exact oo7.upd u8' (fun p hp hb => by
          have h1 : H3 p.block ≠ none := o3.there hp
          exact h1 (fo p.block hb))
      · exact upd_join u07 u8' fun b hb => .inr (fo b hb)
  have h3 := ltB_false.1 h3
  have hij : i = j := by omega
  subst hij
  have hYt : Y.take i = Y := List.take_of_length_le (by omega)
  have L4 := s4.L
  rw [hYt] at L4
  (repeat first | refine HReg.step ?_ | refine HCode.step ?_)
  refine hloopC [4, 12, 13, 80, 81, 82, 83, 84, 85, 86, 87, 88, 89, 90, 91, 92, 93, 94, 95, 96, 97, 98, 99, 100, 101, 102, 103, 104, 105, 106, 107, 108, 109, 110, 111, 112, 113, 114, 115, 116, 117, 118, 119, 120, 121, 122, 123, 124, 125, 126, 127, 128, 129] [12] (K0Inv H4 i) rfl (by repeat' first | exact Resp.retD | exact Resp1.valuesK | refine Resp.blockD ?_ | refine Resp.thenD ?_ ?_ | refine Resp.hcode ?_) ?_ ?_
  · exact ⟨i, K0Inv.mk ⟨0, rfl, rfl, rfl⟩⟩
  rintro q2 _ fe7 H5 ⟨k, rfl, hqk, rfl⟩
  (repeat first | refine HReg.step ?_ | refine HCode.step ?_)
  refine hif (fun h4 => ?_) (fun h4 => ?_)
  · have h4 := ltB_true.1 h4
    obtain ⟨l, hlk⟩ : ∃ l, lY[k]? = some l := ⟨lY[k]'(by omega), by simp⟩
    obtain ⟨m0, hm0, hcont⟩ := s4.C.2 k l hlk
    rw [if_pos (by omega)] at hcont
    obtain ⟨y, hy, a5, c5, rfl, o5⟩ := s4.G.grp.get hlk
    obtain ⟨v, hv⟩ : ∃ v, V[k]? = some v := ⟨V[k]'(by omega), by simp⟩
    obtain ⟨av, cv, m0', hm0', rfl, rv, _, _⟩ := s4.D.ok k v hv
    obtain rfl : m0 = m0' := by rw [hm0] at hm0'; exact Option.some.inj hm0'
    subst hcont
    rw [List.length_replicate] at o5 hy
    have hm0B : m0 ≤ 1099511627776 := by
      rw [List.getElem?_map] at hm0
      obtain ⟨x, hx⟩ : ∃ x, ls[k]? = some x := ⟨ls[k]'(by omega), by simp⟩
      rw [hx] at hm0
      have e : x.length = m0 := Option.some.inj hm0
      rw [← e]; exact hl x (List.mem_of_getElem? hx)
    have w3 : wr .i64 ((k : Int) + 1) = ((k + 1 : Nat) : Int) := by rw [wr_i64 (by omega) (by omega)]; omega
    obtain ⟨ga, rfl⟩ := o.addr (by omega)
    obtain ⟨gl, rfl⟩ := L4.addr (by omega)
    obtain ⟨gy, rfl⟩ := o5.addr (by omega)
    (repeat first | refine HReg.step ?_ | refine HCode.step ?_)
    refine hloopC [4, 13, 86, 87, 88, 89, 90, 91, 92, 93, 94, 95, 96, 97, 98, 99, 100, 101, 102, 103, 104, 105, 106, 107, 108, 109, 110, 111, 112, 113, 114, 115, 116, 117, 118, 119, 120, 121, 122, 123, 124, 125, 126, 127, 128, 129] [13] (K0Inv H5 (m0 + 40)) rfl (by repeat' first | exact Resp.retD | exact Resp1.valuesK | refine Resp.blockD ?_ | refine Resp.thenD ?_ ?_ | refine Resp.hcode ?_) ?_ ?_
    · exact ⟨m0 + 40, K0Inv.mk ⟨0, rfl, rfl, rfl⟩⟩
    rintro q3 _ fe8 H6 ⟨r, rfl, hqr, rfl⟩
    (repeat first | refine HReg.step ?_ | refine HCode.step ?_)
    refine HReq.mk ⟨by omega, by omega⟩ ?_
    (repeat first | refine HReg.step ?_ | refine HCode.step ?_)
    refine HLoad.one (v := .slice (some ⟨gy, 0, none⟩) (m0 + 40) c5) (by exact L4.rows.get hy) ?_
    (repeat first | refine HReg.step ?_ | refine HCode.step ?_)
    refine hif (fun h5 => ?_) (fun h5 => ?_)
    · have h5 := ltB_true.1 h5
      have w4 : wr .i64 ((r : Int) + 1) = ((r + 1 : Nat) : Int) := by rw [wr_i64 (by omega) (by omega)]; omega
      have hby : wr .u8 (wr .i64 (1 + Int.tmod (k : Int) 250)) = ((mk k).toNat : Int) := (Value.int.inj (mk_of k)).2
      have hx : (List.replicate (m0 + 40) (mk k))[r]? = some (mk k) := by rw [List.getElem?_replicate, if_pos (by omega)]
      (repeat first | refine HReg.step ?_ | refine HCode.step ?_)
      refine HReq.mk ⟨by omega, by omega⟩ ?_
      (repeat first | refine HReg.step ?_ | refine HCode.step ?_)
      refine HLoad.one (v := .slice (some ⟨gy, 0, none⟩) (m0 + 40) c5) (by exact L4.rows.get hy) ?_
      (repeat first | refine HReg.step ?_ | refine HCode.step ?_)
      refine HReq.mk ⟨by omega, by omega⟩ ?_
      (repeat first | refine HReg.step ?_ | refine HCode.step ?_)
      refine HLoad.one (v := u8 (mk k)) (by exact o5.rows.get (u8s_get hx)) ?_
      (repeat first | refine HReg.step ?_ | refine HCode.step ?_)
      refine HReq.mk (by decide) ?_
      (repeat first | refine HReg.step ?_ | refine HCode.step ?_)
      rw [hby, eqB_self]
      (repeat first | refine HReg.step ?_ | refine HCode.step ?_)
      refine HReq.mk ⟨by omega, by omega⟩ ?_
      (repeat first | refine HReg.step ?_ | refine HCode.step ?_)
      refine HLoad.one (v := .slice av m0 cv) (by exact s4.o.rows.get hv) ?_
      (repeat first | refine HReg.step ?_ | refine HCode.step ?_)
      refine hif (fun h6 => ?_) (fun h6 => ?_)
      · have h6 := ltB_true.1 h6
        (repeat first | refine HReg.step ?_ | refine HCode.step ?_)
        refine HReq.mk ⟨by omega, by omega⟩ ?_
        (repeat first | refine HReg.step ?_ | refine HCode.step ?_)
        refine HLoad.one (v := .slice av m0 cv) (by exact s4.o.rows.get hv) ?_
        have hx2 : (List.replicate m0 (mk k))[r]? = some (mk k) := by rw [List.getElem?_replicate, if_pos (by omega)]
        obtain ⟨gv, go, rfl, _⟩ := rv r _ (u8s_get hx2)
        (repeat first | refine HReg.step ?_ | refine HCode.step ?_)
        refine HReq.mk ⟨by omega, by omega⟩ ?_
        (repeat first | refine HReg.step ?_ | refine HCode.step ?_)
        refine HLoad.one (v := u8 (mk k)) (by exact rv.get (u8s_get hx2)) ?_
        (repeat first | refine HReg.step ?_ | refine HCode.step ?_)
        refine HReq.mk (by decide) ?_
        (repeat first | refine HReg.step ?_ | refine HCode.step ?_)
        rw [hby, eqB_self]
        (repeat first | refine HReg.step ?_ | refine HCode.step ?_)
        rw [w4]
        exact ⟨q3 - 1, by omega, K0Inv.mk ⟨r + 1, rfl, by omega, rfl⟩⟩
      · (repeat first | refine HReg.step ?_ | refine HCode.step ?_)
        rw [w4]
        exact ⟨q3 - 1, by omega, K0Inv.mk ⟨r + 1, rfl, by omega, rfl⟩⟩
    · have h5 := ltB_false.1 h5
      (repeat first | refine HReg.step ?_ | refine HCode.step ?_)
      rw [w3]
      exact ⟨q2 - 1, by omega, K0Inv.mk ⟨k + 1, rfl, by omega, rfl⟩⟩
  · (repeat first | refine HReg.step ?_ | refine HCode.step ?_)
    exact hk _ (u3.trans s4.u)
end Go.Proofs.Ytjnahdcolacldaa
