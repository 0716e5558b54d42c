import Derived.Test.YtjnahdcolacldaaA19
import Derived.Test.YtjnahdcolacldaaA20
namespace Go.Proofs.Ytjnahdcolacldaa
open Go Hv
set_option linter.unusedVariables false
set_option linter.unusedSimpArgs false
set_option maxRecDepth 10000
set_option maxHeartbeats 1000000
/-! PackStays -/
theorem store_op {H : Heap} {b : Nat} {o : Opk} {xs : List Value} {K : Heap → Prop} (h : OwnRow H 34 1 (some ⟨b, 0, none⟩) 6 6 xs) (hl : xs.length = 6)
    (hk : ∀ H', OwnRow H' 34 1 (some ⟨b, 0, none⟩) 6 6 (ocells o) → Upd [b] H H' → K H') : storeN H b 0 0 K (ocells o) := by
  obtain ⟨x0, x1, x2, x3, x4, x5, rfl⟩ : ∃ a b c d e f, xs = [a, b, c, d, e, f] := by
    match xs, hl with
    | [a, b, c, d, e, f], _ => exact ⟨a, b, c, d, e, f, rfl⟩
  refine store_row h (v := .int .i64 o.kind) rfl (i := 0) (by decide) (by rfl) fun H1 o1 u1 => ?_
  refine store_row o1 (v := .int .u64 (o.v : Int)) rfl (i := 1) (by decide) (by rfl) fun H2 o2 u2 => ?_
  refine store_row o2 (v := .string (bs o.s)) rfl (i := 2) (by decide) (by rfl) fun H3 o3 u3 => ?_
  refine store_row o3 (v := .slice o.al o.nl o.cl) rfl (i := 3) (by decide) (by rfl) fun H4 o4 u4 => ?_
  refine store_row o4 (v := .int .i64 o.n) rfl (i := 4) (by decide) (by rfl) fun H5 o5 u5 => ?_
  refine store_row o5 (v := .int .i64 o.m) rfl (i := 5) (by decide) (by rfl) fun H6 o6 u6 => ?_
  exact hk H6 o6 (((((u1.trans u2).trans u3).trans u4).trans u5).trans u6)
structure Q1Inv (H : Heap) (g g2 : Nat) (T : List Nat) (lim : Nat) (ops : List Opk) (m : Nat) (vs : List Value) (H' : Heap) : Prop where
  ex : ∃ (i : Nat) (S : List Nat) (w : W) (r : R), vs = [.int .i64 (i : Int)] ∧ m + i = ops.length ∧ WAt H H' g S w ∧ RAt H H' g2 T r ∧ Apart S T ∧ w.lim = lim ∧ w.out.length ≤ opsLen (ops.take i)
theorem repL_one : ∀ (n : Nat) (v : Value), repL n [v] = List.replicate n v
  | 0, v => rfl
  | n + 1, v => by unfold repL; rw [repL_one n v]; rfl
theorem zeros_row (k : Nat) : repL k [Value.int .u8 0] = u8s (List.replicate k 0) := by
  rw [repL_one]; unfold u8s; rw [List.map_replicate]; rfl
theorem zeros_rowZ {H : Heap} {b n m : Nat} {X : List Value} (hX : X = [Value.int .u8 0]) (hn : n = m) : RowAt (H.upd b (.cells (repL n X).toArray 5)) (some ⟨b, 0, none⟩) (u8s (List.replicate m 0)) := by
  subst hX; subst hn
  rw [← zeros_row]; exact RowAt.of_cells (upd_same _ _ _)
structure Q2J (H : Heap) (g g2 : Nat) (T : List Nat) (vs : List Value) (H' : Heap) : Prop where
  ex : ∃ (S : List Nat) (w : W) (r : R), vs = [] ∧ WAt H H' g S w ∧ RAt H H' g2 T r ∧ Apart S T ∧ w.out.length ≤ 10000000
structure Q3Inv (H : Heap) (g g2 : Nat) (S T : List Nat) (w : W) (m : Nat) (vs : List Value) (H' : Heap) : Prop where
  ex : ∃ (j : Nat) (r : R), vs = [.int .i64 (j : Int)] ∧ m + j = 131072 ∧ WAt H H' g S w ∧ RAt H H' g2 T r
structure Q4Inv (H : Heap) (g g2 : Nat) (T : List Nat) (w : W) (r : R) (n : Nat) (m : Nat) (vs : List Value) (H' : Heap) : Prop where
  ex : ∃ (j : Nat) (S : List Nat), vs = [.int .i64 (j : Int)] ∧ m + j = n ∧ WAt H H' g S w ∧ RAt H H' g2 T r ∧ Apart S T
theorem packStays_t {limit : Int} {ab a a3 : Option Addr} {nb cb k c k3 c3 : Nat} {l : List UInt8} {ops more : List Opk} {H : Heap} {K : Value → Heap → Prop} (hlimit : limit ≤ 9223372036854775807) (hlimit0 : -9223372036854775808 ≤ limit)
    (rl : RowAt H ab (u8s l)) (hl : l.length = nb) (hnb : nb ≤ 1048576)
    (ro : RowAt H a (orow ops)) (lo : ops.length = k) (bo : ∀ o ∈ ops, OpOk H o) (bk : opsLen ops ≤ 4194304) (bl : k ≤ 1048576)
    (ro3 : RowAt H a3 (orow more)) (lo3 : more.length = k3) (bo3 : ∀ o ∈ more, OpOk H o) (bk3 : opsLen more ≤ 4194304) (bl3 : k3 ≤ 1048576)
    (hk : ∀ H', Upd [] H H' → K (.bool true) H') : HCalls Try.prog 7 [.int .i64 limit, .slice ab nb cb, .slice a k c, .slice a3 k3 c3] H K := by
  refine hcalls (fn := Try.f7) [] mixed Try.func7 rfl rfl (by decide +kernel) ?_
  (repeat first | refine HReg.step ?_ | refine HCode.step ?_)
  refine HCall.mk ⟨Try.f8, Try.func8, by rfl, by rfl⟩ ?_
  refine newW_t hlimit fun g S1 H1 d1 => ?_
  (repeat first | refine HReg.step ?_ | refine HCode.step ?_)
  refine HCall.mk ⟨Try.f9, Try.func9, by rfl, by rfl⟩ ?_
  refine newR_t (rl.upd (S := []) d1.base (.inr (Off.nil _))) hl (by omega) fun g2 T H2 e2 => ?_
  have ap : Apart S1 T := (Apart.new e2.new d1.live).symm
  have d2 := d1.upd0 e2.base
  have e2 := e2.back d1.base
  (repeat first | refine HReg.step ?_ | refine HCode.step ?_)
  refine HCall.mk ⟨Try.f10, Try.func10, by rfl, by rfl⟩ ?_
  refine known_t fun H3 u3 => ?_
  have d3 := d2.upd0 u3
  have e3 := e2.upd0 u3
  (repeat first | refine HReg.step ?_ | refine HCode.step ?_)
  refine hloopC [8, 11, 12, 13, 14, 15, 16, 17, 41, 42, 43, 44, 45, 46, 47, 48, 49, 50, 51, 52, 53, 54, 55, 56, 57, 58, 59, 60, 61, 62, 63, 64, 65, 66, 67, 68, 69, 70, 71, 72, 73, 74, 75, 76, 77, 78, 79, 80, 81, 82, 83, 84, 85, 86, 87, 88, 89, 90, 91, 92, 93, 94, 95, 96, 97, 98, 99, 100, 101, 102, 103, 104, 105, 106, 107, 108, 109, 110, 111, 112, 113] [11] (Q1Inv H g g2 T (max limit 0).toNat ops) rfl (by repeat' first | exact Resp.retD | exact Resp1.valuesK | refine Resp.blockD ?_ | refine Resp.thenD ?_ ?_ | refine Resp.hcode ?_) ?_ ?_
  · exact ⟨ops.length, Q1Inv.mk ⟨0, S1, _, _, rfl, rfl, d3, e3, ap, rfl, Nat.zero_le _⟩⟩
  rintro m _ fe H4 ⟨i, S, w, r, rfl, hmi, d4, e4, ap4, hwl, hwo⟩
  have htk := opsLen_take ops i
  (repeat first | refine HReg.step ?_ | refine HCode.step ?_)
  refine hif (fun h1 => ?_) (fun h1 => ?_)
  · have h1 := ltB_true.1 h1
    obtain ⟨o, ho⟩ : ∃ o, ops[i]? = some o := ⟨ops[i]'(by omega), by simp⟩
    have hom := bo o (List.mem_of_getElem? ho)
    have hgo := opsLen_get ho
    have htk1 := opsLen_take ops (i + 1)
    have ro4 := ro.upd (S := []) d4.base (.inr (Off.nil _))
    obtain ⟨ba, bo', rfl, _⟩ := ro4 _ _ (orow_get ho 0 _ rfl)
    have w2 : wr .i64 ((i : Int) + 1) = ((i + 1 : Nat) : Int) := by rw [wr_i64 (by omega) (by omega)]; omega
    (repeat first | refine HReg.step ?_ | refine HCode.step ?_)
    refine HReq.mk ⟨by omega, by omega⟩ ?_
    (repeat first | refine HReg.step ?_ | refine HCode.step ?_)
    refine HLoadN_op ro4 ho ?_
    (repeat first | refine HReg.step ?_ | refine HCode.step ?_)
    refine HNew.mk fun b hb => ?_
    (repeat first | refine HReg.step ?_ | refine HCode.step ?_)
    refine store_op (o := o) (OwnRow.lit (upd_same _ _ _) rfl) rfl fun H5 o5 u5 => ?_
    have u45 : Upd [] H4 H5 := Upd.drop (Upd.new hb _) u5 (fun x hx => by rw [List.mem_singleton.1 hx]; exact hb)
    have d5 := d4.upd0 u45
    have e5 := e4.upd0 u45
    have rb5 := o5.rows
    (repeat first | refine HReg.step ?_ | refine HCode.step ?_)
    refine HCall.mk ⟨Try.f19, Try.func19, by rfl, by rfl⟩ ?_
    refine len_t d5 ?_
    (repeat first | refine HReg.step ?_ | refine HCode.step ?_)
    refine HCall.mk ⟨Try.f24, Try.func24, by rfl, by rfl⟩ ?_
    refine left_t e5 ?_
    (repeat first | refine HReg.step ?_ | refine HCode.step ?_)
    refine HCall.mk ⟨Try.f26, Try.func26, by rfl, by rfl⟩ ?_
    refine err_t e5 ?_
    (repeat first | refine HReg.step ?_ | refine HCode.step ?_)
    refine HLoadN_row rb5 rfl ?_
    (repeat first | refine HReg.step ?_ | refine HCode.step ?_)
    refine HCall.mk ⟨Try.f12, Try.func12, by rfl, by rfl⟩ ?_
    refine write_t d5 hom (by omega) fun S6 H6 d6 f6 => ?_
    have e6 := e5.upd f6.upd (fun b hb => ap4.symm b hb) d5.new
    have ap6 := ap4.foot f6 e5.live
    have hbS : b ∉ S := fun hm => d4.live b hm hb
    have rb6 : RowAt H6 (some ⟨b, 0, none⟩) (ocells o) := rb5.upd f6.upd (.inr (off_notin fun b' hb' hm => hbS (by
      obtain ⟨p, hp, rfl⟩ := blk_of hb'
      cases hp; exact hm)))
    have hg6 := lay_grow (w := w) (b := opB o)
    have hs6 := lay_stay (w := w) (b := opB o)
    rw [← op_lay] at hg6 hs6
    have hl6 := W.op_len w o
    have hwl6 : (w.op o).lim = w.lim := by rw [op_lay]; exact W.lay_len.2
    have hle6 := d6.ok.le
    generalize w.op o = w6 at *
    (repeat first | refine HReg.step ?_ | refine HCode.step ?_)
    refine HCall.mk ⟨Try.f14, Try.func14, by rfl, by rfl⟩ ?_
    refine out_t d6 (by omega) fun aO cO H7 m7 => ?_
    have d7 := d6.upd0 m7.upd
    have e7 := e6.upd0 m7.upd
    have rb7 := rb6.upd (S := []) m7.upd (.inr (Off.nil _))
    have hmx : ((max limit 0).toNat : Int) = max limit 0 := by omega
    have b1 : ltB (w6.out.length : Int) (w.out.length : Int) = false := ltB_false.2 (by omega)
    have b2 : ltB (max limit 0) (w6.out.length : Int) = false := ltB_false.2 (by omega)
    (repeat first | refine HReg.step ?_ | refine HCode.step ?_)
    by_cases he : w6.err = 0
    · rw [he, eqB_self 0]
      (repeat first | refine HReg.step ?_ | refine HCode.step ?_)
      refine HCall.mk ⟨Try.f19, Try.func19, by rfl, by rfl⟩ ?_
      refine len_t d7 ?_
      (repeat first | refine HReg.step ?_ | refine HCode.step ?_)
      rw [b1]
      (repeat first | refine HReg.step ?_ | refine HCode.step ?_)
      refine HCall.mk ⟨Try.f19, Try.func19, by rfl, by rfl⟩ ?_
      refine len_t d7 ?_
      (repeat first | refine HReg.step ?_ | refine HCode.step ?_)
      rw [ite_mx, ite_max, b2]
      (repeat first | refine HReg.step ?_ | refine HCode.step ?_)
      refine HLoadN_row rb7 rfl ?_
      (repeat first | refine HReg.step ?_ | refine HCode.step ?_)
      refine HCall.mk ⟨Try.f32, Try.func32, by rfl, by rfl⟩ ?_
      refine calls_t e7 hom fun H8 e8 u8 => ?_
      have d8 := d7.upd u8 (notg ap6 e7.mem) (noneg e7.new e7.mem)
      have hL := op_left r o
      generalize r.op o = r8 at *
      have hle := hL.le
      have c1 : ltB (r.rest.length : Int) (r8.rest.length : Int) = false := ltB_false.2 (by omega)
      (repeat first | refine HReg.step ?_ | refine HCode.step ?_)
      refine HCall.mk ⟨Try.f26, Try.func26, by rfl, by rfl⟩ ?_
      refine err_t e8 ?_
      (repeat first | refine HReg.step ?_ | refine HCode.step ?_)
      by_cases h8 : r8.err = 0
      · have hr0 : r.err = 0 := Classical.byContradiction fun hne => by rw [hL.keep hne] at h8; exact hne h8
        rw [h8, eqB_self 0]
        (repeat first | refine HReg.step ?_ | refine HCode.step ?_)
        refine HCall.mk ⟨Try.f24, Try.func24, by rfl, by rfl⟩ ?_
        refine left_t e8 ?_
        (repeat first | refine HReg.step ?_ | refine HCode.step ?_)
        rw [c1]
        (repeat first | refine HReg.step ?_ | refine HCode.step ?_)
        rw [hr0, eqB_self 0]
        (repeat first | refine HReg.step ?_ | refine HCode.step ?_)
        rw [w2]
        exact ⟨m - 1, by omega, Q1Inv.mk ⟨i + 1, S6, w6, r8, rfl, by omega, d8, e8, ap6, by omega, by omega⟩⟩
      · rw [eqB_false.2 h8]
        (repeat first | refine HReg.step ?_ | refine HCode.step ?_)
        refine HCall.mk ⟨Try.f24, Try.func24, by rfl, by rfl⟩ ?_
        refine left_t e8 ?_
        rw [hL.stay h8]
        (repeat first | refine HReg.step ?_ | refine HCode.step ?_)
        rw [eqB_self (r.rest.length : Int)]
        (repeat first | refine HReg.step ?_ | refine HCode.step ?_)
        refine HCall.mk ⟨Try.f24, Try.func24, by rfl, by rfl⟩ ?_
        refine left_t e8 ?_
        (repeat first | refine HReg.step ?_ | refine HCode.step ?_)
        rw [c1]
        (repeat first | refine HReg.step ?_ | refine HCode.step ?_)
        by_cases hr : r.err = 0
        · rw [hr, eqB_self 0]
          (repeat first | refine HReg.step ?_ | refine HCode.step ?_)
          rw [w2]
          exact ⟨m - 1, by omega, Q1Inv.mk ⟨i + 1, S6, w6, r8, rfl, by omega, d8, e8, ap6, by omega, by omega⟩⟩
        · have hq := hL.keep hr
          subst hq
          rw [eqB_false.2 hr]
          (repeat first | refine HReg.step ?_ | refine HCode.step ?_)
          refine HCall.mk ⟨Try.f26, Try.func26, by rfl, by rfl⟩ ?_
          refine err_t e8 ?_
          (repeat first | refine HReg.step ?_ | refine HCode.step ?_)
          rw [eqB_self r8.err]
          (repeat first | refine HReg.step ?_ | refine HCode.step ?_)
          rw [w2]
          exact ⟨m - 1, by omega, Q1Inv.mk ⟨i + 1, S6, w6, r8, rfl, by omega, d8, e8, ap6, by omega, by omega⟩⟩
    · rw [eqB_false.2 he]
      (repeat first | refine HReg.step ?_ | refine HCode.step ?_)
      refine HCall.mk ⟨Try.f19, Try.func19, by rfl, by rfl⟩ ?_
      refine len_t d7 ?_
      rw [hs6 he]
      (repeat first | refine HReg.step ?_ | refine HCode.step ?_)
      rw [eqB_self (w.out.length : Int)]
      (repeat first | refine HReg.step ?_ | refine HCode.step ?_)
      refine HCall.mk ⟨Try.f19, Try.func19, by rfl, by rfl⟩ ?_
      refine len_t d7 ?_
      (repeat first | refine HReg.step ?_ | refine HCode.step ?_)
      rw [b1]
      (repeat first | refine HReg.step ?_ | refine HCode.step ?_)
      refine HCall.mk ⟨Try.f19, Try.func19, by rfl, by rfl⟩ ?_
      refine len_t d7 ?_
      (repeat first | refine HReg.step ?_ | refine HCode.step ?_)
      rw [ite_mx, ite_max, b2]
      (repeat first | refine HReg.step ?_ | refine HCode.step ?_)
      refine HLoadN_row rb7 rfl ?_
      (repeat first | refine HReg.step ?_ | refine HCode.step ?_)
      refine HCall.mk ⟨Try.f32, Try.func32, by rfl, by rfl⟩ ?_
      refine calls_t e7 hom fun H8 e8 u8 => ?_
      have d8 := d7.upd u8 (notg ap6 e7.mem) (noneg e7.new e7.mem)
      have hL := op_left r o
      generalize r.op o = r8 at *
      have hle := hL.le
      have c1 : ltB (r.rest.length : Int) (r8.rest.length : Int) = false := ltB_false.2 (by omega)
      (repeat first | refine HReg.step ?_ | refine HCode.step ?_)
      refine HCall.mk ⟨Try.f26, Try.func26, by rfl, by rfl⟩ ?_
      refine err_t e8 ?_
      (repeat first | refine HReg.step ?_ | refine HCode.step ?_)
      by_cases h8 : r8.err = 0
      · have hr0 : r.err = 0 := Classical.byContradiction fun hne => by rw [hL.keep hne] at h8; exact hne h8
        rw [h8, eqB_self 0]
        (repeat first | refine HReg.step ?_ | refine HCode.step ?_)
        refine HCall.mk ⟨Try.f24, Try.func24, by rfl, by rfl⟩ ?_
        refine left_t e8 ?_
        (repeat first | refine HReg.step ?_ | refine HCode.step ?_)
        rw [c1]
        (repeat first | refine HReg.step ?_ | refine HCode.step ?_)
        rw [hr0, eqB_self 0]
        (repeat first | refine HReg.step ?_ | refine HCode.step ?_)
        rw [w2]
        exact ⟨m - 1, by omega, Q1Inv.mk ⟨i + 1, S6, w6, r8, rfl, by omega, d8, e8, ap6, by omega, by omega⟩⟩
      · rw [eqB_false.2 h8]
        (repeat first | refine HReg.step ?_ | refine HCode.step ?_)
        refine HCall.mk ⟨Try.f24, Try.func24, by rfl, by rfl⟩ ?_
        refine left_t e8 ?_
        rw [hL.stay h8]
        (repeat first | refine HReg.step ?_ | refine HCode.step ?_)
        rw [eqB_self (r.rest.length : Int)]
        (repeat first | refine HReg.step ?_ | refine HCode.step ?_)
        refine HCall.mk ⟨Try.f24, Try.func24, by rfl, by rfl⟩ ?_
        refine left_t e8 ?_
        (repeat first | refine HReg.step ?_ | refine HCode.step ?_)
        rw [c1]
        (repeat first | refine HReg.step ?_ | refine HCode.step ?_)
        by_cases hr : r.err = 0
        · rw [hr, eqB_self 0]
          (repeat first | refine HReg.step ?_ | refine HCode.step ?_)
          rw [w2]
          exact ⟨m - 1, by omega, Q1Inv.mk ⟨i + 1, S6, w6, r8, rfl, by omega, d8, e8, ap6, by omega, by omega⟩⟩
        · have hq := hL.keep hr
          subst hq
          rw [eqB_false.2 hr]
          (repeat first | refine HReg.step ?_ | refine HCode.step ?_)
          refine HCall.mk ⟨Try.f26, Try.func26, by rfl, by rfl⟩ ?_
          refine err_t e8 ?_
          (repeat first | refine HReg.step ?_ | refine HCode.step ?_)
          rw [eqB_self r8.err]
          (repeat first | refine HReg.step ?_ | refine HCode.step ?_)
          rw [w2]
          exact ⟨m - 1, by omega, Q1Inv.mk ⟨i + 1, S6, w6, r8, rfl, by omega, d8, e8, ap6, by omega, by omega⟩⟩
  have h1 := ltB_false.1 h1
  have hle4 := d4.ok.le
  first | refine hcutC (a := Code.seq (Code.region _ _ _) (Code.cond _ _ _)) [114, 115, 116, 117, 118, 119, 120, 121, 122, 123, 124, 125, 126] [] (Q2J H g g2 T) rfl (by repeat' first | exact Resp.retD | exact Resp1.valuesK | refine Resp.blockD ?_ | refine Resp.thenD ?_ ?_ | refine Resp.hcode ?_) ?_ ?_ | ((first | refine HReg.step ?_ | refine HCode.step ?_); first | refine hcutC (a := Code.seq (Code.region _ _ _) (Code.cond _ _ _)) [114, 115, 116, 117, 118, 119, 120, 121, 122, 123, 124, 125, 126] [] (Q2J H g g2 T) rfl (by repeat' first | exact Resp.retD | exact Resp1.valuesK | refine Resp.blockD ?_ | refine Resp.thenD ?_ ?_ | refine Resp.hcode ?_) ?_ ?_ | ((first | refine HReg.step ?_ | refine HCode.step ?_); first | refine hcutC (a := Code.seq (Code.region _ _ _) (Code.cond _ _ _)) [114, 115, 116, 117, 118, 119, 120, 121, 122, 123, 124, 125, 126] [] (Q2J H g g2 T) rfl (by repeat' first | exact Resp.retD | exact Resp1.valuesK | refine Resp.blockD ?_ | refine Resp.thenD ?_ ?_ | refine Resp.hcode ?_) ?_ ?_ | ((first | refine HReg.step ?_ | refine HCode.step ?_); first | refine hcutC (a := Code.seq (Code.region _ _ _) (Code.cond _ _ _)) [114, 115, 116, 117, 118, 119, 120, 121, 122, 123, 124, 125, 126] [] (Q2J H g g2 T) rfl (by repeat' first | exact Resp.retD | exact Resp1.valuesK | refine Resp.blockD ?_ | refine Resp.thenD ?_ ?_ | refine Resp.hcode ?_) ?_ ?_ | ((first | refine HReg.step ?_ | refine HCode.step ?_); first | refine hcutC (a := Code.seq (Code.region _ _ _) (Code.cond _ _ _)) [114, 115, 116, 117, 118, 119, 120, 121, 122, 123, 124, 125, 126] [] (Q2J H g g2 T) rfl (by repeat' first | exact Resp.retD | exact Resp1.valuesK | refine Resp.blockD ?_ | refine Resp.thenD ?_ ?_ | refine Resp.hcode ?_) ?_ ?_ | ((first | refine HReg.step ?_ | refine HCode.step ?_); first | refine hcutC (a := Code.seq (Code.region _ _ _) (Code.cond _ _ _)) [114, 115, 116, 117, 118, 119, 120, 121, 122, 123, 124, 125, 126] [] (Q2J H g g2 T) rfl (by repeat' first | exact Resp.retD | exact Resp1.valuesK | refine Resp.blockD ?_ | refine Resp.thenD ?_ ?_ | refine Resp.hcode ?_) ?_ ?_ | ((first | refine HReg.step ?_ | refine HCode.step ?_); first | refine hcutC (a := Code.seq (Code.region _ _ _) (Code.cond _ _ _)) [114, 115, 116, 117, 118, 119, 120, 121, 122, 123, 124, 125, 126] [] (Q2J H g g2 T) rfl (by repeat' first | exact Resp.retD | exact Resp1.valuesK | refine Resp.blockD ?_ | refine Resp.thenD ?_ ?_ | refine Resp.hcode ?_) ?_ ?_ | ((first | refine HReg.step ?_ | refine HCode.step ?_); first | refine hcutC (a := Code.seq (Code.region _ _ _) (Code.cond _ _ _)) [114, 115, 116, 117, 118, 119, 120, 121, 122, 123, 124, 125, 126] [] (Q2J H g g2 T) rfl (by repeat' first | exact Resp.retD | exact Resp1.valuesK | refine Resp.blockD ?_ | refine Resp.thenD ?_ ?_ | refine Resp.hcode ?_) ?_ ?_ | ((first | refine HReg.step ?_ | refine HCode.step ?_); first | refine hcutC (a := Code.seq (Code.region _ _ _) (Code.cond _ _ _)) [114, 115, 116, 117, 118, 119, 120, 121, 122, 123, 124, 125, 126] [] (Q2J H g g2 T) rfl (by repeat' first | exact Resp.retD | exact Resp1.valuesK | refine Resp.blockD ?_ | refine Resp.thenD ?_ ?_ | refine Resp.hcode ?_) ?_ ?_ | ((first | refine HReg.step ?_ | refine HCode.step ?_); first | refine hcutC (a := Code.seq (Code.region _ _ _) (Code.cond _ _ _)) [114, 115, 116, 117, 118, 119, 120, 121, 122, 123, 124, 125, 126] [] (Q2J H g g2 T) rfl (by repeat' first | exact Resp.retD | exact Resp1.valuesK | refine Resp.blockD ?_ | refine Resp.thenD ?_ ?_ | refine Resp.hcode ?_) ?_ ?_ | ((first | refine HReg.step ?_ | refine HCode.step ?_); first | refine hcutC (a := Code.seq (Code.region _ _ _) (Code.cond _ _ _)) [114, 115, 116, 117, 118, 119, 120, 121, 122, 123, 124, 125, 126] [] (Q2J H g g2 T) rfl (by repeat' first | exact Resp.retD | exact Resp1.valuesK | refine Resp.blockD ?_ | refine Resp.thenD ?_ ?_ | refine Resp.hcode ?_) ?_ ?_ | ((first | refine HReg.step ?_ | refine HCode.step ?_); first | refine hcutC (a := Code.seq (Code.region _ _ _) (Code.cond _ _ _)) [114, 115, 116, 117, 118, 119, 120, 121, 122, 123, 124, 125, 126] [] (Q2J H g g2 T) rfl (by repeat' first | exact Resp.retD | exact Resp1.valuesK | refine Resp.blockD ?_ | refine Resp.thenD ?_ ?_ | refine Resp.hcode ?_) ?_ ?_ | ((first | refine HReg.step ?_ | refine HCode.step ?_); first | refine hcutC (a := Code.seq (Code.region _ _ _) (Code.cond _ _ _)) [114, 115, 116, 117, 118, 119, 120, 121, 122, 123, 124, 125, 126] [] (Q2J H g g2 T) rfl (by repeat' first | exact Resp.retD | exact Resp1.valuesK | refine Resp.blockD ?_ | refine Resp.thenD ?_ ?_ | refine Resp.hcode ?_) ?_ ?_ | ((first | refine HReg.step ?_ | refine HCode.step ?_); first | refine hcutC (a := Code.seq (Code.region _ _ _) (Code.cond _ _ _)) [114, 115, 116, 117, 118, 119, 120, 121, 122, 123, 124, 125, 126] [] (Q2J H g g2 T) rfl (by repeat' first | exact Resp.retD | exact Resp1.valuesK | refine Resp.blockD ?_ | refine Resp.thenD ?_ ?_ | refine Resp.hcode ?_) ?_ ?_ | ((first | refine HReg.step ?_ | refine HCode.step ?_); first | refine hcutC (a := Code.seq (Code.region _ _ _) (Code.cond _ _ _)) [114, 115, 116, 117, 118, 119, 120, 121, 122, 123, 124, 125, 126] [] (Q2J H g g2 T) rfl (by repeat' first | exact Resp.retD | exact Resp1.valuesK | refine Resp.blockD ?_ | refine Resp.thenD ?_ ?_ | refine Resp.hcode ?_) ?_ ?_ | ((first | refine HReg.step ?_ | refine HCode.step ?_); first | refine hcutC (a := Code.seq (Code.region _ _ _) (Code.cond _ _ _)) [114, 115, 116, 117, 118, 119, 120, 121, 122, 123, 124, 125, 126] [] (Q2J H g g2 T) rfl (by repeat' first | exact Resp.retD | exact Resp1.valuesK | refine Resp.blockD ?_ | refine Resp.thenD ?_ ?_ | refine Resp.hcode ?_) ?_ ?_ | ((first | refine HReg.step ?_ | refine HCode.step ?_); first | refine hcutC (a := Code.seq (Code.region _ _ _) (Code.cond _ _ _)) [114, 115, 116, 117, 118, 119, 120, 121, 122, 123, 124, 125, 126] [] (Q2J H g g2 T) rfl (by repeat' first | exact Resp.retD | exact Resp1.valuesK | refine Resp.blockD ?_ | refine Resp.thenD ?_ ?_ | refine Resp.hcode ?_) ?_ ?_ | ((first | refine HReg.step ?_ | refine HCode.step ?_); first | refine hcutC (a := Code.seq (Code.region _ _ _) (Code.cond _ _ _)) [114, 115, 116, 117, 118, 119, 120, 121, 122, 123, 124, 125, 126] [] (Q2J H g g2 T) rfl (by repeat' first | exact Resp.retD | exact Resp1.valuesK | refine Resp.blockD ?_ | refine Resp.thenD ?_ ?_ | refine Resp.hcode ?_) ?_ ?_ | ((first | refine HReg.step ?_ | refine HCode.step ?_); first | refine hcutC (a := Code.seq (Code.region _ _ _) (Code.cond _ _ _)) [114, 115, 116, 117, 118, 119, 120, 121, 122, 123, 124, 125, 126] [] (Q2J H g g2 T) rfl (by repeat' first | exact Resp.retD | exact Resp1.valuesK | refine Resp.blockD ?_ | refine Resp.thenD ?_ ?_ | refine Resp.hcode ?_) ?_ ?_ | ((first | refine HReg.step ?_ | refine HCode.step ?_); first | refine hcutC (a := Code.seq (Code.region _ _ _) (Code.cond _ _ _)) [114, 115, 116, 117, 118, 119, 120, 121, 122, 123, 124, 125, 126] [] (Q2J H g g2 T) rfl (by repeat' first | exact Resp.retD | exact Resp1.valuesK | refine Resp.blockD ?_ | refine Resp.thenD ?_ ?_ | refine Resp.hcode ?_) ?_ ?_ | ((first | refine HReg.step ?_ | refine HCode.step ?_); first | refine hcutC (a := Code.seq (Code.region _ _ _) (Code.cond _ _ _)) [114, 115, 116, 117, 118, 119, 120, 121, 122, 123, 124, 125, 126] [] (Q2J H g g2 T) rfl (by repeat' first | exact Resp.retD | exact Resp1.valuesK | refine Resp.blockD ?_ | refine Resp.thenD ?_ ?_ | refine Resp.hcode ?_) ?_ ?_ | ((first | refine HReg.step ?_ | refine HCode.step ?_); first | refine hcutC (a := Code.seq (Code.region _ _ _) (Code.cond _ _ _)) [114, 115, 116, 117, 118, 119, 120, 121, 122, 123, 124, 125, 126] [] (Q2J H g g2 T) rfl (by repeat' first | exact Resp.retD | exact Resp1.valuesK | refine Resp.blockD ?_ | refine Resp.thenD ?_ ?_ | refine Resp.hcode ?_) ?_ ?_ | ((first | refine HReg.step ?_ | refine HCode.step ?_); first | refine hcutC (a := Code.seq (Code.region _ _ _) (Code.cond _ _ _)) [114, 115, 116, 117, 118, 119, 120, 121, 122, 123, 124, 125, 126] [] (Q2J H g g2 T) rfl (by repeat' first | exact Resp.retD | exact Resp1.valuesK | refine Resp.blockD ?_ | refine Resp.thenD ?_ ?_ | refine Resp.hcode ?_) ?_ ?_ | ((first | refine HReg.step ?_ | refine HCode.step ?_); first | refine hcutC (a := Code.seq (Code.region _ _ _) (Code.cond _ _ _)) [114, 115, 116, 117, 118, 119, 120, 121, 122, 123, 124, 125, 126] [] (Q2J H g g2 T) rfl (by repeat' first | exact Resp.retD | exact Resp1.valuesK | refine Resp.blockD ?_ | refine Resp.thenD ?_ ?_ | refine Resp.hcode ?_) ?_ ?_ | ((first | refine HReg.step ?_ | refine HCode.step ?_); first | refine hcutC (a := Code.seq (Code.region _ _ _) (Code.cond _ _ _)) [114, 115, 116, 117, 118, 119, 120, 121, 122, 123, 124, 125, 126] [] (Q2J H g g2 T) rfl (by repeat' first | exact Resp.retD | exact Resp1.valuesK | refine Resp.blockD ?_ | refine Resp.thenD ?_ ?_ | refine Resp.hcode ?_) ?_ ?_ | ((first | refine HReg.step ?_ | refine HCode.step ?_); first | refine hcutC (a := Code.seq (Code.region _ _ _) (Code.cond _ _ _)) [114, 115, 116, 117, 118, 119, 120, 121, 122, 123, 124, 125, 126] [] (Q2J H g g2 T) rfl (by repeat' first | exact Resp.retD | exact Resp1.valuesK | refine Resp.blockD ?_ | refine Resp.thenD ?_ ?_ | refine Resp.hcode ?_) ?_ ?_ | ((first | refine HReg.step ?_ | refine HCode.step ?_); first | refine hcutC (a := Code.seq (Code.region _ _ _) (Code.cond _ _ _)) [114, 115, 116, 117, 118, 119, 120, 121, 122, 123, 124, 125, 126] [] (Q2J H g g2 T) rfl (by repeat' first | exact Resp.retD | exact Resp1.valuesK | refine Resp.blockD ?_ | refine Resp.thenD ?_ ?_ | refine Resp.hcode ?_) ?_ ?_ | ((first | refine HReg.step ?_ | refine HCode.step ?_); first | refine hcutC (a := Code.seq (Code.region _ _ _) (Code.cond _ _ _)) [114, 115, 116, 117, 118, 119, 120, 121, 122, 123, 124, 125, 126] [] (Q2J H g g2 T) rfl (by repeat' first | exact Resp.retD | exact Resp1.valuesK | refine Resp.blockD ?_ | refine Resp.thenD ?_ ?_ | refine Resp.hcode ?_) ?_ ?_ | ((first | refine HReg.step ?_ | refine HCode.step ?_); first | refine hcutC (a := Code.seq (Code.region _ _ _) (Code.cond _ _ _)) [114, 115, 116, 117, 118, 119, 120, 121, 122, 123, 124, 125, 126] [] (Q2J H g g2 T) rfl (by repeat' first | exact Resp.retD | exact Resp1.valuesK | refine Resp.blockD ?_ | refine Resp.thenD ?_ ?_ | refine Resp.hcode ?_) ?_ ?_ | ((first | refine HReg.step ?_ | refine HCode.step ?_); first | refine hcutC (a := Code.seq (Code.region _ _ _) (Code.cond _ _ _)) [114, 115, 116, 117, 118, 119, 120, 121, 122, 123, 124, 125, 126] [] (Q2J H g g2 T) rfl (by repeat' first | exact Resp.retD | exact Resp1.valuesK | refine Resp.blockD ?_ | refine Resp.thenD ?_ ?_ | refine Resp.hcode ?_) ?_ ?_ | ((first | refine HReg.step ?_ | refine HCode.step ?_); first | refine hcutC (a := Code.seq (Code.region _ _ _) (Code.cond _ _ _)) [114, 115, 116, 117, 118, 119, 120, 121, 122, 123, 124, 125, 126] [] (Q2J H g g2 T) rfl (by repeat' first | exact Resp.retD | exact Resp1.valuesK | refine Resp.blockD ?_ | refine Resp.thenD ?_ ?_ | refine Resp.hcode ?_) ?_ ?_ | ((first | refine HReg.step ?_ | refine HCode.step ?_); first | refine hcutC (a := Code.seq (Code.region _ _ _) (Code.cond _ _ _)) [114, 115, 116, 117, 118, 119, 120, 121, 122, 123, 124, 125, 126] [] (Q2J H g g2 T) rfl (by repeat' first | exact Resp.retD | exact Resp1.valuesK | refine Resp.blockD ?_ | refine Resp.thenD ?_ ?_ | refine Resp.hcode ?_) ?_ ?_ | ((first | refine HReg.step ?_ | refine HCode.step ?_); first | refine hcutC (a := Code.seq (Code.region _ _ _) (Code.cond _ _ _)) [114, 115, 116, 117, 118, 119, 120, 121, 122, 123, 124, 125, 126] [] (Q2J H g g2 T) rfl (by repeat' first | exact Resp.retD | exact Resp1.valuesK | refine Resp.blockD ?_ | refine Resp.thenD ?_ ?_ | refine Resp.hcode ?_) ?_ ?_ | ((first | refine HReg.step ?_ | refine HCode.step ?_); first | refine hcutC (a := Code.seq (Code.region _ _ _) (Code.cond _ _ _)) [114, 115, 116, 117, 118, 119, 120, 121, 122, 123, 124, 125, 126] [] (Q2J H g g2 T) rfl (by repeat' first | exact Resp.retD | exact Resp1.valuesK | refine Resp.blockD ?_ | refine Resp.thenD ?_ ?_ | refine Resp.hcode ?_) ?_ ?_ | ((first | refine HReg.step ?_ | refine HCode.step ?_); first | refine hcutC (a := Code.seq (Code.region _ _ _) (Code.cond _ _ _)) [114, 115, 116, 117, 118, 119, 120, 121, 122, 123, 124, 125, 126] [] (Q2J H g g2 T) rfl (by repeat' first | exact Resp.retD | exact Resp1.valuesK | refine Resp.blockD ?_ | refine Resp.thenD ?_ ?_ | refine Resp.hcode ?_) ?_ ?_ | ((first | refine HReg.step ?_ | refine HCode.step ?_); first | refine hcutC (a := Code.seq (Code.region _ _ _) (Code.cond _ _ _)) [114, 115, 116, 117, 118, 119, 120, 121, 122, 123, 124, 125, 126] [] (Q2J H g g2 T) rfl (by repeat' first | exact Resp.retD | exact Resp1.valuesK | refine Resp.blockD ?_ | refine Resp.thenD ?_ ?_ | refine Resp.hcode ?_) ?_ ?_ | ((first | refine HReg.step ?_ | refine HCode.step ?_); first | refine hcutC (a := Code.seq (Code.region _ _ _) (Code.cond _ _ _)) [114, 115, 116, 117, 118, 119, 120, 121, 122, 123, 124, 125, 126] [] (Q2J H g g2 T) rfl (by repeat' first | exact Resp.retD | exact Resp1.valuesK | refine Resp.blockD ?_ | refine Resp.thenD ?_ ?_ | refine Resp.hcode ?_) ?_ ?_ | ((first | refine HReg.step ?_ | refine HCode.step ?_); first | refine hcutC (a := Code.seq (Code.region _ _ _) (Code.cond _ _ _)) [114, 115, 116, 117, 118, 119, 120, 121, 122, 123, 124, 125, 126] [] (Q2J H g g2 T) rfl (by repeat' first | exact Resp.retD | exact Resp1.valuesK | refine Resp.blockD ?_ | refine Resp.thenD ?_ ?_ | refine Resp.hcode ?_) ?_ ?_ | ((first | refine HReg.step ?_ | refine HCode.step ?_); first | refine hcutC (a := Code.seq (Code.region _ _ _) (Code.cond _ _ _)) [114, 115, 116, 117, 118, 119, 120, 121, 122, 123, 124, 125, 126] [] (Q2J H g g2 T) rfl (by repeat' first | exact Resp.retD | exact Resp1.valuesK | refine Resp.blockD ?_ | refine Resp.thenD ?_ ?_ | refine Resp.hcode ?_) ?_ ?_ | ((first | refine HReg.step ?_ | refine HCode.step ?_); first | refine hcutC (a := Code.seq (Code.region _ _ _) (Code.cond _ _ _)) [114, 115, 116, 117, 118, 119, 120, 121, 122, 123, 124, 125, 126] [] (Q2J H g g2 T) rfl (by repeat' first | exact Resp.retD | exact Resp1.valuesK | refine Resp.blockD ?_ | refine Resp.thenD ?_ ?_ | refine Resp.hcode ?_) ?_ ?_ | ((first | refine HReg.step ?_ | refine HCode.step ?_); first | refine hcutC (a := Code.seq (Code.region _ _ _) (Code.cond _ _ _)) [114, 115, 116, 117, 118, 119, 120, 121, 122, 123, 124, 125, 126] [] (Q2J H g g2 T) rfl (by repeat' first | exact Resp.retD | exact Resp1.valuesK | refine Resp.blockD ?_ | refine Resp.thenD ?_ ?_ | refine Resp.hcode ?_) ?_ ?_ | ((first | refine HReg.step ?_ | refine HCode.step ?_); first | refine hcutC (a := Code.seq (Code.region _ _ _) (Code.cond _ _ _)) [114, 115, 116, 117, 118, 119, 120, 121, 122, 123, 124, 125, 126] [] (Q2J H g g2 T) rfl (by repeat' first | exact Resp.retD | exact Resp1.valuesK | refine Resp.blockD ?_ | refine Resp.thenD ?_ ?_ | refine Resp.hcode ?_) ?_ ?_ | ((first | refine HReg.step ?_ | refine HCode.step ?_); first | refine hcutC (a := Code.seq (Code.region _ _ _) (Code.cond _ _ _)) [114, 115, 116, 117, 118, 119, 120, 121, 122, 123, 124, 125, 126] [] (Q2J H g g2 T) rfl (by repeat' first | exact Resp.retD | exact Resp1.valuesK | refine Resp.blockD ?_ | refine Resp.thenD ?_ ?_ | refine Resp.hcode ?_) ?_ ?_ | ((first | refine HReg.step ?_ | refine HCode.step ?_); first | refine hcutC (a := Code.seq (Code.region _ _ _) (Code.cond _ _ _)) [114, 115, 116, 117, 118, 119, 120, 121, 122, 123, 124, 125, 126] [] (Q2J H g g2 T) rfl (by repeat' first | exact Resp.retD | exact Resp1.valuesK | refine Resp.blockD ?_ | refine Resp.thenD ?_ ?_ | refine Resp.hcode ?_) ?_ ?_ | ((first | refine HReg.step ?_ | refine HCode.step ?_); first | refine hcutC (a := Code.seq (Code.region _ _ _) (Code.cond _ _ _)) [114, 115, 116, 117, 118, 119, 120, 121, 122, 123, 124, 125, 126] [] (Q2J H g g2 T) rfl (by repeat' first | exact Resp.retD | exact Resp1.valuesK | refine Resp.blockD ?_ | refine Resp.thenD ?_ ?_ | refine Resp.hcode ?_) ?_ ?_ | ((first | refine HReg.step ?_ | refine HCode.step ?_); first | refine hcutC (a := Code.seq (Code.region _ _ _) (Code.cond _ _ _)) [114, 115, 116, 117, 118, 119, 120, 121, 122, 123, 124, 125, 126] [] (Q2J H g g2 T) rfl (by repeat' first | exact Resp.retD | exact Resp1.valuesK | refine Resp.blockD ?_ | refine Resp.thenD ?_ ?_ | refine Resp.hcode ?_) ?_ ?_ | ((first | refine HReg.step ?_ | refine HCode.step ?_); first | refine hcutC (a := Code.seq (Code.region _ _ _) (Code.cond _ _ _)) [114, 115, 116, 117, 118, 119, 120, 121, 122, 123, 124, 125, 126] [] (Q2J H g g2 T) rfl (by repeat' first | exact Resp.retD | exact Resp1.valuesK | refine Resp.blockD ?_ | refine Resp.thenD ?_ ?_ | refine Resp.hcode ?_) ?_ ?_ | ((first | refine HReg.step ?_ | refine HCode.step ?_); first | refine hcutC (a := Code.seq (Code.region _ _ _) (Code.cond _ _ _)) [114, 115, 116, 117, 118, 119, 120, 121, 122, 123, 124, 125, 126] [] (Q2J H g g2 T) rfl (by repeat' first | exact Resp.retD | exact Resp1.valuesK | refine Resp.blockD ?_ | refine Resp.thenD ?_ ?_ | refine Resp.hcode ?_) ?_ ?_ | ((first | refine HReg.step ?_ | refine HCode.step ?_); first | refine hcutC (a := Code.seq (Code.region _ _ _) (Code.cond _ _ _)) [114, 115, 116, 117, 118, 119, 120, 121, 122, 123, 124, 125, 126] [] (Q2J H g g2 T) rfl (by repeat' first | exact Resp.retD | exact Resp1.valuesK | refine Resp.blockD ?_ | refine Resp.thenD ?_ ?_ | refine Resp.hcode ?_) ?_ ?_ | ((first | refine HReg.step ?_ | refine HCode.step ?_); first | refine hcutC (a := Code.seq (Code.region _ _ _) (Code.cond _ _ _)) [114, 115, 116, 117, 118, 119, 120, 121, 122, 123, 124, 125, 126] [] (Q2J H g g2 T) rfl (by repeat' first | exact Resp.retD | exact Resp1.valuesK | refine Resp.blockD ?_ | refine Resp.thenD ?_ ?_ | refine Resp.hcode ?_) ?_ ?_ | ((first | refine HReg.step ?_ | refine HCode.step ?_); first | refine hcutC (a := Code.seq (Code.region _ _ _) (Code.cond _ _ _)) [114, 115, 116, 117, 118, 119, 120, 121, 122, 123, 124, 125, 126] [] (Q2J H g g2 T) rfl (by repeat' first | exact Resp.retD | exact Resp1.valuesK | refine Resp.blockD ?_ | refine Resp.thenD ?_ ?_ | refine Resp.hcode ?_) ?_ ?_ | ((first | refine HReg.step ?_ | refine HCode.step ?_); first | refine hcutC (a := Code.seq (Code.region _ _ _) (Code.cond _ _ _)) [114, 115, 116, 117, 118, 119, 120, 121, 122, 123, 124, 125, 126] [] (Q2J H g g2 T) rfl (by repeat' first | exact Resp.retD | exact Resp1.valuesK | refine Resp.blockD ?_ | refine Resp.thenD ?_ ?_ | refine Resp.hcode ?_) ?_ ?_ | ((first | refine HReg.step ?_ | refine HCode.step ?_); first | refine hcutC (a := Code.seq (Code.region _ _ _) (Code.cond _ _ _)) [114, 115, 116, 117, 118, 119, 120, 121, 122, 123, 124, 125, 126] [] (Q2J H g g2 T) rfl (by repeat' first | exact Resp.retD | exact Resp1.valuesK | refine Resp.blockD ?_ | refine Resp.thenD ?_ ?_ | refine Resp.hcode ?_) ?_ ?_ | ((first | refine HReg.step ?_ | refine HCode.step ?_); first | refine hcutC (a := Code.seq (Code.region _ _ _) (Code.cond _ _ _)) [114, 115, 116, 117, 118, 119, 120, 121, 122, 123, 124, 125, 126] [] (Q2J H g g2 T) rfl (by repeat' first | exact Resp.retD | exact Resp1.valuesK | refine Resp.blockD ?_ | refine Resp.thenD ?_ ?_ | refine Resp.hcode ?_) ?_ ?_ | ((first | refine HReg.step ?_ | refine HCode.step ?_); first | refine hcutC (a := Code.seq (Code.region _ _ _) (Code.cond _ _ _)) [114, 115, 116, 117, 118, 119, 120, 121, 122, 123, 124, 125, 126] [] (Q2J H g g2 T) rfl (by repeat' first | exact Resp.retD | exact Resp1.valuesK | refine Resp.blockD ?_ | refine Resp.thenD ?_ ?_ | refine Resp.hcode ?_) ?_ ?_ | ((first | refine HReg.step ?_ | refine HCode.step ?_); first | refine hcutC (a := Code.seq (Code.region _ _ _) (Code.cond _ _ _)) [114, 115, 116, 117, 118, 119, 120, 121, 122, 123, 124, 125, 126] [] (Q2J H g g2 T) rfl (by repeat' first | exact Resp.retD | exact Resp1.valuesK | refine Resp.blockD ?_ | refine Resp.thenD ?_ ?_ | refine Resp.hcode ?_) ?_ ?_ | ((first | refine HReg.step ?_ | refine HCode.step ?_); first | refine hcutC (a := Code.seq (Code.region _ _ _) (Code.cond _ _ _)) [114, 115, 116, 117, 118, 119, 120, 121, 122, 123, 124, 125, 126] [] (Q2J H g g2 T) rfl (by repeat' first | exact Resp.retD | exact Resp1.valuesK | refine Resp.blockD ?_ | refine Resp.thenD ?_ ?_ | refine Resp.hcode ?_) ?_ ?_ | ((first | refine HReg.step ?_ | refine HCode.step ?_); first | refine hcutC (a := Code.seq (Code.region _ _ _) (Code.cond _ _ _)) [114, 115, 116, 117, 118, 119, 120, 121, 122, 123, 124, 125, 126] [] (Q2J H g g2 T) rfl (by repeat' first | exact Resp.retD | exact Resp1.valuesK | refine Resp.blockD ?_ | refine Resp.thenD ?_ ?_ | refine Resp.hcode ?_) ?_ ?_ | ((first | refine HReg.step ?_ | refine HCode.step ?_); first | refine hcutC (a := Code.seq (Code.region _ _ _) (Code.cond _ _ _)) [114, 115, 116, 117, 118, 119, 120, 121, 122, 123, 124, 125, 126] [] (Q2J H g g2 T) rfl (by repeat' first | exact Resp.retD | exact Resp1.valuesK | refine Resp.blockD ?_ | refine Resp.thenD ?_ ?_ | refine Resp.hcode ?_) ?_ ?_ | ((first | refine HReg.step ?_ | refine HCode.step ?_); first | refine hcutC (a := Code.seq (Code.region _ _ _) (Code.cond _ _ _)) [114, 115, 116, 117, 118, 119, 120, 121, 122, 123, 124, 125, 126] [] (Q2J H g g2 T) rfl (by repeat' first | exact Resp.retD | exact Resp1.valuesK | refine Resp.blockD ?_ | refine Resp.thenD ?_ ?_ | refine Resp.hcode ?_) ?_ ?_ | ((first | refine HReg.step ?_ | refine HCode.step ?_); refine hcutC (a := Code.seq (Code.region _ _ _) (Code.cond _ _ _)) [114, 115, 116, 117, 118, 119, 120, 121, 122, 123, 124, 125, 126] [] (Q2J H g g2 T) rfl (by repeat' first | exact Resp.retD | exact Resp1.valuesK | refine Resp.blockD ?_ | refine Resp.thenD ?_ ?_ | refine Resp.hcode ?_) ?_ ?_))))))))))))))))))))))))))))))))))))))))))))))))))))))))))))
  · (repeat first | refine HReg.step ?_ | refine HCode.step ?_)
    refine HCall.mk ⟨Try.f19, Try.func19, by rfl, by rfl⟩ ?_
    refine len_t d4 ?_
    have b3 : ltB (max limit 0) (w.out.length : Int) = false := ltB_false.2 (by omega)
    (repeat first | refine HReg.step ?_ | refine HCode.step ?_)
    rw [ite_mx, ite_max, b3]
    (repeat first | refine HReg.step ?_ | refine HCode.step ?_)
    refine hif (fun h2 => ?_) (fun h2 => ?_)
    · (repeat first | refine HReg.step ?_ | refine HCode.step ?_)
      refine HReq.mk (by decide) ?_
      (repeat first | refine HReg.step ?_ | refine HCode.step ?_)
      refine HNew.mk fun b hb => ?_
      generalize hHZ : H4.upd b _ = HZ
      have ub : Upd [] H4 HZ := by rw [← hHZ]; exact Upd.new hb _
      obtain ⟨z, hz, hzl⟩ : ∃ z : List UInt8, z = List.replicate 1048576 0 ∧ z.length = 1048576 := ⟨_, rfl, List.length_replicate⟩
      have rb : RowAt HZ (some ⟨b, 0, none⟩) (u8s z) := by
        rw [hz, ← hHZ]; exact zeros_rowZ rfl rfl
      have dz := d4.upd0 ub
      have ez := e4.upd0 ub
      (repeat first | refine HReg.step ?_ | refine HCode.step ?_)
      refine HBytes.row z (by rw [hzl]; rfl) (fun Hx hx => by rw [List.mem_singleton.1 hx]; exact rb) ?_ (by simp)
      (repeat first | refine HReg.step ?_ | refine HCode.step ?_)
      refine HCall.mk ⟨Try.f33, Try.func33, by rfl, by rfl⟩ ?_
      refine text_t (s := z) dz (by omega) fun S6 H6 d6 f6 => ?_
      have e6 := ez.upd f6.upd (fun b hb => ap4.symm b hb) dz.new
      have ap6 := ap4.foot f6 ez.live
      have hl6 := (W.lay_len (w := w) (b := textB z)).1
      rw [textB_length, hzl] at hl6
      (repeat first | refine HReg.step ?_ | refine HCode.step ?_)
      exact Q2J.mk ⟨S6, _, r, rfl, d6, e6, ap6, by omega⟩
    · (repeat first | refine HReg.step ?_ | refine HCode.step ?_)
      exact Q2J.mk ⟨S, w, r, rfl, d4, e4, ap4, by omega⟩
  rintro _ fe2 H5 ⟨S5, w5, r5, rfl, d5, e5, ap5, hw5⟩
  (repeat first | refine HReg.step ?_ | refine HCode.step ?_)
  refine HCall.mk ⟨Try.f34, Try.func34, by rfl, by rfl⟩ ?_
  refine ru64_t e5 fun H6 e6 u6 => ?_
  have d6 := d5.upd u6 (notg ap5 e5.mem) (noneg e5.new e5.mem)
  first | refine hcutC (a := Code.seq (Code.region _ _ _) (Code.block _ _)) [18, 129, 130, 131, 132, 133, 134, 135, 136, 137, 138, 139, 140, 141, 142, 143, 144] [] (Q2J H g g2 T) rfl (by repeat' first | exact Resp.retD | exact Resp1.valuesK | refine Resp.blockD ?_ | refine Resp.thenD ?_ ?_ | refine Resp.hcode ?_) ?_ ?_ | ((first | refine HReg.step ?_ | refine HCode.step ?_); first | refine hcutC (a := Code.seq (Code.region _ _ _) (Code.block _ _)) [18, 129, 130, 131, 132, 133, 134, 135, 136, 137, 138, 139, 140, 141, 142, 143, 144] [] (Q2J H g g2 T) rfl (by repeat' first | exact Resp.retD | exact Resp1.valuesK | refine Resp.blockD ?_ | refine Resp.thenD ?_ ?_ | refine Resp.hcode ?_) ?_ ?_ | ((first | refine HReg.step ?_ | refine HCode.step ?_); first | refine hcutC (a := Code.seq (Code.region _ _ _) (Code.block _ _)) [18, 129, 130, 131, 132, 133, 134, 135, 136, 137, 138, 139, 140, 141, 142, 143, 144] [] (Q2J H g g2 T) rfl (by repeat' first | exact Resp.retD | exact Resp1.valuesK | refine Resp.blockD ?_ | refine Resp.thenD ?_ ?_ | refine Resp.hcode ?_) ?_ ?_ | ((first | refine HReg.step ?_ | refine HCode.step ?_); first | refine hcutC (a := Code.seq (Code.region _ _ _) (Code.block _ _)) [18, 129, 130, 131, 132, 133, 134, 135, 136, 137, 138, 139, 140, 141, 142, 143, 144] [] (Q2J H g g2 T) rfl (by repeat' first | exact Resp.retD | exact Resp1.valuesK | refine Resp.blockD ?_ | refine Resp.thenD ?_ ?_ | refine Resp.hcode ?_) ?_ ?_ | ((first | refine HReg.step ?_ | refine HCode.step ?_); first | refine hcutC (a := Code.seq (Code.region _ _ _) (Code.block _ _)) [18, 129, 130, 131, 132, 133, 134, 135, 136, 137, 138, 139, 140, 141, 142, 143, 144] [] (Q2J H g g2 T) rfl (by repeat' first | exact Resp.retD | exact Resp1.valuesK | refine Resp.blockD ?_ | refine Resp.thenD ?_ ?_ | refine Resp.hcode ?_) ?_ ?_ | ((first | refine HReg.step ?_ | refine HCode.step ?_); first | refine hcutC (a := Code.seq (Code.region _ _ _) (Code.block _ _)) [18, 129, 130, 131, 132, 133, 134, 135, 136, 137, 138, 139, 140, 141, 142, 143, 144] [] (Q2J H g g2 T) rfl (by repeat' first | exact Resp.retD | exact Resp1.valuesK | refine Resp.blockD ?_ | refine Resp.thenD ?_ ?_ | refine Resp.hcode ?_) ?_ ?_ | ((first | refine HReg.step ?_ | refine HCode.step ?_); first | refine hcutC (a := Code.seq (Code.region _ _ _) (Code.block _ _)) [18, 129, 130, 131, 132, 133, 134, 135, 136, 137, 138, 139, 140, 141, 142, 143, 144] [] (Q2J H g g2 T) rfl (by repeat' first | exact Resp.retD | exact Resp1.valuesK | refine Resp.blockD ?_ | refine Resp.thenD ?_ ?_ | refine Resp.hcode ?_) ?_ ?_ | ((first | refine HReg.step ?_ | refine HCode.step ?_); first | refine hcutC (a := Code.seq (Code.region _ _ _) (Code.block _ _)) [18, 129, 130, 131, 132, 133, 134, 135, 136, 137, 138, 139, 140, 141, 142, 143, 144] [] (Q2J H g g2 T) rfl (by repeat' first | exact Resp.retD | exact Resp1.valuesK | refine Resp.blockD ?_ | refine Resp.thenD ?_ ?_ | refine Resp.hcode ?_) ?_ ?_ | ((first | refine HReg.step ?_ | refine HCode.step ?_); first | refine hcutC (a := Code.seq (Code.region _ _ _) (Code.block _ _)) [18, 129, 130, 131, 132, 133, 134, 135, 136, 137, 138, 139, 140, 141, 142, 143, 144] [] (Q2J H g g2 T) rfl (by repeat' first | exact Resp.retD | exact Resp1.valuesK | refine Resp.blockD ?_ | refine Resp.thenD ?_ ?_ | refine Resp.hcode ?_) ?_ ?_ | ((first | refine HReg.step ?_ | refine HCode.step ?_); first | refine hcutC (a := Code.seq (Code.region _ _ _) (Code.block _ _)) [18, 129, 130, 131, 132, 133, 134, 135, 136, 137, 138, 139, 140, 141, 142, 143, 144] [] (Q2J H g g2 T) rfl (by repeat' first | exact Resp.retD | exact Resp1.valuesK | refine Resp.blockD ?_ | refine Resp.thenD ?_ ?_ | refine Resp.hcode ?_) ?_ ?_ | ((first | refine HReg.step ?_ | refine HCode.step ?_); first | refine hcutC (a := Code.seq (Code.region _ _ _) (Code.block _ _)) [18, 129, 130, 131, 132, 133, 134, 135, 136, 137, 138, 139, 140, 141, 142, 143, 144] [] (Q2J H g g2 T) rfl (by repeat' first | exact Resp.retD | exact Resp1.valuesK | refine Resp.blockD ?_ | refine Resp.thenD ?_ ?_ | refine Resp.hcode ?_) ?_ ?_ | ((first | refine HReg.step ?_ | refine HCode.step ?_); first | refine hcutC (a := Code.seq (Code.region _ _ _) (Code.block _ _)) [18, 129, 130, 131, 132, 133, 134, 135, 136, 137, 138, 139, 140, 141, 142, 143, 144] [] (Q2J H g g2 T) rfl (by repeat' first | exact Resp.retD | exact Resp1.valuesK | refine Resp.blockD ?_ | refine Resp.thenD ?_ ?_ | refine Resp.hcode ?_) ?_ ?_ | ((first | refine HReg.step ?_ | refine HCode.step ?_); first | refine hcutC (a := Code.seq (Code.region _ _ _) (Code.block _ _)) [18, 129, 130, 131, 132, 133, 134, 135, 136, 137, 138, 139, 140, 141, 142, 143, 144] [] (Q2J H g g2 T) rfl (by repeat' first | exact Resp.retD | exact Resp1.valuesK | refine Resp.blockD ?_ | refine Resp.thenD ?_ ?_ | refine Resp.hcode ?_) ?_ ?_ | ((first | refine HReg.step ?_ | refine HCode.step ?_); first | refine hcutC (a := Code.seq (Code.region _ _ _) (Code.block _ _)) [18, 129, 130, 131, 132, 133, 134, 135, 136, 137, 138, 139, 140, 141, 142, 143, 144] [] (Q2J H g g2 T) rfl (by repeat' first | exact Resp.retD | exact Resp1.valuesK | refine Resp.blockD ?_ | refine Resp.thenD ?_ ?_ | refine Resp.hcode ?_) ?_ ?_ | ((first | refine HReg.step ?_ | refine HCode.step ?_); first | refine hcutC (a := Code.seq (Code.region _ _ _) (Code.block _ _)) [18, 129, 130, 131, 132, 133, 134, 135, 136, 137, 138, 139, 140, 141, 142, 143, 144] [] (Q2J H g g2 T) rfl (by repeat' first | exact Resp.retD | exact Resp1.valuesK | refine Resp.blockD ?_ | refine Resp.thenD ?_ ?_ | refine Resp.hcode ?_) ?_ ?_ | ((first | refine HReg.step ?_ | refine HCode.step ?_); first | refine hcutC (a := Code.seq (Code.region _ _ _) (Code.block _ _)) [18, 129, 130, 131, 132, 133, 134, 135, 136, 137, 138, 139, 140, 141, 142, 143, 144] [] (Q2J H g g2 T) rfl (by repeat' first | exact Resp.retD | exact Resp1.valuesK | refine Resp.blockD ?_ | refine Resp.thenD ?_ ?_ | refine Resp.hcode ?_) ?_ ?_ | ((first | refine HReg.step ?_ | refine HCode.step ?_); first | refine hcutC (a := Code.seq (Code.region _ _ _) (Code.block _ _)) [18, 129, 130, 131, 132, 133, 134, 135, 136, 137, 138, 139, 140, 141, 142, 143, 144] [] (Q2J H g g2 T) rfl (by repeat' first | exact Resp.retD | exact Resp1.valuesK | refine Resp.blockD ?_ | refine Resp.thenD ?_ ?_ | refine Resp.hcode ?_) ?_ ?_ | ((first | refine HReg.step ?_ | refine HCode.step ?_); first | refine hcutC (a := Code.seq (Code.region _ _ _) (Code.block _ _)) [18, 129, 130, 131, 132, 133, 134, 135, 136, 137, 138, 139, 140, 141, 142, 143, 144] [] (Q2J H g g2 T) rfl (by repeat' first | exact Resp.retD | exact Resp1.valuesK | refine Resp.blockD ?_ | refine Resp.thenD ?_ ?_ | refine Resp.hcode ?_) ?_ ?_ | ((first | refine HReg.step ?_ | refine HCode.step ?_); first | refine hcutC (a := Code.seq (Code.region _ _ _) (Code.block _ _)) [18, 129, 130, 131, 132, 133, 134, 135, 136, 137, 138, 139, 140, 141, 142, 143, 144] [] (Q2J H g g2 T) rfl (by repeat' first | exact Resp.retD | exact Resp1.valuesK | refine Resp.blockD ?_ | refine Resp.thenD ?_ ?_ | refine Resp.hcode ?_) ?_ ?_ | ((first | refine HReg.step ?_ | refine HCode.step ?_); first | refine hcutC (a := Code.seq (Code.region _ _ _) (Code.block _ _)) [18, 129, 130, 131, 132, 133, 134, 135, 136, 137, 138, 139, 140, 141, 142, 143, 144] [] (Q2J H g g2 T) rfl (by repeat' first | exact Resp.retD | exact Resp1.valuesK | refine Resp.blockD ?_ | refine Resp.thenD ?_ ?_ | refine Resp.hcode ?_) ?_ ?_ | ((first | refine HReg.step ?_ | refine HCode.step ?_); first | refine hcutC (a := Code.seq (Code.region _ _ _) (Code.block _ _)) [18, 129, 130, 131, 132, 133, 134, 135, 136, 137, 138, 139, 140, 141, 142, 143, 144] [] (Q2J H g g2 T) rfl (by repeat' first | exact Resp.retD | exact Resp1.valuesK | refine Resp.blockD ?_ | refine Resp.thenD ?_ ?_ | refine Resp.hcode ?_) ?_ ?_ | ((first | refine HReg.step ?_ | refine HCode.step ?_); first | refine hcutC (a := Code.seq (Code.region _ _ _) (Code.block _ _)) [18, 129, 130, 131, 132, 133, 134, 135, 136, 137, 138, 139, 140, 141, 142, 143, 144] [] (Q2J H g g2 T) rfl (by repeat' first | exact Resp.retD | exact Resp1.valuesK | refine Resp.blockD ?_ | refine Resp.thenD ?_ ?_ | refine Resp.hcode ?_) ?_ ?_ | ((first | refine HReg.step ?_ | refine HCode.step ?_); first | refine hcutC (a := Code.seq (Code.region _ _ _) (Code.block _ _)) [18, 129, 130, 131, 132, 133, 134, 135, 136, 137, 138, 139, 140, 141, 142, 143, 144] [] (Q2J H g g2 T) rfl (by repeat' first | exact Resp.retD | exact Resp1.valuesK | refine Resp.blockD ?_ | refine Resp.thenD ?_ ?_ | refine Resp.hcode ?_) ?_ ?_ | ((first | refine HReg.step ?_ | refine HCode.step ?_); first | refine hcutC (a := Code.seq (Code.region _ _ _) (Code.block _ _)) [18, 129, 130, 131, 132, 133, 134, 135, 136, 137, 138, 139, 140, 141, 142, 143, 144] [] (Q2J H g g2 T) rfl (by repeat' first | exact Resp.retD | exact Resp1.valuesK | refine Resp.blockD ?_ | refine Resp.thenD ?_ ?_ | refine Resp.hcode ?_) ?_ ?_ | ((first | refine HReg.step ?_ | refine HCode.step ?_); first | refine hcutC (a := Code.seq (Code.region _ _ _) (Code.block _ _)) [18, 129, 130, 131, 132, 133, 134, 135, 136, 137, 138, 139, 140, 141, 142, 143, 144] [] (Q2J H g g2 T) rfl (by repeat' first | exact Resp.retD | exact Resp1.valuesK | refine Resp.blockD ?_ | refine Resp.thenD ?_ ?_ | refine Resp.hcode ?_) ?_ ?_ | ((first | refine HReg.step ?_ | refine HCode.step ?_); first | refine hcutC (a := Code.seq (Code.region _ _ _) (Code.block _ _)) [18, 129, 130, 131, 132, 133, 134, 135, 136, 137, 138, 139, 140, 141, 142, 143, 144] [] (Q2J H g g2 T) rfl (by repeat' first | exact Resp.retD | exact Resp1.valuesK | refine Resp.blockD ?_ | refine Resp.thenD ?_ ?_ | refine Resp.hcode ?_) ?_ ?_ | ((first | refine HReg.step ?_ | refine HCode.step ?_); first | refine hcutC (a := Code.seq (Code.region _ _ _) (Code.block _ _)) [18, 129, 130, 131, 132, 133, 134, 135, 136, 137, 138, 139, 140, 141, 142, 143, 144] [] (Q2J H g g2 T) rfl (by repeat' first | exact Resp.retD | exact Resp1.valuesK | refine Resp.blockD ?_ | refine Resp.thenD ?_ ?_ | refine Resp.hcode ?_) ?_ ?_ | ((first | refine HReg.step ?_ | refine HCode.step ?_); first | refine hcutC (a := Code.seq (Code.region _ _ _) (Code.block _ _)) [18, 129, 130, 131, 132, 133, 134, 135, 136, 137, 138, 139, 140, 141, 142, 143, 144] [] (Q2J H g g2 T) rfl (by repeat' first | exact Resp.retD | exact Resp1.valuesK | refine Resp.blockD ?_ | refine Resp.thenD ?_ ?_ | refine Resp.hcode ?_) ?_ ?_ | ((first | refine HReg.step ?_ | refine HCode.step ?_); first | refine hcutC (a := Code.seq (Code.region _ _ _) (Code.block _ _)) [18, 129, 130, 131, 132, 133, 134, 135, 136, 137, 138, 139, 140, 141, 142, 143, 144] [] (Q2J H g g2 T) rfl (by repeat' first | exact Resp.retD | exact Resp1.valuesK | refine Resp.blockD ?_ | refine Resp.thenD ?_ ?_ | refine Resp.hcode ?_) ?_ ?_ | ((first | refine HReg.step ?_ | refine HCode.step ?_); first | refine hcutC (a := Code.seq (Code.region _ _ _) (Code.block _ _)) [18, 129, 130, 131, 132, 133, 134, 135, 136, 137, 138, 139, 140, 141, 142, 143, 144] [] (Q2J H g g2 T) rfl (by repeat' first | exact Resp.retD | exact Resp1.valuesK | refine Resp.blockD ?_ | refine Resp.thenD ?_ ?_ | refine Resp.hcode ?_) ?_ ?_ | ((first | refine HReg.step ?_ | refine HCode.step ?_); first | refine hcutC (a := Code.seq (Code.region _ _ _) (Code.block _ _)) [18, 129, 130, 131, 132, 133, 134, 135, 136, 137, 138, 139, 140, 141, 142, 143, 144] [] (Q2J H g g2 T) rfl (by repeat' first | exact Resp.retD | exact Resp1.valuesK | refine Resp.blockD ?_ | refine Resp.thenD ?_ ?_ | refine Resp.hcode ?_) ?_ ?_ | ((first | refine HReg.step ?_ | refine HCode.step ?_); first | refine hcutC (a := Code.seq (Code.region _ _ _) (Code.block _ _)) [18, 129, 130, 131, 132, 133, 134, 135, 136, 137, 138, 139, 140, 141, 142, 143, 144] [] (Q2J H g g2 T) rfl (by repeat' first | exact Resp.retD | exact Resp1.valuesK | refine Resp.blockD ?_ | refine Resp.thenD ?_ ?_ | refine Resp.hcode ?_) ?_ ?_ | ((first | refine HReg.step ?_ | refine HCode.step ?_); first | refine hcutC (a := Code.seq (Code.region _ _ _) (Code.block _ _)) [18, 129, 130, 131, 132, 133, 134, 135, 136, 137, 138, 139, 140, 141, 142, 143, 144] [] (Q2J H g g2 T) rfl (by repeat' first | exact Resp.retD | exact Resp1.valuesK | refine Resp.blockD ?_ | refine Resp.thenD ?_ ?_ | refine Resp.hcode ?_) ?_ ?_ | ((first | refine HReg.step ?_ | refine HCode.step ?_); first | refine hcutC (a := Code.seq (Code.region _ _ _) (Code.block _ _)) [18, 129, 130, 131, 132, 133, 134, 135, 136, 137, 138, 139, 140, 141, 142, 143, 144] [] (Q2J H g g2 T) rfl (by repeat' first | exact Resp.retD | exact Resp1.valuesK | refine Resp.blockD ?_ | refine Resp.thenD ?_ ?_ | refine Resp.hcode ?_) ?_ ?_ | ((first | refine HReg.step ?_ | refine HCode.step ?_); first | refine hcutC (a := Code.seq (Code.region _ _ _) (Code.block _ _)) [18, 129, 130, 131, 132, 133, 134, 135, 136, 137, 138, 139, 140, 141, 142, 143, 144] [] (Q2J H g g2 T) rfl (by repeat' first | exact Resp.retD | exact Resp1.valuesK | refine Resp.blockD ?_ | refine Resp.thenD ?_ ?_ | refine Resp.hcode ?_) ?_ ?_ | ((first | refine HReg.step ?_ | refine HCode.step ?_); first | refine hcutC (a := Code.seq (Code.region _ _ _) (Code.block _ _)) [18, 129, 130, 131, 132, 133, 134, 135, 136, 137, 138, 139, 140, 141, 142, 143, 144] [] (Q2J H g g2 T) rfl (by repeat' first | exact Resp.retD | exact Resp1.valuesK | refine Resp.blockD ?_ | refine Resp.thenD ?_ ?_ | refine Resp.hcode ?_) ?_ ?_ | ((first | refine HReg.step ?_ | refine HCode.step ?_); first | refine hcutC (a := Code.seq (Code.region _ _ _) (Code.block _ _)) [18, 129, 130, 131, 132, 133, 134, 135, 136, 137, 138, 139, 140, 141, 142, 143, 144] [] (Q2J H g g2 T) rfl (by repeat' first | exact Resp.retD | exact Resp1.valuesK | refine Resp.blockD ?_ | refine Resp.thenD ?_ ?_ | refine Resp.hcode ?_) ?_ ?_ | ((first | refine HReg.step ?_ | refine HCode.step ?_); first | refine hcutC (a := Code.seq (Code.region _ _ _) (Code.block _ _)) [18, 129, 130, 131, 132, 133, 134, 135, 136, 137, 138, 139, 140, 141, 142, 143, 144] [] (Q2J H g g2 T) rfl (by repeat' first | exact Resp.retD | exact Resp1.valuesK | refine Resp.blockD ?_ | refine Resp.thenD ?_ ?_ | refine Resp.hcode ?_) ?_ ?_ | ((first | refine HReg.step ?_ | refine HCode.step ?_); first | refine hcutC (a := Code.seq (Code.region _ _ _) (Code.block _ _)) [18, 129, 130, 131, 132, 133, 134, 135, 136, 137, 138, 139, 140, 141, 142, 143, 144] [] (Q2J H g g2 T) rfl (by repeat' first | exact Resp.retD | exact Resp1.valuesK | refine Resp.blockD ?_ | refine Resp.thenD ?_ ?_ | refine Resp.hcode ?_) ?_ ?_ | ((first | refine HReg.step ?_ | refine HCode.step ?_); first | refine hcutC (a := Code.seq (Code.region _ _ _) (Code.block _ _)) [18, 129, 130, 131, 132, 133, 134, 135, 136, 137, 138, 139, 140, 141, 142, 143, 144] [] (Q2J H g g2 T) rfl (by repeat' first | exact Resp.retD | exact Resp1.valuesK | refine Resp.blockD ?_ | refine Resp.thenD ?_ ?_ | refine Resp.hcode ?_) ?_ ?_ | ((first | refine HReg.step ?_ | refine HCode.step ?_); first | refine hcutC (a := Code.seq (Code.region _ _ _) (Code.block _ _)) [18, 129, 130, 131, 132, 133, 134, 135, 136, 137, 138, 139, 140, 141, 142, 143, 144] [] (Q2J H g g2 T) rfl (by repeat' first | exact Resp.retD | exact Resp1.valuesK | refine Resp.blockD ?_ | refine Resp.thenD ?_ ?_ | refine Resp.hcode ?_) ?_ ?_ | ((first | refine HReg.step ?_ | refine HCode.step ?_); first | refine hcutC (a := Code.seq (Code.region _ _ _) (Code.block _ _)) [18, 129, 130, 131, 132, 133, 134, 135, 136, 137, 138, 139, 140, 141, 142, 143, 144] [] (Q2J H g g2 T) rfl (by repeat' first | exact Resp.retD | exact Resp1.valuesK | refine Resp.blockD ?_ | refine Resp.thenD ?_ ?_ | refine Resp.hcode ?_) ?_ ?_ | ((first | refine HReg.step ?_ | refine HCode.step ?_); first | refine hcutC (a := Code.seq (Code.region _ _ _) (Code.block _ _)) [18, 129, 130, 131, 132, 133, 134, 135, 136, 137, 138, 139, 140, 141, 142, 143, 144] [] (Q2J H g g2 T) rfl (by repeat' first | exact Resp.retD | exact Resp1.valuesK | refine Resp.blockD ?_ | refine Resp.thenD ?_ ?_ | refine Resp.hcode ?_) ?_ ?_ | ((first | refine HReg.step ?_ | refine HCode.step ?_); first | refine hcutC (a := Code.seq (Code.region _ _ _) (Code.block _ _)) [18, 129, 130, 131, 132, 133, 134, 135, 136, 137, 138, 139, 140, 141, 142, 143, 144] [] (Q2J H g g2 T) rfl (by repeat' first | exact Resp.retD | exact Resp1.valuesK | refine Resp.blockD ?_ | refine Resp.thenD ?_ ?_ | refine Resp.hcode ?_) ?_ ?_ | ((first | refine HReg.step ?_ | refine HCode.step ?_); first | refine hcutC (a := Code.seq (Code.region _ _ _) (Code.block _ _)) [18, 129, 130, 131, 132, 133, 134, 135, 136, 137, 138, 139, 140, 141, 142, 143, 144] [] (Q2J H g g2 T) rfl (by repeat' first | exact Resp.retD | exact Resp1.valuesK | refine Resp.blockD ?_ | refine Resp.thenD ?_ ?_ | refine Resp.hcode ?_) ?_ ?_ | ((first | refine HReg.step ?_ | refine HCode.step ?_); first | refine hcutC (a := Code.seq (Code.region _ _ _) (Code.block _ _)) [18, 129, 130, 131, 132, 133, 134, 135, 136, 137, 138, 139, 140, 141, 142, 143, 144] [] (Q2J H g g2 T) rfl (by repeat' first | exact Resp.retD | exact Resp1.valuesK | refine Resp.blockD ?_ | refine Resp.thenD ?_ ?_ | refine Resp.hcode ?_) ?_ ?_ | ((first | refine HReg.step ?_ | refine HCode.step ?_); first | refine hcutC (a := Code.seq (Code.region _ _ _) (Code.block _ _)) [18, 129, 130, 131, 132, 133, 134, 135, 136, 137, 138, 139, 140, 141, 142, 143, 144] [] (Q2J H g g2 T) rfl (by repeat' first | exact Resp.retD | exact Resp1.valuesK | refine Resp.blockD ?_ | refine Resp.thenD ?_ ?_ | refine Resp.hcode ?_) ?_ ?_ | ((first | refine HReg.step ?_ | refine HCode.step ?_); first | refine hcutC (a := Code.seq (Code.region _ _ _) (Code.block _ _)) [18, 129, 130, 131, 132, 133, 134, 135, 136, 137, 138, 139, 140, 141, 142, 143, 144] [] (Q2J H g g2 T) rfl (by repeat' first | exact Resp.retD | exact Resp1.valuesK | refine Resp.blockD ?_ | refine Resp.thenD ?_ ?_ | refine Resp.hcode ?_) ?_ ?_ | ((first | refine HReg.step ?_ | refine HCode.step ?_); first | refine hcutC (a := Code.seq (Code.region _ _ _) (Code.block _ _)) [18, 129, 130, 131, 132, 133, 134, 135, 136, 137, 138, 139, 140, 141, 142, 143, 144] [] (Q2J H g g2 T) rfl (by repeat' first | exact Resp.retD | exact Resp1.valuesK | refine Resp.blockD ?_ | refine Resp.thenD ?_ ?_ | refine Resp.hcode ?_) ?_ ?_ | ((first | refine HReg.step ?_ | refine HCode.step ?_); first | refine hcutC (a := Code.seq (Code.region _ _ _) (Code.block _ _)) [18, 129, 130, 131, 132, 133, 134, 135, 136, 137, 138, 139, 140, 141, 142, 143, 144] [] (Q2J H g g2 T) rfl (by repeat' first | exact Resp.retD | exact Resp1.valuesK | refine Resp.blockD ?_ | refine Resp.thenD ?_ ?_ | refine Resp.hcode ?_) ?_ ?_ | ((first | refine HReg.step ?_ | refine HCode.step ?_); first | refine hcutC (a := Code.seq (Code.region _ _ _) (Code.block _ _)) [18, 129, 130, 131, 132, 133, 134, 135, 136, 137, 138, 139, 140, 141, 142, 143, 144] [] (Q2J H g g2 T) rfl (by repeat' first | exact Resp.retD | exact Resp1.valuesK | refine Resp.blockD ?_ | refine Resp.thenD ?_ ?_ | refine Resp.hcode ?_) ?_ ?_ | ((first | refine HReg.step ?_ | refine HCode.step ?_); first | refine hcutC (a := Code.seq (Code.region _ _ _) (Code.block _ _)) [18, 129, 130, 131, 132, 133, 134, 135, 136, 137, 138, 139, 140, 141, 142, 143, 144] [] (Q2J H g g2 T) rfl (by repeat' first | exact Resp.retD | exact Resp1.valuesK | refine Resp.blockD ?_ | refine Resp.thenD ?_ ?_ | refine Resp.hcode ?_) ?_ ?_ | ((first | refine HReg.step ?_ | refine HCode.step ?_); first | refine hcutC (a := Code.seq (Code.region _ _ _) (Code.block _ _)) [18, 129, 130, 131, 132, 133, 134, 135, 136, 137, 138, 139, 140, 141, 142, 143, 144] [] (Q2J H g g2 T) rfl (by repeat' first | exact Resp.retD | exact Resp1.valuesK | refine Resp.blockD ?_ | refine Resp.thenD ?_ ?_ | refine Resp.hcode ?_) ?_ ?_ | ((first | refine HReg.step ?_ | refine HCode.step ?_); first | refine hcutC (a := Code.seq (Code.region _ _ _) (Code.block _ _)) [18, 129, 130, 131, 132, 133, 134, 135, 136, 137, 138, 139, 140, 141, 142, 143, 144] [] (Q2J H g g2 T) rfl (by repeat' first | exact Resp.retD | exact Resp1.valuesK | refine Resp.blockD ?_ | refine Resp.thenD ?_ ?_ | refine Resp.hcode ?_) ?_ ?_ | ((first | refine HReg.step ?_ | refine HCode.step ?_); first | refine hcutC (a := Code.seq (Code.region _ _ _) (Code.block _ _)) [18, 129, 130, 131, 132, 133, 134, 135, 136, 137, 138, 139, 140, 141, 142, 143, 144] [] (Q2J H g g2 T) rfl (by repeat' first | exact Resp.retD | exact Resp1.valuesK | refine Resp.blockD ?_ | refine Resp.thenD ?_ ?_ | refine Resp.hcode ?_) ?_ ?_ | ((first | refine HReg.step ?_ | refine HCode.step ?_); first | refine hcutC (a := Code.seq (Code.region _ _ _) (Code.block _ _)) [18, 129, 130, 131, 132, 133, 134, 135, 136, 137, 138, 139, 140, 141, 142, 143, 144] [] (Q2J H g g2 T) rfl (by repeat' first | exact Resp.retD | exact Resp1.valuesK | refine Resp.blockD ?_ | refine Resp.thenD ?_ ?_ | refine Resp.hcode ?_) ?_ ?_ | ((first | refine HReg.step ?_ | refine HCode.step ?_); first | refine hcutC (a := Code.seq (Code.region _ _ _) (Code.block _ _)) [18, 129, 130, 131, 132, 133, 134, 135, 136, 137, 138, 139, 140, 141, 142, 143, 144] [] (Q2J H g g2 T) rfl (by repeat' first | exact Resp.retD | exact Resp1.valuesK | refine Resp.blockD ?_ | refine Resp.thenD ?_ ?_ | refine Resp.hcode ?_) ?_ ?_ | ((first | refine HReg.step ?_ | refine HCode.step ?_); first | refine hcutC (a := Code.seq (Code.region _ _ _) (Code.block _ _)) [18, 129, 130, 131, 132, 133, 134, 135, 136, 137, 138, 139, 140, 141, 142, 143, 144] [] (Q2J H g g2 T) rfl (by repeat' first | exact Resp.retD | exact Resp1.valuesK | refine Resp.blockD ?_ | refine Resp.thenD ?_ ?_ | refine Resp.hcode ?_) ?_ ?_ | ((first | refine HReg.step ?_ | refine HCode.step ?_); first | refine hcutC (a := Code.seq (Code.region _ _ _) (Code.block _ _)) [18, 129, 130, 131, 132, 133, 134, 135, 136, 137, 138, 139, 140, 141, 142, 143, 144] [] (Q2J H g g2 T) rfl (by repeat' first | exact Resp.retD | exact Resp1.valuesK | refine Resp.blockD ?_ | refine Resp.thenD ?_ ?_ | refine Resp.hcode ?_) ?_ ?_ | ((first | refine HReg.step ?_ | refine HCode.step ?_); first | refine hcutC (a := Code.seq (Code.region _ _ _) (Code.block _ _)) [18, 129, 130, 131, 132, 133, 134, 135, 136, 137, 138, 139, 140, 141, 142, 143, 144] [] (Q2J H g g2 T) rfl (by repeat' first | exact Resp.retD | exact Resp1.valuesK | refine Resp.blockD ?_ | refine Resp.thenD ?_ ?_ | refine Resp.hcode ?_) ?_ ?_ | ((first | refine HReg.step ?_ | refine HCode.step ?_); refine hcutC (a := Code.seq (Code.region _ _ _) (Code.block _ _)) [18, 129, 130, 131, 132, 133, 134, 135, 136, 137, 138, 139, 140, 141, 142, 143, 144] [] (Q2J H g g2 T) rfl (by repeat' first | exact Resp.retD | exact Resp1.valuesK | refine Resp.blockD ?_ | refine Resp.thenD ?_ ?_ | refine Resp.hcode ?_) ?_ ?_))))))))))))))))))))))))))))))))))))))))))))))))))))))))))))
  · (repeat first | refine HReg.step ?_ | refine HCode.step ?_)
    refine hloopC [18, 129, 130, 131, 132, 133, 134, 135, 136, 137, 138, 139, 140, 141, 142, 143, 144] [18] (Q3Inv H g g2 S5 T w5) rfl (by repeat' first | exact Resp.retD | exact Resp1.valuesK | refine Resp.blockD ?_ | refine Resp.thenD ?_ ?_ | refine Resp.hcode ?_) ?_ ?_
    · exact ⟨131072, Q3Inv.mk ⟨0, _, rfl, rfl, d6, e6⟩⟩
    rintro q _ fe3 H7 ⟨j, r7, rfl, hqj, d7, e7⟩
    have fin : Q2J H g g2 T [] H7 := Q2J.mk ⟨S5, w5, r7, rfl, d7, e7, ap5, hw5⟩
    (repeat first | refine HReg.step ?_ | refine HCode.step ?_)
    cases hj : ltB (j : Int) 131072 with
    | false =>
      (repeat first | refine HReg.step ?_ | refine HCode.step ?_)
      exact fin
    | true =>
      (repeat first | refine HReg.step ?_ | refine HCode.step ?_)
      refine HCall.mk ⟨Try.f26, Try.func26, by rfl, by rfl⟩ ?_
      refine err_t e7 ?_
      (repeat first | refine HReg.step ?_ | refine HCode.step ?_)
      cases hr : eqB r7.err 0 with
      | false =>
        (repeat first | refine HReg.step ?_ | refine HCode.step ?_)
        exact fin
      | true =>
        (repeat first | refine HReg.step ?_ | refine HCode.step ?_)
        refine hif (fun h3 => ?_) (fun h3 => ?_)
        · have hj' := ltB_true.1 hj
          have w2 : wr .i64 ((j : Int) + 1) = ((j + 1 : Nat) : Int) := by rw [wr_i64 (by omega) (by omega)]; omega
          (repeat first | refine HReg.step ?_ | refine HCode.step ?_)
          refine HCall.mk ⟨Try.f11, Try.func11, by rfl, by rfl⟩ ?_
          refine ru8_t e7 fun H8 e8 u8 => ?_
          have d8 := d7.upd u8 (notg ap5 e7.mem) (noneg e7.new e7.mem)
          (repeat first | refine HReg.step ?_ | refine HCode.step ?_)
          rw [w2]
          exact ⟨q - 1, by omega, Q3Inv.mk ⟨j + 1, _, rfl, by omega, d8, e8⟩⟩
        · (repeat first | refine HReg.step ?_ | refine HCode.step ?_)
          exact fin
  rintro _ fe4 H9 ⟨S9, w9, r9, rfl, d9, e9, ap9, hw9⟩
  (repeat first | refine HReg.step ?_ | refine HCode.step ?_)
  refine HCall.mk ⟨Try.f19, Try.func19, by rfl, by rfl⟩ ?_
  refine len_t d9 ?_
  (repeat first | refine HReg.step ?_ | refine HCode.step ?_)
  refine HCall.mk ⟨Try.f24, Try.func24, by rfl, by rfl⟩ ?_
  refine left_t e9 ?_
  (repeat first | refine HReg.step ?_ | refine HCode.step ?_)
  refine HCall.mk ⟨Try.f26, Try.func26, by rfl, by rfl⟩ ?_
  refine err_t e9 ?_
  (repeat first | refine HReg.step ?_ | refine HCode.step ?_)
  refine HCall.mk ⟨Try.f14, Try.func14, by rfl, by rfl⟩ ?_
  refine out_t d9 (by omega) fun aA cA HA mA => ?_
  have dA := d9.upd0 mA.upd
  have eA := e9.upd0 mA.upd
  (repeat first | refine HReg.step ?_ | refine HCode.step ?_)
  refine hloopC [8, 24, 25, 26, 156, 157, 158, 159, 160, 161, 162, 163, 164, 165, 166, 167, 168, 169, 170, 171, 172, 173, 174, 175, 176, 177, 178, 179, 180, 181, 182, 183, 184, 185, 186, 187, 188, 189, 190, 191, 192, 193, 194, 195, 196, 197, 198, 199, 200, 201, 202, 203, 204, 205, 206, 207, 208, 209, 210, 211, 212, 213, 214, 215, 216, 217, 218, 219, 220, 221, 222, 223, 224, 225, 226, 227, 228] [24] (Q4Inv H g g2 T w9 r9 k3) rfl (by repeat' first | exact Resp.retD | exact Resp1.valuesK | refine Resp.blockD ?_ | refine Resp.thenD ?_ ?_ | refine Resp.hcode ?_) ?_ ?_
  · exact ⟨k3, Q4Inv.mk ⟨0, S9, rfl, rfl, dA, eA, ap9⟩⟩
  rintro q _ fe5 HB ⟨j, SB, rfl, hqj, dB, eB, apB⟩
  have fin : K (.bool true) HB := hk HB dB.base
  (repeat first | refine HReg.step ?_ | refine HCode.step ?_)
  cases hj : ltB (j : Int) (k3 : Int) with
  | false =>
    (repeat first | refine HReg.step ?_ | refine HCode.step ?_)
    exact fin
  | true =>
    (repeat first | refine HReg.step ?_ | refine HCode.step ?_)
    cases hw : eqB w9.err 0 with
    | true =>
      (repeat first | refine HReg.step ?_ | refine HCode.step ?_)
      exact fin
    | false =>
      (repeat first | refine HReg.step ?_ | refine HCode.step ?_)
      cases hr : eqB r9.err 0 with
      | true =>
        (repeat first | refine HReg.step ?_ | refine HCode.step ?_)
        exact fin
      | false =>
        have hj' := ltB_true.1 hj
        have hw' := eqB_false.1 hw
        have hr' := eqB_false.1 hr
        obtain ⟨o, ho⟩ : ∃ o, more[j]? = some o := ⟨more[j]'(by omega), by simp⟩
        have hom := bo3 o (List.mem_of_getElem? ho)
        have hol := opLen_le ho
        have roB := ro3.upd (S := []) dB.base (.inr (Off.nil _))
        obtain ⟨ba, bo', rfl, _⟩ := roB _ _ (orow_get ho 0 _ rfl)
        have w2 : wr .i64 ((j : Int) + 1) = ((j + 1 : Nat) : Int) := by rw [wr_i64 (by omega) (by omega)]; omega
        have hwo : w9.op o = w9 := by rw [op_lay]; unfold W.lay; rw [if_pos hw']
        have hro : r9.op o = r9 := (op_left r9 o).keep hr'
        have n8 : r9.number 8 = (0, r9) := by unfold R.number; rw [if_pos hr']
        have t8 : r9.text 9 = ([], r9) := by unfold R.text; rw [if_pos hr']
        have k8 : r9.count 9 = (0, r9) := by unfold R.count; rw [if_pos hr']
        have x8 : r9.texts 9 9 = ([], r9) := by
          have he : (R.many 9 (r9.count 9).1 (r9.count 9).2) = ([], r9) := by rw [k8]; rfl
          unfold R.texts
          rw [he, if_pos hr']
        (repeat first | refine HReg.step ?_ | refine HCode.step ?_)
        refine HReq.mk ⟨by omega, by omega⟩ ?_
        (repeat first | refine HReg.step ?_ | refine HCode.step ?_)
        refine HLoadN_op roB ho ?_
        (repeat first | refine HReg.step ?_ | refine HCode.step ?_)
        refine HCall.mk ⟨Try.f12, Try.func12, by rfl, by rfl⟩ ?_
        refine write_t dB hom (by omega) fun SC HC dC fC => ?_
        rw [hwo] at dC
        have eC := eB.upd fC.upd (fun b hb => apB.symm b hb) dB.new
        have apC := apB.foot fC eB.live
        have roC := ro3.upd (S := []) dC.base (.inr (Off.nil _))
        (repeat first | refine HReg.step ?_ | refine HCode.step ?_)
        refine HReq.mk ⟨by omega, by omega⟩ ?_
        (repeat first | refine HReg.step ?_ | refine HCode.step ?_)
        refine HLoadN_op roC ho ?_
        (repeat first | refine HReg.step ?_ | refine HCode.step ?_)
        refine HCall.mk ⟨Try.f32, Try.func32, by rfl, by rfl⟩ ?_
        refine calls_t eC hom fun HD eD uD => ?_
        rw [hro] at eD
        have dD := dC.upd uD (notg apC eC.mem) (noneg eC.new eC.mem)
        (repeat first | refine HReg.step ?_ | refine HCode.step ?_)
        refine HCall.mk ⟨Try.f14, Try.func14, by rfl, by rfl⟩ ?_
        refine out_t dD (by omega) fun aE cE HE mE => ?_
        have dE := dD.upd0 mE.upd
        have eE := eD.upd0 mE.upd
        (repeat first | refine HReg.step ?_ | refine HCode.step ?_)
        refine HCall.mk ⟨Try.f19, Try.func19, by rfl, by rfl⟩ ?_
        refine len_t dE ?_
        (repeat first | refine HReg.step ?_ | refine HCode.step ?_)
        rw [eqB_self (w9.out.length : Int)]
        (repeat first | refine HReg.step ?_ | refine HCode.step ?_)
        refine HCall.mk ⟨Try.f24, Try.func24, by rfl, by rfl⟩ ?_
        refine left_t eE ?_
        (repeat first | refine HReg.step ?_ | refine HCode.step ?_)
        rw [eqB_self (r9.rest.length : Int)]
        (repeat first | refine HReg.step ?_ | refine HCode.step ?_)
        refine HCall.mk ⟨Try.f26, Try.func26, by rfl, by rfl⟩ ?_
        refine err_t eE ?_
        (repeat first | refine HReg.step ?_ | refine HCode.step ?_)
        rw [eqB_self r9.err]
        (repeat first | refine HReg.step ?_ | refine HCode.step ?_)
        rw [eqB_self w9.err]
        (repeat first | refine HReg.step ?_ | refine HCode.step ?_)
        refine HCall.mk ⟨Try.f34, Try.func34, by rfl, by rfl⟩ ?_
        refine ru64_t eE fun HF eF uF => ?_
        have dF := dE.upd uF (notg apC eE.mem) (noneg eE.new eE.mem)
        rw [n8] at eF ⊢
        (repeat first | refine HReg.step ?_ | refine HCode.step ?_)
        rw [show eqB (((0 : Nat) : Int)) 0 = true from eqB_true.2 rfl]
        (repeat first | refine HReg.step ?_ | refine HCode.step ?_)
        refine HCall.mk ⟨Try.f35, Try.func35, by rfl, by rfl⟩ ?_
        refine rtext_t (most := 9) eF (by decide) fun HG eG uG => ?_
        have dG := dF.upd uG (notg apC eF.mem) (noneg eF.new eF.mem)
        rw [t8] at eG ⊢
        have zs : seqB (bs []) (bs []) = true := by rw [seqB_bs]; rfl
        (repeat first | refine HReg.step ?_ | refine HCode.step ?_)
        first | rw [zs] | erw [zs]
        (repeat first | refine HReg.step ?_ | refine HCode.step ?_)
        refine HCall.mk ⟨Try.f36, Try.func36, by rfl, by rfl⟩ ?_
        refine rtexts_t (most := 9) (each := 9) eG (by decide) (by decide) fun aH cH HI eI uI oI fI => ?_
        have dI := dG.upd uI (notg apC eG.mem) (noneg eG.new eG.mem)
        rw [x8] at eI ⊢
        (repeat first | refine HReg.step ?_ | refine HCode.step ?_)
        rw [show eqB ((([] : List (List UInt8)).length : Nat) : Int) 0 = true from eqB_true.2 rfl]
        (repeat first | refine HReg.step ?_ | refine HCode.step ?_)
        refine HCall.mk ⟨Try.f37, Try.func37, by rfl, by rfl⟩ ?_
        refine count_t (most := 9) eI (by decide) fun HJ eJ uJ => ?_
        have dJ := dI.upd uJ (notg apC eI.mem) (noneg eI.new eI.mem)
        rw [k8] at eJ ⊢
        (repeat first | refine HReg.step ?_ | refine HCode.step ?_)
        rw [show eqB (((0 : Nat) : Int)) 0 = true from eqB_true.2 rfl]
        (repeat first | refine HReg.step ?_ | refine HCode.step ?_)
        rw [w2]
        exact ⟨q - 1, by omega, Q4Inv.mk ⟨j + 1, SC, rfl, by omega, dJ, eJ, apC⟩⟩
end Go.Proofs.Ytjnahdcolacldaa
