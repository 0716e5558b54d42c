import Derived.Test.YtjnahdcolacldaaP1
import Derived.Test.YtjnahdcolacldaaA11
namespace Go.Proofs.Ytjnahdcolacldaa
open Go Hv
set_option linter.unusedVariables false
set_option linter.unusedSimpArgs false
set_option maxRecDepth 10000
set_option maxHeartbeats 1000000
/-! rest, sameTexts, reads -/
def restN (n : Int) (most : Nat) : Nat := (n % ((most : Int) + 1)).toNat
theorem restN_le (n : Int) (most : Nat) : restN n most ≤ most := by
  unfold restN
  have := Int.emod_lt_of_pos n (show (0 : Int) < (most : Int) + 1 by omega)
  omega
theorem restN_eq (n : Int) (most : Nat) : (restN n most : Int) = n % ((most : Int) + 1) := by
  unfold restN
  have := Int.emod_nonneg n (show ((most : Int) + 1) ≠ 0 by omega)
  omega
theorem rest_t {n : Int} {most : Nat} {H : Heap} {K : Value → Heap → Prop} (hm : most ≤ 9223372036854775806) (hk : K (.int .i64 (restN n most : Int)) H) : HCalls Try.prog 31 [.int .i64 n, .int .i64 (most : Int)] H K := by
  refine hcalls (fn := Try.f31) [] mixed Try.func31 rfl rfl rfl ?_
  have w : wr .i64 ((most : Int) + 1) = (most : Int) + 1 := wr_i64 (by omega) (by omega)
  have h0 := Int.emod_nonneg n (show ((most : Int) + 1) ≠ 0 by omega)
  have h1 := Int.emod_lt_of_pos n (show (0 : Int) < (most : Int) + 1 by omega)
  have ht : Int.tmod n ((most : Int) + 1) = n % ((most : Int) + 1) ∧ 0 ≤ Int.tmod n ((most : Int) + 1) ∨ Int.tmod n ((most : Int) + 1) + ((most : Int) + 1) = n % ((most : Int) + 1) ∧ Int.tmod n ((most : Int) + 1) < 0 := by
    rw [Int.tmod_eq_emod]
    split
    · rename_i h; exact .inl ⟨by omega, by omega⟩
    · rename_i h; exact .inr ⟨by omega, by omega⟩
  rw [← w] at ht
  (repeat first | refine HReg.step ?_ | refine HCode.step ?_)
  refine HReq.mk (by rw [w]; omega) ?_
  (repeat first | refine HReg.step ?_ | refine HCode.step ?_)
  refine hif (fun h2 => ?_) (fun h2 => ?_)
  · have h2 := ltB_true.1 h2
    have hq : Int.tmod n (wr .i64 ((most : Int) + 1)) + (wr .i64 ((most : Int) + 1)) = n % (wr .i64 ((most : Int) + 1)) := by
      rcases ht with ⟨a, b⟩ | ⟨a, b⟩
      · omega
      · exact a
    have e : wr .i64 (wr .i64 (Int.tmod n (wr .i64 ((most : Int) + 1)) + (most : Int)) + 1) = (restN n most : Int) := by
      rw [restN_eq]
      rw [w] at hq h2 ⊢
      rw [wr_i64 (n := Int.tmod n ((most : Int) + 1) + (most : Int)) (by omega) (by omega), wr_i64 (by omega) (by omega)]
      omega
    (repeat first | refine HReg.step ?_ | refine HCode.step ?_)
    exact (show K (.int .i64 (wr .i64 (wr .i64 (Int.tmod n (wr .i64 ((most : Int) + 1)) + (most : Int)) + 1))) H from by rw [e]; exact hk)
  · have h2 := ltB_false.1 h2
    have e : Int.tmod n (wr .i64 ((most : Int) + 1)) = (restN n most : Int) := by
      rw [restN_eq]
      rcases ht with ⟨a, b⟩ | ⟨a, b⟩
      · rw [a, w]
      · omega
    (repeat first | refine HReg.step ?_ | refine HCode.step ?_)
    exact (show K (.int .i64 (Int.tmod n (wr .i64 ((most : Int) + 1)))) H from by rw [e]; exact hk)
structure SgInv (x y : List (List UInt8)) (n : Nat) (H : Heap) (m : Nat) (vs : List Value) (H' : Heap) : Prop where
  ex : ∃ i : Nat, vs = [.int .i64 (i : Int)] ∧ m + i = n ∧ H' = H ∧ x.take i = y.take i
theorem sameTexts_t {a b : Option Addr} {n m c d : Nat} {x y : List (List UInt8)} {H : Heap} {K : Value → Heap → Prop} (hx : RowAt H a (txts x)) (hy : RowAt H b (txts y)) (hn : x.length = n) (hm : y.length = m) (hlim : n ≤ 4611686018427387904)
    (hk : K (.bool (decide (x = y))) H) : HCalls Try.prog 13 [.slice a n c, .slice b m d] H K := by
  refine hcalls (fn := Try.f13) [(6, [(0, 0), (1, 0), (2, 0), (3, 0), (4, 0), (5, 0), (6, 0), (7, 0), (8, 0)])] mixed Try.func13 rfl rfl (by decide +kernel) ?_
  (repeat first | refine HReg.step ?_ | refine HCode.step ?_)
  refine hif (fun h => ?_) (fun h => ?_)
  · have h := not_eqB_true.1 h
    rw [decide_eq_false (fun e => h (by rw [← hn, ← hm, e]))] at hk
    (repeat first | refine HReg.step ?_ | refine HCode.step ?_)
    exact hk
  have h := not_eqB_false.1 h
  obtain rfl : n = m := by omega
  (repeat first | refine HReg.step ?_ | refine HCode.step ?_)
  refine hloopC [4, 5, 11, 12, 13, 14, 15, 16, 17, 18, 19, 20, 21, 22, 23, 24, 25] [5] (SgInv x y n H) rfl (by repeat' first | exact Resp.retD | exact Resp1.valuesK | refine Resp.blockD ?_ | refine Resp.thenD ?_ ?_ | refine Resp.hcode ?_) ?_ ?_
  · exact ⟨n, SgInv.mk ⟨0, rfl, rfl, rfl, rfl⟩⟩
  rintro q _ fe H2 ⟨i, rfl, hmi, rfl, heq⟩
  (repeat first | refine HReg.step ?_ | refine HCode.step ?_)
  refine hif (fun h1 => ?_) (fun h1 => ?_)
  · have h1 := ltB_true.1 h1
    obtain ⟨s, hs⟩ : ∃ s, x[i]? = some s := ⟨x[i]'(by omega), by simp⟩
    obtain ⟨t, ht⟩ : ∃ t, y[i]? = some t := ⟨y[i]'(by omega), by simp⟩
    obtain ⟨ba, bo, rfl, _⟩ := hx i _ (txts_get hs)
    obtain ⟨bb, bp, rfl, _⟩ := hy i _ (txts_get ht)
    have w2 : wr .i64 ((i : Int) + 1) = ((i + 1 : Nat) : Int) := by rw [wr_i64 (by omega) (by omega)]; omega
    (repeat first | refine HReg.step ?_ | refine HCode.step ?_)
    refine HReq.mk ⟨by omega, by omega⟩ ?_
    (repeat first | refine HReg.step ?_ | refine HCode.step ?_)
    refine HLoad.one (v := .string (bs s)) (by exact hx.get (txts_get hs)) ?_
    (repeat first | refine HReg.step ?_ | refine HCode.step ?_)
    refine HReq.mk ⟨by omega, by omega⟩ ?_
    (repeat first | refine HReg.step ?_ | refine HCode.step ?_)
    refine HLoad.one (v := .string (bs t)) (by exact hy.get (txts_get ht)) ?_
    (repeat first | refine HReg.step ?_ | refine HCode.step ?_)
    refine hif (fun h => ?_) (fun h => ?_)
    · rw [seqB_bs] at h
      have h := not_dec_true h
      rw [decide_eq_false (fun e => h (by rw [e] at hs; rw [hs] at ht; injection ht))] at hk
      (repeat first | refine HReg.step ?_ | refine HCode.step ?_)
      exact hk
    · rw [seqB_bs] at h
      have h := not_dec_false h
      (repeat first | refine HReg.step ?_ | refine HCode.step ?_)
      rw [w2]
      exact ⟨q - 1, by omega, SgInv.mk ⟨i + 1, rfl, by omega, rfl, by rw [take_get hs, take_get ht, heq, h]⟩⟩
  · have h1 := ltB_false.1 h1
    have e : x = y := by rw [List.take_of_length_le (by omega), List.take_of_length_le (by omega)] at heq; exact heq
    rw [decide_eq_true e] at hk
    (repeat first | refine HReg.step ?_ | refine HCode.step ?_)
    exact hk
structure MlInv (l : List (List UInt8)) (H : Heap) (m : Nat) (vs : List Value) (H' : Heap) : Prop where
  ex : ∃ i : Nat, vs = [.int .i64 (maxLen (l.take i) : Int), .int .i64 (i : Int)] ∧ m + i = l.length ∧ H' = H
theorem maxLen_get {l : List (List UInt8)} {i : Nat} {s : List UInt8} (h : l[i]? = some s) : maxLen (l.take (i + 1)) = max (maxLen (l.take i)) s.length := by
  unfold maxLen
  rw [take_get h, List.foldl_append]; rfl
theorem eqB_dec (a b : Int) : eqB a b = decide (a = b) := by
  cases h : eqB a b
  · exact (decide_eq_false (eqB_false.1 h)).symm
  · exact (decide_eq_true (eqB_true.1 h)).symm
theorem eqB_nat (a b : Nat) : eqB (a : Int) (b : Int) = decide (a = b) := by
  rw [eqB_dec]
  by_cases h : a = b
  · rw [decide_eq_true h, decide_eq_true (by omega)]
  · rw [decide_eq_false h, decide_eq_false (by omega)]
section
variable {H0 H : Heap} {g : Nat} {S : List Nat} {r : R} {K : Value → Heap → Prop}
theorem reads_t {o : Opk} (d : RAt H0 H g S r) (ok : OpOk H0 o) (fit : opLen o ≤ 140737488355328)
    (hk : ∀ H', RAt H0 H' g S (r.reads o).2 → Upd [g] H H' → K (.bool (r.reads o).1) H') : HCalls Try.prog 30 [.pointer (some ⟨g, 0, none⟩), .agg (ocells o).toArray] H K := by
  refine hcalls (fn := Try.f30) [(3, [(0, 0), (1, 0), (2, 1), (3, 1), (4, 1), (5, 0), (6, 0)]), (5, [(0, 0), (1, 0), (2, 1), (3, 1), (4, 1), (5, 0), (6, 0)]), (7, [(0, 0), (1, 0), (2, 1), (3, 1), (4, 0), (5, 0)]), (9, [(0, 0), (1, 0), (2, 0), (3, 0), (4, 0), (5, 1), (6, 1), (7, 0), (8, 0)]), (16, [(0, 0), (1, 0), (2, 0), (3, 0), (4, 0), (5, 0), (6, 1), (7, 1), (8, 0), (9, 0)])] mixed Try.func30 rfl rfl (by decide +kernel) ?_
  have hg : g ∈ S := by obtain ⟨a, c, rfl, _⟩ := d.ex; exact List.mem_cons_self
  (repeat first | refine HReg.step ?_ | refine HCode.step ?_)
  refine HNew.mk fun b hb => ?_
  have u : Upd [] H (H.upd b (.cells (ocells o).toArray 34)) := Upd.new hb _
  have rb : RowAt (H.upd b (.cells (ocells o).toArray 34)) (some ⟨b, 0, none⟩) (ocells o) := RowAt.of_cells (upd_same _ _ _)
  have d1 := d.upd0 u
  have ok1 := ok.upd0 d1.base
  have bS : b ≠ g := fun h => d.live g hg (by rw [← h]; exact hb)
  generalize hH1 : H.upd b (.cells (ocells o).toArray 34) = H2 at u rb d1 ok1
  have hH1' : H.upd b (.cells [Value.int .i64 o.kind, .int .u64 (o.v : Int), .string (bs o.s), .slice o.al o.nl o.cl, .int .i64 o.n, .int .i64 o.m].toArray 34) = H2 := hH1
  rw [hH1']
  have mvB : ∀ {H3}, Upd [g] H2 H3 → RowAt H3 (some ⟨b, 0, none⟩) (ocells o) := fun {H3} u => rb.upd u (.inr (off_notin fun b' hb' hm => bS (by
    obtain ⟨p, hp, rfl⟩ := blk_of hb'
    cases hp; exact List.mem_singleton.1 hm)))
  have mvU : ∀ {H3}, Upd [g] H2 H3 → Upd [g] H H3 := fun {H3} v => (u.mono (by simp)).trans v
  (repeat first | refine HReg.step ?_ | refine HCode.step ?_)
  refine HLoad.one (v := .int .i64 o.kind) (by exact rb.get (i := 0) rfl) ?_
  (repeat first | refine HReg.step ?_ | refine HCode.step ?_)
  refine hif (fun k => ?_) (fun k1 => ?_)
  · have k := eqB_true.1 k
    have e0 : r.reads o = (decide ((r.number 1).1 = o.v % 256), (r.number 1).2) := by unfold R.reads; rw [if_pos k]
    rw [e0] at hk
    (repeat first | refine HReg.step ?_ | refine HCode.step ?_)
    refine HCall.mk ⟨Try.f11, Try.func11, by rfl, by rfl⟩ ?_
    refine ru8_t d1 fun H3 d3 u3 => ?_
    (repeat first | refine HReg.step ?_ | refine HCode.step ?_)
    refine HLoad_two (v := .int .u64 (o.v : Int)) (by exact (mvB u3).get (i := 1) rfl) (by exact rb.get (i := 1) rfl) ?_
    (repeat first | refine HReg.step ?_ | refine HCode.step ?_)
    rw [wr8, eqB_nat]
    exact hk H3 d3 (mvU u3)
  have k1 := eqB_false.1 k1
  (repeat first | refine HReg.step ?_ | refine HCode.step ?_)
  refine hif (fun k => ?_) (fun k2 => ?_)
  · have k := eqB_true.1 k
    have e0 : r.reads o = (decide ((r.number 4).1 = o.v % 4294967296), (r.number 4).2) := by unfold R.reads; rw [if_neg k1, if_pos k]
    rw [e0] at hk
    (repeat first | refine HReg.step ?_ | refine HCode.step ?_)
    refine HCall.mk ⟨Try.f41, Try.func41, by rfl, by rfl⟩ ?_
    refine ru32_t d1 fun H3 d3 u3 => ?_
    (repeat first | refine HReg.step ?_ | refine HCode.step ?_)
    refine HLoad_two (v := .int .u64 (o.v : Int)) (by exact (mvB u3).get (i := 1) rfl) (by exact rb.get (i := 1) rfl) ?_
    (repeat first | refine HReg.step ?_ | refine HCode.step ?_)
    rw [wr32, eqB_nat]
    exact hk H3 d3 (mvU u3)
  have k2 := eqB_false.1 k2
  (repeat first | refine HReg.step ?_ | refine HCode.step ?_)
  refine hif (fun k => ?_) (fun k3 => ?_)
  · have k := eqB_true.1 k
    have e0 : r.reads o = (decide ((r.number 8).1 = o.v), (r.number 8).2) := by unfold R.reads; rw [if_neg k1, if_neg k2, if_pos k]
    rw [e0] at hk
    (repeat first | refine HReg.step ?_ | refine HCode.step ?_)
    refine HCall.mk ⟨Try.f34, Try.func34, by rfl, by rfl⟩ ?_
    refine ru64_t d1 fun H3 d3 u3 => ?_
    (repeat first | refine HReg.step ?_ | refine HCode.step ?_)
    refine HLoad_two (v := .int .u64 (o.v : Int)) (by exact (mvB u3).get (i := 1) rfl) (by exact rb.get (i := 1) rfl) ?_
    (repeat first | refine HReg.step ?_ | refine HCode.step ?_)
    rw [eqB_nat]
    exact hk H3 d3 (mvU u3)
  have k3 := eqB_false.1 k3
  (repeat first | refine HReg.step ?_ | refine HCode.step ?_)
  refine hif (fun k => ?_) (fun k4 => ?_)
  · have k := eqB_true.1 k
    have e0 : r.reads o = (decide ((r.text o.s.length).1 = o.s), (r.text o.s.length).2) := by unfold R.reads; rw [if_neg k1, if_neg k2, if_neg k3, if_pos k]
    rw [e0] at hk
    (repeat first | refine HReg.step ?_ | refine HCode.step ?_)
    refine HLoad.one (v := .string (bs o.s)) (by exact rb.get (i := 2) rfl) ?_
    (repeat first | refine HReg.step ?_ | refine HCode.step ?_)
    refine HCall.mk ⟨Try.f35, Try.func35, by rfl, by rfl⟩ ?_
    refine rtext_t (most := (o.s.length : Int)) d1 (by unfold opLen at fit; omega) fun H3 d3 u3 => ?_
    (repeat first | refine HReg.step ?_ | refine HCode.step ?_)
    refine HLoad_two (v := .string (bs o.s)) (by exact (mvB u3).get (i := 2) rfl) (by exact rb.get (i := 2) rfl) ?_
    (repeat first | refine HReg.step ?_ | refine HCode.step ?_)
    rw [seqB_bs]
    exact hk H3 d3 (mvU u3)
  have k4 := eqB_false.1 k4
  (repeat first | refine HReg.step ?_ | refine HCode.step ?_)
  refine hif (fun k => ?_) (fun k5 => ?_)
  · have k := eqB_true.1 k
    have e0 : r.reads o = (decide ((r.texts o.l.length (maxLen o.l)).1 = o.l), (r.texts o.l.length (maxLen o.l)).2) := by unfold R.reads; rw [if_neg k1, if_neg k2, if_neg k3, if_neg k4, if_pos k]
    rw [e0] at hk
    have hln := ok.len
    have hfit := textsB_length o.l
    have hff := flat_sum o.l
    have hlens : ∀ (i : Nat) (s : List UInt8), o.l[i]? = some s → s.length ≤ 140737488355328 := fun i s hs => by
      have h1 := flat_le o.l (i + 1)
      rw [flat_take hs, List.length_append, textB_length] at h1
      unfold opLen at fit; omega
    have hll : o.l.length ≤ 140737488355328 := by unfold opLen at fit; omega
    have hmax : ∀ i, maxLen (o.l.take i) ≤ 140737488355328 := fun i => by
      induction i with
      | zero => exact Nat.zero_le _
      | succ i ih =>
        cases hs : o.l[i]? with
        | none => 
          have := List.getElem?_eq_none_iff.1 hs
          rw [List.take_of_length_le (by omega)] at ih ⊢; exact ih
        | some s =>
          have h2 := hlens i s hs
          rw [maxLen_get hs]; exact Nat.max_le.2 ⟨ih, h2⟩
    (repeat first | refine HReg.step ?_ | refine HCode.step ?_)
    refine hloopC [5, 6, 44, 45, 46, 47, 48, 49, 50, 51, 52, 53, 54, 55, 56, 57, 58] [5, 6] (MlInv o.l H2) rfl (by repeat' first | exact Resp.retD | exact Resp1.valuesK | refine Resp.blockD ?_ | refine Resp.thenD ?_ ?_ | refine Resp.hcode ?_) ?_ ?_
    · exact ⟨o.l.length, MlInv.mk ⟨0, rfl, rfl, rfl⟩⟩
    rintro m _ fe H3 ⟨i, rfl, hmi, rfl⟩
    (repeat first | refine HReg.step ?_ | refine HCode.step ?_)
    refine HLoad.one (v := .slice o.al o.nl o.cl) (by exact rb.get (i := 3) rfl) ?_
    (repeat first | refine HReg.step ?_ | refine HCode.step ?_)
    refine hif (fun h1 => ?_) (fun h1 => ?_)
    · have h1 := ltB_true.1 h1
      obtain ⟨s, hs⟩ : ∃ s, o.l[i]? = some s := ⟨o.l[i]'(by omega), by simp⟩
      obtain ⟨ba, bo, hab, _⟩ := ok1.row i _ (txts_get hs)
      have okr := ok1.row
      rw [hab] at okr
      have w2 : wr .i64 ((i : Int) + 1) = ((i + 1 : Nat) : Int) := by rw [wr_i64 (by omega) (by omega)]; omega
      (repeat first | refine HReg.step ?_ | refine HCode.step ?_)
      refine HLoad.one (v := .slice (some ⟨ba, bo, none⟩) o.nl o.cl) (by rw [← hab]; exact rb.get (i := 3) rfl) ?_
      (repeat first | refine HReg.step ?_ | refine HCode.step ?_)
      refine HReq.mk ⟨by omega, by omega⟩ ?_
      (repeat first | refine HReg.step ?_ | refine HCode.step ?_)
      refine HLoad.one (v := .string (bs s)) (by exact okr.get (txts_get hs)) ?_
      (repeat first | refine HReg.step ?_ | refine HCode.step ?_)
      rw [w2, ite_mx, ite_max]
      have hsz : (bs s).size = s.length := rfl
      exact ⟨m - 1, by omega, MlInv.mk ⟨i + 1, by rw [maxLen_get hs, hsz, show ((max (maxLen (List.take i o.l)) s.length : Nat) : Int) = max (maxLen (List.take i o.l) : Int) (s.length : Int) by omega], by omega, rfl⟩⟩
    · have h1 := ltB_false.1 h1
      have hi : i = o.l.length := by omega
      subst hi
      rw [List.take_length]
      have hmx := hmax o.l.length
      rw [List.take_length] at hmx
      (repeat first | refine HReg.step ?_ | refine HCode.step ?_)
      refine HLoad.one (v := .slice o.al o.nl o.cl) (by exact rb.get (i := 3) rfl) ?_
      (repeat first | refine HReg.step ?_ | refine HCode.step ?_)
      refine HCall.mk ⟨Try.f36, Try.func36, by rfl, by rfl⟩ ?_
      rw [← hln]
      refine rtexts_t (most := (o.l.length : Int)) (each := (maxLen o.l : Int)) d1 (by omega) (by omega) fun a4 c4 H4 d4 u4 o4 f4 => ?_
      (repeat first | refine HReg.step ?_ | refine HCode.step ?_)
      refine HLoad_two (v := .slice o.al o.nl o.cl) (by exact (mvB u4).get (i := 3) rfl) (by exact rb.get (i := 3) rfl) ?_
      (repeat first | refine HReg.step ?_ | refine HCode.step ?_)
      refine HCall.mk ⟨Try.f13, Try.func13, by rfl, by rfl⟩ ?_
      have row4 : RowAt H4 o.al (txts o.l) := ok.row.upd (S := []) d4.base (.inr (Off.nil _))
      refine sameTexts_t o4.rows row4 rfl hln (by have := texts_len r o.l.length (maxLen o.l); omega) ?_
      (repeat first | refine HReg.step ?_ | refine HCode.step ?_)
      exact hk H4 d4 (mvU u4)
  have k5 := eqB_false.1 k5
  have e0 : r.reads o = (true, r) := by unfold R.reads; rw [if_neg k1, if_neg k2, if_neg k3, if_neg k4, if_neg k5]
  rw [e0] at hk
  (repeat first | refine HReg.step ?_ | refine HCode.step ?_)
  exact hk H2 d1 (u.mono (by simp))
end
end Go.Proofs.Ytjnahdcolacldaa
