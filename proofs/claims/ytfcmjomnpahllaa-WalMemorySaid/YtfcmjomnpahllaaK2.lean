import Derived.Test.YtfcmjomnpahllaaK1
namespace Go.Proofs.Ytfcmjomnpahllaa
open Go Hv
set_option linter.unusedVariables false
set_option linter.unusedSimpArgs false
set_option maxRecDepth 10000
set_option maxHeartbeats 1000000
/-! keys: Rising, has, Has, Valid, Names; whole -/
section
variable {H : Heap} {K : Value → Heap → Prop}
structure RsInv (l : List Txt) (n : Nat) (H : Heap) (m : Nat) (vs : List Value) (H' : Heap) : Prop where
  ex : ∃ i : Nat, vs = [.int .i64 (i : Int)] ∧ 1 ≤ i ∧ m + i = n + 1 ∧ H' = H ∧ ∀ j a b, j + 1 < i → l[j]? = some a → l[j + 1]? = some b → a < b
theorem rising_t {a : Option Addr} {n c : Nat} {l : List Txt} (hr : RowAt H a (txts l)) (hl : l.length = n) (hn : n ≤ 9000000000000000000)
    (hk : ∀ t : Bool, (t = true ↔ Rising l) → K (.bool t) H) : HCalls Try.prog 48 [.slice a n c] H K := by
  refine hcalls (fn := Try.f48) [(4, [(0, 0), (1, 0), (2, 0), (3, 0), (4, 0), (5, 0), (6, 0), (7, 0), (8, 0), (9, 0)])] mixed Try.func48 rfl rfl (by decide +kernel) ?_
  (repeat first | refine HReg.step ?_ | refine HCode.step ?_)
  refine hloopC [2, 3, 4, 5, 6, 7, 8, 9, 10, 11, 12, 13, 14, 15, 16, 17, 18, 19] [3] (RsInv l n H) rfl (by repeat' first | exact Resp.retD | exact Resp1.valuesK | refine Resp.blockD ?_ | refine Resp.thenD ?_ ?_ | refine Resp.hcode ?_) ?_ ?_
  · exact ⟨n, RsInv.mk ⟨1, rfl, Nat.le_refl _, rfl, rfl, fun j a b hj => by omega⟩⟩
  rintro m _ fe H1 ⟨i, rfl, hi1, hmi, rfl, hall⟩
  (repeat first | refine HReg.step ?_ | refine HCode.step ?_)
  refine hif (fun h1 => ?_) (fun h1 => ?_)
  · have h1 := ltB_true.1 h1
    have w1 : wr .i64 ((i : Int) - 1) = ((i - 1 : Nat) : Int) := by rw [wr_i64 (by omega) (by omega)]; omega
    have w2 : wr .i64 ((i : Int) + 1) = ((i + 1 : Nat) : Int) := by rw [wr_i64 (by omega) (by omega)]; omega
    obtain ⟨x, hx⟩ : ∃ s, l[i - 1]? = some s := ⟨l[i - 1]'(by omega), by simp⟩
    obtain ⟨y, hy⟩ : ∃ s, l[i]? = some s := ⟨l[i]'(by omega), by simp⟩
    obtain ⟨ba, bo, rfl, _⟩ := hr _ _ (txts_get hx)
    (repeat first | refine HReg.step ?_ | refine HCode.step ?_)
    rw [w1]
    refine HReq.mk ⟨by omega, by omega⟩ ?_
    (repeat first | refine HReg.step ?_ | refine HCode.step ?_)
    refine HLoad.one (v := .string (bs x)) (by exact hr.get (txts_get hx)) ?_
    (repeat first | refine HReg.step ?_ | refine HCode.step ?_)
    refine HReq.mk ⟨by omega, by omega⟩ ?_
    (repeat first | refine HReg.step ?_ | refine HCode.step ?_)
    refine HLoad.one (v := .string (bs y)) (by exact hr.get (txts_get hy)) ?_
    (repeat first | refine HReg.step ?_ | refine HCode.step ?_)
    rw [sltB_bs]
    refine hif (fun h2 => ?_) (fun h2 => ?_)
    · have h2 := not_dec_true h2
      (repeat first | refine HReg.step ?_ | refine HCode.step ?_)
      refine hk false ⟨fun h => (by cases h), fun h => ?_⟩
      exact absurd (h (i - 1) x y hx (by rw [Nat.sub_add_cancel hi1]; exact hy)) h2
    · have h2 := not_dec_false h2
      (repeat first | refine HReg.step ?_ | refine HCode.step ?_)
      rw [w2]
      refine ⟨m - 1, by omega, RsInv.mk ⟨i + 1, rfl, by omega, by omega, rfl, fun j a b hj ha hb => ?_⟩⟩
      by_cases e : j + 1 = i
      · have e2 : j = i - 1 := by omega
        subst e2
        rw [Nat.sub_add_cancel hi1] at hb
        rw [hx] at ha; rw [hy] at hb; cases ha; cases hb; exact h2
      · exact hall j a b (by omega) ha hb
  · have h1 := ltB_false.1 h1
    (repeat first | refine HReg.step ?_ | refine HCode.step ?_)
    refine hk true ⟨fun _ j a b ha hb => hall j a b ?_ ha hb, fun _ => rfl⟩
    have := (List.getElem?_eq_some_iff.1 hb).1
    omega
theorem less_t {x y : Txt} (hk : K (.bool (decide (x < y))) H) : HCalls Try.prog 87 [.string (bs x), .string (bs y)] H K := by
  refine hcalls (fn := Try.f87) [] mixed Try.func87 rfl rfl (by decide +kernel) ?_
  have hnan : ∀ (z : Txt) {K' : Value → Heap → Prop}, K' (.bool false) H → HCalls Try.prog 101 [.string (bs z)] H K' := fun z K' hk' => by
    refine hcalls (fn := Try.f101) [] mixed Try.func101 rfl rfl rfl ?_
    (repeat first | refine HReg.step ?_ | refine HCode.step ?_)
    rw [seqB_bs, decide_eq_true rfl]
    exact hk'
  (repeat first | refine HReg.step ?_ | refine HCode.step ?_)
  refine HCall.mk ⟨Try.f101, Try.func101, by rfl, by rfl⟩ ?_
  refine hnan x ?_
  (repeat first | refine HReg.step ?_ | refine HCode.step ?_)
  rw [sltB_bs]
  exact hk
theorem nan_t (z : Txt) (hk : K (.bool false) H) : HCalls Try.prog 93 [.string (bs z)] H K := by
  refine hcalls (fn := Try.f93) [] mixed Try.func93 rfl rfl rfl ?_
  (repeat first | refine HReg.step ?_ | refine HCode.step ?_)
  rw [seqB_bs, decide_eq_true rfl]
  exact hk
structure BsInv (l : List Txt) (k : Txt) (n : Nat) (H : Heap) (m : Nat) (vs : List Value) (H' : Heap) : Prop where
  ex : ∃ i j : Nat, vs = [.int .i64 (i : Int), .int .i64 (j : Int)] ∧ i + m = j ∧ j ≤ n ∧ H' = H ∧ (∀ q a, q < i → l[q]? = some a → a < k) ∧ (∀ q a, j ≤ q → l[q]? = some a → ¬ a < k)
theorem search_t {a : Option Addr} {n c : Nat} {l : List Txt} {k : Txt} (hr : RowAt H a (txts l)) (hl : l.length = n) (hn : n ≤ 4000000000000000000) (hri : Rising l)
    (hk : ∀ (i : Nat) (t : Bool), (t = true ↔ k ∈ l) → K (.tuple #[.int .i64 (i : Int), .bool t]) H) : HCalls Try.prog 71 [.slice a n c, .string (bs k)] H K := by
  refine hcalls (fn := Try.f71) [] mixed Try.func71 rfl rfl (by decide +kernel) ?_
  (repeat first | refine HReg.step ?_ | refine HCode.step ?_)
  refine hloopC [7, 8, 9, 13, 14, 15, 16, 17, 18, 19, 20, 21, 22, 23, 24, 25, 26, 27, 28, 29, 30] [7, 8] (BsInv l k n H) rfl (by repeat' first | exact Resp.retD | exact Resp1.valuesK | refine Resp.blockD ?_ | refine Resp.thenD ?_ ?_ | refine Resp.hcode ?_) ?_ ?_
  · exact ⟨n, BsInv.mk ⟨0, n, rfl, Nat.zero_add _, Nat.le_refl _, rfl, fun q a hq => by omega, fun q a hq ha => by have := (List.getElem?_eq_some_iff.1 ha).1; omega⟩⟩
  rintro m _ fe H1 ⟨i, j, rfl, hij, hjn, rfl, hlo, hhi⟩
  (repeat first | refine HReg.step ?_ | refine HCode.step ?_)
  refine hif (fun h1 => ?_) (fun h1 => ?_)
  · have h1 := ltB_true.1 h1
    have w1 : wr .i64 ((i : Int) + (j : Int)) = ((i + j : Nat) : Int) := by rw [wr_i64 (by omega) (by omega)]; omega
    have w2 : wr .u64 ((i + j : Nat) : Int) = ((i + j : Nat) : Int) := by rw [wr_u64]; omega
    have w3 : shrS .u64 ((i + j : Nat) : Int) 1 = (((i + j) / 2 : Nat) : Int) := by
      rw [shrS_eq]
      have e8 : min (1 : Int).toNat IntKind.u64.bits = 1 := by decide
      rw [e8, Int.fdiv_eq_ediv_of_nonneg _ (by decide)]
      norm_cast
    have w4 : wr .i64 (((i + j) / 2 : Nat) : Int) = (((i + j) / 2 : Nat) : Int) := by rw [wr_i64 (by omega) (by omega)]
    obtain ⟨q, hq, hqi, hqj⟩ : ∃ q, q = (i + j) / 2 ∧ i ≤ q ∧ q < j := ⟨(i + j) / 2, rfl, by omega, by omega⟩
    rw [← hq] at w3 w4
    obtain ⟨x, hx⟩ : ∃ s, l[q]? = some s := ⟨l[q]'(by omega), by simp⟩
    obtain ⟨ba, bo, rfl, _⟩ := hr _ _ (txts_get hx)
    (repeat first | refine HReg.step ?_ | refine HCode.step ?_)
    rw [w1, w2]
    refine HReq.mk (by decide) ?_
    (repeat first | refine HReg.step ?_ | refine HCode.step ?_)
    rw [w3, w4]
    (repeat first | refine HReg.step ?_ | refine HCode.step ?_)
    refine HReq.mk ⟨by omega, by omega⟩ ?_
    (repeat first | refine HReg.step ?_ | refine HCode.step ?_)
    refine HLoad.one (v := .string (bs x)) (by exact hr.get (txts_get hx)) ?_
    (repeat first | refine HReg.step ?_ | refine HCode.step ?_)
    refine HCall.mk ⟨Try.f87, Try.func87, by rfl, by rfl⟩ ?_
    refine less_t ?_
    have w5 : wr .i64 ((q : Int) + 1) = ((q + 1 : Nat) : Int) := by rw [wr_i64 (by omega) (by omega)]; omega
    by_cases hxk : x < k
    · rw [decide_eq_true hxk]
      (repeat first | refine HReg.step ?_ | refine HCode.step ?_)
      rw [w5]
      refine ⟨j - (q + 1), by omega, BsInv.mk ⟨q + 1, j, rfl, by omega, hjn, rfl, fun p a hp ha => ?_, hhi⟩⟩
      by_cases e : p = q
      · subst e; rw [hx] at ha; cases ha; exact hxk
      · exact lt_tr (hri.lt (by omega) ha hx) hxk
    · rw [decide_eq_false hxk]
      (repeat first | refine HReg.step ?_ | refine HCode.step ?_)
      refine ⟨q - i, by omega, BsInv.mk ⟨i, q, rfl, by omega, by omega, rfl, hlo, fun p a hp ha hak => ?_⟩⟩
      by_cases e : p = q
      · subst e; rw [hx] at ha; cases ha; exact hxk hak
      · exact hxk (lt_tr (hri.lt (by omega) hx ha) hak)
  · have h1 := ltB_false.1 h1
    have hij : i = j := by omega
    subst hij
    have hmem := hri.mem_iff hlo hhi
    (repeat first | refine HReg.step ?_ | refine HCode.step ?_)
    refine hif (fun h2 => ?_) (fun h2 => ?_)
    · have h2 := ltB_true.1 h2
      obtain ⟨x, hx⟩ : ∃ s, l[i]? = some s := ⟨l[i]'(by omega), by simp⟩
      obtain ⟨ba, bo, rfl, _⟩ := hr _ _ (txts_get hx)
      (repeat first | refine HReg.step ?_ | refine HCode.step ?_)
      refine HReq.mk ⟨by omega, by omega⟩ ?_
      (repeat first | refine HReg.step ?_ | refine HCode.step ?_)
      refine HLoad.one (v := .string (bs x)) (by exact hr.get (txts_get hx)) ?_
      (repeat first | refine HReg.step ?_ | refine HCode.step ?_)
      rw [seqB_bs]
      by_cases hxk : x = k
      · rw [decide_eq_true hxk]
        (repeat first | refine HReg.step ?_ | refine HCode.step ?_)
        exact hk i true ⟨fun _ => hmem.2 (by rw [hx, hxk]), fun _ => rfl⟩
      · rw [decide_eq_false hxk]
        (repeat first | refine HReg.step ?_ | refine HCode.step ?_)
        refine HReq.mk ⟨by omega, by omega⟩ ?_
        (repeat first | refine HReg.step ?_ | refine HCode.step ?_)
        refine HLoad.one (v := .string (bs x)) (by exact hr.get (txts_get hx)) ?_
        (repeat first | refine HReg.step ?_ | refine HCode.step ?_)
        refine HCall.mk ⟨Try.f93, Try.func93, by rfl, by rfl⟩ ?_
        refine nan_t x ?_
        (repeat first | refine HReg.step ?_ | refine HCode.step ?_)
        refine hk i false ⟨fun h => (by cases h), fun h => ?_⟩
        have := hmem.1 h
        rw [hx] at this; cases this; exact absurd rfl hxk
    · have h2 := ltB_false.1 h2
      (repeat first | refine HReg.step ?_ | refine HCode.step ?_)
      refine hk i false ⟨fun h => (by cases h), fun h => ?_⟩
      have := (List.getElem?_eq_some_iff.1 (hmem.1 h)).1
      omega
theorem has_t {a : Option Addr} {n c : Nat} {l : List Txt} {k : Txt} (hr : RowAt H a (txts l)) (hl : l.length = n) (hn : n ≤ 4000000000000000000) (hri : Rising l)
    (hk : ∀ (t : Bool), (t = true ↔ k ∈ l) → K (.bool t) H) : HCalls Try.prog 62 [.slice a n c, .string (bs k)] H K := by
  refine hcalls (fn := Try.f62) [] mixed Try.func62 rfl rfl rfl ?_
  (repeat first | refine HReg.step ?_ | refine HCode.step ?_)
  refine HCall.mk ⟨Try.f71, Try.func71, by rfl, by rfl⟩ ?_
  refine search_t hr hl hn hri fun i t ht => ?_
  (repeat first | refine HReg.step ?_ | refine HCode.step ?_)
  exact hk t ht
theorem Has_t {a : Option Addr} {n c : Nat} {l : List Txt} {k : Txt} (hr : RowAt H a (txts l)) (hl : l.length = n) (hn : n ≤ 4000000000000000000)
    (hk : ∀ (t : Bool), (t = true ↔ Rising l ∧ k ∈ l) → K (.bool t) H) : HCalls Try.prog 49 [.slice a n c, .string (bs k)] H K := by
  refine hcalls (fn := Try.f49) [] mixed Try.func49 rfl rfl (by decide +kernel) ?_
  (repeat first | refine HReg.step ?_ | refine HCode.step ?_)
  refine HCall.mk ⟨Try.f48, Try.func48, by rfl, by rfl⟩ ?_
  refine rising_t hr hl (by omega) fun t ht => ?_
  cases t with
  | false =>
    (repeat first | refine HReg.step ?_ | refine HCode.step ?_)
    refine hk false ⟨fun h => (by cases h), fun h => ?_⟩
    exact (ht.2 h.1)
  | true =>
    have hri := ht.1 rfl
    (repeat first | refine HReg.step ?_ | refine HCode.step ?_)
    refine HCall.mk ⟨Try.f62, Try.func62, by rfl, by rfl⟩ ?_
    refine has_t hr hl hn hri fun t2 ht2 => ?_
    (repeat first | refine HReg.step ?_ | refine HCode.step ?_)
    exact hk t2 ⟨fun h => ⟨hri, ht2.1 h⟩, fun h => ht2.2 h.2⟩
structure VaInv (l : List Txt) (n : Nat) (H : Heap) (m : Nat) (vs : List Value) (H' : Heap) : Prop where
  ex : ∃ i : Nat, vs = [.int .i64 (i : Int)] ∧ m + i = n ∧ H' = H ∧ ∀ j a, j < i → l[j]? = some a → a.length ≤ 65535
theorem valid_t {a : Option Addr} {n c : Nat} {l : List Txt} (hr : RowAt H a (txts l)) (hl : l.length = n)
    (hk : ∀ (t : Bool) H', (t = true ↔ Lens l ∧ Rising (sortT l)) → Upd [] H H' → K (.bool t) H') : HCalls Try.prog 61 [.slice a n c] H K := by
  refine hcalls (fn := Try.f61) [] mixed Try.func61 rfl rfl (by decide +kernel) ?_
  (repeat first | refine HReg.step ?_ | refine HCode.step ?_)
  refine hif (fun h1 => ?_) (fun h1 => ?_)
  · have h1 := ltB_true.1 h1
    (repeat first | refine HReg.step ?_ | refine HCode.step ?_)
    refine hk false H ⟨fun h => (by cases h), fun h => ?_⟩ (Upd.refl _ _)
    have := h.1.1; omega
  have h1 := ltB_false.1 h1
  (repeat first | refine HReg.step ?_ | refine HCode.step ?_)
  refine hif (fun h2 => ?_) (fun h2 => ?_)
  · have h2 := ltB_true.1 h2
    (repeat first | refine HReg.step ?_ | refine HCode.step ?_)
    refine hk false H ⟨fun h => (by cases h), fun h => ?_⟩ (Upd.refl _ _)
    have := h.1.2.1; omega
  have h2 := ltB_false.1 h2
  (repeat first | refine HReg.step ?_ | refine HCode.step ?_)
  refine hloopC [2, 4, 15, 16, 17, 18, 19, 20, 21, 22] [15] (VaInv l n H) rfl (by repeat' first | exact Resp.retD | exact Resp1.valuesK | refine Resp.blockD ?_ | refine Resp.thenD ?_ ?_ | refine Resp.hcode ?_) ?_ ?_
  · exact ⟨n, VaInv.mk ⟨0, rfl, rfl, rfl, fun j a hj => by omega⟩⟩
  rintro m _ fe H1 ⟨i, rfl, hmi, rfl, hall⟩
  (repeat first | refine HReg.step ?_ | refine HCode.step ?_)
  refine hif (fun h3 => ?_) (fun h3 => ?_)
  · have h3 := ltB_true.1 h3
    have w2 : wr .i64 ((i : Int) + 1) = ((i + 1 : Nat) : Int) := by rw [wr_i64 (by omega) (by omega)]; omega
    obtain ⟨x, hx⟩ : ∃ s, l[i]? = some s := ⟨l[i]'(by omega), by simp⟩
    obtain ⟨ba, bo, rfl, _⟩ := hr _ _ (txts_get hx)
    (repeat first | refine HReg.step ?_ | refine HCode.step ?_)
    refine HReq.mk ⟨by omega, by omega⟩ ?_
    (repeat first | refine HReg.step ?_ | refine HCode.step ?_)
    refine HLoad.one (v := .string (bs x)) (by exact hr.get (txts_get hx)) ?_
    (repeat first | refine HReg.step ?_ | refine HCode.step ?_)
    rw [bs_size]
    refine hif (fun h4 => ?_) (fun h4 => ?_)
    · have h4 := ltB_true.1 h4
      (repeat first | refine HReg.step ?_ | refine HCode.step ?_)
      refine hk false H1 ⟨fun h => (by cases h), fun h => ?_⟩ (Upd.refl _ _)
      have := h.1.2.2 x (List.mem_of_getElem? hx); omega
    · have h4 := ltB_false.1 h4
      (repeat first | refine HReg.step ?_ | refine HCode.step ?_)
      rw [w2]
      refine ⟨m - 1, by omega, VaInv.mk ⟨i + 1, rfl, by omega, rfl, fun j a hj ha => ?_⟩⟩
      by_cases e : j = i
      · subst e; rw [hx] at ha; cases ha; omega
      · exact hall j a (by omega) ha
  · have h3 := ltB_false.1 h3
    have hlens : Lens l := ⟨by omega, by omega, fun s hs => by
      obtain ⟨j, hj⟩ := List.getElem?_of_mem hs
      have := (List.getElem?_eq_some_iff.1 hj).1
      exact hall j s (by omega) hj⟩
    (repeat first | refine HReg.step ?_ | refine HCode.step ?_)
    refine HCall.mk ⟨Try.f70, Try.func70, by rfl, by rfl⟩ ?_
    refine values_t (a := a) (n := n) (c := c) fun b H2 hb u2 hc2 => ?_
    (repeat first | refine HReg.step ?_ | refine HCode.step ?_)
    refine HCall.mk ⟨Try.f43, Try.func43, by rfl, by rfl⟩ ?_
    refine sorted_t (hr.upd (S := []) u2 (.inr (Off.nil _))) hl (by omega) (by omega) hc2 fun a3 c3 H3 m3 => ?_
    have hsl : (sortT l).length = n := by unfold sortT; rw [List.length_mergeSort]; exact hl
    (repeat first | refine HReg.step ?_ | refine HCode.step ?_)
    refine HCall.mk ⟨Try.f48, Try.func48, by rfl, by rfl⟩ ?_
    refine rising_t m3.own.rows hsl (by omega) fun t ht => ?_
    (repeat first | refine HReg.step ?_ | refine HCode.step ?_)
    exact hk t H3 ⟨fun h => ⟨hlens, ht.1 h⟩, fun h => ht.2 h.2⟩ (u2.trans m3.upd)
theorem whole_t {a : Option Addr} {n c : Nat} {l : List Txt} (hr : RowAt H a (txts l)) (hl : l.length = n)
    (hk : ∀ (t : Bool) H', (t = true ↔ Whole l) → Upd [] H H' → K (.bool t) H') : HCalls Try.prog 46 [.slice a n c] H K := by
  refine hcalls (fn := Try.f46) [] mixed Try.func46 rfl rfl (by decide +kernel) ?_
  (repeat first | refine HReg.step ?_ | refine HCode.step ?_)
  refine HCall.mk ⟨Try.f61, Try.func61, by rfl, by rfl⟩ ?_
  refine valid_t hr hl fun t H2 ht u2 => ?_
  cases t with
  | false =>
    (repeat first | refine HReg.step ?_ | refine HCode.step ?_)
    refine hk false H2 ⟨fun h => (by cases h), fun h => ?_⟩ u2
    exact ht.2 ⟨h.1, by rw [h.2.sorted]; exact h.2⟩
  | true =>
    have h1 := ht.1 rfl
    have h2 := h1.1.2.1
    (repeat first | refine HReg.step ?_ | refine HCode.step ?_)
    refine HCall.mk ⟨Try.f48, Try.func48, by rfl, by rfl⟩ ?_
    refine rising_t (hr.upd (S := []) u2 (.inr (Off.nil _))) hl (by omega) fun t2 ht2 => ?_
    (repeat first | refine HReg.step ?_ | refine HCode.step ?_)
    exact hk t2 H2 ⟨fun h => ⟨h1.1, ht2.1 h⟩, fun h => ht2.2 h.2⟩ u2
end
end Go.Proofs.Ytfcmjomnpahllaa
