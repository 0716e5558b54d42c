import Derived.Test.YtlgncabjphokjaaGreatJ2
namespace Go.Proofs.YtlgncabjphokjaaGreat
open Go Hv
set_option linter.unusedVariables false
set_option linter.unusedSimpArgs false
set_option maxRecDepth 10000
set_option maxHeartbeats 2000000
/-! The document's only, Version, prepare. CUT2 -/
theorem len0 {α : Type} (l : List α) : ∃ q : Bool, eqB (l.length : Int) 0 = q ∧ (q = true ↔ l = []) := by
  refine ⟨_, rfl, fun h => List.eq_nil_of_length_eq_zero (by have := eqB_true.1 h; omega), fun h => eqB_true.2 (by rw [h]; rfl)⟩
structure PpInv (ps : List (Txt × Txt)) (ks : List Txt) (H : Heap) (m : Nat) (vs : List Value) (H' : Heap) : Prop where
  ex : ∃ i : Nat, vs = [.int .i64 (i : Int)] ∧ m + i = ps.length ∧ Upd [] H H' ∧ ∀ j p, j < i → ps[j]? = some p → p.1 ∈ ks ∧ p.2.length ≤ 65535 ∧ ∀ q, 0 < j → ps[j - 1]? = some q → q.1 < p.1
section
variable {H : Heap} {K : Value → Heap → Prop}
theorem ronly_t {x : MsgA} {p k w v : Bool} (hx : MsgIn H x)
    (hk : ∀ (t : Bool) H', (t = true ↔ (p = true ∨ x.ps = []) ∧ (k = true ∨ x.ks = []) ∧ (w = true ∨ x.ws = []) ∧ (v = true ∨ x.vs = [])) → Upd [] H H' → K (.bool t) H') : HCalls Tryz.prog 49 [x.val, .bool p, .bool k, .bool w, .bool v] H K := by
  refine hcalls (fn := Tryz.f49) [] mixed Tryz.func49 rfl rfl (by decide +kernel) ?_
  (repeat first | refine HReg.step ?_ | refine HCode.step ?_)
  refine HNew.mk fun b1 hb1 => ?_
  have u1 : Upd [] H (H.upd b1 (.cells x.cells.toArray 30)) := Upd.new hb1 _
  have o1 : RowAt (H.upd b1 (.cells x.cells.toArray 30)) (some ⟨b1, 0, none⟩) x.cells := RowAt.of_cells (upd_same _ _ _)
  have hH' : H.upd b1 (.cells [Value.int .i64 x.kind, .int .i64 x.client, .int .u64 (x.req : Int), .int .u64 (x.id : Int), .slice x.ap x.ps.length x.cp, .slice x.ak x.ks.length x.ck, .slice x.aw x.ws.length x.cw, .slice x.av x.vs.length x.cv].toArray 30) = H.upd b1 (.cells x.cells.toArray 30) := rfl
  rw [hH']
  generalize hH1 : H.upd b1 (.cells x.cells.toArray 30) = H1 at u1 o1
  obtain ⟨q4, hq4, e4⟩ := len0 x.ps
  obtain ⟨q5, hq5, e5⟩ := len0 x.ks
  obtain ⟨q6, hq6, e6⟩ := len0 x.ws
  obtain ⟨q7, hq7, e7⟩ := len0 x.vs
  have hk := fun t h => hk t H1 h u1
  clear hH' hH1
  cases p <;> cases k <;> cases w <;> cases v <;> (repeat first | refine HReg.step ?_ | refine HCode.step ?_)
  all_goals (try (
    refine HLoad.one (v := .slice x.ap x.ps.length x.cp) (by exact o1.get (i := 4) rfl) ?_
    (repeat first | refine HReg.step ?_ | refine HCode.step ?_)
    rw [hq4]
    cases q4))
  all_goals (try (
    (repeat first | refine HReg.step ?_ | refine HCode.step ?_)
    skip))
  all_goals (try (
    refine HLoad.one (v := .slice x.ak x.ks.length x.ck) (by exact o1.get (i := 5) rfl) ?_
    (repeat first | refine HReg.step ?_ | refine HCode.step ?_)
    rw [hq5]
    cases q5))
  all_goals (try (
    (repeat first | refine HReg.step ?_ | refine HCode.step ?_)
    skip))
  all_goals (try (
    refine HLoad.one (v := .slice x.aw x.ws.length x.cw) (by exact o1.get (i := 6) rfl) ?_
    (repeat first | refine HReg.step ?_ | refine HCode.step ?_)
    rw [hq6]
    cases q6))
  all_goals (try (
    (repeat first | refine HReg.step ?_ | refine HCode.step ?_)
    skip))
  all_goals (try (
    refine HLoad.one (v := .slice x.av x.vs.length x.cv) (by exact o1.get (i := 7) rfl) ?_
    (repeat first | refine HReg.step ?_ | refine HCode.step ?_)
    rw [hq7]
    cases q7))
  all_goals (try (
    (repeat first | refine HReg.step ?_ | refine HCode.step ?_)
    skip))
  all_goals (first | exact hk true (by clear hk hq4 hq5 hq6 hq7 o1 u1 hx hb1; simp_all) | exact hk false (by clear hk hq4 hq5 hq6 hq7 o1 u1 hx hb1; simp_all))
theorem rver_t {x : VerA} (hr : RowAt H x.a (txts x.v.ks)) (hn : x.v.ks.length ≤ 8796093021952)
    (hk : ∀ (t : Bool) H', (t = true ↔ Content x.v) → Upd [] H H' → K (.bool t) H') : HCalls Tryz.prog 54 [.agg x.cells.toArray] H K := by
  refine hcalls (fn := Tryz.f54) [] mixed Tryz.func54 rfl rfl (by decide +kernel) ?_
  (repeat first | refine HReg.step ?_ | refine HCode.step ?_)
  refine HNew.mk fun b1 hb1 => ?_
  have u1 : Upd [] H (H.upd b1 (.cells x.cells.toArray 56)) := Upd.new hb1 _
  have o1 : RowAt (H.upd b1 (.cells x.cells.toArray 56)) (some ⟨b1, 0, none⟩) x.cells := RowAt.of_cells (upd_same _ _ _)
  have hH' : H.upd b1 (.cells [Value.string (bs x.v.key), .int .u64 (x.v.id : Int), .string (bs x.v.val), .slice x.a x.v.ks.length x.c].toArray 56) = H.upd b1 (.cells x.cells.toArray 56) := rfl
  rw [hH']
  generalize hH1 : H.upd b1 (.cells x.cells.toArray 56) = H1 at u1 o1
  have rk := hr.upd (S := []) u1 (.inr (Off.nil _))
  (repeat first | refine HReg.step ?_ | refine HCode.step ?_)
  refine HLoad.one (v := .string (bs x.v.key)) (by exact o1.get (i := 0) rfl) ?_
  (repeat first | refine HReg.step ?_ | refine HCode.step ?_)
  rw [bs_size]
  refine hif (fun h1 => ?_) (fun h1 => ?_)
  · have h1 := ltB_true.1 h1
    (repeat first | refine HReg.step ?_ | refine HCode.step ?_)
    refine hk false H1 ⟨fun h => (by cases h), fun h => ?_⟩ u1
    rcases h with h | h
    · have := h.2.1; omega
    · have := h.2.2.1.1.2.2 _ h.2.2.2; omega
  have h1 := ltB_false.1 h1
  (repeat first | refine HReg.step ?_ | refine HCode.step ?_)
  refine HLoad.one (v := .int .u64 (x.v.id : Int)) (by exact o1.get (i := 1) rfl) ?_
  (repeat first | refine HReg.step ?_ | refine HCode.step ?_)
  by_cases h0 : x.v.id = 0
  · have un : Content x.v ↔ (x.v.val = [] ∧ x.v.ks = []) := ⟨fun h => by
      rcases h with h | h
      · exact ⟨h.2.2.1, h.2.2.2⟩
      · have := h.1; omega, fun h => .inl ⟨h0, by omega, h.1, h.2⟩⟩
    rw [show eqB ((x.v.id : Nat) : Int) 0 = true from eqB_true.2 (by omega)]
    (repeat first | refine HReg.step ?_ | refine HCode.step ?_)
    refine HLoad.one (v := .string (bs x.v.val)) (by exact o1.get (i := 2) rfl) ?_
    (repeat first | refine HReg.step ?_ | refine HCode.step ?_)
    rw [seqB_nil]
    by_cases hv : x.v.val = []
    · rw [decide_eq_true hv]
      (repeat first | refine HReg.step ?_ | refine HCode.step ?_)
      refine HLoad.one (v := .slice x.a x.v.ks.length x.c) (by exact o1.get (i := 3) rfl) ?_
      (repeat first | refine HReg.step ?_ | refine HCode.step ?_)
      refine hk _ H1 ⟨fun h => un.2 ⟨hv, ?_⟩, fun h => ?_⟩ u1
      · exact List.eq_nil_of_length_eq_zero (by have := eqB_true.1 h; omega)
      · exact eqB_true.2 (by rw [(un.1 h).2]; rfl)
    · rw [decide_eq_false hv]
      (repeat first | refine HReg.step ?_ | refine HCode.step ?_)
      exact hk false H1 ⟨fun h => (by cases h), fun h => absurd (un.1 h).1 hv⟩ u1
  · have un : Content x.v ↔ (65536 ≤ x.v.id ∧ x.v.val.length ≤ 65535 ∧ Whole x.v.ks ∧ x.v.key ∈ x.v.ks) := ⟨fun h => by
      rcases h with h | h
      · exact absurd h.1 h0
      · exact h, fun h => .inr h⟩
    rw [show eqB ((x.v.id : Nat) : Int) 0 = false from eqB_false.2 (by omega)]
    (repeat first | refine HReg.step ?_ | refine HCode.step ?_)
    refine HLoad.one (v := .int .u64 (x.v.id : Int)) (by exact o1.get (i := 1) rfl) ?_
    (repeat first | refine HReg.step ?_ | refine HCode.step ?_)
    refine HCall.mk ⟨Tryz.f51, Tryz.func51, by rfl, by rfl⟩ ?_
    refine rid_t fun t ht => ?_
    cases t with
    | false =>
      (repeat first | refine HReg.step ?_ | refine HCode.step ?_)
      exact hk false H1 ⟨fun h => (by cases h), fun h => ht.2 (un.1 h).1⟩ u1
    | true =>
      have hid := ht.1 rfl
      (repeat first | refine HReg.step ?_ | refine HCode.step ?_)
      refine HLoad.one (v := .string (bs x.v.val)) (by exact o1.get (i := 2) rfl) ?_
      (repeat first | refine HReg.step ?_ | refine HCode.step ?_)
      rw [bs_size]
      by_cases h2 : x.v.val.length ≤ 65535
      · rw [show ltB 65535 ((x.v.val.length : Nat) : Int) = false from ltB_false.2 (by omega)]
        (repeat first | refine HReg.step ?_ | refine HCode.step ?_)
        refine HLoad.one (v := .slice x.a x.v.ks.length x.c) (by exact o1.get (i := 3) rfl) ?_
        (repeat first | refine HReg.step ?_ | refine HCode.step ?_)
        refine HCall.mk ⟨Tryz.f67, Tryz.func67, by rfl, by rfl⟩ ?_
        refine rwhole_t rk rfl (by omega) fun t2 ht2 => ?_
        cases t2 with
        | false =>
          (repeat first | refine HReg.step ?_ | refine HCode.step ?_)
          exact hk false H1 ⟨fun h => (by cases h), fun h => ht2.2 (un.1 h).2.2.1⟩ u1
        | true =>
          have hwh := ht2.1 rfl
          (repeat first | refine HReg.step ?_ | refine HCode.step ?_)
          refine HLoad.one (v := .slice x.a x.v.ks.length x.c) (by exact o1.get (i := 3) rfl) ?_
          (repeat first | refine HReg.step ?_ | refine HCode.step ?_)
          refine HLoad.one (v := .string (bs x.v.key)) (by exact o1.get (i := 0) rfl) ?_
          (repeat first | refine HReg.step ?_ | refine HCode.step ?_)
          refine HCall.mk ⟨Tryz.f68, Tryz.func68, by rfl, by rfl⟩ ?_
          refine rhas_t rk rfl (by omega) fun t3 ht3 => ?_
          (repeat first | refine HReg.step ?_ | refine HCode.step ?_)
          exact hk t3 H1 ⟨fun h => un.2 ⟨hid, h2, hwh, ht3.1 h⟩, fun h => ht3.2 (un.1 h).2.2.2⟩ u1
      · rw [show ltB 65535 ((x.v.val.length : Nat) : Int) = true from ltB_true.2 (by omega)]
        (repeat first | refine HReg.step ?_ | refine HCode.step ?_)
        exact hk false H1 ⟨fun h => (by cases h), fun h => absurd (un.1 h).2.1 h2⟩ u1
theorem rprep_t {x : MsgA} (hx : MsgIn H x)
    (hk : ∀ (t : Bool) H', (t = true ↔ 65536 ≤ x.id ∧ Whole x.ks ∧ PairsOk x.ps x.ks) → Upd [] H H' → K (.bool t) H') : HCalls Tryz.prog 50 [x.val] H K := by
  refine hcalls (fn := Tryz.f50) [(7, [(0, 0), (1, 0), (2, 0), (3, 0), (4, 0), (5, 0), (6, 0), (7, 0), (8, 0), (9, 0), (10, 0), (11, 0), (12, 0), (13, 0), (14, 0), (15, 0), (16, 0), (17, 0), (18, 0), (19, 0), (20, 0), (21, 0), (22, 0), (23, 0), (24, 0), (25, 0), (26, 0), (27, 0)])] mixed Tryz.func50 rfl rfl (by decide +kernel) ?_
  (repeat first | refine HReg.step ?_ | refine HCode.step ?_)
  refine HNew.mk fun b1 hb1 => ?_
  have u1 : Upd [] H (H.upd b1 (.cells x.cells.toArray 30)) := Upd.new hb1 _
  have o1 : RowAt (H.upd b1 (.cells x.cells.toArray 30)) (some ⟨b1, 0, none⟩) x.cells := RowAt.of_cells (upd_same _ _ _)
  have hH' : H.upd b1 (.cells [Value.int .i64 x.kind, .int .i64 x.client, .int .u64 (x.req : Int), .int .u64 (x.id : Int), .slice x.ap x.ps.length x.cp, .slice x.ak x.ks.length x.ck, .slice x.aw x.ws.length x.cw, .slice x.av x.vs.length x.cv].toArray 30) = H.upd b1 (.cells x.cells.toArray 30) := rfl
  rw [hH']
  generalize hH1 : H.upd b1 (.cells x.cells.toArray 30) = H1 at u1 o1
  have ro : ∀ {H'}, Upd [] H1 H' → RowAt H' (some ⟨b1, 0, none⟩) x.cells := fun u => o1.upd (S := []) u (.inr (Off.nil _))
  have rx : ∀ {H'}, Upd [] H1 H' → MsgIn H' x := fun u => hx.upd0 (u1.trans u)
  have hnk := hx.nk
  have hnp := hx.np
  (repeat first | refine HReg.step ?_ | refine HCode.step ?_)
  refine HLoad.one (v := .int .u64 (x.id : Int)) (by exact o1.get (i := 3) rfl) ?_
  (repeat first | refine HReg.step ?_ | refine HCode.step ?_)
  refine HCall.mk ⟨Tryz.f51, Tryz.func51, by rfl, by rfl⟩ ?_
  refine rid_t fun t ht => ?_
  cases t with
  | false =>
    (repeat first | refine HReg.step ?_ | refine HCode.step ?_)
    exact hk false H1 ⟨fun h => (by cases h), fun h => ht.2 h.1⟩ u1
  | true =>
  have hid := ht.1 rfl
  (repeat first | refine HReg.step ?_ | refine HCode.step ?_)
  refine HLoad.one (v := .slice x.ak x.ks.length x.ck) (by exact o1.get (i := 5) rfl) ?_
  (repeat first | refine HReg.step ?_ | refine HCode.step ?_)
  refine HCall.mk ⟨Tryz.f67, Tryz.func67, by rfl, by rfl⟩ ?_
  refine rwhole_t (rx (Upd.refl _ _)).rk rfl (by omega) fun t2 ht2 => ?_
  cases t2 with
  | false =>
    (repeat first | refine HReg.step ?_ | refine HCode.step ?_)
    exact hk false H1 ⟨fun h => (by cases h), fun h => ht2.2 h.2.1⟩ u1
  | true =>
  have hwh := ht2.1 rfl
  (repeat first | refine HReg.step ?_ | refine HCode.step ?_)
  refine HLoad.one (v := .slice x.ap x.ps.length x.cp) (by exact o1.get (i := 4) rfl) ?_
  (repeat first | refine HReg.step ?_ | refine HCode.step ?_)
  refine hif (fun h1 => ?_) (fun h1 => ?_)
  · have h1 := ltB_true.1 h1
    (repeat first | refine HReg.step ?_ | refine HCode.step ?_)
    exact hk false H1 ⟨fun h => (by cases h), fun h => absurd (List.eq_nil_of_length_eq_zero (by omega)) h.2.2.1⟩ u1
  have h1 := ltB_false.1 h1
  have hne : x.ps ≠ [] := fun e => by rw [e] at h1; exact absurd h1 (by decide)
  (repeat first | refine HReg.step ?_ | refine HCode.step ?_)
  refine hloopC [2, 3, 4, 21, 22, 23, 24, 25, 26, 27, 28, 29, 30, 31, 32, 33, 34, 35, 36, 37, 38, 39, 40, 41, 42, 43, 44, 45, 46, 47, 48, 49, 50, 51, 52, 53, 54, 55, 56, 57, 58, 59, 60] [3] (PpInv x.ps x.ks H1) rfl (by repeat' first | exact Resp.retD | exact Resp1.valuesK | refine Resp.blockD ?_ | refine Resp.thenD ?_ ?_ | refine Resp.hcode ?_) ?_ ?_
  · exact ⟨x.ps.length, PpInv.mk ⟨0, rfl, rfl, Upd.refl _ _, fun j p hj => absurd hj (Nat.not_lt_zero _)⟩⟩
  rintro m _ fe H2 ⟨i, rfl, hmi, u2, hall⟩
  have w2 : wr .i64 ((i : Int) + 1) = ((i + 1 : Nat) : Int) := by rw [wr_i64 (by omega) (by omega)]; omega
  (repeat first | refine HReg.step ?_ | refine HCode.step ?_)
  refine HLoad.one (v := .slice x.ap x.ps.length x.cp) (by exact (ro u2).get (i := 4) rfl) ?_
  (repeat first | refine HReg.step ?_ | refine HCode.step ?_)
  refine hif (fun h3 => ?_) (fun h3 => ?_)
  · have h3 := ltB_true.1 h3
    obtain ⟨p, hp⟩ : ∃ p, x.ps[i]? = some p := ⟨x.ps[i]'(by omega), by simp⟩
    have hpm := List.mem_of_getElem? hp
    have rp := (rx u2).rp
    obtain ⟨ba, bo, hap, _⟩ := rp _ _ (pairsV_get hp).1
    (repeat first | refine HReg.step ?_ | refine HCode.step ?_)
    refine HLoad.one (v := .slice x.ap x.ps.length x.cp) (by exact (ro u2).get (i := 4) rfl) ?_
    rw [hap] at rp ⊢
    (repeat first | refine HReg.step ?_ | refine HCode.step ?_)
    refine HReq.mk ⟨by omega, by omega⟩ ?_
    (repeat first | refine HReg.step ?_ | refine HCode.step ?_)
    refine HLoadN_pair rp hp ?_
    (repeat first | refine HReg.step ?_ | refine HCode.step ?_)
    refine HNew.mk fun b4 hb4 => ?_
    (repeat first | refine HReg.step ?_ | refine HCode.step ?_)
    refine store_pair (p := p) (OwnRow.lit (upd_same _ _ _) rfl) rfl fun H4 o4 u4 => ?_
    have u4 : Upd [] H2 H4 := Upd.drop (Upd.new hb4 _) u4 (fun q hq => by rw [List.mem_singleton.1 hq]; exact hb4)
    have u24 := u2.trans u4
    have rp4 := rp.upd (S := []) u4 (.inr (Off.nil _))
    (repeat first | refine HReg.step ?_ | refine HCode.step ?_)
    refine HLoad.one (v := .slice x.ak x.ks.length x.ck) (by exact (ro u24).get (i := 5) rfl) ?_
    (repeat first | refine HReg.step ?_ | refine HCode.step ?_)
    refine HLoad.one (v := .string (bs p.1)) (by exact o4.rows.get (i := 0) rfl) ?_
    (repeat first | refine HReg.step ?_ | refine HCode.step ?_)
    refine HCall.mk ⟨Tryz.f68, Tryz.func68, by rfl, by rfl⟩ ?_
    refine rhas_t (rx u24).rk rfl (by omega) fun t5 ht5 => ?_
    cases t5 with
    | false =>
      (repeat first | refine HReg.step ?_ | refine HCode.step ?_)
      exact hk false H4 ⟨fun h => (by cases h), fun h => ht5.2 (h.2.2.2.2 p hpm).1⟩ (u1.trans u24)
    | true =>
    have hmem := ht5.1 rfl
    (repeat first | refine HReg.step ?_ | refine HCode.step ?_)
    refine HLoad.one (v := .string (bs p.2)) (by exact o4.rows.get (i := 1) rfl) ?_
    (repeat first | refine HReg.step ?_ | refine HCode.step ?_)
    rw [bs_size]
    by_cases hl : p.2.length ≤ 65535
    · rw [show ltB 65535 ((p.2.length : Nat) : Int) = false from ltB_false.2 (by omega)]
      (repeat first | refine HReg.step ?_ | refine HCode.step ?_)
      by_cases hi : 0 < i
      · obtain ⟨q, hq⟩ : ∃ q, x.ps[i - 1]? = some q := ⟨x.ps[i - 1]'(by omega), by simp⟩
        have w1 : wr .i64 ((i : Int) - 1) = ((i - 1 : Nat) : Int) := by rw [wr_i64 (by omega) (by omega)]; omega
        rw [show ltB 0 ((i : Nat) : Int) = true from ltB_true.2 (by omega)]
        (repeat first | refine HReg.step ?_ | refine HCode.step ?_)
        refine HLoad.one (v := .slice x.ap x.ps.length x.cp) (by exact (ro u24).get (i := 4) rfl) ?_
        rw [hap]
        (repeat first | refine HReg.step ?_ | refine HCode.step ?_)
        rw [w1]
        refine HReq.mk ⟨by omega, by omega⟩ ?_
        (repeat first | refine HReg.step ?_ | refine HCode.step ?_)
        refine HLoad.one (v := .string (bs q.1)) (by exact rp4.get (pairsV_get hq).1) ?_
        (repeat first | refine HReg.step ?_ | refine HCode.step ?_)
        refine HLoad.one (v := .string (bs p.1)) (by exact o4.rows.get (i := 0) rfl) ?_
        (repeat first | refine HReg.step ?_ | refine HCode.step ?_)
        rw [sltB_bs]
        by_cases hlt : q.1 < p.1
        · rw [decide_eq_true hlt]
          (repeat first | refine HReg.step ?_ | refine HCode.step ?_)
          rw [w2]
          refine ⟨m - 1, by omega, PpInv.mk ⟨i + 1, rfl, by omega, u24, fun j z hj hz => ?_⟩⟩
          by_cases e : j < i
          · exact hall j z e hz
          · have e : j = i := by omega
            subst e
            rw [hp] at hz; cases hz
            exact ⟨hmem, hl, fun q' _ hq' => by rw [hq] at hq'; cases hq'; exact hlt⟩
        · rw [decide_eq_false hlt]
          (repeat first | refine HReg.step ?_ | refine HCode.step ?_)
          refine hk false H4 ⟨fun h => (by cases h), fun h => absurd ?_ hlt⟩ (u1.trans u24)
          have e : (i - 1) + 1 = i := by omega
          exact h.2.2.2.1 (i - 1) q.1 p.1 (by rw [List.getElem?_map, hq]; rfl) (by rw [e, List.getElem?_map, hp]; rfl)
      · rw [show ltB 0 ((i : Nat) : Int) = false from ltB_false.2 (by omega)]
        (repeat first | refine HReg.step ?_ | refine HCode.step ?_)
        rw [w2]
        refine ⟨m - 1, by omega, PpInv.mk ⟨i + 1, rfl, by omega, u24, fun j z hj hz => ?_⟩⟩
        have e : j = i := by omega
        subst e
        rw [hp] at hz; cases hz
        exact ⟨hmem, hl, fun q' hj' => absurd hj' hi⟩
    · rw [show ltB 65535 ((p.2.length : Nat) : Int) = true from ltB_true.2 (by omega)]
      (repeat first | refine HReg.step ?_ | refine HCode.step ?_)
      exact hk false H4 ⟨fun h => (by cases h), fun h => absurd (h.2.2.2.2 p hpm).2 hl⟩ (u1.trans u24)
  · have h3 := ltB_false.1 h3
    (repeat first | refine HReg.step ?_ | refine HCode.step ?_)
    refine hk true H2 ⟨fun _ => ⟨hid, hwh, hne, fun j a b ha hb => ?_, fun p hp => ?_⟩, fun _ => rfl⟩ (u1.trans u2)
    · rw [List.getElem?_map] at ha hb
      obtain ⟨pa, hpa, rfl⟩ := Option.map_eq_some_iff.1 ha
      obtain ⟨pb, hpb, rfl⟩ := Option.map_eq_some_iff.1 hb
      have := (List.getElem?_eq_some_iff.1 hpb).1
      exact (hall (j + 1) pb (by omega) hpb).2.2 pa (by omega) (by rw [Nat.add_sub_cancel]; exact hpa)
    · obtain ⟨j, hj⟩ := List.getElem?_of_mem hp
      have := (List.getElem?_eq_some_iff.1 hj).1
      have h := hall j p (by omega) hj
      exact ⟨h.1, h.2.1⟩
end
end Go.Proofs.YtlgncabjphokjaaGreat
