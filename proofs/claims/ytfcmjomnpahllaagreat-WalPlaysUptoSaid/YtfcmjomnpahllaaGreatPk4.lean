import Derived.Test.YtfcmjomnpahllaaGreatPk3
namespace Go.Proofs.YtfcmjomnpahllaaGreat
open Go Hv
set_option linter.unusedVariables false
set_option linter.unusedSimpArgs false
set_option maxRecDepth 10000
set_option maxHeartbeats 2000000
/-! The document's Rising, has, May -/
structure RgInv (l : List Txt) (H : Heap) (m : Nat) (vs : List Value) (H' : Heap) : Prop where
  ex : ∃ i : Nat, vs = [.int .i64 (i : Int)] ∧ m + i = l.length ∧ H' = H ∧ ∀ j x, j < i → l[j]? = some x → x.length ≤ 65535 ∧ ∀ y, 0 < j → l[j - 1]? = some y → y < x
structure RhInv (l : List Txt) (k : Txt) (H : Heap) (m : Nat) (vs : List Value) (H' : Heap) : Prop where
  ex : ∃ i : Nat, vs = [.int .i64 (i : Int)] ∧ m + i = l.length ∧ H' = H ∧ ∀ j x, j < i → l[j]? = some x → x ≠ k
structure RmInv (r : Rec) (H : Heap) (m : Nat) (vs : List Value) (H' : Heap) : Prop where
  ex : ∃ i : Nat, vs = [.int .i64 (i : Int)] ∧ m + i = r.ps.length ∧ Upd [] H H' ∧ ∀ j p, j < i → r.ps[j]? = some p → p.2.length ≤ 65535 ∧ p.1 ∈ r.ks ∧ ∀ q, 0 < j → r.ps[j - 1]? = some q → q.1 < p.1
section
variable {H : Heap} {K : Value → Heap → Prop}
theorem rrising_t {a : Option Addr} {n c : Nat} {l : List Txt} (hr : RowAt H a (txts l)) (hl : l.length = n) (hn : n ≤ 9000000000000000000)
    (hk : ∀ t : Bool, (t = true ↔ Whole l) → K (.bool t) H) : HCalls Tryz.prog 88 [.slice a n c] H K := by
  refine hcalls (fn := Tryz.f88) [(6, [(0, 0), (1, 0), (2, 0), (3, 0), (4, 0), (5, 0), (6, 0), (7, 0), (8, 0), (9, 0), (10, 0), (11, 0), (12, 0), (13, 0), (14, 0), (15, 0), (16, 0), (17, 0), (18, 0), (19, 0), (20, 0), (21, 0)])] mixed Tryz.func88 rfl rfl (by decide +kernel) ?_
  subst hl
  (repeat first | refine HReg.step ?_ | refine HCode.step ?_)
  refine hif (fun h1 => ?_) (fun h1 => ?_)
  · have h1 := ltB_true.1 h1
    (repeat first | refine HReg.step ?_ | refine HCode.step ?_)
    exact hk false ⟨fun h => (by cases h), fun h => by have := h.1.1; omega⟩
  have h1 := ltB_false.1 h1
  (repeat first | refine HReg.step ?_ | refine HCode.step ?_)
  refine hif (fun h2 => ?_) (fun h2 => ?_)
  · have h2 := ltB_true.1 h2
    (repeat first | refine HReg.step ?_ | refine HCode.step ?_)
    exact hk false ⟨fun h => (by cases h), fun h => by have := h.1.2.1; omega⟩
  have h2 := ltB_false.1 h2
  (repeat first | refine HReg.step ?_ | refine HCode.step ?_)
  refine hloopC [2, 3, 12, 13, 14, 15, 16, 17, 18, 19, 20, 21, 22, 23, 24, 25, 26, 27, 28, 29, 30, 31, 32, 33, 34, 35, 36, 37, 38, 39] [3] (RgInv l H) rfl (by repeat' first | exact Resp.retD | exact Resp1.valuesK | refine Resp.blockD ?_ | refine Resp.thenD ?_ ?_ | refine Resp.hcode ?_) ?_ ?_
  · exact ⟨l.length, RgInv.mk ⟨0, rfl, rfl, rfl, fun j x hj => absurd hj (Nat.not_lt_zero _)⟩⟩
  rintro m _ fe H1 ⟨i, rfl, hmi, rfl, hall⟩
  have w2 : wr .i64 ((i : Int) + 1) = ((i + 1 : Nat) : Int) := by rw [wr_i64 (by omega) (by omega)]; omega
  (repeat first | refine HReg.step ?_ | refine HCode.step ?_)
  refine hif (fun h3 => ?_) (fun h3 => ?_)
  · have h3 := ltB_true.1 h3
    obtain ⟨x, hx⟩ : ∃ x, l[i]? = some x := ⟨l[i]'(by omega), by simp⟩
    obtain ⟨ba, bo, rfl, _⟩ := hr i _ (txts_get hx)
    (repeat first | refine HReg.step ?_ | refine HCode.step ?_)
    refine HReq.mk ⟨by omega, by omega⟩ ?_
    (repeat first | refine HReg.step ?_ | refine HCode.step ?_)
    refine HLoad.one (v := .string (bs x)) (by exact hr.get (txts_get hx)) ?_
    (repeat first | refine HReg.step ?_ | refine HCode.step ?_)
    refine hif (fun h4 => ?_) (fun h4 => ?_)
    · have h4 := ltB_true.1 h4
      rw [bs_size] at h4
      (repeat first | refine HReg.step ?_ | refine HCode.step ?_)
      exact hk false ⟨fun h => (by cases h), fun h => by have := h.1.2.2 x (List.mem_of_getElem? hx); omega⟩
    have h4 := ltB_false.1 h4
    rw [bs_size] at h4
    (repeat first | refine HReg.step ?_ | refine HCode.step ?_)
    refine hif (fun h5 => ?_) (fun h5 => ?_)
    · have h5 := ltB_true.1 h5
      have w1 : wr .i64 ((i : Int) - 1) = ((i - 1 : Nat) : Int) := by rw [wr_i64 (by omega) (by omega)]; omega
      obtain ⟨y, hy⟩ : ∃ y, l[i - 1]? = some y := ⟨l[i - 1]'(by omega), by simp⟩
      (repeat first | refine HReg.step ?_ | refine HCode.step ?_)
      rw [w1]
      refine HReq.mk ⟨by omega, by omega⟩ ?_
      (repeat first | refine HReg.step ?_ | refine HCode.step ?_)
      refine HLoad.one (v := .string (bs y)) (by exact hr.get (txts_get hy)) ?_
      (repeat first | refine HReg.step ?_ | refine HCode.step ?_)
      refine HReq.mk ⟨by omega, by omega⟩ ?_
      (repeat first | refine HReg.step ?_ | refine HCode.step ?_)
      refine HLoad.one (v := .string (bs x)) (by exact hr.get (txts_get hx)) ?_
      (repeat first | refine HReg.step ?_ | refine HCode.step ?_)
      rw [sltB_bs]
      (repeat first | refine HReg.step ?_ | refine HCode.step ?_)
      by_cases hlt : y < x
      · rw [decide_eq_true hlt]
        (repeat first | refine HReg.step ?_ | refine HCode.step ?_)
        rw [w2]
        refine ⟨m - 1, by omega, RgInv.mk ⟨i + 1, rfl, by omega, rfl, fun j z hj hz => ?_⟩⟩
        by_cases e : j < i
        · exact hall j z e hz
        · have e : j = i := by omega
          subst e
          rw [hx] at hz; cases hz
          exact ⟨by omega, fun y' _ hy' => by rw [hy] at hy'; cases hy'; exact hlt⟩
      · rw [decide_eq_false hlt]
        (repeat first | refine HReg.step ?_ | refine HCode.step ?_)
        refine hk false ⟨fun h => (by cases h), fun h => absurd ?_ hlt⟩
        have e : (i - 1) + 1 = i := by omega
        exact h.2 (i - 1) y x hy (by rw [e]; exact hx)
    · have h5 := ltB_false.1 h5
      have hi0 : i = 0 := by omega
      (repeat first | refine HReg.step ?_ | refine HCode.step ?_)
      rw [w2]
      refine ⟨m - 1, by omega, RgInv.mk ⟨i + 1, rfl, by omega, rfl, fun j z hj hz => ?_⟩⟩
      have e : j = i := by omega
      subst e
      rw [hx] at hz; cases hz
      exact ⟨by omega, fun y' hj' => by omega⟩
  · have h3 := ltB_false.1 h3
    (repeat first | refine HReg.step ?_ | refine HCode.step ?_)
    refine hk true ⟨fun _ => ⟨⟨by omega, by omega, fun s hs => ?_⟩, fun j a b ha hb => ?_⟩, fun _ => rfl⟩
    · obtain ⟨j, hj⟩ := List.getElem?_of_mem hs
      have := (List.getElem?_eq_some_iff.1 hj).1
      exact (hall j s (by omega) hj).1
    · have := (List.getElem?_eq_some_iff.1 hb).1
      exact (hall (j + 1) b (by omega) hb).2 a (by omega) (by rw [Nat.add_sub_cancel]; exact ha)
theorem rhas_t {a : Option Addr} {n c : Nat} {l : List Txt} {k : Txt} (hr : RowAt H a (txts l)) (hl : l.length = n) (hn : n ≤ 9000000000000000000)
    (hk : ∀ t : Bool, (t = true ↔ k ∈ l) → K (.bool t) H) : HCalls Tryz.prog 89 [.slice a n c, .string (bs k)] H K := by
  refine hcalls (fn := Tryz.f89) [] mixed Tryz.func89 rfl rfl (by decide +kernel) ?_
  subst hl
  (repeat first | refine HReg.step ?_ | refine HCode.step ?_)
  refine hloopC [4, 5, 6, 7, 8, 9, 10, 11, 12, 13, 14, 15, 16, 17] [5] (RhInv l k H) rfl (by repeat' first | exact Resp.retD | exact Resp1.valuesK | refine Resp.blockD ?_ | refine Resp.thenD ?_ ?_ | refine Resp.hcode ?_) ?_ ?_
  · exact ⟨l.length, RhInv.mk ⟨0, rfl, rfl, rfl, fun j x hj => absurd hj (Nat.not_lt_zero _)⟩⟩
  rintro m _ fe H1 ⟨i, rfl, hmi, rfl, hall⟩
  have w2 : wr .i64 ((i : Int) + 1) = ((i + 1 : Nat) : Int) := by rw [wr_i64 (by omega) (by omega)]; omega
  (repeat first | refine HReg.step ?_ | refine HCode.step ?_)
  refine hif (fun h3 => ?_) (fun h3 => ?_)
  · have h3 := ltB_true.1 h3
    obtain ⟨x, hx⟩ : ∃ x, l[i]? = some x := ⟨l[i]'(by omega), by simp⟩
    obtain ⟨ba, bo, rfl, _⟩ := hr i _ (txts_get hx)
    (repeat first | refine HReg.step ?_ | refine HCode.step ?_)
    refine HReq.mk ⟨by omega, by omega⟩ ?_
    (repeat first | refine HReg.step ?_ | refine HCode.step ?_)
    refine HLoad.one (v := .string (bs x)) (by exact hr.get (txts_get hx)) ?_
    (repeat first | refine HReg.step ?_ | refine HCode.step ?_)
    rw [seqB_bs]
    (repeat first | refine HReg.step ?_ | refine HCode.step ?_)
    refine hif (fun h4 => ?_) (fun h4 => ?_)
    · have h4 := of_decide_eq_true h4
      (repeat first | refine HReg.step ?_ | refine HCode.step ?_)
      exact hk true ⟨fun _ => by rw [← h4]; exact List.mem_of_getElem? hx, fun _ => rfl⟩
    · have h4 := of_decide_eq_false h4
      (repeat first | refine HReg.step ?_ | refine HCode.step ?_)
      rw [w2]
      refine ⟨m - 1, by omega, RhInv.mk ⟨i + 1, rfl, by omega, rfl, fun j z hj hz => ?_⟩⟩
      by_cases e : j < i
      · exact hall j z e hz
      · have e : j = i := by omega
        subst e
        rw [hx] at hz; cases hz
        exact h4
  · have h3 := ltB_false.1 h3
    (repeat first | refine HReg.step ?_ | refine HCode.step ?_)
    refine hk false ⟨fun h => (by cases h), fun h => ?_⟩
    obtain ⟨j, hj⟩ := List.getElem?_of_mem h
    have := (List.getElem?_eq_some_iff.1 hj).1
    exact absurd rfl (hall j k (by omega) hj)
theorem rmay_t {r : Rec} {ap ak : Option Addr} {cp ck : Nat} (hr : RecIn H r ap ak)
    (hk : ∀ (t : Bool) H', (t = true ↔ May r) → Upd [] H H' → K (.bool t) H') : HCalls Tryz.prog 63 [rv r ap cp ak ck] H K := by
  refine hcalls (fn := Tryz.f63) [(11, [(0, 0), (1, 0), (2, 0), (3, 0), (4, 0), (5, 0), (6, 0), (7, 0), (8, 0), (9, 0), (10, 0), (11, 0), (12, 0), (13, 0), (14, 0), (15, 0), (16, 0), (17, 0), (18, 0), (19, 0), (20, 0), (21, 0), (22, 0), (23, 0), (24, 0), (25, 0), (26, 0), (27, 0)])] mixed Tryz.func63 rfl rfl (by decide +kernel) ?_
  have hnp := hr.np
  have hnk := hr.nk
  (repeat first | refine HReg.step ?_ | refine HCode.step ?_)
  refine HNew.mk fun b1 hb1 => ?_
  have u1 : Upd [] H (H.upd b1 (.cells (rcells r ap cp ak ck).toArray 41)) := Upd.new hb1 _
  have o1 : OwnRow (H.upd b1 (.cells (rcells r ap cp ak ck).toArray 41)) 41 1 (some ⟨b1, 0, none⟩) 4 4 (rcells r ap cp ak ck) := OwnRow.lit (upd_same _ _ _) rfl
  have hH' : H.upd b1 (.cells [Value.int .i64 r.kind, .int .u64 (r.id : Int), .slice ap r.ps.length cp, .slice ak r.ks.length ck].toArray 41) = H.upd b1 (.cells (rcells r ap cp ak ck).toArray 41) := rfl
  rw [hH']
  generalize hH1 : H.upd b1 (.cells (rcells r ap cp ak ck).toArray 41) = H1 at u1 o1
  have hr1 := hr.upd0 u1
  (repeat first | refine HReg.step ?_ | refine HCode.step ?_)
  refine HLoad.one (v := .int .u64 (r.id : Int)) (by exact o1.rows.get (i := 1) rfl) ?_
  (repeat first | refine HReg.step ?_ | refine HCode.step ?_)
  refine hif (fun h1 => ?_) (fun h1 => ?_)
  · have h1 := ltB_true.1 h1
    (repeat first | refine HReg.step ?_ | refine HCode.step ?_)
    exact hk false H1 ⟨fun h => (by cases h), fun h => by have := h.1; omega⟩ u1
  have h1 := ltB_false.1 h1
  (repeat first | refine HReg.step ?_ | refine HCode.step ?_)
  refine HLoad.one (v := .int .i64 r.kind) (by exact o1.rows.get (i := 0) rfl) ?_
  (repeat first | refine HReg.step ?_ | refine HCode.step ?_)
  refine hif (fun h2 => ?_) (fun h2 => ?_)
  · have h2 := eqB_true.1 h2
    (repeat first | refine HReg.step ?_ | refine HCode.step ?_)
    refine HLoad.one (v := .slice ap r.ps.length cp) (by exact o1.rows.get (i := 2) rfl) ?_
    (repeat first | refine HReg.step ?_ | refine HCode.step ?_)
    refine hif (fun h3 => ?_) (fun h3 => ?_)
    · have h3 := eqB_true.1 h3
      (repeat first | refine HReg.step ?_ | refine HCode.step ?_)
      refine HLoad.one (v := .slice ak r.ks.length ck) (by exact o1.rows.get (i := 3) rfl) ?_
      (repeat first | refine HReg.step ?_ | refine HCode.step ?_)
      refine hk _ H1 ⟨fun h => ⟨by omega, .inl ⟨h2, List.eq_nil_of_length_eq_zero (by omega), List.eq_nil_of_length_eq_zero ?_⟩⟩, fun h => ?_⟩ u1
      · have := eqB_true.1 h; omega
      · rcases h.2 with h | h
        · exact eqB_true.2 (by rw [h.2.2]; rfl)
        · rw [h2] at h; exact absurd h.1 (by decide)
    · have h3 := eqB_false.1 h3
      (repeat first | refine HReg.step ?_ | refine HCode.step ?_)
      refine hk false H1 ⟨fun h => (by cases h), fun h => ?_⟩ u1
      rcases h.2 with h | h
      · exact absurd (by rw [h.2.1]; rfl) h3
      · rw [h2] at h; exact absurd h.1 (by decide)
  have h2 := eqB_false.1 h2
  (repeat first | refine HReg.step ?_ | refine HCode.step ?_)
  refine HLoad.one (v := .int .i64 r.kind) (by exact o1.rows.get (i := 0) rfl) ?_
  (repeat first | refine HReg.step ?_ | refine HCode.step ?_)
  refine hif (fun h3 => ?_) (fun h3 => ?_)
  · have h3 := not_eqB_true.1 h3
    (repeat first | refine HReg.step ?_ | refine HCode.step ?_)
    refine hk false H1 ⟨fun h => (by cases h), fun h => ?_⟩ u1
    rcases h.kind with h | h
    · exact absurd h h3
    · exact absurd h h2
  have h3 := not_eqB_false.1 h3
  (repeat first | refine HReg.step ?_ | refine HCode.step ?_)
  refine HLoad.one (v := .slice ak r.ks.length ck) (by exact o1.rows.get (i := 3) rfl) ?_
  (repeat first | refine HReg.step ?_ | refine HCode.step ?_)
  refine HCall.mk ⟨Tryz.f88, Tryz.func88, by rfl, by rfl⟩ ?_
  refine rrising_t hr1.rk rfl (by omega) fun t ht => ?_
  cases t with
  | false =>
    (repeat first | refine HReg.step ?_ | refine HCode.step ?_)
    refine hk false H1 ⟨fun h => (by cases h), fun h => ?_⟩ u1
    rcases h.2 with h | h
    · exact absurd h.1 h2
    · exact ht.2 h.2.1
  | true =>
    have hw := ht.1 rfl
    (repeat first | refine HReg.step ?_ | refine HCode.step ?_)
    refine HLoad.one (v := .slice ap r.ps.length cp) (by exact o1.rows.get (i := 2) rfl) ?_
    (repeat first | refine HReg.step ?_ | refine HCode.step ?_)
    refine hif (fun h4 => ?_) (fun h4 => ?_)
    · have h4 := ltB_true.1 h4
      (repeat first | refine HReg.step ?_ | refine HCode.step ?_)
      refine hk false H1 ⟨fun h => (by cases h), fun h => ?_⟩ u1
      rcases h.2 with h | h
      · exact absurd h.1 h2
      · exact absurd (List.eq_nil_of_length_eq_zero (by omega)) h.2.2.1
    have h4 := ltB_false.1 h4
    (repeat first | refine HReg.step ?_ | refine HCode.step ?_)
    refine hloopC [2, 3, 4, 36, 37, 38, 39, 40, 41, 42, 43, 44, 45, 46, 47, 48, 49, 50, 51, 52, 53, 54, 55, 56, 57, 58, 59, 60, 61, 62, 63, 64, 65, 66, 67, 68, 69, 70, 71, 72, 73, 74, 75] [3] (RmInv r H1) rfl (by repeat' first | exact Resp.retD | exact Resp1.valuesK | refine Resp.blockD ?_ | refine Resp.thenD ?_ ?_ | refine Resp.hcode ?_) ?_ ?_
    · exact ⟨r.ps.length, RmInv.mk ⟨0, rfl, rfl, Upd.refl _ _, fun j x hj => absurd hj (Nat.not_lt_zero _)⟩⟩
    rintro m _ fe H2 ⟨i, rfl, hmi, u2, hall⟩
    have o2 := o1.upd u2 (Off.nil _)
    have hr2 := hr1.upd0 u2
    have u02 := u1.trans u2
    have w2 : wr .i64 ((i : Int) + 1) = ((i + 1 : Nat) : Int) := by rw [wr_i64 (by omega) (by omega)]; omega
    have no : ∀ {p : Txt × Txt}, r.ps[i]? = some p → (¬ (p.2.length ≤ 65535) ∨ ¬ (p.1 ∈ r.ks) ∨ ∃ q, 0 < i ∧ r.ps[i - 1]? = some q ∧ ¬ q.1 < p.1) → ¬ May r := fun {p} hp hbad h => by
      rcases h.2 with h | ⟨_, _, _, hri, hin⟩
      · exact absurd h.1 h2
      · have hm := hin p (List.mem_of_getElem? hp)
        rcases hbad with hb | hb | ⟨q, hi, hq, hb⟩
        · exact hb hm.2
        · exact hb hm.1
        · refine hb (hri (i - 1) q.1 p.1 (by rw [List.getElem?_map, hq]; rfl) ?_)
          rw [show i - 1 + 1 = i by omega, List.getElem?_map, hp]; rfl
    (repeat first | refine HReg.step ?_ | refine HCode.step ?_)
    refine HLoad.one (v := .slice ap r.ps.length cp) (by exact o2.rows.get (i := 2) rfl) ?_
    (repeat first | refine HReg.step ?_ | refine HCode.step ?_)
    refine hif (fun h5 => ?_) (fun h5 => ?_)
    · have h5 := ltB_true.1 h5
      obtain ⟨p, hp⟩ : ∃ p, r.ps[i]? = some p := ⟨r.ps[i]'(by omega), by simp⟩
      obtain ⟨ba, bo, rfl, _⟩ := hr2.rp _ _ (pairsV_get hp).1
      (repeat first | refine HReg.step ?_ | refine HCode.step ?_)
      refine HLoad.one (v := .slice (some ⟨ba, bo, none⟩) r.ps.length cp) (by exact o2.rows.get (i := 2) rfl) ?_
      (repeat first | refine HReg.step ?_ | refine HCode.step ?_)
      refine HReq.mk ⟨by omega, by omega⟩ ?_
      (repeat first | refine HReg.step ?_ | refine HCode.step ?_)
      refine HLoadN_pair hr2.rp hp ?_
      (repeat first | refine HReg.step ?_ | refine HCode.step ?_)
      refine HNew.mk fun b4 hb4 => ?_
      (repeat first | refine HReg.step ?_ | refine HCode.step ?_)
      refine store_pair (p := p) (OwnRow.lit (upd_same _ _ _) rfl) rfl fun H3 o3 u3 => ?_
      have u3 : Upd [] H2 H3 := Upd.drop (Upd.new hb4 _) u3 (fun x hx => by rw [List.mem_singleton.1 hx]; exact hb4)
      have o23 := o2.upd u3 (Off.nil _)
      have hr3 := hr2.upd0 u3
      have u03 := u02.trans u3
      (repeat first | refine HReg.step ?_ | refine HCode.step ?_)
      refine HLoad.one (v := .string (bs p.2)) (by exact o3.rows.get (i := 1) rfl) ?_
      (repeat first | refine HReg.step ?_ | refine HCode.step ?_)
      refine hif (fun h6 => ?_) (fun h6 => ?_)
      · have h6 := ltB_true.1 h6
        rw [bs_size] at h6
        (repeat first | refine HReg.step ?_ | refine HCode.step ?_)
        exact hk false H3 ⟨fun h => (by cases h), fun h => absurd h (no hp (.inl (by omega)))⟩ u03
      have h6 := ltB_false.1 h6
      rw [bs_size] at h6
      (repeat first | refine HReg.step ?_ | refine HCode.step ?_)
      refine HLoad.one (v := .slice ak r.ks.length ck) (by exact o23.rows.get (i := 3) rfl) ?_
      (repeat first | refine HReg.step ?_ | refine HCode.step ?_)
      refine HLoad.one (v := .string (bs p.1)) (by exact o3.rows.get (i := 0) rfl) ?_
      (repeat first | refine HReg.step ?_ | refine HCode.step ?_)
      refine HCall.mk ⟨Tryz.f89, Tryz.func89, by rfl, by rfl⟩ ?_
      refine rhas_t hr3.rk rfl (by omega) fun t ht => ?_
      cases t with
      | false =>
        (repeat first | refine HReg.step ?_ | refine HCode.step ?_)
        exact hk false H3 ⟨fun h => (by cases h), fun h => absurd h (no hp (.inr (.inl fun hm => by have := ht.2 hm; cases this)))⟩ u03
      | true =>
        have hm := ht.1 rfl
        (repeat first | refine HReg.step ?_ | refine HCode.step ?_)
        refine hif (fun h7 => ?_) (fun h7 => ?_)
        · have h7 := ltB_true.1 h7
          have w1 : wr .i64 ((i : Int) - 1) = ((i - 1 : Nat) : Int) := by rw [wr_i64 (by omega) (by omega)]; omega
          obtain ⟨q, hq⟩ : ∃ q, r.ps[i - 1]? = some q := ⟨r.ps[i - 1]'(by omega), by simp⟩
          (repeat first | refine HReg.step ?_ | refine HCode.step ?_)
          refine HLoad.one (v := .slice (some ⟨ba, bo, none⟩) r.ps.length cp) (by exact o23.rows.get (i := 2) rfl) ?_
          (repeat first | refine HReg.step ?_ | refine HCode.step ?_)
          rw [w1]
          refine HReq.mk ⟨by omega, by omega⟩ ?_
          (repeat first | refine HReg.step ?_ | refine HCode.step ?_)
          refine HLoad.one (v := .string (bs q.1)) (by exact hr3.rp.get (pairsV_get hq).1) ?_
          (repeat first | refine HReg.step ?_ | refine HCode.step ?_)
          refine HLoad.one (v := .string (bs p.1)) (by exact o3.rows.get (i := 0) rfl) ?_
          (repeat first | refine HReg.step ?_ | refine HCode.step ?_)
          rw [sltB_bs]
          (repeat first | refine HReg.step ?_ | refine HCode.step ?_)
          by_cases hlt : q.1 < p.1
          · rw [decide_eq_true hlt]
            (repeat first | refine HReg.step ?_ | refine HCode.step ?_)
            rw [w2]
            refine ⟨m - 1, by omega, RmInv.mk ⟨i + 1, rfl, by omega, u2.trans u3, fun j z hj hz => ?_⟩⟩
            by_cases e : j < i
            · exact hall j z e hz
            · have e : j = i := by omega
              subst e
              rw [hp] at hz; cases hz
              exact ⟨by omega, hm, fun y' _ hy' => by rw [hq] at hy'; cases hy'; exact hlt⟩
          · rw [decide_eq_false hlt]
            (repeat first | refine HReg.step ?_ | refine HCode.step ?_)
            exact hk false H3 ⟨fun h => (by cases h), fun h => absurd h (no hp (.inr (.inr ⟨q, by omega, hq, hlt⟩)))⟩ u03
        · have h7 := ltB_false.1 h7
          (repeat first | refine HReg.step ?_ | refine HCode.step ?_)
          rw [w2]
          refine ⟨m - 1, by omega, RmInv.mk ⟨i + 1, rfl, by omega, u2.trans u3, fun j z hj hz => ?_⟩⟩
          have e : j = i := by omega
          subst e
          rw [hp] at hz; cases hz
          exact ⟨by omega, hm, fun y' hj' => by omega⟩
    · have h5 := ltB_false.1 h5
      (repeat first | refine HReg.step ?_ | refine HCode.step ?_)
      refine hk true H2 ⟨fun _ => ⟨by omega, .inr ⟨h3, hw, fun h => by rw [h] at h4; exact absurd h4 (by decide), fun j a b ha hb => ?_, fun p hp => ?_⟩⟩, fun _ => rfl⟩ u02
      · rw [List.getElem?_map] at ha hb
        cases ha' : r.ps[j]? with
        | none => rw [ha'] at ha; cases ha
        | some p =>
          cases hb' : r.ps[j + 1]? with
          | none => rw [hb'] at hb; cases hb
          | some q =>
            rw [ha'] at ha; rw [hb'] at hb
            cases ha; cases hb
            have := (List.getElem?_eq_some_iff.1 hb').1
            exact (hall (j + 1) q (by omega) hb').2.2 p (by omega) (by rw [Nat.add_sub_cancel]; exact ha')
      · obtain ⟨j, hj⟩ := List.getElem?_of_mem hp
        have := (List.getElem?_eq_some_iff.1 hj).1
        have h := hall j p (by omega) hj
        exact ⟨h.2.1, h.1⟩
end
end Go.Proofs.YtfcmjomnpahllaaGreat
namespace Go.Proofs.YtfcmjomnpahllaaGreat
open Go Hv
set_option linter.unusedVariables false
set_option linter.unusedSimpArgs false
set_option maxRecDepth 10000
set_option maxHeartbeats 2000000
/-! The document's number, text, crc -/
structure RnInv (H0 : Heap) (v : Nat) (all : List UInt8) (m : Nat) (vs : List Value) (H' : Heap) : Prop where
  ex : ∃ (out : List UInt8) (a : Option Addr) (c : Nat), vs = [.slice a out.length c, .int .i64 ((m : Int) - 1)] ∧ m ≤ 8 ∧ out ++ num v m = all ∧ Made H0 H' 5 1 a out.length c (u8s out)
structure RdCInv (r : Crc.W) (ys : List UInt8) (H0 : Heap) (m : Nat) (vs : List Value) (H' : Heap) : Prop where
  ex : ∃ (i : Nat) (w : Crc.W), vs = [Sum.u32 w, .int .i64 (i : Int)] ∧ m + i = ys.length ∧ Crc.upd w (ys.drop i) = r ∧ H' = H0
structure RdCJ (w : Crc.W) (H0 : Heap) (vs : List Value) (H' : Heap) : Prop where
  ex : vs = [Sum.u32 (Crc.shn 8 w)] ∧ H' = H0
structure RcIn (w : Crc.W) (H0 : Heap) (m : Nat) (vs : List Value) (H' : Heap) : Prop where
  ex : ∃ (k : Nat), vs = [Sum.u32 (Crc.shn k w), .int .i64 (k : Int)] ∧ m + k = 8 ∧ H' = H0
theorem half32 (w : Crc.W) : wr .u32 ((w.toNat : Int).tdiv 2) = ((w >>> 1).toNat : Int) := by
  have := w.isLt
  rw [BitVec.toNat_ushiftRight, Nat.shiftRight_eq_div_pow, Int.tdiv_eq_ediv_of_nonneg (by omega)]
  rw [show (w.toNat : Int) / 2 = ((w.toNat / 2 : Nat) : Int) by omega, wr32]
  show ((w.toNat / 2 % 4294967296 : Nat) : Int) = ((w.toNat / 2 ^ 1 : Nat) : Int)
  omega
theorem rem32 (w : Crc.W) : ((w.toNat : Int).tmod 2 = 1) ↔ w.getLsbD 0 = true := by
  rw [Int.tmod_eq_emod_of_nonneg (by omega)]
  have : w.getLsbD 0 = decide (w.toNat % 2 = 1) := by
    rw [BitVec.getLsbD, Nat.testBit_zero]
  rw [this]
  constructor
  · intro h; exact decide_eq_true (by omega)
  · intro h; have := of_decide_eq_true h; omega
theorem sub32 (w : Crc.W) : wr .u32 (4294967295 - (w.toNat : Int)) = ((~~~w).toNat : Int) := by
  have := w.isLt
  rw [BitVec.toNat_not, show (4294967295 - (w.toNat : Int)) = ((4294967295 - w.toNat : Nat) : Int) by omega, wr32]
  omega
theorem append_str_made {a : Option Addr} {n cap : Nat} {xs s : List UInt8} {H0 H : Heap} {K : Value → Heap → Prop} (hm : Made H0 H 5 1 a n cap (u8s xs)) (hlim : n + s.length ≤ 140737488355328)
    (hk : ∀ a' cap' H', Made H0 H' 5 1 a' (n + s.length) cap' (u8s (xs ++ s)) → K (.slice a' (n + s.length) cap') H') : HSem Tryz.prog (Builtin.append_ #[42, 9] 42 [.slice a n cap, .string (bs s)].toArray) H K := by
  refine append_str (ie := Tryz.t5) (z := .int .u8 0) (xs := u8s xs) Tryz.underlying42 rfl rfl rfl rfl Tryz.underlying9 hm.own (by rw [bs_size]; show (n + s.length) * 1 ≤ _; omega) (by rw [bs_size]; omega) fun a' cap' H' o u f => ?_
  rw [bs_size] at o ⊢
  have e : u8s xs ++ ((bs s).data.toList.map fun b => Value.int .u8 b.toNat) = u8s (xs ++ s) := by unfold u8s; rw [List.map_append]; rfl
  rw [e] at o
  refine hk a' cap' H' ⟨o, ?_, ?_⟩
  · refine Upd.drop hm.upd u fun b hb => ?_
    obtain ⟨p, hp, rfl⟩ := blk_of hb
    exact hm.new p hp
  · intro p hp
    rcases f p hp with h | h
    · exact hm.new p h
    · exact Upd.none (S := []) hm.upd (by simp) h
section
variable {H0 H : Heap} {K : Value → Heap → Prop}
theorem rnum_t {a : Option Addr} {c v n : Nat} {b : List UInt8} {L : Nat} (hL : b.length = L) (hm : Made H0 H 5 1 a L c (u8s b)) (hn : n ≤ 8) (hlim : b.length ≤ 100000000000000)
    (hk : ∀ a' c' H', Made H0 H' 5 1 a' (b.length + n) c' (u8s (b ++ num v n)) → K (.slice a' (b.length + n) c') H') : HCalls Tryz.prog 66 [.slice a L c, .int .u64 (v : Int), .int .i64 (n : Int)] H K := by
  refine hcalls (fn := Tryz.f66) [] mixed Tryz.func66 rfl rfl (by decide +kernel) ?_
  subst hL
  have w1 : wr .i64 ((n : Int) - 1) = (n : Int) - 1 := wr_i64 (by omega) (by omega)
  (repeat first | refine HReg.step ?_ | refine HCode.step ?_)
  refine hloopC [0, 7, 10, 11, 12, 13, 14, 15, 16, 17, 18, 19, 20, 21] [0, 7] (RnInv H0 v (b ++ num v n)) rfl (by repeat' first | exact Resp.retD | exact Resp1.valuesK | refine Resp.blockD ?_ | refine Resp.thenD ?_ ?_ | refine Resp.hcode ?_) ?_ ?_
  · exact ⟨n, RnInv.mk ⟨b, a, c, by rw [w1], hn, rfl, hm⟩⟩
  rintro m _ fe H2 ⟨out, a2, c2, rfl, hm8, hall, m2⟩
  have hlen : out.length + m = b.length + n := by
    have := congrArg List.length hall
    rw [List.length_append, List.length_append, num_length, num_length] at this; exact this
  (repeat first | refine HReg.step ?_ | refine HCode.step ?_)
  refine hif (fun h1 => ?_) (fun h1 => ?_)
  · have h1 := not_ltB_true.1 h1
    obtain ⟨i, rfl⟩ : ∃ i, m = i + 1 := ⟨m - 1, by omega⟩
    have em : ((i + 1 : Nat) : Int) - 1 = (i : Int) := by omega
    rw [em]
    have w8 : wr .i64 (8 * (i : Int)) = ((8 * i : Nat) : Int) := by rw [wr_i64 (by omega) (by omega)]; omega
    have w2 : wr .i64 ((i : Int) - 1) = (i : Int) - 1 := wr_i64 (by omega) (by omega)
    (repeat first | refine HReg.step ?_ | refine HCode.step ?_)
    refine HReq.mk (by rw [w8]; omega) ?_
    (repeat first | refine HReg.step ?_ | refine HCode.step ?_)
    refine HReq.mk (by decide) ?_
    (repeat first | refine HReg.step ?_ | refine HCode.step ?_)
    refine HNew.mk fun b9 hb => ?_
    have ub : Upd [] H2 (H2.upd b9 (.cells [Value.int .u8 (wr .u8 (shrS .u64 (v : Int) (wr .i64 (8 * (i : Int)))))].toArray 5)) := Upd.new hb _
    have rb : RowAt (H2.upd b9 (.cells [Value.int .u8 (wr .u8 (shrS .u64 (v : Int) (wr .i64 (8 * (i : Int)))))].toArray 5)) (some ⟨b9, 0, none⟩) (u8s [UInt8.ofNat (v / 256 ^ i)]) := row_lit (upd_same _ _ _) (by rw [byte_at v i (by omega)]; rfl)
    (repeat first | refine HReg.step ?_ | refine HCode.step ?_)
    refine append_made (xs := out) (m2.step ub) rb rfl (by omega) fun a4 c4 H4 m4 => ?_
    (repeat first | refine HReg.step ?_ | refine HCode.step ?_)
    rw [w2]
    have hl : (out ++ [UInt8.ofNat (v / 256 ^ i)]).length = out.length + 1 := List.length_append
    refine ⟨i, by omega, RnInv.mk ⟨out ++ [UInt8.ofNat (v / 256 ^ i)], a4, c4, by rw [hl], by omega, by rw [List.append_assoc]; exact hall, by rw [hl]; exact m4⟩⟩
  · have h1 := not_ltB_false.1 h1
    obtain rfl : m = 0 := by omega
    have hall : out ++ [] = b ++ num v n := hall
    rw [List.append_nil] at hall
    have hl : out.length = b.length + n := by omega
    rw [hl, hall] at m2
    rw [hl]
    (repeat first | refine HReg.step ?_ | refine HCode.step ?_)
    exact hk a2 c2 H2 m2
theorem rtext_t' {a : Option Addr} {c : Nat} {b s : List UInt8} {L : Nat} (hL : b.length = L) (hm : Made H0 H 5 1 a L c (u8s b)) (hlim : b.length ≤ 10000000000000) (hs : s.length ≤ 65535)
    (hk : ∀ a' c' H', Made H0 H' 5 1 a' (b ++ textB s).length c' (u8s (b ++ textB s)) → K (.slice a' (b ++ textB s).length c') H') : HCalls Tryz.prog 90 [.slice a L c, .string (bs s)] H K := by
  refine hcalls (fn := Tryz.f90) [] mixed Tryz.func90 rfl rfl (by decide +kernel) ?_
  subst hL
  have w64 : wr .u64 (((bs s).size : Nat) : Int) = ((s.length : Nat) : Int) := by rw [bs_size, wr_u64]; omega
  (repeat first | refine HReg.step ?_ | refine HCode.step ?_)
  rw [w64]
  refine HCall.mk ⟨Tryz.f66, Tryz.func66, by rfl, by rfl⟩ ?_
  refine rnum_t (v := s.length) (n := 4) rfl hm (by decide) (by omega) fun a2 c2 H2 m2 => ?_
  (repeat first | refine HReg.step ?_ | refine HCode.step ?_)
  refine append_str_made m2 (by omega) fun a3 c3 H3 m3 => ?_
  have e : (b ++ num s.length 4) ++ s = b ++ textB s := by unfold textB; rw [List.append_assoc]
  have hl : b.length + 4 + s.length = (b ++ textB s).length := by rw [List.length_append, textB_length]; omega
  rw [e, hl] at m3
  rw [hl]
  (repeat first | refine HReg.step ?_ | refine HCode.step ?_)
  exact hk a3 c3 H3 m3
theorem rcrc_t {a : Option Addr} {n c : Nat} {ys : List UInt8} (hy : RowAt H a (u8s ys)) (hl : ys.length = n) (hlim : n ≤ 100000000000000)
    (hk : K (Sum.u32 (Crc.crc 0#32 ys)) H) : HCalls Tryz.prog 67 [.slice a n c] H K := by
  refine hcalls (fn := Tryz.f67) [] mixed Tryz.func67 rfl rfl (by decide +kernel) ?_
  subst hl
  (repeat first | refine HReg.step ?_ | refine HCode.step ?_)
  refine hloopC [3, 4, 5, 6, 7, 8, 9, 10, 11, 12, 13, 14, 15, 16, 17, 18, 19, 20, 21, 22, 23, 24, 25, 26, 27, 28, 29, 30] [3, 4] (RdCInv (Crc.upd (~~~0#32) ys) ys H) rfl (by repeat' first | exact Resp.retD | exact Resp1.valuesK | refine Resp.blockD ?_ | refine Resp.thenD ?_ ?_ | refine Resp.hcode ?_) ?_ ?_
  · exact ⟨ys.length, RdCInv.mk ⟨0, ~~~0#32, rfl, rfl, rfl, rfl⟩⟩
  rintro m _ fe H1 ⟨i, w, rfl, hmi, hu, rfl⟩
  have w2 : wr .i64 ((i : Int) + 1) = ((i + 1 : Nat) : Int) := by rw [wr_i64 (by omega) (by omega)]; omega
  (repeat first | refine HReg.step ?_ | refine HCode.step ?_)
  refine hif (fun h1 => ?_) (fun h1 => ?_)
  · have h1 := ltB_true.1 h1
    obtain ⟨x, hx⟩ : ∃ x, ys[i]? = some x := ⟨ys[i]'(by omega), by simp⟩
    obtain ⟨ba, bo, rfl, _⟩ := hy i _ (u8s_get hx)
    (repeat first | refine HReg.step ?_ | refine HCode.step ?_)
    refine HReq.mk ⟨by omega, by omega⟩ ?_
    (repeat first | refine HReg.step ?_ | refine HCode.step ?_)
    refine HLoad.one (v := u8 x) (by exact hy.get (u8s_get hx)) ?_
    have ex : Value.int .u32 (bitsS .xor .u32 (w.toNat : Int) (wr .u32 (x.toNat : Int))) = Sum.u32 (w ^^^ Crc.byteW x) := by
      rw [Sum.conv8, Sum.xor32]; rfl
    (repeat first | refine HReg.step ?_ | refine HCode.step ?_)
    refine hloopC [3, 5, 19, 20, 21, 22, 23, 24, 25, 26, 27, 28, 29, 30] [3, 5] (RcIn (w ^^^ Crc.byteW x) H1) rfl (by repeat' first | exact Resp.retD | exact Resp1.valuesK | refine Resp.blockD ?_ | refine Resp.thenD ?_ ?_ | refine Resp.hcode ?_) ?_ ?_
    · refine ⟨8, RcIn.mk ⟨0, ?_, rfl, rfl⟩⟩
      show _ = [Sum.u32 (w ^^^ Crc.byteW x), _]
      rw [← ex]; rfl
    rintro m2 _ fe2 H2 ⟨k, rfl, hk8, rfl⟩
    have wk : wr .i64 ((k : Int) + 1) = ((k + 1 : Nat) : Int) := by rw [wr_i64 (by omega) (by omega)]; omega
    (repeat first | refine HReg.step ?_ | refine HCode.step ?_)
    refine hif (fun h2 => ?_) (fun h2 => ?_)
    · have h2 := ltB_true.1 h2
      have hnext : ∀ y, Crc.sh (Crc.shn k (w ^^^ Crc.byteW x)) = y → Crc.shn (k + 1) (w ^^^ Crc.byteW x) = y := fun y hy' => by
        rw [← hy', ← Crc.shn_sh]; rfl
      generalize hz : Crc.shn k (w ^^^ Crc.byteW x) = z at *
      (repeat first | refine HReg.step ?_ | refine HCode.step ?_)
      refine HReq.mk (by decide) ?_
      (repeat first | refine HReg.step ?_ | refine HCode.step ?_)
      refine hif (fun h3 => ?_) (fun h3 => ?_)
      · have h3 := (rem32 z).1 (eqB_true.1 h3)
        (repeat first | refine HReg.step ?_ | refine HCode.step ?_)
        refine HReq.mk (by decide) ?_
        rw [half32]
        (repeat first | refine HReg.step ?_ | refine HCode.step ?_)
        rw [show (3988292384 : Int) = ((Crc.pol.toNat : Nat) : Int) from rfl, Sum.xor32, wk]
        refine ⟨m2 - 1, by omega, RcIn.mk ⟨k + 1, ?_, by omega, rfl⟩⟩
        rw [hnext _ (show Crc.sh z = (z >>> 1) ^^^ Crc.pol by unfold Crc.sh; rw [h3]; rfl)]; rfl
      · have h3 : z.getLsbD 0 = false := by
          cases hb : z.getLsbD 0 with
          | false => rfl
          | true => exact absurd ((rem32 z).2 hb) (eqB_false.1 h3)
        (repeat first | refine HReg.step ?_ | refine HCode.step ?_)
        refine HReq.mk (by decide) ?_
        rw [half32]
        (repeat first | refine HReg.step ?_ | refine HCode.step ?_)
        rw [wk]
        refine ⟨m2 - 1, by omega, RcIn.mk ⟨k + 1, ?_, by omega, rfl⟩⟩
        rw [hnext _ (show Crc.sh z = (z >>> 1) by unfold Crc.sh; rw [h3]; simp)]; rfl
    · have h2 := ltB_false.1 h2
      have hk : k = 8 := by omega
      subst hk
      (repeat first | refine HReg.step ?_ | refine HCode.step ?_)
      rw [w2]
      refine ⟨m - 1, by omega, RdCInv.mk ⟨i + 1, _, rfl, by omega, ?_, rfl⟩⟩
      rw [drop_get hx] at hu
      exact hu
  · have h1 := ltB_false.1 h1
    have hi : i = ys.length := by omega
    subst hi
    rw [List.drop_length] at hu
    have hu : w = Crc.upd (~~~0#32) ys := hu
    (repeat first | refine HReg.step ?_ | refine HCode.step ?_)
    have : K (Sum.u32 (~~~ w)) H1 := by
      have e : Crc.crc 0#32 ys = ~~~ w := by unfold Crc.crc; rw [hu]
      rw [← e]; exact hk
    rw [sub32]
    exact this
end
end Go.Proofs.YtfcmjomnpahllaaGreat
namespace Go.Proofs.YtfcmjomnpahllaaGreat
open Go Hv
set_option linter.unusedVariables false
set_option linter.unusedSimpArgs false
set_option maxRecDepth 10000
set_option maxHeartbeats 2000000
theorem pieces_bound {B : Nat} : ∀ (ps : List (Txt × Txt)), (∀ p ∈ ps, p.1.length ≤ B ∧ p.2.length ≤ B) → (pairPieces ps).flatten.length ≤ ps.length * (8 + 2 * B)
  | [], _ => Nat.zero_le _
  | p :: ps, h => by
    have hp := h p List.mem_cons_self
    have ih := pieces_bound ps (fun q hq => h q (List.mem_cons_of_mem _ hq))
    have e : (pairPieces (p :: ps)).flatten = textB p.1 ++ (textB p.2 ++ (pairPieces ps).flatten) := by
      unfold pairPieces
      rw [List.flatMap_cons]
      simp only [List.cons_append, List.nil_append, List.flatten_cons, List.append_assoc]
    rw [e, List.length_append, List.length_append, textB_length, textB_length, List.length_cons, Nat.succ_mul]
    omega
/-! The document's long, payload, Build -/
def pl (ps : List (Txt × Txt)) (i : Nat) : Nat := (pairPieces (ps.take i)).flatten.length
def kl (ks : List Txt) (i : Nat) : Nat := ((ks.take i).flatMap textB).length
theorem pl_step {ps : List (Txt × Txt)} {i : Nat} {p : Txt × Txt} (h : ps[i]? = some p) : pl ps (i + 1) = pl ps i + 8 + p.1.length + p.2.length := by
  unfold pl
  rw [pieces_take h, List.flatten_append, List.length_append]
  simp only [List.flatten_cons, List.flatten_nil, List.append_nil, List.length_append, textB_length]
  omega
theorem kl_step {ks : List Txt} {i : Nat} {s : Txt} (h : ks[i]? = some s) : kl ks (i + 1) = kl ks i + 4 + s.length := by
  unfold kl
  rw [List.take_add_one, h, List.flatMap_append, List.length_append]
  simp only [Option.toList_some, List.flatMap_cons, List.flatMap_nil, List.append_nil, textB_length]
  omega
theorem pl_le {r : Rec} (h : May r) (i : Nat) : pl r.ps i ≤ 1024 * 131078 := by
  have b := pieces_bound (B := 65535) (r.ps.take i) (fun p hp => h.short.1 p (List.mem_of_mem_take hp))
  have hl : (r.ps.take i).length ≤ 1024 := by rw [List.length_take]; have := h.few.1; omega
  unfold pl
  exact Nat.le_trans b (Nat.mul_le_mul hl (by decide))
theorem kl_le {r : Rec} (h : May r) (i : Nat) : kl r.ks i ≤ 1024 * 65539 := by
  have b := flat_bound (B := 65535) (l := r.ks.take i) (fun p hp => h.short.2 p (List.mem_of_mem_take hp))
  have hl : (r.ks.take i).length ≤ 1024 := by rw [List.length_take]; have := h.few.2; omega
  unfold kl
  exact Nat.le_trans b (Nat.mul_le_mul hl (by decide))
def base (r : Rec) : Nat := if r.kind = 1 then 17 else 9
theorem pay_len {r : Rec} (h : May r) : (pay r).length = base r + pl r.ps r.ps.length + kl r.ks r.ks.length := by
  unfold base pl kl
  rw [List.take_length, List.take_length]
  rcases h.2 with ⟨h1, h2, h3⟩ | ⟨h1, _⟩
  · rw [pay2 h1, if_neg (by rw [h1]; decide), h2, h3, List.length_append, num_length, num_length]; rfl
  · rw [pay1 h1, if_pos h1]
    simp only [List.length_append, num_length, textsB]; omega
structure L1Inv (r : Rec) (H0 : Heap) (m : Nat) (vs : List Value) (H' : Heap) : Prop where
  ex : ∃ i : Nat, vs = [.int .i64 ((base r + pl r.ps i : Nat) : Int), .int .i64 (i : Int)] ∧ m + i = r.ps.length ∧ H' = H0
structure L2Inv (r : Rec) (H0 : Heap) (m : Nat) (vs : List Value) (H' : Heap) : Prop where
  ex : ∃ i : Nat, vs = [.int .i64 ((base r + pl r.ps r.ps.length + kl r.ks i : Nat) : Int), .int .i64 (i : Int)] ∧ m + i = r.ks.length ∧ H' = H0
structure LbJ (r : Rec) (H0 : Heap) (vs : List Value) (H' : Heap) : Prop where
  ex : vs = [.int .i64 (base r : Int)] ∧ H' = H0
structure LpJ (r : Rec) (H0 : Heap) (vs : List Value) (H' : Heap) : Prop where
  ex : vs = [.int .i64 ((base r + pl r.ps r.ps.length : Nat) : Int)] ∧ H' = H0
structure P1S (H : Heap) (r : Rec) (ap ak : Option Addr) (cp ck : Nat) (b1 : Nat) (out : List UInt8) (a : Option Addr) (c : Nat) (H' : Heap) : Prop where
  m : Made H H' 5 1 a out.length c (u8s out)
  o : OwnRow H' 41 1 (some ⟨b1, 0, none⟩) 4 4 (rcells r ap cp ak ck)
structure P1Inv (H : Heap) (r : Rec) (ap ak : Option Addr) (cp ck : Nat) (b1 : Nat) (h0 : List UInt8) (m : Nat) (vs : List Value) (H' : Heap) : Prop where
  ex : ∃ (i : Nat) (a : Option Addr) (c : Nat) (out : List UInt8), vs = [.slice a out.length c, .int .i64 (i : Int)] ∧ m + i = r.ps.length ∧ out = h0 ++ (pairPieces (r.ps.take i)).flatten ∧ Made H H' 5 1 a out.length c (u8s out)
structure P2Inv (H : Heap) (r : Rec) (h0 : List UInt8) (m : Nat) (vs : List Value) (H' : Heap) : Prop where
  ex : ∃ (i : Nat) (a : Option Addr) (c : Nat) (out : List UInt8), vs = [.slice a out.length c, .int .i64 (i : Int)] ∧ m + i = r.ks.length ∧ out = h0 ++ (r.ks.take i).flatMap textB ∧ Made H H' 5 1 a out.length c (u8s out)
section
variable {H : Heap} {K : Value → Heap → Prop}
theorem rlong_t {r : Rec} {ap ak : Option Addr} {cp ck : Nat} (hr : RecIn H r ap ak) (hm : May r)
    (hk : ∀ H', Upd [] H H' → K (.int .i64 ((pay r).length : Int)) H') : HCalls Tryz.prog 64 [rv r ap cp ak ck] H K := by
  refine hcalls (fn := Tryz.f64) [(7, [(0, 0), (1, 0), (2, 0), (3, 0), (4, 0), (5, 0), (6, 0), (7, 0), (8, 0), (9, 0), (10, 0), (11, 0), (12, 0), (13, 0), (14, 0), (15, 0), (16, 0), (17, 0), (18, 0)])] mixed Tryz.func64 rfl rfl (by decide +kernel) ?_
  have hfew := hm.few
  rw [pay_len hm] at hk
  have hb : base r ≤ 17 := by unfold base; split <;> omega
  have hpl := pl_le hm
  have hkl := kl_le hm
  (repeat first | refine HReg.step ?_ | refine HCode.step ?_)
  refine HNew.mk fun b1 hb1 => ?_
  have u1 : Upd [] H (H.upd b1 (.cells (rcells r ap cp ak ck).toArray 41)) := Upd.new hb1 _
  have o1 : OwnRow (H.upd b1 (.cells (rcells r ap cp ak ck).toArray 41)) 41 1 (some ⟨b1, 0, none⟩) 4 4 (rcells r ap cp ak ck) := OwnRow.lit (upd_same _ _ _) rfl
  have hH' : H.upd b1 (.cells [Value.int .i64 r.kind, .int .u64 (r.id : Int), .slice ap r.ps.length cp, .slice ak r.ks.length ck].toArray 41) = H.upd b1 (.cells (rcells r ap cp ak ck).toArray 41) := rfl
  rw [hH']
  generalize hH1 : H.upd b1 (.cells (rcells r ap cp ak ck).toArray 41) = H1 at u1 o1
  have hr1 := hr.upd0 u1
  first | refine hcutC (a := Code.seq (Code.region _ _ _) (Code.cond _ _ _)) [3, 6, 7, 8, 9, 10] [3] (LbJ r H1) rfl (by repeat' first | exact Resp.retD | exact Resp1.valuesK | refine Resp.blockD ?_ | refine Resp.thenD ?_ ?_ | refine Resp.hcode ?_) ?_ ?_ | ((first | refine HReg.step ?_ | refine HCode.step ?_); first | refine hcutC (a := Code.seq (Code.region _ _ _) (Code.cond _ _ _)) [3, 6, 7, 8, 9, 10] [3] (LbJ r H1) rfl (by repeat' first | exact Resp.retD | exact Resp1.valuesK | refine Resp.blockD ?_ | refine Resp.thenD ?_ ?_ | refine Resp.hcode ?_) ?_ ?_ | ((first | refine HReg.step ?_ | refine HCode.step ?_); first | refine hcutC (a := Code.seq (Code.region _ _ _) (Code.cond _ _ _)) [3, 6, 7, 8, 9, 10] [3] (LbJ r H1) rfl (by repeat' first | exact Resp.retD | exact Resp1.valuesK | refine Resp.blockD ?_ | refine Resp.thenD ?_ ?_ | refine Resp.hcode ?_) ?_ ?_ | ((first | refine HReg.step ?_ | refine HCode.step ?_); first | refine hcutC (a := Code.seq (Code.region _ _ _) (Code.cond _ _ _)) [3, 6, 7, 8, 9, 10] [3] (LbJ r H1) rfl (by repeat' first | exact Resp.retD | exact Resp1.valuesK | refine Resp.blockD ?_ | refine Resp.thenD ?_ ?_ | refine Resp.hcode ?_) ?_ ?_ | ((first | refine HReg.step ?_ | refine HCode.step ?_); first | refine hcutC (a := Code.seq (Code.region _ _ _) (Code.cond _ _ _)) [3, 6, 7, 8, 9, 10] [3] (LbJ r H1) rfl (by repeat' first | exact Resp.retD | exact Resp1.valuesK | refine Resp.blockD ?_ | refine Resp.thenD ?_ ?_ | refine Resp.hcode ?_) ?_ ?_ | ((first | refine HReg.step ?_ | refine HCode.step ?_); first | refine hcutC (a := Code.seq (Code.region _ _ _) (Code.cond _ _ _)) [3, 6, 7, 8, 9, 10] [3] (LbJ r H1) rfl (by repeat' first | exact Resp.retD | exact Resp1.valuesK | refine Resp.blockD ?_ | refine Resp.thenD ?_ ?_ | refine Resp.hcode ?_) ?_ ?_ | ((first | refine HReg.step ?_ | refine HCode.step ?_); first | refine hcutC (a := Code.seq (Code.region _ _ _) (Code.cond _ _ _)) [3, 6, 7, 8, 9, 10] [3] (LbJ r H1) rfl (by repeat' first | exact Resp.retD | exact Resp1.valuesK | refine Resp.blockD ?_ | refine Resp.thenD ?_ ?_ | refine Resp.hcode ?_) ?_ ?_ | ((first | refine HReg.step ?_ | refine HCode.step ?_); first | refine hcutC (a := Code.seq (Code.region _ _ _) (Code.cond _ _ _)) [3, 6, 7, 8, 9, 10] [3] (LbJ r H1) rfl (by repeat' first | exact Resp.retD | exact Resp1.valuesK | refine Resp.blockD ?_ | refine Resp.thenD ?_ ?_ | refine Resp.hcode ?_) ?_ ?_ | ((first | refine HReg.step ?_ | refine HCode.step ?_); first | refine hcutC (a := Code.seq (Code.region _ _ _) (Code.cond _ _ _)) [3, 6, 7, 8, 9, 10] [3] (LbJ r H1) rfl (by repeat' first | exact Resp.retD | exact Resp1.valuesK | refine Resp.blockD ?_ | refine Resp.thenD ?_ ?_ | refine Resp.hcode ?_) ?_ ?_ | ((first | refine HReg.step ?_ | refine HCode.step ?_); first | refine hcutC (a := Code.seq (Code.region _ _ _) (Code.cond _ _ _)) [3, 6, 7, 8, 9, 10] [3] (LbJ r H1) rfl (by repeat' first | exact Resp.retD | exact Resp1.valuesK | refine Resp.blockD ?_ | refine Resp.thenD ?_ ?_ | refine Resp.hcode ?_) ?_ ?_ | ((first | refine HReg.step ?_ | refine HCode.step ?_); first | refine hcutC (a := Code.seq (Code.region _ _ _) (Code.cond _ _ _)) [3, 6, 7, 8, 9, 10] [3] (LbJ r H1) rfl (by repeat' first | exact Resp.retD | exact Resp1.valuesK | refine Resp.blockD ?_ | refine Resp.thenD ?_ ?_ | refine Resp.hcode ?_) ?_ ?_ | ((first | refine HReg.step ?_ | refine HCode.step ?_); first | refine hcutC (a := Code.seq (Code.region _ _ _) (Code.cond _ _ _)) [3, 6, 7, 8, 9, 10] [3] (LbJ r H1) rfl (by repeat' first | exact Resp.retD | exact Resp1.valuesK | refine Resp.blockD ?_ | refine Resp.thenD ?_ ?_ | refine Resp.hcode ?_) ?_ ?_ | ((first | refine HReg.step ?_ | refine HCode.step ?_); first | refine hcutC (a := Code.seq (Code.region _ _ _) (Code.cond _ _ _)) [3, 6, 7, 8, 9, 10] [3] (LbJ r H1) rfl (by repeat' first | exact Resp.retD | exact Resp1.valuesK | refine Resp.blockD ?_ | refine Resp.thenD ?_ ?_ | refine Resp.hcode ?_) ?_ ?_ | ((first | refine HReg.step ?_ | refine HCode.step ?_); first | refine hcutC (a := Code.seq (Code.region _ _ _) (Code.cond _ _ _)) [3, 6, 7, 8, 9, 10] [3] (LbJ r H1) rfl (by repeat' first | exact Resp.retD | exact Resp1.valuesK | refine Resp.blockD ?_ | refine Resp.thenD ?_ ?_ | refine Resp.hcode ?_) ?_ ?_ | ((first | refine HReg.step ?_ | refine HCode.step ?_); first | refine hcutC (a := Code.seq (Code.region _ _ _) (Code.cond _ _ _)) [3, 6, 7, 8, 9, 10] [3] (LbJ r H1) rfl (by repeat' first | exact Resp.retD | exact Resp1.valuesK | refine Resp.blockD ?_ | refine Resp.thenD ?_ ?_ | refine Resp.hcode ?_) ?_ ?_ | ((first | refine HReg.step ?_ | refine HCode.step ?_); first | refine hcutC (a := Code.seq (Code.region _ _ _) (Code.cond _ _ _)) [3, 6, 7, 8, 9, 10] [3] (LbJ r H1) rfl (by repeat' first | exact Resp.retD | exact Resp1.valuesK | refine Resp.blockD ?_ | refine Resp.thenD ?_ ?_ | refine Resp.hcode ?_) ?_ ?_ | ((first | refine HReg.step ?_ | refine HCode.step ?_); first | refine hcutC (a := Code.seq (Code.region _ _ _) (Code.cond _ _ _)) [3, 6, 7, 8, 9, 10] [3] (LbJ r H1) rfl (by repeat' first | exact Resp.retD | exact Resp1.valuesK | refine Resp.blockD ?_ | refine Resp.thenD ?_ ?_ | refine Resp.hcode ?_) ?_ ?_ | ((first | refine HReg.step ?_ | refine HCode.step ?_); first | refine hcutC (a := Code.seq (Code.region _ _ _) (Code.cond _ _ _)) [3, 6, 7, 8, 9, 10] [3] (LbJ r H1) rfl (by repeat' first | exact Resp.retD | exact Resp1.valuesK | refine Resp.blockD ?_ | refine Resp.thenD ?_ ?_ | refine Resp.hcode ?_) ?_ ?_ | ((first | refine HReg.step ?_ | refine HCode.step ?_); first | refine hcutC (a := Code.seq (Code.region _ _ _) (Code.cond _ _ _)) [3, 6, 7, 8, 9, 10] [3] (LbJ r H1) rfl (by repeat' first | exact Resp.retD | exact Resp1.valuesK | refine Resp.blockD ?_ | refine Resp.thenD ?_ ?_ | refine Resp.hcode ?_) ?_ ?_ | ((first | refine HReg.step ?_ | refine HCode.step ?_); first | refine hcutC (a := Code.seq (Code.region _ _ _) (Code.cond _ _ _)) [3, 6, 7, 8, 9, 10] [3] (LbJ r H1) rfl (by repeat' first | exact Resp.retD | exact Resp1.valuesK | refine Resp.blockD ?_ | refine Resp.thenD ?_ ?_ | refine Resp.hcode ?_) ?_ ?_ | ((first | refine HReg.step ?_ | refine HCode.step ?_); first | refine hcutC (a := Code.seq (Code.region _ _ _) (Code.cond _ _ _)) [3, 6, 7, 8, 9, 10] [3] (LbJ r H1) rfl (by repeat' first | exact Resp.retD | exact Resp1.valuesK | refine Resp.blockD ?_ | refine Resp.thenD ?_ ?_ | refine Resp.hcode ?_) ?_ ?_ | ((first | refine HReg.step ?_ | refine HCode.step ?_); first | refine hcutC (a := Code.seq (Code.region _ _ _) (Code.cond _ _ _)) [3, 6, 7, 8, 9, 10] [3] (LbJ r H1) rfl (by repeat' first | exact Resp.retD | exact Resp1.valuesK | refine Resp.blockD ?_ | refine Resp.thenD ?_ ?_ | refine Resp.hcode ?_) ?_ ?_ | ((first | refine HReg.step ?_ | refine HCode.step ?_); first | refine hcutC (a := Code.seq (Code.region _ _ _) (Code.cond _ _ _)) [3, 6, 7, 8, 9, 10] [3] (LbJ r H1) rfl (by repeat' first | exact Resp.retD | exact Resp1.valuesK | refine Resp.blockD ?_ | refine Resp.thenD ?_ ?_ | refine Resp.hcode ?_) ?_ ?_ | ((first | refine HReg.step ?_ | refine HCode.step ?_); first | refine hcutC (a := Code.seq (Code.region _ _ _) (Code.cond _ _ _)) [3, 6, 7, 8, 9, 10] [3] (LbJ r H1) rfl (by repeat' first | exact Resp.retD | exact Resp1.valuesK | refine Resp.blockD ?_ | refine Resp.thenD ?_ ?_ | refine Resp.hcode ?_) ?_ ?_ | ((first | refine HReg.step ?_ | refine HCode.step ?_); first | refine hcutC (a := Code.seq (Code.region _ _ _) (Code.cond _ _ _)) [3, 6, 7, 8, 9, 10] [3] (LbJ r H1) rfl (by repeat' first | exact Resp.retD | exact Resp1.valuesK | refine Resp.blockD ?_ | refine Resp.thenD ?_ ?_ | refine Resp.hcode ?_) ?_ ?_ | ((first | refine HReg.step ?_ | refine HCode.step ?_); first | refine hcutC (a := Code.seq (Code.region _ _ _) (Code.cond _ _ _)) [3, 6, 7, 8, 9, 10] [3] (LbJ r H1) rfl (by repeat' first | exact Resp.retD | exact Resp1.valuesK | refine Resp.blockD ?_ | refine Resp.thenD ?_ ?_ | refine Resp.hcode ?_) ?_ ?_ | ((first | refine HReg.step ?_ | refine HCode.step ?_); first | refine hcutC (a := Code.seq (Code.region _ _ _) (Code.cond _ _ _)) [3, 6, 7, 8, 9, 10] [3] (LbJ r H1) rfl (by repeat' first | exact Resp.retD | exact Resp1.valuesK | refine Resp.blockD ?_ | refine Resp.thenD ?_ ?_ | refine Resp.hcode ?_) ?_ ?_ | ((first | refine HReg.step ?_ | refine HCode.step ?_); first | refine hcutC (a := Code.seq (Code.region _ _ _) (Code.cond _ _ _)) [3, 6, 7, 8, 9, 10] [3] (LbJ r H1) rfl (by repeat' first | exact Resp.retD | exact Resp1.valuesK | refine Resp.blockD ?_ | refine Resp.thenD ?_ ?_ | refine Resp.hcode ?_) ?_ ?_ | ((first | refine HReg.step ?_ | refine HCode.step ?_); first | refine hcutC (a := Code.seq (Code.region _ _ _) (Code.cond _ _ _)) [3, 6, 7, 8, 9, 10] [3] (LbJ r H1) rfl (by repeat' first | exact Resp.retD | exact Resp1.valuesK | refine Resp.blockD ?_ | refine Resp.thenD ?_ ?_ | refine Resp.hcode ?_) ?_ ?_ | ((first | refine HReg.step ?_ | refine HCode.step ?_); first | refine hcutC (a := Code.seq (Code.region _ _ _) (Code.cond _ _ _)) [3, 6, 7, 8, 9, 10] [3] (LbJ r H1) rfl (by repeat' first | exact Resp.retD | exact Resp1.valuesK | refine Resp.blockD ?_ | refine Resp.thenD ?_ ?_ | refine Resp.hcode ?_) ?_ ?_ | ((first | refine HReg.step ?_ | refine HCode.step ?_); first | refine hcutC (a := Code.seq (Code.region _ _ _) (Code.cond _ _ _)) [3, 6, 7, 8, 9, 10] [3] (LbJ r H1) rfl (by repeat' first | exact Resp.retD | exact Resp1.valuesK | refine Resp.blockD ?_ | refine Resp.thenD ?_ ?_ | refine Resp.hcode ?_) ?_ ?_ | ((first | refine HReg.step ?_ | refine HCode.step ?_); first | refine hcutC (a := Code.seq (Code.region _ _ _) (Code.cond _ _ _)) [3, 6, 7, 8, 9, 10] [3] (LbJ r H1) rfl (by repeat' first | exact Resp.retD | exact Resp1.valuesK | refine Resp.blockD ?_ | refine Resp.thenD ?_ ?_ | refine Resp.hcode ?_) ?_ ?_ | ((first | refine HReg.step ?_ | refine HCode.step ?_); first | refine hcutC (a := Code.seq (Code.region _ _ _) (Code.cond _ _ _)) [3, 6, 7, 8, 9, 10] [3] (LbJ r H1) rfl (by repeat' first | exact Resp.retD | exact Resp1.valuesK | refine Resp.blockD ?_ | refine Resp.thenD ?_ ?_ | refine Resp.hcode ?_) ?_ ?_ | ((first | refine HReg.step ?_ | refine HCode.step ?_); first | refine hcutC (a := Code.seq (Code.region _ _ _) (Code.cond _ _ _)) [3, 6, 7, 8, 9, 10] [3] (LbJ r H1) rfl (by repeat' first | exact Resp.retD | exact Resp1.valuesK | refine Resp.blockD ?_ | refine Resp.thenD ?_ ?_ | refine Resp.hcode ?_) ?_ ?_ | ((first | refine HReg.step ?_ | refine HCode.step ?_); first | refine hcutC (a := Code.seq (Code.region _ _ _) (Code.cond _ _ _)) [3, 6, 7, 8, 9, 10] [3] (LbJ r H1) rfl (by repeat' first | exact Resp.retD | exact Resp1.valuesK | refine Resp.blockD ?_ | refine Resp.thenD ?_ ?_ | refine Resp.hcode ?_) ?_ ?_ | ((first | refine HReg.step ?_ | refine HCode.step ?_); first | refine hcutC (a := Code.seq (Code.region _ _ _) (Code.cond _ _ _)) [3, 6, 7, 8, 9, 10] [3] (LbJ r H1) rfl (by repeat' first | exact Resp.retD | exact Resp1.valuesK | refine Resp.blockD ?_ | refine Resp.thenD ?_ ?_ | refine Resp.hcode ?_) ?_ ?_ | ((first | refine HReg.step ?_ | refine HCode.step ?_); first | refine hcutC (a := Code.seq (Code.region _ _ _) (Code.cond _ _ _)) [3, 6, 7, 8, 9, 10] [3] (LbJ r H1) rfl (by repeat' first | exact Resp.retD | exact Resp1.valuesK | refine Resp.blockD ?_ | refine Resp.thenD ?_ ?_ | refine Resp.hcode ?_) ?_ ?_ | ((first | refine HReg.step ?_ | refine HCode.step ?_); first | refine hcutC (a := Code.seq (Code.region _ _ _) (Code.cond _ _ _)) [3, 6, 7, 8, 9, 10] [3] (LbJ r H1) rfl (by repeat' first | exact Resp.retD | exact Resp1.valuesK | refine Resp.blockD ?_ | refine Resp.thenD ?_ ?_ | refine Resp.hcode ?_) ?_ ?_ | ((first | refine HReg.step ?_ | refine HCode.step ?_); first | refine hcutC (a := Code.seq (Code.region _ _ _) (Code.cond _ _ _)) [3, 6, 7, 8, 9, 10] [3] (LbJ r H1) rfl (by repeat' first | exact Resp.retD | exact Resp1.valuesK | refine Resp.blockD ?_ | refine Resp.thenD ?_ ?_ | refine Resp.hcode ?_) ?_ ?_ | ((first | refine HReg.step ?_ | refine HCode.step ?_); first | refine hcutC (a := Code.seq (Code.region _ _ _) (Code.cond _ _ _)) [3, 6, 7, 8, 9, 10] [3] (LbJ r H1) rfl (by repeat' first | exact Resp.retD | exact Resp1.valuesK | refine Resp.blockD ?_ | refine Resp.thenD ?_ ?_ | refine Resp.hcode ?_) ?_ ?_ | ((first | refine HReg.step ?_ | refine HCode.step ?_); first | refine hcutC (a := Code.seq (Code.region _ _ _) (Code.cond _ _ _)) [3, 6, 7, 8, 9, 10] [3] (LbJ r H1) rfl (by repeat' first | exact Resp.retD | exact Resp1.valuesK | refine Resp.blockD ?_ | refine Resp.thenD ?_ ?_ | refine Resp.hcode ?_) ?_ ?_ | ((first | refine HReg.step ?_ | refine HCode.step ?_); first | refine hcutC (a := Code.seq (Code.region _ _ _) (Code.cond _ _ _)) [3, 6, 7, 8, 9, 10] [3] (LbJ r H1) rfl (by repeat' first | exact Resp.retD | exact Resp1.valuesK | refine Resp.blockD ?_ | refine Resp.thenD ?_ ?_ | refine Resp.hcode ?_) ?_ ?_ | ((first | refine HReg.step ?_ | refine HCode.step ?_); first | refine hcutC (a := Code.seq (Code.region _ _ _) (Code.cond _ _ _)) [3, 6, 7, 8, 9, 10] [3] (LbJ r H1) rfl (by repeat' first | exact Resp.retD | exact Resp1.valuesK | refine Resp.blockD ?_ | refine Resp.thenD ?_ ?_ | refine Resp.hcode ?_) ?_ ?_ | ((first | refine HReg.step ?_ | refine HCode.step ?_); first | refine hcutC (a := Code.seq (Code.region _ _ _) (Code.cond _ _ _)) [3, 6, 7, 8, 9, 10] [3] (LbJ r H1) rfl (by repeat' first | exact Resp.retD | exact Resp1.valuesK | refine Resp.blockD ?_ | refine Resp.thenD ?_ ?_ | refine Resp.hcode ?_) ?_ ?_ | ((first | refine HReg.step ?_ | refine HCode.step ?_); first | refine hcutC (a := Code.seq (Code.region _ _ _) (Code.cond _ _ _)) [3, 6, 7, 8, 9, 10] [3] (LbJ r H1) rfl (by repeat' first | exact Resp.retD | exact Resp1.valuesK | refine Resp.blockD ?_ | refine Resp.thenD ?_ ?_ | refine Resp.hcode ?_) ?_ ?_ | ((first | refine HReg.step ?_ | refine HCode.step ?_); first | refine hcutC (a := Code.seq (Code.region _ _ _) (Code.cond _ _ _)) [3, 6, 7, 8, 9, 10] [3] (LbJ r H1) rfl (by repeat' first | exact Resp.retD | exact Resp1.valuesK | refine Resp.blockD ?_ | refine Resp.thenD ?_ ?_ | refine Resp.hcode ?_) ?_ ?_ | ((first | refine HReg.step ?_ | refine HCode.step ?_); first | refine hcutC (a := Code.seq (Code.region _ _ _) (Code.cond _ _ _)) [3, 6, 7, 8, 9, 10] [3] (LbJ r H1) rfl (by repeat' first | exact Resp.retD | exact Resp1.valuesK | refine Resp.blockD ?_ | refine Resp.thenD ?_ ?_ | refine Resp.hcode ?_) ?_ ?_ | ((first | refine HReg.step ?_ | refine HCode.step ?_); first | refine hcutC (a := Code.seq (Code.region _ _ _) (Code.cond _ _ _)) [3, 6, 7, 8, 9, 10] [3] (LbJ r H1) rfl (by repeat' first | exact Resp.retD | exact Resp1.valuesK | refine Resp.blockD ?_ | refine Resp.thenD ?_ ?_ | refine Resp.hcode ?_) ?_ ?_ | ((first | refine HReg.step ?_ | refine HCode.step ?_); first | refine hcutC (a := Code.seq (Code.region _ _ _) (Code.cond _ _ _)) [3, 6, 7, 8, 9, 10] [3] (LbJ r H1) rfl (by repeat' first | exact Resp.retD | exact Resp1.valuesK | refine Resp.blockD ?_ | refine Resp.thenD ?_ ?_ | refine Resp.hcode ?_) ?_ ?_ | ((first | refine HReg.step ?_ | refine HCode.step ?_); first | refine hcutC (a := Code.seq (Code.region _ _ _) (Code.cond _ _ _)) [3, 6, 7, 8, 9, 10] [3] (LbJ r H1) rfl (by repeat' first | exact Resp.retD | exact Resp1.valuesK | refine Resp.blockD ?_ | refine Resp.thenD ?_ ?_ | refine Resp.hcode ?_) ?_ ?_ | ((first | refine HReg.step ?_ | refine HCode.step ?_); first | refine hcutC (a := Code.seq (Code.region _ _ _) (Code.cond _ _ _)) [3, 6, 7, 8, 9, 10] [3] (LbJ r H1) rfl (by repeat' first | exact Resp.retD | exact Resp1.valuesK | refine Resp.blockD ?_ | refine Resp.thenD ?_ ?_ | refine Resp.hcode ?_) ?_ ?_ | ((first | refine HReg.step ?_ | refine HCode.step ?_); first | refine hcutC (a := Code.seq (Code.region _ _ _) (Code.cond _ _ _)) [3, 6, 7, 8, 9, 10] [3] (LbJ r H1) rfl (by repeat' first | exact Resp.retD | exact Resp1.valuesK | refine Resp.blockD ?_ | refine Resp.thenD ?_ ?_ | refine Resp.hcode ?_) ?_ ?_ | ((first | refine HReg.step ?_ | refine HCode.step ?_); first | refine hcutC (a := Code.seq (Code.region _ _ _) (Code.cond _ _ _)) [3, 6, 7, 8, 9, 10] [3] (LbJ r H1) rfl (by repeat' first | exact Resp.retD | exact Resp1.valuesK | refine Resp.blockD ?_ | refine Resp.thenD ?_ ?_ | refine Resp.hcode ?_) ?_ ?_ | ((first | refine HReg.step ?_ | refine HCode.step ?_); first | refine hcutC (a := Code.seq (Code.region _ _ _) (Code.cond _ _ _)) [3, 6, 7, 8, 9, 10] [3] (LbJ r H1) rfl (by repeat' first | exact Resp.retD | exact Resp1.valuesK | refine Resp.blockD ?_ | refine Resp.thenD ?_ ?_ | refine Resp.hcode ?_) ?_ ?_ | ((first | refine HReg.step ?_ | refine HCode.step ?_); first | refine hcutC (a := Code.seq (Code.region _ _ _) (Code.cond _ _ _)) [3, 6, 7, 8, 9, 10] [3] (LbJ r H1) rfl (by repeat' first | exact Resp.retD | exact Resp1.valuesK | refine Resp.blockD ?_ | refine Resp.thenD ?_ ?_ | refine Resp.hcode ?_) ?_ ?_ | ((first | refine HReg.step ?_ | refine HCode.step ?_); first | refine hcutC (a := Code.seq (Code.region _ _ _) (Code.cond _ _ _)) [3, 6, 7, 8, 9, 10] [3] (LbJ r H1) rfl (by repeat' first | exact Resp.retD | exact Resp1.valuesK | refine Resp.blockD ?_ | refine Resp.thenD ?_ ?_ | refine Resp.hcode ?_) ?_ ?_ | ((first | refine HReg.step ?_ | refine HCode.step ?_); first | refine hcutC (a := Code.seq (Code.region _ _ _) (Code.cond _ _ _)) [3, 6, 7, 8, 9, 10] [3] (LbJ r H1) rfl (by repeat' first | exact Resp.retD | exact Resp1.valuesK | refine Resp.blockD ?_ | refine Resp.thenD ?_ ?_ | refine Resp.hcode ?_) ?_ ?_ | ((first | refine HReg.step ?_ | refine HCode.step ?_); first | refine hcutC (a := Code.seq (Code.region _ _ _) (Code.cond _ _ _)) [3, 6, 7, 8, 9, 10] [3] (LbJ r H1) rfl (by repeat' first | exact Resp.retD | exact Resp1.valuesK | refine Resp.blockD ?_ | refine Resp.thenD ?_ ?_ | refine Resp.hcode ?_) ?_ ?_ | ((first | refine HReg.step ?_ | refine HCode.step ?_); first | refine hcutC (a := Code.seq (Code.region _ _ _) (Code.cond _ _ _)) [3, 6, 7, 8, 9, 10] [3] (LbJ r H1) rfl (by repeat' first | exact Resp.retD | exact Resp1.valuesK | refine Resp.blockD ?_ | refine Resp.thenD ?_ ?_ | refine Resp.hcode ?_) ?_ ?_ | ((first | refine HReg.step ?_ | refine HCode.step ?_); first | refine hcutC (a := Code.seq (Code.region _ _ _) (Code.cond _ _ _)) [3, 6, 7, 8, 9, 10] [3] (LbJ r H1) rfl (by repeat' first | exact Resp.retD | exact Resp1.valuesK | refine Resp.blockD ?_ | refine Resp.thenD ?_ ?_ | refine Resp.hcode ?_) ?_ ?_ | ((first | refine HReg.step ?_ | refine HCode.step ?_); refine hcutC (a := Code.seq (Code.region _ _ _) (Code.cond _ _ _)) [3, 6, 7, 8, 9, 10] [3] (LbJ r H1) rfl (by repeat' first | exact Resp.retD | exact Resp1.valuesK | refine Resp.blockD ?_ | refine Resp.thenD ?_ ?_ | refine Resp.hcode ?_) ?_ ?_))))))))))))))))))))))))))))))))))))))))))))))))))))))))))))
  · (repeat first | refine HReg.step ?_ | refine HCode.step ?_)
    refine HLoad.one (v := .int .i64 r.kind) (by exact o1.rows.get (i := 0) rfl) ?_
    (repeat first | refine HReg.step ?_ | refine HCode.step ?_)
    refine hif (fun h2 => ?_) (fun h2 => ?_)
    · have h2 := eqB_true.1 h2
      have w9 : wr .i64 (9 + 8) = ((17 : Nat) : Int) := by rw [wr_i64 (by omega) (by omega)]; rfl
      (repeat first | refine HReg.step ?_ | refine HCode.step ?_)
      rw [w9]
      exact LbJ.mk ⟨by unfold base; rw [if_pos h2], rfl⟩
    · have h2 := eqB_false.1 h2
      (repeat first | refine HReg.step ?_ | refine HCode.step ?_)
      exact LbJ.mk ⟨by unfold base; rw [if_neg h2]; rfl, rfl⟩
  rintro _ fe1 H2 ⟨rfl, rfl⟩
  first | refine hcutC (a := Code.seq (Code.region _ _ _) (Code.block _ _)) [3, 4, 11, 12, 13, 14, 15, 16, 17, 18, 19, 20, 21, 22, 23, 24, 25, 26, 27, 28, 29, 30, 31, 32, 33, 34, 35] [3] (LpJ r H2) rfl (by repeat' first | exact Resp.retD | exact Resp1.valuesK | refine Resp.blockD ?_ | refine Resp.thenD ?_ ?_ | refine Resp.hcode ?_) ?_ ?_ | ((first | refine HReg.step ?_ | refine HCode.step ?_); first | refine hcutC (a := Code.seq (Code.region _ _ _) (Code.block _ _)) [3, 4, 11, 12, 13, 14, 15, 16, 17, 18, 19, 20, 21, 22, 23, 24, 25, 26, 27, 28, 29, 30, 31, 32, 33, 34, 35] [3] (LpJ r H2) rfl (by repeat' first | exact Resp.retD | exact Resp1.valuesK | refine Resp.blockD ?_ | refine Resp.thenD ?_ ?_ | refine Resp.hcode ?_) ?_ ?_ | ((first | refine HReg.step ?_ | refine HCode.step ?_); first | refine hcutC (a := Code.seq (Code.region _ _ _) (Code.block _ _)) [3, 4, 11, 12, 13, 14, 15, 16, 17, 18, 19, 20, 21, 22, 23, 24, 25, 26, 27, 28, 29, 30, 31, 32, 33, 34, 35] [3] (LpJ r H2) rfl (by repeat' first | exact Resp.retD | exact Resp1.valuesK | refine Resp.blockD ?_ | refine Resp.thenD ?_ ?_ | refine Resp.hcode ?_) ?_ ?_ | ((first | refine HReg.step ?_ | refine HCode.step ?_); first | refine hcutC (a := Code.seq (Code.region _ _ _) (Code.block _ _)) [3, 4, 11, 12, 13, 14, 15, 16, 17, 18, 19, 20, 21, 22, 23, 24, 25, 26, 27, 28, 29, 30, 31, 32, 33, 34, 35] [3] (LpJ r H2) rfl (by repeat' first | exact Resp.retD | exact Resp1.valuesK | refine Resp.blockD ?_ | refine Resp.thenD ?_ ?_ | refine Resp.hcode ?_) ?_ ?_ | ((first | refine HReg.step ?_ | refine HCode.step ?_); first | refine hcutC (a := Code.seq (Code.region _ _ _) (Code.block _ _)) [3, 4, 11, 12, 13, 14, 15, 16, 17, 18, 19, 20, 21, 22, 23, 24, 25, 26, 27, 28, 29, 30, 31, 32, 33, 34, 35] [3] (LpJ r H2) rfl (by repeat' first | exact Resp.retD | exact Resp1.valuesK | refine Resp.blockD ?_ | refine Resp.thenD ?_ ?_ | refine Resp.hcode ?_) ?_ ?_ | ((first | refine HReg.step ?_ | refine HCode.step ?_); first | refine hcutC (a := Code.seq (Code.region _ _ _) (Code.block _ _)) [3, 4, 11, 12, 13, 14, 15, 16, 17, 18, 19, 20, 21, 22, 23, 24, 25, 26, 27, 28, 29, 30, 31, 32, 33, 34, 35] [3] (LpJ r H2) rfl (by repeat' first | exact Resp.retD | exact Resp1.valuesK | refine Resp.blockD ?_ | refine Resp.thenD ?_ ?_ | refine Resp.hcode ?_) ?_ ?_ | ((first | refine HReg.step ?_ | refine HCode.step ?_); first | refine hcutC (a := Code.seq (Code.region _ _ _) (Code.block _ _)) [3, 4, 11, 12, 13, 14, 15, 16, 17, 18, 19, 20, 21, 22, 23, 24, 25, 26, 27, 28, 29, 30, 31, 32, 33, 34, 35] [3] (LpJ r H2) rfl (by repeat' first | exact Resp.retD | exact Resp1.valuesK | refine Resp.blockD ?_ | refine Resp.thenD ?_ ?_ | refine Resp.hcode ?_) ?_ ?_ | ((first | refine HReg.step ?_ | refine HCode.step ?_); first | refine hcutC (a := Code.seq (Code.region _ _ _) (Code.block _ _)) [3, 4, 11, 12, 13, 14, 15, 16, 17, 18, 19, 20, 21, 22, 23, 24, 25, 26, 27, 28, 29, 30, 31, 32, 33, 34, 35] [3] (LpJ r H2) rfl (by repeat' first | exact Resp.retD | exact Resp1.valuesK | refine Resp.blockD ?_ | refine Resp.thenD ?_ ?_ | refine Resp.hcode ?_) ?_ ?_ | ((first | refine HReg.step ?_ | refine HCode.step ?_); first | refine hcutC (a := Code.seq (Code.region _ _ _) (Code.block _ _)) [3, 4, 11, 12, 13, 14, 15, 16, 17, 18, 19, 20, 21, 22, 23, 24, 25, 26, 27, 28, 29, 30, 31, 32, 33, 34, 35] [3] (LpJ r H2) rfl (by repeat' first | exact Resp.retD | exact Resp1.valuesK | refine Resp.blockD ?_ | refine Resp.thenD ?_ ?_ | refine Resp.hcode ?_) ?_ ?_ | ((first | refine HReg.step ?_ | refine HCode.step ?_); first | refine hcutC (a := Code.seq (Code.region _ _ _) (Code.block _ _)) [3, 4, 11, 12, 13, 14, 15, 16, 17, 18, 19, 20, 21, 22, 23, 24, 25, 26, 27, 28, 29, 30, 31, 32, 33, 34, 35] [3] (LpJ r H2) rfl (by repeat' first | exact Resp.retD | exact Resp1.valuesK | refine Resp.blockD ?_ | refine Resp.thenD ?_ ?_ | refine Resp.hcode ?_) ?_ ?_ | ((first | refine HReg.step ?_ | refine HCode.step ?_); first | refine hcutC (a := Code.seq (Code.region _ _ _) (Code.block _ _)) [3, 4, 11, 12, 13, 14, 15, 16, 17, 18, 19, 20, 21, 22, 23, 24, 25, 26, 27, 28, 29, 30, 31, 32, 33, 34, 35] [3] (LpJ r H2) rfl (by repeat' first | exact Resp.retD | exact Resp1.valuesK | refine Resp.blockD ?_ | refine Resp.thenD ?_ ?_ | refine Resp.hcode ?_) ?_ ?_ | ((first | refine HReg.step ?_ | refine HCode.step ?_); first | refine hcutC (a := Code.seq (Code.region _ _ _) (Code.block _ _)) [3, 4, 11, 12, 13, 14, 15, 16, 17, 18, 19, 20, 21, 22, 23, 24, 25, 26, 27, 28, 29, 30, 31, 32, 33, 34, 35] [3] (LpJ r H2) rfl (by repeat' first | exact Resp.retD | exact Resp1.valuesK | refine Resp.blockD ?_ | refine Resp.thenD ?_ ?_ | refine Resp.hcode ?_) ?_ ?_ | ((first | refine HReg.step ?_ | refine HCode.step ?_); first | refine hcutC (a := Code.seq (Code.region _ _ _) (Code.block _ _)) [3, 4, 11, 12, 13, 14, 15, 16, 17, 18, 19, 20, 21, 22, 23, 24, 25, 26, 27, 28, 29, 30, 31, 32, 33, 34, 35] [3] (LpJ r H2) rfl (by repeat' first | exact Resp.retD | exact Resp1.valuesK | refine Resp.blockD ?_ | refine Resp.thenD ?_ ?_ | refine Resp.hcode ?_) ?_ ?_ | ((first | refine HReg.step ?_ | refine HCode.step ?_); first | refine hcutC (a := Code.seq (Code.region _ _ _) (Code.block _ _)) [3, 4, 11, 12, 13, 14, 15, 16, 17, 18, 19, 20, 21, 22, 23, 24, 25, 26, 27, 28, 29, 30, 31, 32, 33, 34, 35] [3] (LpJ r H2) rfl (by repeat' first | exact Resp.retD | exact Resp1.valuesK | refine Resp.blockD ?_ | refine Resp.thenD ?_ ?_ | refine Resp.hcode ?_) ?_ ?_ | ((first | refine HReg.step ?_ | refine HCode.step ?_); first | refine hcutC (a := Code.seq (Code.region _ _ _) (Code.block _ _)) [3, 4, 11, 12, 13, 14, 15, 16, 17, 18, 19, 20, 21, 22, 23, 24, 25, 26, 27, 28, 29, 30, 31, 32, 33, 34, 35] [3] (LpJ r H2) rfl (by repeat' first | exact Resp.retD | exact Resp1.valuesK | refine Resp.blockD ?_ | refine Resp.thenD ?_ ?_ | refine Resp.hcode ?_) ?_ ?_ | ((first | refine HReg.step ?_ | refine HCode.step ?_); first | refine hcutC (a := Code.seq (Code.region _ _ _) (Code.block _ _)) [3, 4, 11, 12, 13, 14, 15, 16, 17, 18, 19, 20, 21, 22, 23, 24, 25, 26, 27, 28, 29, 30, 31, 32, 33, 34, 35] [3] (LpJ r H2) rfl (by repeat' first | exact Resp.retD | exact Resp1.valuesK | refine Resp.blockD ?_ | refine Resp.thenD ?_ ?_ | refine Resp.hcode ?_) ?_ ?_ | ((first | refine HReg.step ?_ | refine HCode.step ?_); first | refine hcutC (a := Code.seq (Code.region _ _ _) (Code.block _ _)) [3, 4, 11, 12, 13, 14, 15, 16, 17, 18, 19, 20, 21, 22, 23, 24, 25, 26, 27, 28, 29, 30, 31, 32, 33, 34, 35] [3] (LpJ r H2) rfl (by repeat' first | exact Resp.retD | exact Resp1.valuesK | refine Resp.blockD ?_ | refine Resp.thenD ?_ ?_ | refine Resp.hcode ?_) ?_ ?_ | ((first | refine HReg.step ?_ | refine HCode.step ?_); first | refine hcutC (a := Code.seq (Code.region _ _ _) (Code.block _ _)) [3, 4, 11, 12, 13, 14, 15, 16, 17, 18, 19, 20, 21, 22, 23, 24, 25, 26, 27, 28, 29, 30, 31, 32, 33, 34, 35] [3] (LpJ r H2) rfl (by repeat' first | exact Resp.retD | exact Resp1.valuesK | refine Resp.blockD ?_ | refine Resp.thenD ?_ ?_ | refine Resp.hcode ?_) ?_ ?_ | ((first | refine HReg.step ?_ | refine HCode.step ?_); first | refine hcutC (a := Code.seq (Code.region _ _ _) (Code.block _ _)) [3, 4, 11, 12, 13, 14, 15, 16, 17, 18, 19, 20, 21, 22, 23, 24, 25, 26, 27, 28, 29, 30, 31, 32, 33, 34, 35] [3] (LpJ r H2) rfl (by repeat' first | exact Resp.retD | exact Resp1.valuesK | refine Resp.blockD ?_ | refine Resp.thenD ?_ ?_ | refine Resp.hcode ?_) ?_ ?_ | ((first | refine HReg.step ?_ | refine HCode.step ?_); first | refine hcutC (a := Code.seq (Code.region _ _ _) (Code.block _ _)) [3, 4, 11, 12, 13, 14, 15, 16, 17, 18, 19, 20, 21, 22, 23, 24, 25, 26, 27, 28, 29, 30, 31, 32, 33, 34, 35] [3] (LpJ r H2) rfl (by repeat' first | exact Resp.retD | exact Resp1.valuesK | refine Resp.blockD ?_ | refine Resp.thenD ?_ ?_ | refine Resp.hcode ?_) ?_ ?_ | ((first | refine HReg.step ?_ | refine HCode.step ?_); first | refine hcutC (a := Code.seq (Code.region _ _ _) (Code.block _ _)) [3, 4, 11, 12, 13, 14, 15, 16, 17, 18, 19, 20, 21, 22, 23, 24, 25, 26, 27, 28, 29, 30, 31, 32, 33, 34, 35] [3] (LpJ r H2) rfl (by repeat' first | exact Resp.retD | exact Resp1.valuesK | refine Resp.blockD ?_ | refine Resp.thenD ?_ ?_ | refine Resp.hcode ?_) ?_ ?_ | ((first | refine HReg.step ?_ | refine HCode.step ?_); first | refine hcutC (a := Code.seq (Code.region _ _ _) (Code.block _ _)) [3, 4, 11, 12, 13, 14, 15, 16, 17, 18, 19, 20, 21, 22, 23, 24, 25, 26, 27, 28, 29, 30, 31, 32, 33, 34, 35] [3] (LpJ r H2) rfl (by repeat' first | exact Resp.retD | exact Resp1.valuesK | refine Resp.blockD ?_ | refine Resp.thenD ?_ ?_ | refine Resp.hcode ?_) ?_ ?_ | ((first | refine HReg.step ?_ | refine HCode.step ?_); first | refine hcutC (a := Code.seq (Code.region _ _ _) (Code.block _ _)) [3, 4, 11, 12, 13, 14, 15, 16, 17, 18, 19, 20, 21, 22, 23, 24, 25, 26, 27, 28, 29, 30, 31, 32, 33, 34, 35] [3] (LpJ r H2) rfl (by repeat' first | exact Resp.retD | exact Resp1.valuesK | refine Resp.blockD ?_ | refine Resp.thenD ?_ ?_ | refine Resp.hcode ?_) ?_ ?_ | ((first | refine HReg.step ?_ | refine HCode.step ?_); first | refine hcutC (a := Code.seq (Code.region _ _ _) (Code.block _ _)) [3, 4, 11, 12, 13, 14, 15, 16, 17, 18, 19, 20, 21, 22, 23, 24, 25, 26, 27, 28, 29, 30, 31, 32, 33, 34, 35] [3] (LpJ r H2) rfl (by repeat' first | exact Resp.retD | exact Resp1.valuesK | refine Resp.blockD ?_ | refine Resp.thenD ?_ ?_ | refine Resp.hcode ?_) ?_ ?_ | ((first | refine HReg.step ?_ | refine HCode.step ?_); first | refine hcutC (a := Code.seq (Code.region _ _ _) (Code.block _ _)) [3, 4, 11, 12, 13, 14, 15, 16, 17, 18, 19, 20, 21, 22, 23, 24, 25, 26, 27, 28, 29, 30, 31, 32, 33, 34, 35] [3] (LpJ r H2) rfl (by repeat' first | exact Resp.retD | exact Resp1.valuesK | refine Resp.blockD ?_ | refine Resp.thenD ?_ ?_ | refine Resp.hcode ?_) ?_ ?_ | ((first | refine HReg.step ?_ | refine HCode.step ?_); first | refine hcutC (a := Code.seq (Code.region _ _ _) (Code.block _ _)) [3, 4, 11, 12, 13, 14, 15, 16, 17, 18, 19, 20, 21, 22, 23, 24, 25, 26, 27, 28, 29, 30, 31, 32, 33, 34, 35] [3] (LpJ r H2) rfl (by repeat' first | exact Resp.retD | exact Resp1.valuesK | refine Resp.blockD ?_ | refine Resp.thenD ?_ ?_ | refine Resp.hcode ?_) ?_ ?_ | ((first | refine HReg.step ?_ | refine HCode.step ?_); first | refine hcutC (a := Code.seq (Code.region _ _ _) (Code.block _ _)) [3, 4, 11, 12, 13, 14, 15, 16, 17, 18, 19, 20, 21, 22, 23, 24, 25, 26, 27, 28, 29, 30, 31, 32, 33, 34, 35] [3] (LpJ r H2) rfl (by repeat' first | exact Resp.retD | exact Resp1.valuesK | refine Resp.blockD ?_ | refine Resp.thenD ?_ ?_ | refine Resp.hcode ?_) ?_ ?_ | ((first | refine HReg.step ?_ | refine HCode.step ?_); first | refine hcutC (a := Code.seq (Code.region _ _ _) (Code.block _ _)) [3, 4, 11, 12, 13, 14, 15, 16, 17, 18, 19, 20, 21, 22, 23, 24, 25, 26, 27, 28, 29, 30, 31, 32, 33, 34, 35] [3] (LpJ r H2) rfl (by repeat' first | exact Resp.retD | exact Resp1.valuesK | refine Resp.blockD ?_ | refine Resp.thenD ?_ ?_ | refine Resp.hcode ?_) ?_ ?_ | ((first | refine HReg.step ?_ | refine HCode.step ?_); first | refine hcutC (a := Code.seq (Code.region _ _ _) (Code.block _ _)) [3, 4, 11, 12, 13, 14, 15, 16, 17, 18, 19, 20, 21, 22, 23, 24, 25, 26, 27, 28, 29, 30, 31, 32, 33, 34, 35] [3] (LpJ r H2) rfl (by repeat' first | exact Resp.retD | exact Resp1.valuesK | refine Resp.blockD ?_ | refine Resp.thenD ?_ ?_ | refine Resp.hcode ?_) ?_ ?_ | ((first | refine HReg.step ?_ | refine HCode.step ?_); first | refine hcutC (a := Code.seq (Code.region _ _ _) (Code.block _ _)) [3, 4, 11, 12, 13, 14, 15, 16, 17, 18, 19, 20, 21, 22, 23, 24, 25, 26, 27, 28, 29, 30, 31, 32, 33, 34, 35] [3] (LpJ r H2) rfl (by repeat' first | exact Resp.retD | exact Resp1.valuesK | refine Resp.blockD ?_ | refine Resp.thenD ?_ ?_ | refine Resp.hcode ?_) ?_ ?_ | ((first | refine HReg.step ?_ | refine HCode.step ?_); first | refine hcutC (a := Code.seq (Code.region _ _ _) (Code.block _ _)) [3, 4, 11, 12, 13, 14, 15, 16, 17, 18, 19, 20, 21, 22, 23, 24, 25, 26, 27, 28, 29, 30, 31, 32, 33, 34, 35] [3] (LpJ r H2) rfl (by repeat' first | exact Resp.retD | exact Resp1.valuesK | refine Resp.blockD ?_ | refine Resp.thenD ?_ ?_ | refine Resp.hcode ?_) ?_ ?_ | ((first | refine HReg.step ?_ | refine HCode.step ?_); first | refine hcutC (a := Code.seq (Code.region _ _ _) (Code.block _ _)) [3, 4, 11, 12, 13, 14, 15, 16, 17, 18, 19, 20, 21, 22, 23, 24, 25, 26, 27, 28, 29, 30, 31, 32, 33, 34, 35] [3] (LpJ r H2) rfl (by repeat' first | exact Resp.retD | exact Resp1.valuesK | refine Resp.blockD ?_ | refine Resp.thenD ?_ ?_ | refine Resp.hcode ?_) ?_ ?_ | ((first | refine HReg.step ?_ | refine HCode.step ?_); first | refine hcutC (a := Code.seq (Code.region _ _ _) (Code.block _ _)) [3, 4, 11, 12, 13, 14, 15, 16, 17, 18, 19, 20, 21, 22, 23, 24, 25, 26, 27, 28, 29, 30, 31, 32, 33, 34, 35] [3] (LpJ r H2) rfl (by repeat' first | exact Resp.retD | exact Resp1.valuesK | refine Resp.blockD ?_ | refine Resp.thenD ?_ ?_ | refine Resp.hcode ?_) ?_ ?_ | ((first | refine HReg.step ?_ | refine HCode.step ?_); first | refine hcutC (a := Code.seq (Code.region _ _ _) (Code.block _ _)) [3, 4, 11, 12, 13, 14, 15, 16, 17, 18, 19, 20, 21, 22, 23, 24, 25, 26, 27, 28, 29, 30, 31, 32, 33, 34, 35] [3] (LpJ r H2) rfl (by repeat' first | exact Resp.retD | exact Resp1.valuesK | refine Resp.blockD ?_ | refine Resp.thenD ?_ ?_ | refine Resp.hcode ?_) ?_ ?_ | ((first | refine HReg.step ?_ | refine HCode.step ?_); first | refine hcutC (a := Code.seq (Code.region _ _ _) (Code.block _ _)) [3, 4, 11, 12, 13, 14, 15, 16, 17, 18, 19, 20, 21, 22, 23, 24, 25, 26, 27, 28, 29, 30, 31, 32, 33, 34, 35] [3] (LpJ r H2) rfl (by repeat' first | exact Resp.retD | exact Resp1.valuesK | refine Resp.blockD ?_ | refine Resp.thenD ?_ ?_ | refine Resp.hcode ?_) ?_ ?_ | ((first | refine HReg.step ?_ | refine HCode.step ?_); first | refine hcutC (a := Code.seq (Code.region _ _ _) (Code.block _ _)) [3, 4, 11, 12, 13, 14, 15, 16, 17, 18, 19, 20, 21, 22, 23, 24, 25, 26, 27, 28, 29, 30, 31, 32, 33, 34, 35] [3] (LpJ r H2) rfl (by repeat' first | exact Resp.retD | exact Resp1.valuesK | refine Resp.blockD ?_ | refine Resp.thenD ?_ ?_ | refine Resp.hcode ?_) ?_ ?_ | ((first | refine HReg.step ?_ | refine HCode.step ?_); first | refine hcutC (a := Code.seq (Code.region _ _ _) (Code.block _ _)) [3, 4, 11, 12, 13, 14, 15, 16, 17, 18, 19, 20, 21, 22, 23, 24, 25, 26, 27, 28, 29, 30, 31, 32, 33, 34, 35] [3] (LpJ r H2) rfl (by repeat' first | exact Resp.retD | exact Resp1.valuesK | refine Resp.blockD ?_ | refine Resp.thenD ?_ ?_ | refine Resp.hcode ?_) ?_ ?_ | ((first | refine HReg.step ?_ | refine HCode.step ?_); first | refine hcutC (a := Code.seq (Code.region _ _ _) (Code.block _ _)) [3, 4, 11, 12, 13, 14, 15, 16, 17, 18, 19, 20, 21, 22, 23, 24, 25, 26, 27, 28, 29, 30, 31, 32, 33, 34, 35] [3] (LpJ r H2) rfl (by repeat' first | exact Resp.retD | exact Resp1.valuesK | refine Resp.blockD ?_ | refine Resp.thenD ?_ ?_ | refine Resp.hcode ?_) ?_ ?_ | ((first | refine HReg.step ?_ | refine HCode.step ?_); first | refine hcutC (a := Code.seq (Code.region _ _ _) (Code.block _ _)) [3, 4, 11, 12, 13, 14, 15, 16, 17, 18, 19, 20, 21, 22, 23, 24, 25, 26, 27, 28, 29, 30, 31, 32, 33, 34, 35] [3] (LpJ r H2) rfl (by repeat' first | exact Resp.retD | exact Resp1.valuesK | refine Resp.blockD ?_ | refine Resp.thenD ?_ ?_ | refine Resp.hcode ?_) ?_ ?_ | ((first | refine HReg.step ?_ | refine HCode.step ?_); first | refine hcutC (a := Code.seq (Code.region _ _ _) (Code.block _ _)) [3, 4, 11, 12, 13, 14, 15, 16, 17, 18, 19, 20, 21, 22, 23, 24, 25, 26, 27, 28, 29, 30, 31, 32, 33, 34, 35] [3] (LpJ r H2) rfl (by repeat' first | exact Resp.retD | exact Resp1.valuesK | refine Resp.blockD ?_ | refine Resp.thenD ?_ ?_ | refine Resp.hcode ?_) ?_ ?_ | ((first | refine HReg.step ?_ | refine HCode.step ?_); first | refine hcutC (a := Code.seq (Code.region _ _ _) (Code.block _ _)) [3, 4, 11, 12, 13, 14, 15, 16, 17, 18, 19, 20, 21, 22, 23, 24, 25, 26, 27, 28, 29, 30, 31, 32, 33, 34, 35] [3] (LpJ r H2) rfl (by repeat' first | exact Resp.retD | exact Resp1.valuesK | refine Resp.blockD ?_ | refine Resp.thenD ?_ ?_ | refine Resp.hcode ?_) ?_ ?_ | ((first | refine HReg.step ?_ | refine HCode.step ?_); first | refine hcutC (a := Code.seq (Code.region _ _ _) (Code.block _ _)) [3, 4, 11, 12, 13, 14, 15, 16, 17, 18, 19, 20, 21, 22, 23, 24, 25, 26, 27, 28, 29, 30, 31, 32, 33, 34, 35] [3] (LpJ r H2) rfl (by repeat' first | exact Resp.retD | exact Resp1.valuesK | refine Resp.blockD ?_ | refine Resp.thenD ?_ ?_ | refine Resp.hcode ?_) ?_ ?_ | ((first | refine HReg.step ?_ | refine HCode.step ?_); first | refine hcutC (a := Code.seq (Code.region _ _ _) (Code.block _ _)) [3, 4, 11, 12, 13, 14, 15, 16, 17, 18, 19, 20, 21, 22, 23, 24, 25, 26, 27, 28, 29, 30, 31, 32, 33, 34, 35] [3] (LpJ r H2) rfl (by repeat' first | exact Resp.retD | exact Resp1.valuesK | refine Resp.blockD ?_ | refine Resp.thenD ?_ ?_ | refine Resp.hcode ?_) ?_ ?_ | ((first | refine HReg.step ?_ | refine HCode.step ?_); first | refine hcutC (a := Code.seq (Code.region _ _ _) (Code.block _ _)) [3, 4, 11, 12, 13, 14, 15, 16, 17, 18, 19, 20, 21, 22, 23, 24, 25, 26, 27, 28, 29, 30, 31, 32, 33, 34, 35] [3] (LpJ r H2) rfl (by repeat' first | exact Resp.retD | exact Resp1.valuesK | refine Resp.blockD ?_ | refine Resp.thenD ?_ ?_ | refine Resp.hcode ?_) ?_ ?_ | ((first | refine HReg.step ?_ | refine HCode.step ?_); first | refine hcutC (a := Code.seq (Code.region _ _ _) (Code.block _ _)) [3, 4, 11, 12, 13, 14, 15, 16, 17, 18, 19, 20, 21, 22, 23, 24, 25, 26, 27, 28, 29, 30, 31, 32, 33, 34, 35] [3] (LpJ r H2) rfl (by repeat' first | exact Resp.retD | exact Resp1.valuesK | refine Resp.blockD ?_ | refine Resp.thenD ?_ ?_ | refine Resp.hcode ?_) ?_ ?_ | ((first | refine HReg.step ?_ | refine HCode.step ?_); first | refine hcutC (a := Code.seq (Code.region _ _ _) (Code.block _ _)) [3, 4, 11, 12, 13, 14, 15, 16, 17, 18, 19, 20, 21, 22, 23, 24, 25, 26, 27, 28, 29, 30, 31, 32, 33, 34, 35] [3] (LpJ r H2) rfl (by repeat' first | exact Resp.retD | exact Resp1.valuesK | refine Resp.blockD ?_ | refine Resp.thenD ?_ ?_ | refine Resp.hcode ?_) ?_ ?_ | ((first | refine HReg.step ?_ | refine HCode.step ?_); first | refine hcutC (a := Code.seq (Code.region _ _ _) (Code.block _ _)) [3, 4, 11, 12, 13, 14, 15, 16, 17, 18, 19, 20, 21, 22, 23, 24, 25, 26, 27, 28, 29, 30, 31, 32, 33, 34, 35] [3] (LpJ r H2) rfl (by repeat' first | exact Resp.retD | exact Resp1.valuesK | refine Resp.blockD ?_ | refine Resp.thenD ?_ ?_ | refine Resp.hcode ?_) ?_ ?_ | ((first | refine HReg.step ?_ | refine HCode.step ?_); first | refine hcutC (a := Code.seq (Code.region _ _ _) (Code.block _ _)) [3, 4, 11, 12, 13, 14, 15, 16, 17, 18, 19, 20, 21, 22, 23, 24, 25, 26, 27, 28, 29, 30, 31, 32, 33, 34, 35] [3] (LpJ r H2) rfl (by repeat' first | exact Resp.retD | exact Resp1.valuesK | refine Resp.blockD ?_ | refine Resp.thenD ?_ ?_ | refine Resp.hcode ?_) ?_ ?_ | ((first | refine HReg.step ?_ | refine HCode.step ?_); first | refine hcutC (a := Code.seq (Code.region _ _ _) (Code.block _ _)) [3, 4, 11, 12, 13, 14, 15, 16, 17, 18, 19, 20, 21, 22, 23, 24, 25, 26, 27, 28, 29, 30, 31, 32, 33, 34, 35] [3] (LpJ r H2) rfl (by repeat' first | exact Resp.retD | exact Resp1.valuesK | refine Resp.blockD ?_ | refine Resp.thenD ?_ ?_ | refine Resp.hcode ?_) ?_ ?_ | ((first | refine HReg.step ?_ | refine HCode.step ?_); first | refine hcutC (a := Code.seq (Code.region _ _ _) (Code.block _ _)) [3, 4, 11, 12, 13, 14, 15, 16, 17, 18, 19, 20, 21, 22, 23, 24, 25, 26, 27, 28, 29, 30, 31, 32, 33, 34, 35] [3] (LpJ r H2) rfl (by repeat' first | exact Resp.retD | exact Resp1.valuesK | refine Resp.blockD ?_ | refine Resp.thenD ?_ ?_ | refine Resp.hcode ?_) ?_ ?_ | ((first | refine HReg.step ?_ | refine HCode.step ?_); first | refine hcutC (a := Code.seq (Code.region _ _ _) (Code.block _ _)) [3, 4, 11, 12, 13, 14, 15, 16, 17, 18, 19, 20, 21, 22, 23, 24, 25, 26, 27, 28, 29, 30, 31, 32, 33, 34, 35] [3] (LpJ r H2) rfl (by repeat' first | exact Resp.retD | exact Resp1.valuesK | refine Resp.blockD ?_ | refine Resp.thenD ?_ ?_ | refine Resp.hcode ?_) ?_ ?_ | ((first | refine HReg.step ?_ | refine HCode.step ?_); first | refine hcutC (a := Code.seq (Code.region _ _ _) (Code.block _ _)) [3, 4, 11, 12, 13, 14, 15, 16, 17, 18, 19, 20, 21, 22, 23, 24, 25, 26, 27, 28, 29, 30, 31, 32, 33, 34, 35] [3] (LpJ r H2) rfl (by repeat' first | exact Resp.retD | exact Resp1.valuesK | refine Resp.blockD ?_ | refine Resp.thenD ?_ ?_ | refine Resp.hcode ?_) ?_ ?_ | ((first | refine HReg.step ?_ | refine HCode.step ?_); first | refine hcutC (a := Code.seq (Code.region _ _ _) (Code.block _ _)) [3, 4, 11, 12, 13, 14, 15, 16, 17, 18, 19, 20, 21, 22, 23, 24, 25, 26, 27, 28, 29, 30, 31, 32, 33, 34, 35] [3] (LpJ r H2) rfl (by repeat' first | exact Resp.retD | exact Resp1.valuesK | refine Resp.blockD ?_ | refine Resp.thenD ?_ ?_ | refine Resp.hcode ?_) ?_ ?_ | ((first | refine HReg.step ?_ | refine HCode.step ?_); first | refine hcutC (a := Code.seq (Code.region _ _ _) (Code.block _ _)) [3, 4, 11, 12, 13, 14, 15, 16, 17, 18, 19, 20, 21, 22, 23, 24, 25, 26, 27, 28, 29, 30, 31, 32, 33, 34, 35] [3] (LpJ r H2) rfl (by repeat' first | exact Resp.retD | exact Resp1.valuesK | refine Resp.blockD ?_ | refine Resp.thenD ?_ ?_ | refine Resp.hcode ?_) ?_ ?_ | ((first | refine HReg.step ?_ | refine HCode.step ?_); first | refine hcutC (a := Code.seq (Code.region _ _ _) (Code.block _ _)) [3, 4, 11, 12, 13, 14, 15, 16, 17, 18, 19, 20, 21, 22, 23, 24, 25, 26, 27, 28, 29, 30, 31, 32, 33, 34, 35] [3] (LpJ r H2) rfl (by repeat' first | exact Resp.retD | exact Resp1.valuesK | refine Resp.blockD ?_ | refine Resp.thenD ?_ ?_ | refine Resp.hcode ?_) ?_ ?_ | ((first | refine HReg.step ?_ | refine HCode.step ?_); first | refine hcutC (a := Code.seq (Code.region _ _ _) (Code.block _ _)) [3, 4, 11, 12, 13, 14, 15, 16, 17, 18, 19, 20, 21, 22, 23, 24, 25, 26, 27, 28, 29, 30, 31, 32, 33, 34, 35] [3] (LpJ r H2) rfl (by repeat' first | exact Resp.retD | exact Resp1.valuesK | refine Resp.blockD ?_ | refine Resp.thenD ?_ ?_ | refine Resp.hcode ?_) ?_ ?_ | ((first | refine HReg.step ?_ | refine HCode.step ?_); first | refine hcutC (a := Code.seq (Code.region _ _ _) (Code.block _ _)) [3, 4, 11, 12, 13, 14, 15, 16, 17, 18, 19, 20, 21, 22, 23, 24, 25, 26, 27, 28, 29, 30, 31, 32, 33, 34, 35] [3] (LpJ r H2) rfl (by repeat' first | exact Resp.retD | exact Resp1.valuesK | refine Resp.blockD ?_ | refine Resp.thenD ?_ ?_ | refine Resp.hcode ?_) ?_ ?_ | ((first | refine HReg.step ?_ | refine HCode.step ?_); first | refine hcutC (a := Code.seq (Code.region _ _ _) (Code.block _ _)) [3, 4, 11, 12, 13, 14, 15, 16, 17, 18, 19, 20, 21, 22, 23, 24, 25, 26, 27, 28, 29, 30, 31, 32, 33, 34, 35] [3] (LpJ r H2) rfl (by repeat' first | exact Resp.retD | exact Resp1.valuesK | refine Resp.blockD ?_ | refine Resp.thenD ?_ ?_ | refine Resp.hcode ?_) ?_ ?_ | ((first | refine HReg.step ?_ | refine HCode.step ?_); first | refine hcutC (a := Code.seq (Code.region _ _ _) (Code.block _ _)) [3, 4, 11, 12, 13, 14, 15, 16, 17, 18, 19, 20, 21, 22, 23, 24, 25, 26, 27, 28, 29, 30, 31, 32, 33, 34, 35] [3] (LpJ r H2) rfl (by repeat' first | exact Resp.retD | exact Resp1.valuesK | refine Resp.blockD ?_ | refine Resp.thenD ?_ ?_ | refine Resp.hcode ?_) ?_ ?_ | ((first | refine HReg.step ?_ | refine HCode.step ?_); first | refine hcutC (a := Code.seq (Code.region _ _ _) (Code.block _ _)) [3, 4, 11, 12, 13, 14, 15, 16, 17, 18, 19, 20, 21, 22, 23, 24, 25, 26, 27, 28, 29, 30, 31, 32, 33, 34, 35] [3] (LpJ r H2) rfl (by repeat' first | exact Resp.retD | exact Resp1.valuesK | refine Resp.blockD ?_ | refine Resp.thenD ?_ ?_ | refine Resp.hcode ?_) ?_ ?_ | ((first | refine HReg.step ?_ | refine HCode.step ?_); refine hcutC (a := Code.seq (Code.region _ _ _) (Code.block _ _)) [3, 4, 11, 12, 13, 14, 15, 16, 17, 18, 19, 20, 21, 22, 23, 24, 25, 26, 27, 28, 29, 30, 31, 32, 33, 34, 35] [3] (LpJ r H2) rfl (by repeat' first | exact Resp.retD | exact Resp1.valuesK | refine Resp.blockD ?_ | refine Resp.thenD ?_ ?_ | refine Resp.hcode ?_) ?_ ?_))))))))))))))))))))))))))))))))))))))))))))))))))))))))))))
  · (repeat first | refine HReg.step ?_ | refine HCode.step ?_)
    refine hloopC [3, 4, 11, 12, 13, 14, 15, 16, 17, 18, 19, 20, 21, 22, 23, 24, 25, 26, 27, 28, 29, 30, 31, 32, 33, 34, 35] [3, 4] (L1Inv r H2) rfl (by repeat' first | exact Resp.retD | exact Resp1.valuesK | refine Resp.blockD ?_ | refine Resp.thenD ?_ ?_ | refine Resp.hcode ?_) ?_ ?_
    · exact ⟨r.ps.length, L1Inv.mk ⟨0, rfl, rfl, rfl⟩⟩
    rintro m _ fe H3 ⟨i, rfl, hmi, rfl⟩
    have hpi := hpl i
    have wi : wr .i64 ((i : Int) + 1) = ((i + 1 : Nat) : Int) := by rw [wr_i64 (by omega) (by omega)]; omega
    (repeat first | refine HReg.step ?_ | refine HCode.step ?_)
    refine HLoad.one (v := .slice ap r.ps.length cp) (by exact o1.rows.get (i := 2) rfl) ?_
    (repeat first | refine HReg.step ?_ | refine HCode.step ?_)
    refine hif (fun h2 => ?_) (fun h2 => ?_)
    · have h2 := ltB_true.1 h2
      obtain ⟨p, hp⟩ : ∃ p, r.ps[i]? = some p := ⟨r.ps[i]'(by omega), by simp⟩
      obtain ⟨ba, bo, rfl, _⟩ := hr1.rp _ _ (pairsV_get hp).1
      have hs := hm.short.1 p (List.mem_of_getElem? hp)
      have hst := pl_step hp
      have ws : wr .i64 (wr .i64 (wr .i64 (((base r + pl r.ps i : Nat) : Int) + 8) + (((bs p.1).size : Nat) : Int)) + (((bs p.2).size : Nat) : Int)) = ((base r + pl r.ps (i + 1) : Nat) : Int) := by
        rw [bs_size, bs_size, hst, wr_i64 (n := ((base r + pl r.ps i : Nat) : Int) + 8) (by omega) (by omega), wr_i64 (n := ((base r + pl r.ps i : Nat) : Int) + 8 + ((p.1.length : Nat) : Int)) (by omega) (by omega), wr_i64 (by omega) (by omega)]
        omega
      (repeat first | refine HReg.step ?_ | refine HCode.step ?_)
      refine HLoad.one (v := .slice (some ⟨ba, bo, none⟩) r.ps.length cp) (by exact o1.rows.get (i := 2) rfl) ?_
      (repeat first | refine HReg.step ?_ | refine HCode.step ?_)
      refine HReq.mk ⟨by omega, by omega⟩ ?_
      (repeat first | refine HReg.step ?_ | refine HCode.step ?_)
      refine HLoad.one (v := .string (bs p.1)) (by exact hr1.rp.get (pairsV_get hp).1) ?_
      (repeat first | refine HReg.step ?_ | refine HCode.step ?_)
      refine HLoad.one (v := .slice (some ⟨ba, bo, none⟩) r.ps.length cp) (by exact o1.rows.get (i := 2) rfl) ?_
      (repeat first | refine HReg.step ?_ | refine HCode.step ?_)
      refine HReq.mk ⟨by omega, by omega⟩ ?_
      (repeat first | refine HReg.step ?_ | refine HCode.step ?_)
      refine HLoad.one (v := .string (bs p.2)) (by exact hr1.rp.get (pairsV_get hp).2) ?_
      (repeat first | refine HReg.step ?_ | refine HCode.step ?_)
      rw [wi, ws]
      exact ⟨m - 1, by omega, L1Inv.mk ⟨i + 1, rfl, by omega, rfl⟩⟩
    · have h2 := ltB_false.1 h2
      have hi : i = r.ps.length := by omega
      subst hi
      (repeat first | refine HReg.step ?_ | refine HCode.step ?_)
      exact LpJ.mk ⟨rfl, rfl⟩
  rintro _ fe3 H3 ⟨rfl, rfl⟩
  have hpi := hpl r.ps.length
  (repeat first | refine HReg.step ?_ | refine HCode.step ?_)
  refine hloopC [3, 5, 36, 37, 38, 39, 40, 41, 42, 43, 44, 45, 46, 47, 48, 49, 50, 51] [3, 5] (L2Inv r H3) rfl (by repeat' first | exact Resp.retD | exact Resp1.valuesK | refine Resp.blockD ?_ | refine Resp.thenD ?_ ?_ | refine Resp.hcode ?_) ?_ ?_
  · exact ⟨r.ks.length, L2Inv.mk ⟨0, rfl, rfl, rfl⟩⟩
  rintro m _ fe H4 ⟨i, rfl, hmi, rfl⟩
  have hki := hkl i
  have wi : wr .i64 ((i : Int) + 1) = ((i + 1 : Nat) : Int) := by rw [wr_i64 (by omega) (by omega)]; omega
  (repeat first | refine HReg.step ?_ | refine HCode.step ?_)
  refine HLoad.one (v := .slice ak r.ks.length ck) (by exact o1.rows.get (i := 3) rfl) ?_
  (repeat first | refine HReg.step ?_ | refine HCode.step ?_)
  refine hif (fun h2 => ?_) (fun h2 => ?_)
  · have h2 := ltB_true.1 h2
    obtain ⟨s, hs⟩ : ∃ p, r.ks[i]? = some p := ⟨r.ks[i]'(by omega), by simp⟩
    obtain ⟨ba, bo, rfl, _⟩ := hr1.rk _ _ (txts_get hs)
    have hsl := hm.short.2 s (List.mem_of_getElem? hs)
    have hst := kl_step hs
    have ws : wr .i64 (wr .i64 (((base r + pl r.ps r.ps.length + kl r.ks i : Nat) : Int) + 4) + (((bs s).size : Nat) : Int)) = ((base r + pl r.ps r.ps.length + kl r.ks (i + 1) : Nat) : Int) := by
      rw [bs_size, hst, wr_i64 (n := ((base r + pl r.ps r.ps.length + kl r.ks i : Nat) : Int) + 4) (by omega) (by omega), wr_i64 (by omega) (by omega)]
      omega
    (repeat first | refine HReg.step ?_ | refine HCode.step ?_)
    refine HLoad.one (v := .slice (some ⟨ba, bo, none⟩) r.ks.length ck) (by exact o1.rows.get (i := 3) rfl) ?_
    (repeat first | refine HReg.step ?_ | refine HCode.step ?_)
    refine HReq.mk ⟨by omega, by omega⟩ ?_
    (repeat first | refine HReg.step ?_ | refine HCode.step ?_)
    refine HLoad.one (v := .string (bs s)) (by exact hr1.rk.get (txts_get hs)) ?_
    (repeat first | refine HReg.step ?_ | refine HCode.step ?_)
    rw [wi, ws]
    exact ⟨m - 1, by omega, L2Inv.mk ⟨i + 1, rfl, by omega, rfl⟩⟩
  · have h2 := ltB_false.1 h2
    have hi : i = r.ks.length := by omega
    subst hi
    (repeat first | refine HReg.step ?_ | refine HCode.step ?_)
    exact hk H4 u1
end
end Go.Proofs.YtfcmjomnpahllaaGreat
namespace Go.Proofs.YtfcmjomnpahllaaGreat
open Go Hv
set_option linter.unusedVariables false
set_option linter.unusedSimpArgs false
set_option maxRecDepth 10000
set_option maxHeartbeats 2000000
/-! The document's payload, Build -/
structure P1Iv (H : Heap) (r : Rec) (h0 : List UInt8) (m : Nat) (vs : List Value) (H' : Heap) : Prop where
  ex : ∃ (i : Nat) (a : Option Addr) (c : Nat) (out : List UInt8), vs = [.slice a out.length c, .int .i64 (i : Int)] ∧ m + i = r.ps.length ∧ out = h0 ++ (pairPieces (r.ps.take i)).flatten ∧ Made H H' 5 1 a out.length c (u8s out)
structure P1Jv (H : Heap) (h0 : List UInt8) (vs : List Value) (H' : Heap) : Prop where
  ex : ∃ (a : Option Addr) (c : Nat), vs = [.slice a h0.length c] ∧ Made H H' 5 1 a h0.length c (u8s h0)
theorem len_num (a : List UInt8) (v n : Nat) : a.length + n = (a ++ num v n).length := by rw [List.length_append, num_length]
section
variable {H : Heap} {K : Value → Heap → Prop}
theorem rpayload_t {r : Rec} {ap ak : Option Addr} {cp ck : Nat} (hr : RecIn H r ap ak) (hm : May r)
    (hk : ∀ a c H', Made H H' 5 1 a (pay r).length c (u8s (pay r)) → K (.slice a (pay r).length c) H') : HCalls Tryz.prog 65 [rv r ap cp ak ck] H K := by
  refine hcalls (fn := Tryz.f65) [] mixed Tryz.func65 rfl rfl (by decide +kernel) ?_
  have hfew := hm.few
  have hpl := pl_le hm
  have hkl := kl_le hm
  (repeat first | refine HReg.step ?_ | refine HCode.step ?_)
  refine HNew.mk fun b1 hb1 => ?_
  have u1 : Upd [] H (H.upd b1 (.cells (rcells r ap cp ak ck).toArray 41)) := Upd.new hb1 _
  have o1 : OwnRow (H.upd b1 (.cells (rcells r ap cp ak ck).toArray 41)) 41 1 (some ⟨b1, 0, none⟩) 4 4 (rcells r ap cp ak ck) := OwnRow.lit (upd_same _ _ _) rfl
  have hH' : H.upd b1 (.cells [Value.int .i64 r.kind, .int .u64 (r.id : Int), .slice ap r.ps.length cp, .slice ak r.ks.length ck].toArray 41) = H.upd b1 (.cells (rcells r ap cp ak ck).toArray 41) := rfl
  rw [hH']
  generalize hH1 : H.upd b1 (.cells (rcells r ap cp ak ck).toArray 41) = H1 at u1 o1
  have hr1 := hr.upd0 u1
  obtain ⟨k, hkk, hk2⟩ : ∃ k : Nat, r.kind = (k : Int) ∧ k ≤ 2 := by
    rcases hm.kind with h | h
    · exact ⟨1, h, by decide⟩
    · exact ⟨2, h, by decide⟩
  have wk : wr .u8 r.kind = (k : Int) := by rw [hkk, wr8]; omega
  (repeat first | refine HReg.step ?_ | refine HCode.step ?_)
  refine HLoad.one (v := .int .i64 r.kind) (by exact o1.rows.get (i := 0) rfl) ?_
  (repeat first | refine HReg.step ?_ | refine HCode.step ?_)
  rw [wk]
  refine HReq.mk (by decide) ?_
  (repeat first | refine HReg.step ?_ | refine HCode.step ?_)
  refine HNew.mk fun b2 hb2 => ?_
  have m2 : Made H1 (H1.upd b2 (.cells [Value.int .u8 (k : Int)].toArray 5)) 5 1 (some ⟨b2, 0, none⟩) 1 1 (u8s (num k 1)) := by
    refine ⟨?_, Upd.new hb2 _, fun p hp => by cases hp; exact hb2⟩
    have e : [Value.int .u8 (k : Int)] = u8s (num k 1) := by
      match k, hk2 with
      | 0, _ => rfl
      | 1, _ => rfl
      | 2, _ => rfl
    rw [← e]
    exact OwnRow.lit (upd_same _ _ _) rfl
  generalize hH2 : H1.upd b2 (.cells [Value.int .u8 (k : Int)].toArray 5) = H2 at m2
  have o2 := o1.upd m2.upd (Off.nil _)
  (repeat first | refine HReg.step ?_ | refine HCode.step ?_)
  refine HLoad.one (v := .int .u64 (r.id : Int)) (by exact o2.rows.get (i := 1) rfl) ?_
  (repeat first | refine HReg.step ?_ | refine HCode.step ?_)
  refine HCall.mk ⟨Tryz.f66, Tryz.func66, by rfl, by rfl⟩ ?_
  refine rnum_t (H0 := H1) (v := r.id) (n := 8) (b := num k 1) rfl m2 (by decide) (by rw [num_length]; omega) fun a3 c3 H3 m3 => ?_
  have o3 := o1.upd m3.upd (Off.nil _)
  have hl3 : (num k 1).length + 8 = (num k 1 ++ num r.id 8).length := by rw [List.length_append, num_length, num_length]
  rw [hl3] at m3 ⊢
  (repeat first | refine HReg.step ?_ | refine HCode.step ?_)
  refine HLoad.one (v := .int .i64 r.kind) (by exact o3.rows.get (i := 0) rfl) ?_
  (repeat first | refine HReg.step ?_ | refine HCode.step ?_)
  refine hif (fun h2 => ?_) (fun h2 => ?_)
  · have h2 := eqB_true.1 h2
    have e : pay r = num k 1 ++ num r.id 8 := by
      have hk : k = 2 := by omega
      rw [pay2 h2, hk]
    rw [e] at hk
    (repeat first | refine HReg.step ?_ | refine HCode.step ?_)
    exact hk a3 c3 H3 (m3.back u1)
  have h2 := eqB_false.1 h2
  have h1 : r.kind = 1 := by rcases hm.kind with h | h; exact h; exact absurd h h2
  have hk1 : k = 1 := by omega
  subst hk1
  have wp : wr .u64 (r.ps.length : Int) = (r.ps.length : Int) := by rw [wr_u64]; omega
  have wq : wr .u64 (r.ks.length : Int) = (r.ks.length : Int) := by rw [wr_u64]; omega
  (repeat first | refine HReg.step ?_ | refine HCode.step ?_)
  refine HLoad.one (v := .slice ap r.ps.length cp) (by exact o3.rows.get (i := 2) rfl) ?_
  (repeat first | refine HReg.step ?_ | refine HCode.step ?_)
  rw [wp]
  refine HCall.mk ⟨Tryz.f66, Tryz.func66, by rfl, by rfl⟩ ?_
  refine rnum_t (H0 := H1) (v := r.ps.length) (n := 4) rfl m3 (by decide) (by rw [List.length_append, num_length, num_length]; omega) fun a4 c4 H4 m4 => ?_
  have hl4 : (num 1 1 ++ num r.id 8).length + 4 = (num 1 1 ++ num r.id 8 ++ num r.ps.length 4).length := len_num _ _ _
  rw [hl4] at m4 ⊢
  have hh : (num 1 1 ++ num r.id 8 ++ num r.ps.length 4).length = 13 := by rw [List.length_append, List.length_append, num_length, num_length, num_length]
  generalize hhe : num 1 1 ++ num r.id 8 ++ num r.ps.length 4 = h0 at *
  first | refine hcutC (a := Code.seq (Code.region _ _ _) (Code.block _ _)) [3, 4, 23, 24, 25, 26, 27, 28, 29, 30, 31, 32, 33, 34, 35, 36, 37, 38, 39, 40, 41, 42, 43, 44, 45] [3] (P1Jv H1 (h0 ++ (pairPieces r.ps).flatten)) rfl (by repeat' first | exact Resp.retD | exact Resp1.valuesK | refine Resp.blockD ?_ | refine Resp.thenD ?_ ?_ | refine Resp.hcode ?_) ?_ ?_ | ((first | refine HReg.step ?_ | refine HCode.step ?_); first | refine hcutC (a := Code.seq (Code.region _ _ _) (Code.block _ _)) [3, 4, 23, 24, 25, 26, 27, 28, 29, 30, 31, 32, 33, 34, 35, 36, 37, 38, 39, 40, 41, 42, 43, 44, 45] [3] (P1Jv H1 (h0 ++ (pairPieces r.ps).flatten)) rfl (by repeat' first | exact Resp.retD | exact Resp1.valuesK | refine Resp.blockD ?_ | refine Resp.thenD ?_ ?_ | refine Resp.hcode ?_) ?_ ?_ | ((first | refine HReg.step ?_ | refine HCode.step ?_); first | refine hcutC (a := Code.seq (Code.region _ _ _) (Code.block _ _)) [3, 4, 23, 24, 25, 26, 27, 28, 29, 30, 31, 32, 33, 34, 35, 36, 37, 38, 39, 40, 41, 42, 43, 44, 45] [3] (P1Jv H1 (h0 ++ (pairPieces r.ps).flatten)) rfl (by repeat' first | exact Resp.retD | exact Resp1.valuesK | refine Resp.blockD ?_ | refine Resp.thenD ?_ ?_ | refine Resp.hcode ?_) ?_ ?_ | ((first | refine HReg.step ?_ | refine HCode.step ?_); first | refine hcutC (a := Code.seq (Code.region _ _ _) (Code.block _ _)) [3, 4, 23, 24, 25, 26, 27, 28, 29, 30, 31, 32, 33, 34, 35, 36, 37, 38, 39, 40, 41, 42, 43, 44, 45] [3] (P1Jv H1 (h0 ++ (pairPieces r.ps).flatten)) rfl (by repeat' first | exact Resp.retD | exact Resp1.valuesK | refine Resp.blockD ?_ | refine Resp.thenD ?_ ?_ | refine Resp.hcode ?_) ?_ ?_ | ((first | refine HReg.step ?_ | refine HCode.step ?_); first | refine hcutC (a := Code.seq (Code.region _ _ _) (Code.block _ _)) [3, 4, 23, 24, 25, 26, 27, 28, 29, 30, 31, 32, 33, 34, 35, 36, 37, 38, 39, 40, 41, 42, 43, 44, 45] [3] (P1Jv H1 (h0 ++ (pairPieces r.ps).flatten)) rfl (by repeat' first | exact Resp.retD | exact Resp1.valuesK | refine Resp.blockD ?_ | refine Resp.thenD ?_ ?_ | refine Resp.hcode ?_) ?_ ?_ | ((first | refine HReg.step ?_ | refine HCode.step ?_); first | refine hcutC (a := Code.seq (Code.region _ _ _) (Code.block _ _)) [3, 4, 23, 24, 25, 26, 27, 28, 29, 30, 31, 32, 33, 34, 35, 36, 37, 38, 39, 40, 41, 42, 43, 44, 45] [3] (P1Jv H1 (h0 ++ (pairPieces r.ps).flatten)) rfl (by repeat' first | exact Resp.retD | exact Resp1.valuesK | refine Resp.blockD ?_ | refine Resp.thenD ?_ ?_ | refine Resp.hcode ?_) ?_ ?_ | ((first | refine HReg.step ?_ | refine HCode.step ?_); first | refine hcutC (a := Code.seq (Code.region _ _ _) (Code.block _ _)) [3, 4, 23, 24, 25, 26, 27, 28, 29, 30, 31, 32, 33, 34, 35, 36, 37, 38, 39, 40, 41, 42, 43, 44, 45] [3] (P1Jv H1 (h0 ++ (pairPieces r.ps).flatten)) rfl (by repeat' first | exact Resp.retD | exact Resp1.valuesK | refine Resp.blockD ?_ | refine Resp.thenD ?_ ?_ | refine Resp.hcode ?_) ?_ ?_ | ((first | refine HReg.step ?_ | refine HCode.step ?_); first | refine hcutC (a := Code.seq (Code.region _ _ _) (Code.block _ _)) [3, 4, 23, 24, 25, 26, 27, 28, 29, 30, 31, 32, 33, 34, 35, 36, 37, 38, 39, 40, 41, 42, 43, 44, 45] [3] (P1Jv H1 (h0 ++ (pairPieces r.ps).flatten)) rfl (by repeat' first | exact Resp.retD | exact Resp1.valuesK | refine Resp.blockD ?_ | refine Resp.thenD ?_ ?_ | refine Resp.hcode ?_) ?_ ?_ | ((first | refine HReg.step ?_ | refine HCode.step ?_); first | refine hcutC (a := Code.seq (Code.region _ _ _) (Code.block _ _)) [3, 4, 23, 24, 25, 26, 27, 28, 29, 30, 31, 32, 33, 34, 35, 36, 37, 38, 39, 40, 41, 42, 43, 44, 45] [3] (P1Jv H1 (h0 ++ (pairPieces r.ps).flatten)) rfl (by repeat' first | exact Resp.retD | exact Resp1.valuesK | refine Resp.blockD ?_ | refine Resp.thenD ?_ ?_ | refine Resp.hcode ?_) ?_ ?_ | ((first | refine HReg.step ?_ | refine HCode.step ?_); first | refine hcutC (a := Code.seq (Code.region _ _ _) (Code.block _ _)) [3, 4, 23, 24, 25, 26, 27, 28, 29, 30, 31, 32, 33, 34, 35, 36, 37, 38, 39, 40, 41, 42, 43, 44, 45] [3] (P1Jv H1 (h0 ++ (pairPieces r.ps).flatten)) rfl (by repeat' first | exact Resp.retD | exact Resp1.valuesK | refine Resp.blockD ?_ | refine Resp.thenD ?_ ?_ | refine Resp.hcode ?_) ?_ ?_ | ((first | refine HReg.step ?_ | refine HCode.step ?_); first | refine hcutC (a := Code.seq (Code.region _ _ _) (Code.block _ _)) [3, 4, 23, 24, 25, 26, 27, 28, 29, 30, 31, 32, 33, 34, 35, 36, 37, 38, 39, 40, 41, 42, 43, 44, 45] [3] (P1Jv H1 (h0 ++ (pairPieces r.ps).flatten)) rfl (by repeat' first | exact Resp.retD | exact Resp1.valuesK | refine Resp.blockD ?_ | refine Resp.thenD ?_ ?_ | refine Resp.hcode ?_) ?_ ?_ | ((first | refine HReg.step ?_ | refine HCode.step ?_); first | refine hcutC (a := Code.seq (Code.region _ _ _) (Code.block _ _)) [3, 4, 23, 24, 25, 26, 27, 28, 29, 30, 31, 32, 33, 34, 35, 36, 37, 38, 39, 40, 41, 42, 43, 44, 45] [3] (P1Jv H1 (h0 ++ (pairPieces r.ps).flatten)) rfl (by repeat' first | exact Resp.retD | exact Resp1.valuesK | refine Resp.blockD ?_ | refine Resp.thenD ?_ ?_ | refine Resp.hcode ?_) ?_ ?_ | ((first | refine HReg.step ?_ | refine HCode.step ?_); first | refine hcutC (a := Code.seq (Code.region _ _ _) (Code.block _ _)) [3, 4, 23, 24, 25, 26, 27, 28, 29, 30, 31, 32, 33, 34, 35, 36, 37, 38, 39, 40, 41, 42, 43, 44, 45] [3] (P1Jv H1 (h0 ++ (pairPieces r.ps).flatten)) rfl (by repeat' first | exact Resp.retD | exact Resp1.valuesK | refine Resp.blockD ?_ | refine Resp.thenD ?_ ?_ | refine Resp.hcode ?_) ?_ ?_ | ((first | refine HReg.step ?_ | refine HCode.step ?_); first | refine hcutC (a := Code.seq (Code.region _ _ _) (Code.block _ _)) [3, 4, 23, 24, 25, 26, 27, 28, 29, 30, 31, 32, 33, 34, 35, 36, 37, 38, 39, 40, 41, 42, 43, 44, 45] [3] (P1Jv H1 (h0 ++ (pairPieces r.ps).flatten)) rfl (by repeat' first | exact Resp.retD | exact Resp1.valuesK | refine Resp.blockD ?_ | refine Resp.thenD ?_ ?_ | refine Resp.hcode ?_) ?_ ?_ | ((first | refine HReg.step ?_ | refine HCode.step ?_); first | refine hcutC (a := Code.seq (Code.region _ _ _) (Code.block _ _)) [3, 4, 23, 24, 25, 26, 27, 28, 29, 30, 31, 32, 33, 34, 35, 36, 37, 38, 39, 40, 41, 42, 43, 44, 45] [3] (P1Jv H1 (h0 ++ (pairPieces r.ps).flatten)) rfl (by repeat' first | exact Resp.retD | exact Resp1.valuesK | refine Resp.blockD ?_ | refine Resp.thenD ?_ ?_ | refine Resp.hcode ?_) ?_ ?_ | ((first | refine HReg.step ?_ | refine HCode.step ?_); first | refine hcutC (a := Code.seq (Code.region _ _ _) (Code.block _ _)) [3, 4, 23, 24, 25, 26, 27, 28, 29, 30, 31, 32, 33, 34, 35, 36, 37, 38, 39, 40, 41, 42, 43, 44, 45] [3] (P1Jv H1 (h0 ++ (pairPieces r.ps).flatten)) rfl (by repeat' first | exact Resp.retD | exact Resp1.valuesK | refine Resp.blockD ?_ | refine Resp.thenD ?_ ?_ | refine Resp.hcode ?_) ?_ ?_ | ((first | refine HReg.step ?_ | refine HCode.step ?_); first | refine hcutC (a := Code.seq (Code.region _ _ _) (Code.block _ _)) [3, 4, 23, 24, 25, 26, 27, 28, 29, 30, 31, 32, 33, 34, 35, 36, 37, 38, 39, 40, 41, 42, 43, 44, 45] [3] (P1Jv H1 (h0 ++ (pairPieces r.ps).flatten)) rfl (by repeat' first | exact Resp.retD | exact Resp1.valuesK | refine Resp.blockD ?_ | refine Resp.thenD ?_ ?_ | refine Resp.hcode ?_) ?_ ?_ | ((first | refine HReg.step ?_ | refine HCode.step ?_); first | refine hcutC (a := Code.seq (Code.region _ _ _) (Code.block _ _)) [3, 4, 23, 24, 25, 26, 27, 28, 29, 30, 31, 32, 33, 34, 35, 36, 37, 38, 39, 40, 41, 42, 43, 44, 45] [3] (P1Jv H1 (h0 ++ (pairPieces r.ps).flatten)) rfl (by repeat' first | exact Resp.retD | exact Resp1.valuesK | refine Resp.blockD ?_ | refine Resp.thenD ?_ ?_ | refine Resp.hcode ?_) ?_ ?_ | ((first | refine HReg.step ?_ | refine HCode.step ?_); first | refine hcutC (a := Code.seq (Code.region _ _ _) (Code.block _ _)) [3, 4, 23, 24, 25, 26, 27, 28, 29, 30, 31, 32, 33, 34, 35, 36, 37, 38, 39, 40, 41, 42, 43, 44, 45] [3] (P1Jv H1 (h0 ++ (pairPieces r.ps).flatten)) rfl (by repeat' first | exact Resp.retD | exact Resp1.valuesK | refine Resp.blockD ?_ | refine Resp.thenD ?_ ?_ | refine Resp.hcode ?_) ?_ ?_ | ((first | refine HReg.step ?_ | refine HCode.step ?_); first | refine hcutC (a := Code.seq (Code.region _ _ _) (Code.block _ _)) [3, 4, 23, 24, 25, 26, 27, 28, 29, 30, 31, 32, 33, 34, 35, 36, 37, 38, 39, 40, 41, 42, 43, 44, 45] [3] (P1Jv H1 (h0 ++ (pairPieces r.ps).flatten)) rfl (by repeat' first | exact Resp.retD | exact Resp1.valuesK | refine Resp.blockD ?_ | refine Resp.thenD ?_ ?_ | refine Resp.hcode ?_) ?_ ?_ | ((first | refine HReg.step ?_ | refine HCode.step ?_); first | refine hcutC (a := Code.seq (Code.region _ _ _) (Code.block _ _)) [3, 4, 23, 24, 25, 26, 27, 28, 29, 30, 31, 32, 33, 34, 35, 36, 37, 38, 39, 40, 41, 42, 43, 44, 45] [3] (P1Jv H1 (h0 ++ (pairPieces r.ps).flatten)) rfl (by repeat' first | exact Resp.retD | exact Resp1.valuesK | refine Resp.blockD ?_ | refine Resp.thenD ?_ ?_ | refine Resp.hcode ?_) ?_ ?_ | ((first | refine HReg.step ?_ | refine HCode.step ?_); first | refine hcutC (a := Code.seq (Code.region _ _ _) (Code.block _ _)) [3, 4, 23, 24, 25, 26, 27, 28, 29, 30, 31, 32, 33, 34, 35, 36, 37, 38, 39, 40, 41, 42, 43, 44, 45] [3] (P1Jv H1 (h0 ++ (pairPieces r.ps).flatten)) rfl (by repeat' first | exact Resp.retD | exact Resp1.valuesK | refine Resp.blockD ?_ | refine Resp.thenD ?_ ?_ | refine Resp.hcode ?_) ?_ ?_ | ((first | refine HReg.step ?_ | refine HCode.step ?_); first | refine hcutC (a := Code.seq (Code.region _ _ _) (Code.block _ _)) [3, 4, 23, 24, 25, 26, 27, 28, 29, 30, 31, 32, 33, 34, 35, 36, 37, 38, 39, 40, 41, 42, 43, 44, 45] [3] (P1Jv H1 (h0 ++ (pairPieces r.ps).flatten)) rfl (by repeat' first | exact Resp.retD | exact Resp1.valuesK | refine Resp.blockD ?_ | refine Resp.thenD ?_ ?_ | refine Resp.hcode ?_) ?_ ?_ | ((first | refine HReg.step ?_ | refine HCode.step ?_); first | refine hcutC (a := Code.seq (Code.region _ _ _) (Code.block _ _)) [3, 4, 23, 24, 25, 26, 27, 28, 29, 30, 31, 32, 33, 34, 35, 36, 37, 38, 39, 40, 41, 42, 43, 44, 45] [3] (P1Jv H1 (h0 ++ (pairPieces r.ps).flatten)) rfl (by repeat' first | exact Resp.retD | exact Resp1.valuesK | refine Resp.blockD ?_ | refine Resp.thenD ?_ ?_ | refine Resp.hcode ?_) ?_ ?_ | ((first | refine HReg.step ?_ | refine HCode.step ?_); first | refine hcutC (a := Code.seq (Code.region _ _ _) (Code.block _ _)) [3, 4, 23, 24, 25, 26, 27, 28, 29, 30, 31, 32, 33, 34, 35, 36, 37, 38, 39, 40, 41, 42, 43, 44, 45] [3] (P1Jv H1 (h0 ++ (pairPieces r.ps).flatten)) rfl (by repeat' first | exact Resp.retD | exact Resp1.valuesK | refine Resp.blockD ?_ | refine Resp.thenD ?_ ?_ | refine Resp.hcode ?_) ?_ ?_ | ((first | refine HReg.step ?_ | refine HCode.step ?_); first | refine hcutC (a := Code.seq (Code.region _ _ _) (Code.block _ _)) [3, 4, 23, 24, 25, 26, 27, 28, 29, 30, 31, 32, 33, 34, 35, 36, 37, 38, 39, 40, 41, 42, 43, 44, 45] [3] (P1Jv H1 (h0 ++ (pairPieces r.ps).flatten)) rfl (by repeat' first | exact Resp.retD | exact Resp1.valuesK | refine Resp.blockD ?_ | refine Resp.thenD ?_ ?_ | refine Resp.hcode ?_) ?_ ?_ | ((first | refine HReg.step ?_ | refine HCode.step ?_); first | refine hcutC (a := Code.seq (Code.region _ _ _) (Code.block _ _)) [3, 4, 23, 24, 25, 26, 27, 28, 29, 30, 31, 32, 33, 34, 35, 36, 37, 38, 39, 40, 41, 42, 43, 44, 45] [3] (P1Jv H1 (h0 ++ (pairPieces r.ps).flatten)) rfl (by repeat' first | exact Resp.retD | exact Resp1.valuesK | refine Resp.blockD ?_ | refine Resp.thenD ?_ ?_ | refine Resp.hcode ?_) ?_ ?_ | ((first | refine HReg.step ?_ | refine HCode.step ?_); first | refine hcutC (a := Code.seq (Code.region _ _ _) (Code.block _ _)) [3, 4, 23, 24, 25, 26, 27, 28, 29, 30, 31, 32, 33, 34, 35, 36, 37, 38, 39, 40, 41, 42, 43, 44, 45] [3] (P1Jv H1 (h0 ++ (pairPieces r.ps).flatten)) rfl (by repeat' first | exact Resp.retD | exact Resp1.valuesK | refine Resp.blockD ?_ | refine Resp.thenD ?_ ?_ | refine Resp.hcode ?_) ?_ ?_ | ((first | refine HReg.step ?_ | refine HCode.step ?_); first | refine hcutC (a := Code.seq (Code.region _ _ _) (Code.block _ _)) [3, 4, 23, 24, 25, 26, 27, 28, 29, 30, 31, 32, 33, 34, 35, 36, 37, 38, 39, 40, 41, 42, 43, 44, 45] [3] (P1Jv H1 (h0 ++ (pairPieces r.ps).flatten)) rfl (by repeat' first | exact Resp.retD | exact Resp1.valuesK | refine Resp.blockD ?_ | refine Resp.thenD ?_ ?_ | refine Resp.hcode ?_) ?_ ?_ | ((first | refine HReg.step ?_ | refine HCode.step ?_); first | refine hcutC (a := Code.seq (Code.region _ _ _) (Code.block _ _)) [3, 4, 23, 24, 25, 26, 27, 28, 29, 30, 31, 32, 33, 34, 35, 36, 37, 38, 39, 40, 41, 42, 43, 44, 45] [3] (P1Jv H1 (h0 ++ (pairPieces r.ps).flatten)) rfl (by repeat' first | exact Resp.retD | exact Resp1.valuesK | refine Resp.blockD ?_ | refine Resp.thenD ?_ ?_ | refine Resp.hcode ?_) ?_ ?_ | ((first | refine HReg.step ?_ | refine HCode.step ?_); first | refine hcutC (a := Code.seq (Code.region _ _ _) (Code.block _ _)) [3, 4, 23, 24, 25, 26, 27, 28, 29, 30, 31, 32, 33, 34, 35, 36, 37, 38, 39, 40, 41, 42, 43, 44, 45] [3] (P1Jv H1 (h0 ++ (pairPieces r.ps).flatten)) rfl (by repeat' first | exact Resp.retD | exact Resp1.valuesK | refine Resp.blockD ?_ | refine Resp.thenD ?_ ?_ | refine Resp.hcode ?_) ?_ ?_ | ((first | refine HReg.step ?_ | refine HCode.step ?_); first | refine hcutC (a := Code.seq (Code.region _ _ _) (Code.block _ _)) [3, 4, 23, 24, 25, 26, 27, 28, 29, 30, 31, 32, 33, 34, 35, 36, 37, 38, 39, 40, 41, 42, 43, 44, 45] [3] (P1Jv H1 (h0 ++ (pairPieces r.ps).flatten)) rfl (by repeat' first | exact Resp.retD | exact Resp1.valuesK | refine Resp.blockD ?_ | refine Resp.thenD ?_ ?_ | refine Resp.hcode ?_) ?_ ?_ | ((first | refine HReg.step ?_ | refine HCode.step ?_); first | refine hcutC (a := Code.seq (Code.region _ _ _) (Code.block _ _)) [3, 4, 23, 24, 25, 26, 27, 28, 29, 30, 31, 32, 33, 34, 35, 36, 37, 38, 39, 40, 41, 42, 43, 44, 45] [3] (P1Jv H1 (h0 ++ (pairPieces r.ps).flatten)) rfl (by repeat' first | exact Resp.retD | exact Resp1.valuesK | refine Resp.blockD ?_ | refine Resp.thenD ?_ ?_ | refine Resp.hcode ?_) ?_ ?_ | ((first | refine HReg.step ?_ | refine HCode.step ?_); first | refine hcutC (a := Code.seq (Code.region _ _ _) (Code.block _ _)) [3, 4, 23, 24, 25, 26, 27, 28, 29, 30, 31, 32, 33, 34, 35, 36, 37, 38, 39, 40, 41, 42, 43, 44, 45] [3] (P1Jv H1 (h0 ++ (pairPieces r.ps).flatten)) rfl (by repeat' first | exact Resp.retD | exact Resp1.valuesK | refine Resp.blockD ?_ | refine Resp.thenD ?_ ?_ | refine Resp.hcode ?_) ?_ ?_ | ((first | refine HReg.step ?_ | refine HCode.step ?_); first | refine hcutC (a := Code.seq (Code.region _ _ _) (Code.block _ _)) [3, 4, 23, 24, 25, 26, 27, 28, 29, 30, 31, 32, 33, 34, 35, 36, 37, 38, 39, 40, 41, 42, 43, 44, 45] [3] (P1Jv H1 (h0 ++ (pairPieces r.ps).flatten)) rfl (by repeat' first | exact Resp.retD | exact Resp1.valuesK | refine Resp.blockD ?_ | refine Resp.thenD ?_ ?_ | refine Resp.hcode ?_) ?_ ?_ | ((first | refine HReg.step ?_ | refine HCode.step ?_); first | refine hcutC (a := Code.seq (Code.region _ _ _) (Code.block _ _)) [3, 4, 23, 24, 25, 26, 27, 28, 29, 30, 31, 32, 33, 34, 35, 36, 37, 38, 39, 40, 41, 42, 43, 44, 45] [3] (P1Jv H1 (h0 ++ (pairPieces r.ps).flatten)) rfl (by repeat' first | exact Resp.retD | exact Resp1.valuesK | refine Resp.blockD ?_ | refine Resp.thenD ?_ ?_ | refine Resp.hcode ?_) ?_ ?_ | ((first | refine HReg.step ?_ | refine HCode.step ?_); first | refine hcutC (a := Code.seq (Code.region _ _ _) (Code.block _ _)) [3, 4, 23, 24, 25, 26, 27, 28, 29, 30, 31, 32, 33, 34, 35, 36, 37, 38, 39, 40, 41, 42, 43, 44, 45] [3] (P1Jv H1 (h0 ++ (pairPieces r.ps).flatten)) rfl (by repeat' first | exact Resp.retD | exact Resp1.valuesK | refine Resp.blockD ?_ | refine Resp.thenD ?_ ?_ | refine Resp.hcode ?_) ?_ ?_ | ((first | refine HReg.step ?_ | refine HCode.step ?_); first | refine hcutC (a := Code.seq (Code.region _ _ _) (Code.block _ _)) [3, 4, 23, 24, 25, 26, 27, 28, 29, 30, 31, 32, 33, 34, 35, 36, 37, 38, 39, 40, 41, 42, 43, 44, 45] [3] (P1Jv H1 (h0 ++ (pairPieces r.ps).flatten)) rfl (by repeat' first | exact Resp.retD | exact Resp1.valuesK | refine Resp.blockD ?_ | refine Resp.thenD ?_ ?_ | refine Resp.hcode ?_) ?_ ?_ | ((first | refine HReg.step ?_ | refine HCode.step ?_); first | refine hcutC (a := Code.seq (Code.region _ _ _) (Code.block _ _)) [3, 4, 23, 24, 25, 26, 27, 28, 29, 30, 31, 32, 33, 34, 35, 36, 37, 38, 39, 40, 41, 42, 43, 44, 45] [3] (P1Jv H1 (h0 ++ (pairPieces r.ps).flatten)) rfl (by repeat' first | exact Resp.retD | exact Resp1.valuesK | refine Resp.blockD ?_ | refine Resp.thenD ?_ ?_ | refine Resp.hcode ?_) ?_ ?_ | ((first | refine HReg.step ?_ | refine HCode.step ?_); first | refine hcutC (a := Code.seq (Code.region _ _ _) (Code.block _ _)) [3, 4, 23, 24, 25, 26, 27, 28, 29, 30, 31, 32, 33, 34, 35, 36, 37, 38, 39, 40, 41, 42, 43, 44, 45] [3] (P1Jv H1 (h0 ++ (pairPieces r.ps).flatten)) rfl (by repeat' first | exact Resp.retD | exact Resp1.valuesK | refine Resp.blockD ?_ | refine Resp.thenD ?_ ?_ | refine Resp.hcode ?_) ?_ ?_ | ((first | refine HReg.step ?_ | refine HCode.step ?_); first | refine hcutC (a := Code.seq (Code.region _ _ _) (Code.block _ _)) [3, 4, 23, 24, 25, 26, 27, 28, 29, 30, 31, 32, 33, 34, 35, 36, 37, 38, 39, 40, 41, 42, 43, 44, 45] [3] (P1Jv H1 (h0 ++ (pairPieces r.ps).flatten)) rfl (by repeat' first | exact Resp.retD | exact Resp1.valuesK | refine Resp.blockD ?_ | refine Resp.thenD ?_ ?_ | refine Resp.hcode ?_) ?_ ?_ | ((first | refine HReg.step ?_ | refine HCode.step ?_); first | refine hcutC (a := Code.seq (Code.region _ _ _) (Code.block _ _)) [3, 4, 23, 24, 25, 26, 27, 28, 29, 30, 31, 32, 33, 34, 35, 36, 37, 38, 39, 40, 41, 42, 43, 44, 45] [3] (P1Jv H1 (h0 ++ (pairPieces r.ps).flatten)) rfl (by repeat' first | exact Resp.retD | exact Resp1.valuesK | refine Resp.blockD ?_ | refine Resp.thenD ?_ ?_ | refine Resp.hcode ?_) ?_ ?_ | ((first | refine HReg.step ?_ | refine HCode.step ?_); first | refine hcutC (a := Code.seq (Code.region _ _ _) (Code.block _ _)) [3, 4, 23, 24, 25, 26, 27, 28, 29, 30, 31, 32, 33, 34, 35, 36, 37, 38, 39, 40, 41, 42, 43, 44, 45] [3] (P1Jv H1 (h0 ++ (pairPieces r.ps).flatten)) rfl (by repeat' first | exact Resp.retD | exact Resp1.valuesK | refine Resp.blockD ?_ | refine Resp.thenD ?_ ?_ | refine Resp.hcode ?_) ?_ ?_ | ((first | refine HReg.step ?_ | refine HCode.step ?_); first | refine hcutC (a := Code.seq (Code.region _ _ _) (Code.block _ _)) [3, 4, 23, 24, 25, 26, 27, 28, 29, 30, 31, 32, 33, 34, 35, 36, 37, 38, 39, 40, 41, 42, 43, 44, 45] [3] (P1Jv H1 (h0 ++ (pairPieces r.ps).flatten)) rfl (by repeat' first | exact Resp.retD | exact Resp1.valuesK | refine Resp.blockD ?_ | refine Resp.thenD ?_ ?_ | refine Resp.hcode ?_) ?_ ?_ | ((first | refine HReg.step ?_ | refine HCode.step ?_); first | refine hcutC (a := Code.seq (Code.region _ _ _) (Code.block _ _)) [3, 4, 23, 24, 25, 26, 27, 28, 29, 30, 31, 32, 33, 34, 35, 36, 37, 38, 39, 40, 41, 42, 43, 44, 45] [3] (P1Jv H1 (h0 ++ (pairPieces r.ps).flatten)) rfl (by repeat' first | exact Resp.retD | exact Resp1.valuesK | refine Resp.blockD ?_ | refine Resp.thenD ?_ ?_ | refine Resp.hcode ?_) ?_ ?_ | ((first | refine HReg.step ?_ | refine HCode.step ?_); first | refine hcutC (a := Code.seq (Code.region _ _ _) (Code.block _ _)) [3, 4, 23, 24, 25, 26, 27, 28, 29, 30, 31, 32, 33, 34, 35, 36, 37, 38, 39, 40, 41, 42, 43, 44, 45] [3] (P1Jv H1 (h0 ++ (pairPieces r.ps).flatten)) rfl (by repeat' first | exact Resp.retD | exact Resp1.valuesK | refine Resp.blockD ?_ | refine Resp.thenD ?_ ?_ | refine Resp.hcode ?_) ?_ ?_ | ((first | refine HReg.step ?_ | refine HCode.step ?_); first | refine hcutC (a := Code.seq (Code.region _ _ _) (Code.block _ _)) [3, 4, 23, 24, 25, 26, 27, 28, 29, 30, 31, 32, 33, 34, 35, 36, 37, 38, 39, 40, 41, 42, 43, 44, 45] [3] (P1Jv H1 (h0 ++ (pairPieces r.ps).flatten)) rfl (by repeat' first | exact Resp.retD | exact Resp1.valuesK | refine Resp.blockD ?_ | refine Resp.thenD ?_ ?_ | refine Resp.hcode ?_) ?_ ?_ | ((first | refine HReg.step ?_ | refine HCode.step ?_); first | refine hcutC (a := Code.seq (Code.region _ _ _) (Code.block _ _)) [3, 4, 23, 24, 25, 26, 27, 28, 29, 30, 31, 32, 33, 34, 35, 36, 37, 38, 39, 40, 41, 42, 43, 44, 45] [3] (P1Jv H1 (h0 ++ (pairPieces r.ps).flatten)) rfl (by repeat' first | exact Resp.retD | exact Resp1.valuesK | refine Resp.blockD ?_ | refine Resp.thenD ?_ ?_ | refine Resp.hcode ?_) ?_ ?_ | ((first | refine HReg.step ?_ | refine HCode.step ?_); first | refine hcutC (a := Code.seq (Code.region _ _ _) (Code.block _ _)) [3, 4, 23, 24, 25, 26, 27, 28, 29, 30, 31, 32, 33, 34, 35, 36, 37, 38, 39, 40, 41, 42, 43, 44, 45] [3] (P1Jv H1 (h0 ++ (pairPieces r.ps).flatten)) rfl (by repeat' first | exact Resp.retD | exact Resp1.valuesK | refine Resp.blockD ?_ | refine Resp.thenD ?_ ?_ | refine Resp.hcode ?_) ?_ ?_ | ((first | refine HReg.step ?_ | refine HCode.step ?_); first | refine hcutC (a := Code.seq (Code.region _ _ _) (Code.block _ _)) [3, 4, 23, 24, 25, 26, 27, 28, 29, 30, 31, 32, 33, 34, 35, 36, 37, 38, 39, 40, 41, 42, 43, 44, 45] [3] (P1Jv H1 (h0 ++ (pairPieces r.ps).flatten)) rfl (by repeat' first | exact Resp.retD | exact Resp1.valuesK | refine Resp.blockD ?_ | refine Resp.thenD ?_ ?_ | refine Resp.hcode ?_) ?_ ?_ | ((first | refine HReg.step ?_ | refine HCode.step ?_); first | refine hcutC (a := Code.seq (Code.region _ _ _) (Code.block _ _)) [3, 4, 23, 24, 25, 26, 27, 28, 29, 30, 31, 32, 33, 34, 35, 36, 37, 38, 39, 40, 41, 42, 43, 44, 45] [3] (P1Jv H1 (h0 ++ (pairPieces r.ps).flatten)) rfl (by repeat' first | exact Resp.retD | exact Resp1.valuesK | refine Resp.blockD ?_ | refine Resp.thenD ?_ ?_ | refine Resp.hcode ?_) ?_ ?_ | ((first | refine HReg.step ?_ | refine HCode.step ?_); first | refine hcutC (a := Code.seq (Code.region _ _ _) (Code.block _ _)) [3, 4, 23, 24, 25, 26, 27, 28, 29, 30, 31, 32, 33, 34, 35, 36, 37, 38, 39, 40, 41, 42, 43, 44, 45] [3] (P1Jv H1 (h0 ++ (pairPieces r.ps).flatten)) rfl (by repeat' first | exact Resp.retD | exact Resp1.valuesK | refine Resp.blockD ?_ | refine Resp.thenD ?_ ?_ | refine Resp.hcode ?_) ?_ ?_ | ((first | refine HReg.step ?_ | refine HCode.step ?_); first | refine hcutC (a := Code.seq (Code.region _ _ _) (Code.block _ _)) [3, 4, 23, 24, 25, 26, 27, 28, 29, 30, 31, 32, 33, 34, 35, 36, 37, 38, 39, 40, 41, 42, 43, 44, 45] [3] (P1Jv H1 (h0 ++ (pairPieces r.ps).flatten)) rfl (by repeat' first | exact Resp.retD | exact Resp1.valuesK | refine Resp.blockD ?_ | refine Resp.thenD ?_ ?_ | refine Resp.hcode ?_) ?_ ?_ | ((first | refine HReg.step ?_ | refine HCode.step ?_); first | refine hcutC (a := Code.seq (Code.region _ _ _) (Code.block _ _)) [3, 4, 23, 24, 25, 26, 27, 28, 29, 30, 31, 32, 33, 34, 35, 36, 37, 38, 39, 40, 41, 42, 43, 44, 45] [3] (P1Jv H1 (h0 ++ (pairPieces r.ps).flatten)) rfl (by repeat' first | exact Resp.retD | exact Resp1.valuesK | refine Resp.blockD ?_ | refine Resp.thenD ?_ ?_ | refine Resp.hcode ?_) ?_ ?_ | ((first | refine HReg.step ?_ | refine HCode.step ?_); first | refine hcutC (a := Code.seq (Code.region _ _ _) (Code.block _ _)) [3, 4, 23, 24, 25, 26, 27, 28, 29, 30, 31, 32, 33, 34, 35, 36, 37, 38, 39, 40, 41, 42, 43, 44, 45] [3] (P1Jv H1 (h0 ++ (pairPieces r.ps).flatten)) rfl (by repeat' first | exact Resp.retD | exact Resp1.valuesK | refine Resp.blockD ?_ | refine Resp.thenD ?_ ?_ | refine Resp.hcode ?_) ?_ ?_ | ((first | refine HReg.step ?_ | refine HCode.step ?_); first | refine hcutC (a := Code.seq (Code.region _ _ _) (Code.block _ _)) [3, 4, 23, 24, 25, 26, 27, 28, 29, 30, 31, 32, 33, 34, 35, 36, 37, 38, 39, 40, 41, 42, 43, 44, 45] [3] (P1Jv H1 (h0 ++ (pairPieces r.ps).flatten)) rfl (by repeat' first | exact Resp.retD | exact Resp1.valuesK | refine Resp.blockD ?_ | refine Resp.thenD ?_ ?_ | refine Resp.hcode ?_) ?_ ?_ | ((first | refine HReg.step ?_ | refine HCode.step ?_); first | refine hcutC (a := Code.seq (Code.region _ _ _) (Code.block _ _)) [3, 4, 23, 24, 25, 26, 27, 28, 29, 30, 31, 32, 33, 34, 35, 36, 37, 38, 39, 40, 41, 42, 43, 44, 45] [3] (P1Jv H1 (h0 ++ (pairPieces r.ps).flatten)) rfl (by repeat' first | exact Resp.retD | exact Resp1.valuesK | refine Resp.blockD ?_ | refine Resp.thenD ?_ ?_ | refine Resp.hcode ?_) ?_ ?_ | ((first | refine HReg.step ?_ | refine HCode.step ?_); first | refine hcutC (a := Code.seq (Code.region _ _ _) (Code.block _ _)) [3, 4, 23, 24, 25, 26, 27, 28, 29, 30, 31, 32, 33, 34, 35, 36, 37, 38, 39, 40, 41, 42, 43, 44, 45] [3] (P1Jv H1 (h0 ++ (pairPieces r.ps).flatten)) rfl (by repeat' first | exact Resp.retD | exact Resp1.valuesK | refine Resp.blockD ?_ | refine Resp.thenD ?_ ?_ | refine Resp.hcode ?_) ?_ ?_ | ((first | refine HReg.step ?_ | refine HCode.step ?_); first | refine hcutC (a := Code.seq (Code.region _ _ _) (Code.block _ _)) [3, 4, 23, 24, 25, 26, 27, 28, 29, 30, 31, 32, 33, 34, 35, 36, 37, 38, 39, 40, 41, 42, 43, 44, 45] [3] (P1Jv H1 (h0 ++ (pairPieces r.ps).flatten)) rfl (by repeat' first | exact Resp.retD | exact Resp1.valuesK | refine Resp.blockD ?_ | refine Resp.thenD ?_ ?_ | refine Resp.hcode ?_) ?_ ?_ | ((first | refine HReg.step ?_ | refine HCode.step ?_); first | refine hcutC (a := Code.seq (Code.region _ _ _) (Code.block _ _)) [3, 4, 23, 24, 25, 26, 27, 28, 29, 30, 31, 32, 33, 34, 35, 36, 37, 38, 39, 40, 41, 42, 43, 44, 45] [3] (P1Jv H1 (h0 ++ (pairPieces r.ps).flatten)) rfl (by repeat' first | exact Resp.retD | exact Resp1.valuesK | refine Resp.blockD ?_ | refine Resp.thenD ?_ ?_ | refine Resp.hcode ?_) ?_ ?_ | ((first | refine HReg.step ?_ | refine HCode.step ?_); refine hcutC (a := Code.seq (Code.region _ _ _) (Code.block _ _)) [3, 4, 23, 24, 25, 26, 27, 28, 29, 30, 31, 32, 33, 34, 35, 36, 37, 38, 39, 40, 41, 42, 43, 44, 45] [3] (P1Jv H1 (h0 ++ (pairPieces r.ps).flatten)) rfl (by repeat' first | exact Resp.retD | exact Resp1.valuesK | refine Resp.blockD ?_ | refine Resp.thenD ?_ ?_ | refine Resp.hcode ?_) ?_ ?_))))))))))))))))))))))))))))))))))))))))))))))))))))))))))))
  · (repeat first | refine HReg.step ?_ | refine HCode.step ?_)
    refine hloopC [3, 4, 23, 24, 25, 26, 27, 28, 29, 30, 31, 32, 33, 34, 35, 36, 37, 38, 39, 40, 41, 42, 43, 44, 45] [3, 4] (P1Iv H1 r h0) rfl (by repeat' first | exact Resp.retD | exact Resp1.valuesK | refine Resp.blockD ?_ | refine Resp.thenD ?_ ?_ | refine Resp.hcode ?_) ?_ ?_
    · exact ⟨r.ps.length, P1Iv.mk ⟨0, a4, c4, h0, rfl, rfl, by simp [pairPieces], m4⟩⟩
    rintro m _ fe H5 ⟨i, a5, c5, out, rfl, hmi, rfl, m5⟩
    have hpi := hpl i
    have hol : (h0 ++ (pairPieces (r.ps.take i)).flatten).length ≤ 1000000000 := by rw [List.length_append]; unfold pl at hpi; omega
    have wi : wr .i64 ((i : Int) + 1) = ((i + 1 : Nat) : Int) := by rw [wr_i64 (by omega) (by omega)]; omega
    have o5 := o1.upd m5.upd (Off.nil _)
    have hr5 := hr1.upd0 m5.upd
    (repeat first | refine HReg.step ?_ | refine HCode.step ?_)
    refine HLoad.one (v := .slice ap r.ps.length cp) (by exact o5.rows.get (i := 2) rfl) ?_
    (repeat first | refine HReg.step ?_ | refine HCode.step ?_)
    refine hif (fun h2 => ?_) (fun h2 => ?_)
    · have h2 := ltB_true.1 h2
      obtain ⟨p, hp⟩ : ∃ p, r.ps[i]? = some p := ⟨r.ps[i]'(by omega), by simp⟩
      obtain ⟨ba, bo, rfl, _⟩ := hr1.rp _ _ (pairsV_get hp).1
      have hs := hm.short.1 p (List.mem_of_getElem? hp)
      (repeat first | refine HReg.step ?_ | refine HCode.step ?_)
      refine HLoad.one (v := .slice (some ⟨ba, bo, none⟩) r.ps.length cp) (by exact o5.rows.get (i := 2) rfl) ?_
      (repeat first | refine HReg.step ?_ | refine HCode.step ?_)
      refine HReq.mk ⟨by omega, by omega⟩ ?_
      (repeat first | refine HReg.step ?_ | refine HCode.step ?_)
      refine HLoad.one (v := .string (bs p.1)) (by exact hr5.rp.get (pairsV_get hp).1) ?_
      (repeat first | refine HReg.step ?_ | refine HCode.step ?_)
      refine HCall.mk ⟨Tryz.f90, Tryz.func90, by rfl, by rfl⟩ ?_
      refine rtext_t' (H0 := H1) (s := p.1) rfl m5 (by omega) hs.1 fun a6 c6 H6 m6 => ?_
      have o6 := o1.upd m6.upd (Off.nil _)
      have hr6 := hr1.upd0 m6.upd
      (repeat first | refine HReg.step ?_ | refine HCode.step ?_)
      refine HLoad.one (v := .slice (some ⟨ba, bo, none⟩) r.ps.length cp) (by exact o6.rows.get (i := 2) rfl) ?_
      (repeat first | refine HReg.step ?_ | refine HCode.step ?_)
      refine HReq.mk ⟨by omega, by omega⟩ ?_
      (repeat first | refine HReg.step ?_ | refine HCode.step ?_)
      refine HLoad.one (v := .string (bs p.2)) (by exact hr6.rp.get (pairsV_get hp).2) ?_
      (repeat first | refine HReg.step ?_ | refine HCode.step ?_)
      refine HCall.mk ⟨Tryz.f90, Tryz.func90, by rfl, by rfl⟩ ?_
      refine rtext_t' (H0 := H1) (s := p.2) rfl m6 (by rw [List.length_append, textB_length]; omega) hs.2 fun a7 c7 H7 m7 => ?_
      (repeat first | refine HReg.step ?_ | refine HCode.step ?_)
      rw [wi]
      have e : (h0 ++ (pairPieces (r.ps.take i)).flatten ++ textB p.1) ++ textB p.2 = h0 ++ (pairPieces (r.ps.take (i + 1))).flatten := by
        rw [pieces_take hp, List.flatten_append]
        simp only [List.flatten_cons, List.flatten_nil, List.append_nil, List.append_assoc]
      rw [e] at m7 ⊢
      exact ⟨m - 1, by omega, P1Iv.mk ⟨i + 1, a7, c7, _, rfl, by omega, rfl, m7⟩⟩
    · have h2 := ltB_false.1 h2
      have hi : i = r.ps.length := by omega
      subst hi
      rw [List.take_length] at m5 ⊢
      (repeat first | refine HReg.step ?_ | refine HCode.step ?_)
      exact P1Jv.mk ⟨a5, c5, rfl, m5⟩
  rintro _ fe2 H5 ⟨a5, c5, rfl, m5⟩
  have o5 := o1.upd m5.upd (Off.nil _)
  have hpi := hpl r.ps.length
  unfold pl at hpi
  rw [List.take_length] at hpi
  have hol : (h0 ++ (pairPieces r.ps).flatten).length ≤ 1000000000 := by rw [List.length_append]; omega
  (repeat first | refine HReg.step ?_ | refine HCode.step ?_)
  refine HLoad.one (v := .slice ak r.ks.length ck) (by exact o5.rows.get (i := 3) rfl) ?_
  (repeat first | refine HReg.step ?_ | refine HCode.step ?_)
  rw [wq]
  refine HCall.mk ⟨Tryz.f66, Tryz.func66, by rfl, by rfl⟩ ?_
  refine rnum_t (H0 := H1) (v := r.ks.length) (n := 4) rfl m5 (by decide) (by omega) fun a6 c6 H6 m6 => ?_
  have hl6 : (h0 ++ (pairPieces r.ps).flatten).length + 4 = (h0 ++ (pairPieces r.ps).flatten ++ num r.ks.length 4).length := len_num _ _ _
  rw [hl6] at m6 ⊢
  have hpay : pay r = (h0 ++ (pairPieces r.ps).flatten ++ num r.ks.length 4) ++ r.ks.flatMap textB := by
    rw [pay1 h1, ← hhe]
    unfold textsB
    simp only [List.append_assoc]
  have hg : (h0 ++ (pairPieces r.ps).flatten ++ num r.ks.length 4).length ≤ 1000000100 := by omega
  generalize h0 ++ (pairPieces r.ps).flatten ++ num r.ks.length 4 = g0 at *
  (repeat first | refine HReg.step ?_ | refine HCode.step ?_)
  refine hloopC [3, 5, 52, 53, 54, 55, 56, 57, 58, 59, 60, 61, 62, 63, 64, 65] [3, 5] (P2Inv H1 r g0) rfl (by repeat' first | exact Resp.retD | exact Resp1.valuesK | refine Resp.blockD ?_ | refine Resp.thenD ?_ ?_ | refine Resp.hcode ?_) ?_ ?_
  · exact ⟨r.ks.length, P2Inv.mk ⟨0, a6, c6, g0, rfl, rfl, by simp, m6⟩⟩
  rintro m _ fe H7 ⟨i, a7, c7, out, rfl, hmi, rfl, m7⟩
  have hki := hkl i
  have hol7 : (g0 ++ (r.ks.take i).flatMap textB).length ≤ 2000000000 := by rw [List.length_append]; unfold kl at hki; omega
  have wi : wr .i64 ((i : Int) + 1) = ((i + 1 : Nat) : Int) := by rw [wr_i64 (by omega) (by omega)]; omega
  have o7 := o1.upd m7.upd (Off.nil _)
  have hr7 := hr1.upd0 m7.upd
  (repeat first | refine HReg.step ?_ | refine HCode.step ?_)
  refine HLoad.one (v := .slice ak r.ks.length ck) (by exact o7.rows.get (i := 3) rfl) ?_
  (repeat first | refine HReg.step ?_ | refine HCode.step ?_)
  refine hif (fun h2 => ?_) (fun h2 => ?_)
  · have h2 := ltB_true.1 h2
    obtain ⟨s, hs⟩ : ∃ p, r.ks[i]? = some p := ⟨r.ks[i]'(by omega), by simp⟩
    obtain ⟨ba, bo, rfl, _⟩ := hr1.rk _ _ (txts_get hs)
    have hsl := hm.short.2 s (List.mem_of_getElem? hs)
    (repeat first | refine HReg.step ?_ | refine HCode.step ?_)
    refine HLoad.one (v := .slice (some ⟨ba, bo, none⟩) r.ks.length ck) (by exact o7.rows.get (i := 3) rfl) ?_
    (repeat first | refine HReg.step ?_ | refine HCode.step ?_)
    refine HReq.mk ⟨by omega, by omega⟩ ?_
    (repeat first | refine HReg.step ?_ | refine HCode.step ?_)
    refine HLoad.one (v := .string (bs s)) (by exact hr7.rk.get (txts_get hs)) ?_
    (repeat first | refine HReg.step ?_ | refine HCode.step ?_)
    refine HCall.mk ⟨Tryz.f90, Tryz.func90, by rfl, by rfl⟩ ?_
    refine rtext_t' (H0 := H1) (s := s) rfl m7 (by omega) hsl fun a8 c8 H8 m8 => ?_
    (repeat first | refine HReg.step ?_ | refine HCode.step ?_)
    rw [wi]
    have e : (g0 ++ (r.ks.take i).flatMap textB) ++ textB s = g0 ++ (r.ks.take (i + 1)).flatMap textB := by
      rw [List.take_add_one, hs, List.flatMap_append, List.append_assoc]
      simp
    rw [e] at m8 ⊢
    exact ⟨m - 1, by omega, P2Inv.mk ⟨i + 1, a8, c8, _, rfl, by omega, rfl, m8⟩⟩
  · have h2 := ltB_false.1 h2
    have hi : i = r.ks.length := by omega
    subst hi
    rw [List.take_length, ← hpay] at m7 ⊢
    (repeat first | refine HReg.step ?_ | refine HCode.step ?_)
    exact hk a7 c7 H7 (m7.back u1)
end
end Go.Proofs.YtfcmjomnpahllaaGreat
namespace Go.Proofs.YtfcmjomnpahllaaGreat
open Go Hv
set_option linter.unusedVariables false
set_option linter.unusedSimpArgs false
set_option maxRecDepth 10000
set_option maxHeartbeats 2000000
theorem build_ok {r : Rec} (h : May r) (hp : (pay r).length ≤ 1048576) : buildR r = (frameR (pay r), 0) := by
  unfold buildR
  rw [if_neg (fun hh => hh h), if_neg (by omega)]
theorem build_no {r : Rec} (h : ¬ May r) : buildR r = ([], 1) := if_pos h
/-! The document's Build -/
section
variable {H : Heap} {K : Value → Heap → Prop}
theorem rbuild_t {r : Rec} {ap ak : Option Addr} {cp ck : Nat} (hr : RecIn H r ap ak)
    (hk : ∀ a c H', Made H H' 5 1 a (buildR r).1.length c (u8s (buildR r).1) → K (.tuple #[.slice a (buildR r).1.length c, .int .i64 (buildR r).2]) H') : HCalls Tryz.prog 41 [rv r ap cp ak ck] H K := by
  refine hcalls (fn := Tryz.f41) [] mixed Tryz.func41 rfl rfl (by decide +kernel) ?_
  (repeat first | refine HReg.step ?_ | refine HCode.step ?_)
  refine HNew.mk fun b1 hb1 => ?_
  have u1 : Upd [] H (H.upd b1 (.cells (rcells r ap cp ak ck).toArray 41)) := Upd.new hb1 _
  have o1 : OwnRow (H.upd b1 (.cells (rcells r ap cp ak ck).toArray 41)) 41 1 (some ⟨b1, 0, none⟩) 4 4 (rcells r ap cp ak ck) := OwnRow.lit (upd_same _ _ _) rfl
  have hH' : H.upd b1 (.cells [Value.int .i64 r.kind, .int .u64 (r.id : Int), .slice ap r.ps.length cp, .slice ak r.ks.length ck].toArray 41) = H.upd b1 (.cells (rcells r ap cp ak ck).toArray 41) := rfl
  rw [hH']
  generalize hH1 : H.upd b1 (.cells (rcells r ap cp ak ck).toArray 41) = H1 at u1 o1
  have hr1 := hr.upd0 u1
  have nil : ∀ {H9 : Heap}, Upd [] H H9 → Made H H9 5 1 none ([] : List UInt8).length 0 (u8s []) := fun u => ⟨OwnRow.nil _ _ _, u, fun p hp => by cases hp⟩
  (repeat first | refine HReg.step ?_ | refine HCode.step ?_)
  refine HLoadN_row o1.rows rfl ?_
  (repeat first | refine HReg.step ?_ | refine HCode.step ?_)
  refine HCall.mk ⟨Tryz.f63, Tryz.func63, by rfl, by rfl⟩ ?_
  refine rmay_t hr1 fun t H2 ht u2 => ?_
  cases t with
  | false =>
    have hno : ¬ May r := fun h => by have := ht.2 h; cases this
    have hb := build_no hno
    rw [hb] at hk
    (repeat first | refine HReg.step ?_ | refine HCode.step ?_)
    exact hk none 0 H2 (nil (u1.trans u2))
  | true =>
    have hm := ht.1 rfl
    have o2 := o1.upd u2 (Off.nil _)
    have hr2 := hr1.upd0 u2
    (repeat first | refine HReg.step ?_ | refine HCode.step ?_)
    refine HLoadN_row o2.rows rfl ?_
    (repeat first | refine HReg.step ?_ | refine HCode.step ?_)
    refine HCall.mk ⟨Tryz.f64, Tryz.func64, by rfl, by rfl⟩ ?_
    refine rlong_t hr2 hm fun H3 u3 => ?_
    (repeat first | refine HReg.step ?_ | refine HCode.step ?_)
    refine hif (fun h1 => ?_) (fun h1 => ?_)
    · have h1 := ltB_true.1 h1
      have hb : buildR r = ([], 3) := by
        unfold buildR
        rw [if_neg (fun h => h hm), if_pos (by omega)]
      rw [hb] at hk
      (repeat first | refine HReg.step ?_ | refine HCode.step ?_)
      exact hk none 0 H3 (nil (u1.trans (u2.trans u3)))
    have h1 := ltB_false.1 h1
    have hb := build_ok hm (by omega)
    have e1 : (buildR r).1 = frameR (pay r) := by rw [hb]
    have e2 : (buildR r).2 = 0 := by rw [hb]
    rw [e1, e2] at hk
    have o3 := o2.upd u3 (Off.nil _)
    have hr3 := hr2.upd0 u3
    (repeat first | refine HReg.step ?_ | refine HCode.step ?_)
    refine HLoadN_row o3.rows rfl ?_
    (repeat first | refine HReg.step ?_ | refine HCode.step ?_)
    refine HCall.mk ⟨Tryz.f65, Tryz.func65, by rfl, by rfl⟩ ?_
    refine rpayload_t hr3 hm fun a4 c4 H4 m4 => ?_
    have wl : wr .u64 ((pay r).length : Int) = ((pay r).length : Int) := by rw [wr_u64]; omega
    have wc : wr .u64 (((Crc.crc 0#32 (pay r)).toNat : Nat) : Int) = ((crcN (pay r) : Nat) : Int) := by
      have := crcN_lt (pay r)
      rw [wr_u64]
      show ((crcN (pay r) : Nat) : Int) % _ = _
      omega
    (repeat first | refine HReg.step ?_ | refine HCode.step ?_)
    rw [wl]
    refine HCall.mk ⟨Tryz.f66, Tryz.func66, by rfl, by rfl⟩ ?_
    refine rnum_t (H0 := H4) (v := (pay r).length) (n := 4) (b := []) rfl (made_nil H4 5 1) (by decide) (by simp) fun a5 c5 H5 m5 => ?_
    have r5 := m4.own.rows.upd (S := []) m5.upd (.inr (Off.nil _))
    (repeat first | refine HReg.step ?_ | refine HCode.step ?_)
    refine HCall.mk ⟨Tryz.f67, Tryz.func67, by rfl, by rfl⟩ ?_
    refine rcrc_t r5 rfl (by omega) ?_
    unfold Sum.u32
    (repeat first | refine HReg.step ?_ | refine HCode.step ?_)
    rw [wc]
    refine HCall.mk ⟨Tryz.f66, Tryz.func66, by rfl, by rfl⟩ ?_
    refine rnum_t (H0 := H4) (v := crcN (pay r)) (n := 4) (b := [] ++ num (pay r).length 4) (by rw [List.length_append, num_length]) m5 (by decide) (by rw [List.length_append, num_length]; simp only [List.length_nil]; omega) fun a6 c6 H6 m6 => ?_
    have r6 := m4.own.rows.upd (S := []) m6.upd (.inr (Off.nil _))
    (repeat first | refine HReg.step ?_ | refine HCode.step ?_)
    refine append_made m6 r6 rfl (by rw [List.length_append, num_length]; simp only [List.length_nil]; omega) fun a7 c7 H7 m7 => ?_
    (repeat first | refine HReg.step ?_ | refine HCode.step ?_)
    have e : ([] ++ num (pay r).length 4 ++ num (crcN (pay r)) 4) ++ pay r = frameR (pay r) := by
      unfold frameR; rw [List.nil_append]
    have hl : ([] ++ num (pay r).length 4 : List UInt8).length + 4 + (pay r).length = (frameR (pay r)).length := by
      rw [frame_len, List.length_append, num_length]; simp
    rw [e, hl] at m7
    have := hk a7 c7 H7 (m7.back (u1.trans (u2.trans (u3.trans m4.upd))))
    rw [← hl] at this
    exact this
end
end Go.Proofs.YtfcmjomnpahllaaGreat
namespace Go.Proofs.YtfcmjomnpahllaaGreat
open Go Hv
set_option linter.unusedVariables false
set_option linter.unusedSimpArgs false
set_option maxRecDepth 10000
set_option maxHeartbeats 2000000
/-! The document's get, piece -/
/-- A number of n bytes at a place; beyond the end the bytes are 0. -/
def getR (l : List UInt8) (at_ : Nat) : Nat → Nat
  | 0 => 0
  | n + 1 => getR l at_ n * 256 + (match l[at_ + n]? with | some c => c.toNat | none => 0)
theorem getR_lt (l : List UInt8) (a : Nat) : ∀ n, getR l a n < 256 ^ n
  | 0 => by show 0 < 1; decide
  | n + 1 => by
    have ih := getR_lt l a n
    have hc : (match l[a + n]? with | some c => c.toNat | none => 0) < 256 := by
      cases l[a + n]? with
      | none => show (0 : Nat) < 256; decide
      | some c => exact c.toNat_lt
    show getR l a n * 256 + _ < 256 ^ (n + 1)
    rw [Nat.pow_succ]
    omega
structure GeInv (l : List UInt8) (a n : Nat) (H : Heap) (m : Nat) (vs : List Value) (H' : Heap) : Prop where
  ex : ∃ i : Nat, vs = [.int .u64 (getR l a i : Int), .int .i64 (i : Int)] ∧ m + i = n ∧ H' = H
structure GeJ (l : List UInt8) (a i : Nat) (H : Heap) (vs : List Value) (H' : Heap) : Prop where
  ex : vs = [.int .u64 (getR l a (i + 1) : Int)] ∧ H' = H
section
variable {H : Heap} {K : Value → Heap → Prop}
theorem get_t {a : Option Addr} {L c p n : Nat} {l : List UInt8} (hr : RowAt H a (u8s l)) (hl : l.length = L) (hlim : L ≤ 1000000000000) (hp : p ≤ 1000000000000) (hn : n ≤ 8)
    (hk : K (.int .u64 (getR l p n : Int)) H) : HCalls Tryz.prog 74 [.slice a L c, .int .i64 (p : Int), .int .i64 (n : Int)] H K := by
  refine hcalls (fn := Tryz.f74) [] mixed Tryz.func74 rfl rfl (by decide +kernel) ?_
  subst hl
  (repeat first | refine HReg.step ?_ | refine HCode.step ?_)
  refine hloopC [7, 8, 9, 10, 11, 12, 13, 14, 15, 16, 17, 18, 19, 20, 21, 22, 23, 24, 25, 26, 27, 28, 29, 30] [7, 8] (GeInv l p n H) rfl (by repeat' first | exact Resp.retD | exact Resp1.valuesK | refine Resp.blockD ?_ | refine Resp.thenD ?_ ?_ | refine Resp.hcode ?_) ?_ ?_
  · exact ⟨n, GeInv.mk ⟨0, rfl, rfl, rfl⟩⟩
  rintro m _ fe H1 ⟨i, rfl, hmi, rfl⟩
  have wi : wr .i64 ((i : Int) + 1) = ((i + 1 : Nat) : Int) := by rw [wr_i64 (by omega) (by omega)]; omega
  have wa : wr .i64 ((p : Int) + (i : Int)) = ((p + i : Nat) : Int) := by rw [wr_i64 (by omega) (by omega)]; omega
  (repeat first | refine HReg.step ?_ | refine HCode.step ?_)
  refine hif (fun h1 => ?_) (fun h1 => ?_)
  · have h1 := ltB_true.1 h1
    have hlt := getR_lt l p i
    have hlt1 := getR_lt l p (i + 1)
    have hpow : 256 ^ (i + 1) ≤ 256 ^ 8 := Nat.pow_le_pow_right (by decide) (by omega)
    have h8 : 256 ^ 8 = 18446744073709551616 := by decide
    have hstep : getR l p (i + 1) = getR l p i * 256 + (match l[p + i]? with | some c => c.toNat | none => 0) := rfl
    have wm : wr .u64 ((getR l p i : Int) * 256) = ((getR l p i * 256 : Nat) : Int) := by
      rw [wr_u64]; omega
    (repeat first | refine HReg.step ?_ | refine HCode.step ?_)
    rw [wa]
    refine hif (fun h2 => ?_) (fun h2 => ?_)
    · have h2 := ltB_true.1 h2
      obtain ⟨x, hx⟩ : ∃ x, l[p + i]? = some x := ⟨l[p + i]'(by omega), by simp⟩
      obtain ⟨ba, bo, rfl, _⟩ := hr _ _ (u8s_get hx)
      have hx0 := x.toNat_lt
      rw [hx] at hstep
      have hstep : getR l p (i + 1) = getR l p i * 256 + x.toNat := hstep
      have wx : wr .u64 (x.toNat : Int) = (x.toNat : Int) := by rw [wr_u64]; omega
      have ws : wr .u64 (((getR l p i * 256 : Nat) : Int) + (x.toNat : Int)) = ((getR l p (i + 1) : Nat) : Int) := by
        rw [wr_u64, hstep]; omega
      (repeat first | refine HReg.step ?_ | refine HCode.step ?_)
      rw [wa]
      refine HReq.mk ⟨by omega, by omega⟩ ?_
      (repeat first | refine HReg.step ?_ | refine HCode.step ?_)
      refine HLoad.one (v := u8 x) (by exact hr.get (u8s_get hx)) ?_
      (repeat first | refine HReg.step ?_ | refine HCode.step ?_)
      rw [wi, wm, wx, ws]
      exact ⟨m - 1, by omega, GeInv.mk ⟨i + 1, rfl, by omega, rfl⟩⟩
    · have h2 := ltB_false.1 h2
      rw [List.getElem?_eq_none (by omega)] at hstep
      have hstep : getR l p (i + 1) = getR l p i * 256 + 0 := hstep
      (repeat first | refine HReg.step ?_ | refine HCode.step ?_)
      rw [wi, wm]
      exact ⟨m - 1, by omega, GeInv.mk ⟨i + 1, by rw [hstep]; rfl, by omega, rfl⟩⟩
  · have h1 := ltB_false.1 h1
    have hi : i = n := by omega
    subst hi
    (repeat first | refine HReg.step ?_ | refine HCode.step ?_)
    exact hk
end
end Go.Proofs.YtfcmjomnpahllaaGreat
namespace Go.Proofs.YtfcmjomnpahllaaGreat
open Go Hv
set_option linter.unusedVariables false
set_option linter.unusedSimpArgs false
set_option maxRecDepth 10000
set_option maxHeartbeats 2000000
theorem num_val : ∀ (l : List UInt8), num (val l) l.length = l := by
  have key : ∀ (l : List UInt8) (v : Nat), v % 256 ^ l.length = val l → num v l.length = l := by
    intro l
    induction l with
    | nil => intro v _; rfl
    | cons c l ih =>
      intro v hv
      rw [val_cons, List.length_cons] at hv
      have hlt := val_lt l
      have hpos : 0 < 256 ^ l.length := Nat.pow_pos (by decide)
      have h1 : v % 256 ^ l.length = val l := by
        have e := Nat.mod_mod_of_dvd v (Nat.dvd_mul_left (256 ^ l.length) 256)
        rw [Nat.mul_comm 256, ← Nat.pow_succ] at e
        rw [← e, hv, Nat.mul_comm, Nat.mul_add_mod, Nat.mod_eq_of_lt hlt]
      have h2 : v / 256 ^ l.length % 256 = c.toNat := by
        have e : v % 256 ^ (l.length + 1) / 256 ^ l.length = v / 256 ^ l.length % 256 := by
          rw [Nat.pow_succ, Nat.mod_mul_right_div_self]
        rw [← e, hv, Nat.mul_comm, Nat.mul_add_div hpos, Nat.div_eq_of_lt hlt, Nat.add_zero]
      show UInt8.ofNat (v / 256 ^ l.length) :: num v l.length = c :: l
      rw [ih v h1]
      congr 1
      apply UInt8.toNat.inj
      rw [UInt8.toNat_ofNat']
      exact h2
  exact fun l => key l (val l) (Nat.mod_eq_of_lt (val_lt l))
theorem text_inv {r : R} {most : Int} (h : (r.text most).2.err = 0) : r.err = 0 ∧ r.rest = textB (r.text most).1 ++ (r.text most).2.rest := by
  unfold R.text at h ⊢
  by_cases h1 : r.err ≠ 0
  · rw [if_pos h1] at h; exact absurd h h1
  rw [if_neg h1] at h ⊢
  by_cases h2 : r.rest.length < 4
  · rw [if_pos h2] at h; exact absurd (show (4 : Int) = 0 from h) (by decide)
  rw [if_neg h2] at h ⊢
  by_cases h3 : (val (r.rest.take 4) : Int) > max most 0
  · rw [if_pos h3] at h; exact absurd (show (3 : Int) = 0 from h) (by decide)
  rw [if_neg h3] at h ⊢
  by_cases h4 : r.rest.length - 4 < val (r.rest.take 4)
  · rw [if_pos h4] at h; exact absurd (show (4 : Int) = 0 from h) (by decide)
  rw [if_neg h4]
  refine ⟨Classical.not_not.1 h1, ?_⟩
  show r.rest = textB ((r.rest.drop 4).take (val (r.rest.take 4))) ++ r.rest.drop (4 + val (r.rest.take 4))
  have hl : (r.rest.take 4).length = 4 := by rw [List.length_take]; omega
  have hl2 : ((r.rest.drop 4).take (val (r.rest.take 4))).length = val (r.rest.take 4) := by rw [List.length_take, List.length_drop]; omega
  have := num_val (r.rest.take 4)
  rw [hl] at this
  unfold textB
  rw [hl2, this, List.append_assoc, ← List.drop_drop, List.take_append_drop, List.take_append_drop]
theorem count_inv {r : R} {most : Int} (h : (r.count most).2.err = 0) : r.err = 0 ∧ r.rest = num (r.count most).1 4 ++ (r.count most).2.rest := by
  unfold R.count at h ⊢
  by_cases h1 : r.err ≠ 0
  · rw [if_pos h1] at h; exact absurd h h1
  rw [if_neg h1] at h ⊢
  by_cases h2 : r.rest.length < 4
  · rw [if_pos h2] at h; exact absurd (show (4 : Int) = 0 from h) (by decide)
  rw [if_neg h2] at h ⊢
  by_cases h3 : (val (r.rest.take 4) : Int) > max most 0
  · rw [if_pos h3] at h; exact absurd (show (3 : Int) = 0 from h) (by decide)
  rw [if_neg h3]
  refine ⟨Classical.not_not.1 h1, ?_⟩
  show r.rest = num (val (r.rest.take 4)) 4 ++ r.rest.drop 4
  have hl : (r.rest.take 4).length = 4 := by rw [List.length_take]; omega
  have := num_val (r.rest.take 4)
  rw [hl] at this
  rw [this, List.take_append_drop]
theorem many_inv {each : Int} : ∀ (n : Nat) {r : R}, (R.many each n r).2.err = 0 → r.err = 0 ∧ r.rest = (R.many each n r).1.flatMap textB ++ (R.many each n r).2.rest ∧ (R.many each n r).1.length = n
  | 0, r, h => ⟨h, rfl, rfl⟩
  | n + 1, r, h => by
    by_cases he : (r.text each).2.err = 0
    · rw [many_step each n r he] at h ⊢
      have ⟨h1, h2, h3⟩ := many_inv n (r := (r.text each).2) h
      obtain ⟨t1, t2⟩ := text_inv he
      refine ⟨t1, ?_, by rw [List.length_cons, h3]⟩
      rw [List.flatMap_cons, List.append_assoc, ← h2]
      exact t2
    · rw [many_stop each n r he] at h
      exact absurd h he
theorem pairs_inv : ∀ (n : Nat) {r : R}, (pairsP n r).2.err = 0 → r.err = 0 ∧ r.rest = (pairPieces (pairsP n r).1).flatten ++ (pairsP n r).2.rest ∧ (pairsP n r).1.length = n
  | 0, r, h => ⟨h, rfl, rfl⟩
  | n + 1, r, h => by
    by_cases he : r.err = 0
    · have e : pairsP (n + 1) r = (((r.text 65535).1, ((r.text 65535).2.text 65535).1) :: (pairsP n ((r.text 65535).2.text 65535).2).1, (pairsP n ((r.text 65535).2.text 65535).2).2) := by
        show (if r.err ≠ 0 then _ else _) = _
        rw [if_neg (fun h => h he)]
      rw [e] at h ⊢
      have ⟨h1, h2, h3⟩ := pairs_inv n (r := ((r.text 65535).2.text 65535).2) h
      obtain ⟨t1, t2⟩ := text_inv h1
      obtain ⟨s1, s2⟩ := text_inv t1
      refine ⟨he, ?_, by rw [List.length_cons, h3]⟩
      have ep : (pairPieces (((r.text 65535).1, ((r.text 65535).2.text 65535).1) :: (pairsP n ((r.text 65535).2.text 65535).2).1)).flatten = textB (r.text 65535).1 ++ (textB ((r.text 65535).2.text 65535).1 ++ (pairPieces (pairsP n ((r.text 65535).2.text 65535).2).1).flatten) := by
        unfold pairPieces
        rw [List.flatMap_cons]
        simp only [List.cons_append, List.nil_append, List.flatten_cons, List.append_assoc]
      rw [ep, List.append_assoc, List.append_assoc, ← h2, ← t2]
      exact s2
    · rw [pairsP_err he] at h
      exact absurd h he
theorem number_inv {r : R} {n : Nat} (h : (r.number n).2.err = 0) : r.err = 0 ∧ r.rest = num (r.number n).1 n ++ (r.number n).2.rest := by
  unfold R.number at h ⊢
  by_cases h1 : r.err ≠ 0
  · rw [if_pos h1] at h; exact absurd h h1
  rw [if_neg h1] at h ⊢
  by_cases h2 : r.rest.length < n
  · rw [if_pos h2] at h; exact absurd (show (4 : Int) = 0 from h) (by decide)
  rw [if_neg h2]
  refine ⟨Classical.not_not.1 h1, ?_⟩
  show r.rest = num (val (r.rest.take n)) n ++ r.rest.drop n
  have hl : (r.rest.take n).length = n := by rw [List.length_take]; omega
  have := num_val (r.rest.take n)
  rw [hl] at this
  rw [this, List.take_append_drop]
theorem texts_inv {r : R} {most each : Int} (h : (r.texts most each).2.err = 0) : r.err = 0 ∧ r.rest = textsB (r.texts most each).1 ++ (r.texts most each).2.rest := by
  unfold R.texts at h ⊢
  by_cases h1 : (R.many each (r.count most).1 (r.count most).2).2.err ≠ 0
  · rw [if_pos h1] at h; exact absurd h h1
  rw [if_neg h1]
  have ⟨m1, m2, m3⟩ := many_inv _ (Classical.not_not.1 h1)
  obtain ⟨c1, c2⟩ := count_inv m1
  refine ⟨c1, ?_⟩
  unfold textsB
  rw [m3, List.append_assoc, ← m2]
  exact c2
theorem fin_zero {r : R} (h : r.fin = 0) : r.err = 0 ∧ r.rest = [] := by
  unfold R.fin at h
  by_cases h1 : r.err = 0 ∧ 0 < r.rest.length
  · rw [if_pos h1] at h; exact absurd h (by decide)
  · rw [if_neg h1] at h
    refine ⟨h, ?_⟩
    cases hr : r.rest with
    | nil => rfl
    | cons x l => exact absurd ⟨h, by rw [hr]; simp⟩ h1
theorem pay_read {l : List UInt8} (h : ReadOk l) : pay (readR l).1 = l := by
  obtain ⟨hf, hm⟩ := h
  obtain ⟨hf1, hf2⟩ := fin_zero hf
  unfold readR at hf1 hf2 hm ⊢
  by_cases h1 : ((⟨l, 0⟩ : R).number 1).1 = 1
  · rw [if_pos h1] at hf1 hf2 hm ⊢
    have ⟨t1, t2⟩ := texts_inv hf1
    have ⟨p1, p2, p3⟩ := pairs_inv _ t1
    obtain ⟨c1, c2⟩ := count_inv p1
    obtain ⟨n1, n2⟩ := number_inv c1
    obtain ⟨m1, m2⟩ := number_inv n1
    rw [pay1 rfl]
    have m2 : l = num ((⟨l, 0⟩ : R).number 1).1 1 ++ ((⟨l, 0⟩ : R).number 1).2.rest := m2
    refine Eq.trans ?_ m2.symm
    rw [h1]
    congr 1
    rw [n2]
    congr 1
    rw [c2]
    show num (pairsP _ _).1.length 4 ++ _ = _
    rw [p3]
    congr 1
    rw [p2]
    congr 1
    rw [t2, hf2, List.append_nil]
  · rw [if_neg h1] at hf1 hf2 hm ⊢
    have n1 := number_inv (r := ((⟨l, 0⟩ : R).number 1).2) (n := 8) hf1
    obtain ⟨m1, m2⟩ := number_inv n1.1
    have m2 : l = num ((⟨l, 0⟩ : R).number 1).1 1 ++ ((⟨l, 0⟩ : R).number 1).2.rest := m2
    have hk : ((((⟨l, 0⟩ : R).number 1).1 : Nat) : Int) = 2 := by
      rcases hm.kind with hk | hk
      · have hk : ((((⟨l, 0⟩ : R).number 1).1 : Nat) : Int) = 1 := hk
        omega
      · exact hk
    have hk2 : ((⟨l, 0⟩ : R).number 1).1 = 2 := by omega
    rw [pay2 (r := ⟨((((⟨l, 0⟩ : R).number 1).1 : Nat) : Int), (((⟨l, 0⟩ : R).number 1).2.number 8).1, [], []⟩) hk]
    refine Eq.trans ?_ m2.symm
    rw [hk2]
    congr 1
    rw [n1.2, hf2, List.append_nil]
/-! What the document reads off a payload -/
theorem getR_val {l x A B : List UInt8} (hl : l = A ++ (x ++ B)) : ∀ n, n ≤ x.length → getR l A.length n = val (x.take n)
  | 0, _ => by rw [List.take_zero]; rfl
  | n + 1, h => by
    have ih := getR_val hl n (by omega)
    have hx : l[A.length + n]? = some (x[n]'(by omega)) := by
      rw [hl, List.getElem?_append_right (by omega), Nat.add_sub_cancel_left, List.getElem?_append_left (by omega)]
      simp
    show getR l A.length n * 256 + (match l[A.length + n]? with | some c => c.toNat | none => 0) = _
    rw [hx, ih]
    exact (val_take (l := x) (i := n) (x := x[n]'(by omega)) (by simp)).symm
theorem getR_num (A B : List UInt8) (v n : Nat) : getR (A ++ (num v n ++ B)) A.length n = v % 256 ^ n := by
  rw [getR_val rfl n (by rw [num_length]; exact Nat.le_refl _), List.take_of_length_le (by rw [num_length]; exact Nat.le_refl _), val_num]
def pieceR (l : List UInt8) (at_ : Nat) : Txt × Nat :=
  ((l.drop (min (at_ + 4) l.length)).take (min (min (at_ + 4) l.length + getR l at_ 4) l.length - min (at_ + 4) l.length), at_ + 4 + getR l at_ 4)
theorem pieceR_text (A s B : List UInt8) (hs : s.length < 4294967296) : pieceR (A ++ (textB s ++ B)) A.length = (s, A.length + (textB s).length) := by
  have hg : getR (A ++ (textB s ++ B)) A.length 4 = s.length := by
    have e : A ++ (textB s ++ B) = A ++ (num s.length 4 ++ (s ++ B)) := by unfold textB; rw [List.append_assoc]
    rw [e, getR_num]; exact Nat.mod_eq_of_lt hs
  have hl : (A ++ (textB s ++ B)).length = A.length + (4 + s.length + B.length) := by rw [List.length_append, List.length_append, textB_length]
  have hd : (A ++ (textB s ++ B)).drop (A.length + 4) = s ++ B := by
    have e : A ++ (textB s ++ B) = (A ++ num s.length 4) ++ (s ++ B) := by unfold textB; simp only [List.append_assoc]
    rw [e, List.drop_left' (by rw [List.length_append, num_length])]
  unfold pieceR
  rw [hg, hl, Nat.min_eq_left (by omega), Nat.min_eq_left (by omega), hd, textB_length, Nat.add_sub_cancel_left, List.take_append_of_le_length (Nat.le_refl _), List.take_of_length_le (Nat.le_refl _), Nat.add_assoc]
def prR (l : List UInt8) : Nat → Nat → List (Txt × Txt) × Nat
  | 0, a => ([], a)
  | n + 1, a => if a < l.length then (((pieceR l a).1, (pieceR l (pieceR l a).2).1) :: (prR l n (pieceR l (pieceR l a).2).2).1, (prR l n (pieceR l (pieceR l a).2).2).2) else ([], a)
def ksR (l : List UInt8) : Nat → Nat → List Txt × Nat
  | 0, a => ([], a)
  | n + 1, a => if a < l.length then ((pieceR l a).1 :: (ksR l n (pieceR l a).2).1, (ksR l n (pieceR l a).2).2) else ([], a)
def candR (l : List UInt8) : Rec :=
  if getR l 0 1 = 1 then ⟨1, getR l 1 8, (prR l (getR l 9 4) 13).1, (ksR l (getR l (prR l (getR l 9 4) 13).2 4) ((prR l (getR l 9 4) 13).2 + 4)).1⟩
  else ⟨(getR l 0 1 : Int), getR l 1 8, [], []⟩
theorem prR_back : ∀ (ps : List (Txt × Txt)) (A B l : List UInt8), l = A ++ ((pairPieces ps).flatten ++ B) → (∀ p ∈ ps, p.1.length ≤ 65535 ∧ p.2.length ≤ 65535) → prR l ps.length A.length = (ps, A.length + (pairPieces ps).flatten.length)
  | [], A, B, l, _, _ => rfl
  | p :: ps, A, B, l, hl, h => by
    have hp := h p List.mem_cons_self
    have e : (pairPieces (p :: ps)).flatten = textB p.1 ++ (textB p.2 ++ (pairPieces ps).flatten) := by
      unfold pairPieces
      rw [List.flatMap_cons]
      simp only [List.cons_append, List.nil_append, List.flatten_cons, List.append_assoc]
    have l1 : l = A ++ (textB p.1 ++ (textB p.2 ++ ((pairPieces ps).flatten ++ B))) := by rw [hl, e]; simp only [List.append_assoc]
    have l2 : l = (A ++ textB p.1) ++ (textB p.2 ++ ((pairPieces ps).flatten ++ B)) := by rw [l1]; simp only [List.append_assoc]
    have l3 : l = (A ++ textB p.1 ++ textB p.2) ++ ((pairPieces ps).flatten ++ B) := by rw [l1]; simp only [List.append_assoc]
    have e1 : pieceR l A.length = (p.1, A.length + (textB p.1).length) := by rw [l1]; exact pieceR_text A p.1 _ (by omega)
    have e2 : pieceR l (A.length + (textB p.1).length) = (p.2, A.length + (textB p.1).length + (textB p.2).length) := by
      have := pieceR_text (A ++ textB p.1) p.2 ((pairPieces ps).flatten ++ B) (by omega)
      rw [← l2, List.length_append] at this; exact this
    have ih := prR_back ps (A ++ textB p.1 ++ textB p.2) B l l3 (fun q hq => h q (List.mem_cons_of_mem _ hq))
    rw [List.length_append, List.length_append] at ih
    have hlt : A.length < l.length := by rw [l1, List.length_append, List.length_append, textB_length]; omega
    show (if A.length < l.length then _ else _) = _
    rw [if_pos hlt, e1]
    show (((p.1, (pieceR l (A.length + (textB p.1).length)).1) :: (prR l ps.length (pieceR l (A.length + (textB p.1).length)).2).1), (prR l ps.length (pieceR l (A.length + (textB p.1).length)).2).2) = _
    rw [e2]
    show ((p.1, p.2) :: (prR l ps.length (A.length + (textB p.1).length + (textB p.2).length)).1, (prR l ps.length (A.length + (textB p.1).length + (textB p.2).length)).2) = _
    rw [ih, e, List.length_append, List.length_append]
    simp only [Nat.add_assoc]
theorem ksR_back : ∀ (ks : List Txt) (A B l : List UInt8), l = A ++ (ks.flatMap textB ++ B) → (∀ p ∈ ks, p.length ≤ 65535) → ksR l ks.length A.length = (ks, A.length + (ks.flatMap textB).length)
  | [], A, B, l, _, _ => rfl
  | s :: ks, A, B, l, hl, h => by
    have hp := h s List.mem_cons_self
    have l1 : l = A ++ (textB s ++ (ks.flatMap textB ++ B)) := by rw [hl, List.flatMap_cons]; simp only [List.append_assoc]
    have l2 : l = (A ++ textB s) ++ (ks.flatMap textB ++ B) := by rw [l1]; simp only [List.append_assoc]
    have e1 : pieceR l A.length = (s, A.length + (textB s).length) := by rw [l1]; exact pieceR_text A s _ (by omega)
    have ih := ksR_back ks (A ++ textB s) B l l2 (fun q hq => h q (List.mem_cons_of_mem _ hq))
    rw [List.length_append] at ih
    have hlt : A.length < l.length := by rw [l1, List.length_append, List.length_append, textB_length]; omega
    show (if A.length < l.length then _ else _) = _
    rw [if_pos hlt, e1]
    show (s :: (ksR l ks.length (A.length + (textB s).length)).1, (ksR l ks.length (A.length + (textB s).length)).2) = _
    rw [ih, List.flatMap_cons, List.length_append]
    simp only [Nat.add_assoc]
theorem cand_pay {z : Rec} (h : May z) (hid : z.id < 18446744073709551616) : candR (pay z) = z := by
  obtain ⟨kind, id, ps, ks⟩ := z
  have hf := h.few
  have hs := h.short
  have hid : id < 18446744073709551616 := hid
  rcases h.2 with ⟨h1, h2, h3⟩ | ⟨h1, _⟩
  · have h1 : kind = 2 := h1
    have h2 : ps = [] := h2
    have h3 : ks = [] := h3
    subst h1 h2 h3
    rw [pay2 rfl]
    have g0 : getR (num 2 1 ++ num id 8) 0 1 = 2 := by
      have := getR_num [] (num id 8) 2 1
      exact this
    have g1 : getR (num 2 1 ++ num id 8) 1 8 = id := by
      have := getR_num (num 2 1) [] id 8
      rw [List.append_nil, num_length] at this
      rw [this]; exact Nat.mod_eq_of_lt hid
    unfold candR
    rw [g0, g1, if_neg (by decide)]; rfl
  · have h1 : kind = 1 := h1
    subst h1
    rw [pay1 rfl]
    have hf1 : ps.length ≤ 1024 := hf.1
    have hf2 : ks.length ≤ 1024 := hf.2
    show candR (num 1 1 ++ (num id 8 ++ (num ps.length 4 ++ ((pairPieces ps).flatten ++ textsB ks)))) = _
    generalize hl : num 1 1 ++ (num id 8 ++ (num ps.length 4 ++ ((pairPieces ps).flatten ++ textsB ks))) = l
    have g0 : getR l 0 1 = 1 := by
      have := getR_num [] (num id 8 ++ (num ps.length 4 ++ ((pairPieces ps).flatten ++ textsB ks))) 1 1
      rw [List.nil_append, hl] at this; exact this
    have g1 : getR l 1 8 = id := by
      have := getR_num (num 1 1) (num ps.length 4 ++ ((pairPieces ps).flatten ++ textsB ks)) id 8
      rw [hl, num_length] at this
      rw [this]; exact Nat.mod_eq_of_lt hid
    have g9 : getR l 9 4 = ps.length := by
      have := getR_num (num 1 1 ++ num id 8) ((pairPieces ps).flatten ++ textsB ks) ps.length 4
      rw [List.append_assoc, hl, List.length_append, num_length, num_length] at this
      rw [this]; exact Nat.mod_eq_of_lt (by show ps.length < 4294967296; omega)
    have hpr : prR l ps.length 13 = (ps, 13 + (pairPieces ps).flatten.length) := by
      have := prR_back ps (num 1 1 ++ (num id 8 ++ num ps.length 4)) (textsB ks) l (by rw [← hl]; simp only [List.append_assoc]) hs.1
      rw [List.length_append, List.length_append, num_length, num_length, num_length] at this
      exact this
    have gm : getR l (13 + (pairPieces ps).flatten.length) 4 = ks.length := by
      have := getR_num (num 1 1 ++ (num id 8 ++ (num ps.length 4 ++ (pairPieces ps).flatten))) (ks.flatMap textB) ks.length 4
      have e : num 1 1 ++ (num id 8 ++ (num ps.length 4 ++ (pairPieces ps).flatten)) ++ (num ks.length 4 ++ ks.flatMap textB) = l := by
        rw [← hl]; unfold textsB; simp only [List.append_assoc]
      rw [e] at this
      simp only [List.length_append, num_length] at this
      rw [show 13 + (pairPieces ps).flatten.length = 1 + (8 + (4 + (pairPieces ps).flatten.length)) by omega, this]
      exact Nat.mod_eq_of_lt (by show ks.length < 4294967296; omega)
    have hks : ksR l ks.length (13 + (pairPieces ps).flatten.length + 4) = (ks, 13 + (pairPieces ps).flatten.length + 4 + (ks.flatMap textB).length) := by
      have := ksR_back ks (num 1 1 ++ (num id 8 ++ (num ps.length 4 ++ ((pairPieces ps).flatten ++ num ks.length 4)))) [] l (by rw [← hl]; unfold textsB; simp only [List.append_assoc, List.append_nil]) hs.2
      simp only [List.length_append, num_length] at this
      rw [show 1 + (8 + (4 + ((pairPieces ps).flatten.length + 4))) = 13 + (pairPieces ps).flatten.length + 4 by omega] at this
      exact this
    unfold candR
    rw [g0, if_pos rfl, g1, g9, hpr]
    show Rec.mk 1 id ps (ksR l (getR l (13 + (pairPieces ps).flatten.length) 4) (13 + (pairPieces ps).flatten.length + 4)).1 = _
    rw [gm, hks]
theorem getR8_lt (l : List UInt8) (a : Nat) : getR l a 8 < 18446744073709551616 := getR_lt l a 8
/-- The document's answer: is it a payload, and of which record? -/
theorem cand_ok {p : List UInt8} : (May (candR p) ∧ pay (candR p) = p) ↔ ReadOk p := by
  have hid : (candR p).id < 18446744073709551616 := by
    unfold candR; split <;> exact getR8_lt _ _
  constructor
  · rintro ⟨h1, h2⟩
    rw [← h2]; exact pay_short h1 hid
  · intro h
    have hp := pay_read h
    have hid2 : (readR p).1.id < 18446744073709551616 := by
      have key : ∀ (r : R), (r.number 8).1 < 18446744073709551616 := fun r => number_lt (r := r) 8
      unfold readR; split <;> exact key _
    have hc := cand_pay h.2 hid2
    rw [hp] at hc
    rw [hc]
    exact ⟨h.2, hp⟩
theorem cand_eq {p : List UInt8} (h : ReadOk p) : candR p = (readR p).1 := by
  have hp := pay_read h
  have hid2 : (readR p).1.id < 18446744073709551616 := by
    have key : ∀ (r : R), (r.number 8).1 < 18446744073709551616 := fun r => number_lt (r := r) 8
    unfold readR; split <;> exact key _
  have hc := cand_pay h.2 hid2
  rw [hp] at hc
  exact hc
end Go.Proofs.YtfcmjomnpahllaaGreat
namespace Go.Proofs.YtfcmjomnpahllaaGreat
open Go Hv
set_option linter.unusedVariables false
set_option linter.unusedSimpArgs false
set_option maxRecDepth 10000
set_option maxHeartbeats 2000000
/-! The document's piece -/
section
variable {H : Heap} {K : Value → Heap → Prop}
theorem piece_t {a : Option Addr} {L c p : Nat} {l : List UInt8} (hr : RowAt H a (u8s l)) (hl : l.length = L) (hc : L ≤ c) (hlim : L ≤ 100000000000) (hp : p ≤ 100000000000)
    (hk : K (.tuple #[.string (bs (pieceR l p).1), .int .i64 ((pieceR l p).2 : Int)]) H) : HCalls Tryz.prog 102 [.slice a L c, .int .i64 (p : Int)] H K := by
  refine hcalls (fn := Tryz.f102) [] mixed Tryz.func102 rfl rfl (by decide +kernel) ?_
  subst hl
  have hg := getR_lt l p 4
  have hg : getR l p 4 < 4294967296 := hg
  have w0 : wr .i64 (getR l p 4 : Int) = (getR l p 4 : Int) := by rw [wr_i64 (by omega) (by omega)]
  have w4 : wr .i64 ((p : Int) + 4) = ((p + 4 : Nat) : Int) := by rw [wr_i64 (by omega) (by omega)]; omega
  (repeat first | refine HReg.step ?_ | refine HCode.step ?_)
  refine HCall.mk ⟨Tryz.f74, Tryz.func74, by rfl, by rfl⟩ ?_
  refine get_t (n := 4) hr rfl (by omega) (by omega) (by decide) ?_
  have inst0 : ∀ (x y : Int) (i : Decidable (Builtin.min = Builtin.max)), (@ite Int (Builtin.min = Builtin.max) i (if y > x then y else x) (if y < x then y else x)) = min x y := fun x y i => by
    rw [if_neg (by intro h; cases h)]
    by_cases h : y < x
    · rw [if_pos h]; omega
    · rw [if_neg h]; omega
  obtain ⟨fr, hfr⟩ : ∃ fr : Nat, fr = min (p + 4) l.length := ⟨_, rfl⟩
  obtain ⟨to, hto⟩ : ∃ to : Nat, to = min (fr + getR l p 4) l.length := ⟨_, rfl⟩
  have hfr0 := hfr
  have hto0 := hto
  have e1 : min ((p + 4 : Nat) : Int) (l.length : Int) = (fr : Int) := by omega
  have w5 : wr .i64 ((fr : Int) + (getR l p 4 : Int)) = ((fr + getR l p 4 : Nat) : Int) := by rw [wr_i64 (by omega) (by omega)]; omega
  have e2 : min ((fr + getR l p 4 : Nat) : Int) (l.length : Int) = (to : Int) := by omega
  have w6 : wr .i64 (((p + 4 : Nat) : Int) + (getR l p 4 : Int)) = ((p + 4 + getR l p 4 : Nat) : Int) := by rw [wr_i64 (by omega) (by omega)]; omega
  (repeat first | refine HReg.step ?_ | refine HCode.step ?_)
  rw [w0, w4, inst0, e1, w5, inst0, e2]
  refine HReq.mk ⟨by omega, by omega⟩ ?_
  refine HReq.mk ⟨by omega, by omega⟩ ?_
  (repeat first | refine HReg.step ?_ | refine HCode.step ?_)
  refine HBytes.row ((l.drop fr).take (to - fr)) (by rw [List.length_take, List.length_drop, Int.toNat_natCast, Int.toNat_natCast]; omega) (fun H' hH => by rw [List.mem_singleton.1 hH]; exact row_cut hr (by omega)) ?_ (by simp)
  (repeat first | refine HReg.step ?_ | refine HCode.step ?_)
  rw [w4, w6]
  have e : pieceR l p = ((l.drop fr).take (to - fr), p + 4 + getR l p 4) := by
    unfold pieceR; rw [← hfr, ← hto]
  rw [e] at hk
  exact hk
end
end Go.Proofs.YtfcmjomnpahllaaGreat
namespace Go.Proofs.YtfcmjomnpahllaaGreat
open Go Hv
set_option linter.unusedVariables false
set_option linter.unusedSimpArgs false
set_option maxRecDepth 10000
set_option maxHeartbeats 4000000
/-! The document's read -/
structure RqS (H : Heap) (b2 b4 : Nat) (x : Rec) (ap : Option Addr) (cp : Nat) (ak : Option Addr) (ck : Nat) (H' : Heap) : Prop where
  o : OwnRow H' 41 1 (some ⟨b4, 0, none⟩) 4 4 (rcells x ap cp ak ck)
  o2 : OwnRow H' 41 1 (some ⟨b2, 0, none⟩) 4 4 zeroR
  p : OwnRow H' 100 2 ap x.ps.length cp (pairsV x.ps)
  k : OwnRow H' 9 1 ak x.ks.length ck (txts x.ks)
  pn : ∀ b ∈ blk ap, H b = none
  kn : ∀ b ∈ blk ak, H b = none
  n2 : H b2 = none
  n4 : H b4 = none
  ne : b2 ≠ b4
  u : Upd [] H H'
  np : x.ps.length ≤ 2000000
  nk : x.ks.length ≤ 2000000
theorem RqS.upd0 {H : Heap} {b2 b4 : Nat} {x : Rec} {ap ak : Option Addr} {cp ck : Nat} {H1 H2 : Heap} (s : RqS H b2 b4 x ap cp ak ck H1) (u : Upd [] H1 H2) : RqS H b2 b4 x ap cp ak ck H2 :=
  ⟨s.o.upd u (Off.nil _), s.o2.upd u (Off.nil _), s.p.upd u (Off.nil _), s.k.upd u (Off.nil _), s.pn, s.kn, s.n2, s.n4, s.ne, s.u.trans u, s.np, s.nk⟩
theorem RqS.recIn {H : Heap} {b2 b4 : Nat} {x : Rec} {ap ak : Option Addr} {cp ck : Nat} {H1 : Heap} (s : RqS H b2 b4 x ap cp ak ck H1) : RecIn H1 x ap ak := by
  have h1 := s.np
  have h2 := s.nk
  exact ⟨s.p.rows, s.k.rows, by omega, by omega⟩
theorem RqS.addP {H : Heap} {b2 b4 : Nat} {kind : Int} {id : Nat} {ps : List (Txt × Txt)} {ks : List Txt} {ap ak a12 : Option Addr} {cp ck c12 : Nat} {H1 H2 H3 : Heap} {p : Txt × Txt} (s : RqS H b2 b4 ⟨kind, id, ps, ks⟩ ap cp ak ck H1)
    (o12 : OwnRow H2 100 2 a12 (ps.length + 1) c12 (pairsV (ps ++ [p]))) (u12 : Upd (blk ap) H1 H2) (f12 : ∀ p, a12 = some p → ap = some p ∨ H1 p.block = none)
    (o13 : OwnRow H3 41 1 (some ⟨b4, 0, none⟩) 4 4 [.int .i64 kind, .int .u64 (id : Int), .slice a12 (ps.length + 1) c12, .slice ak ks.length ck]) (u13 : Upd [b4] H2 H3) (hb : ps.length + 1 ≤ 2000000) : RqS H b2 b4 ⟨kind, id, ps ++ [p], ks⟩ a12 c12 ak ck H3 := by
  have hlen : (ps ++ [p]).length = ps.length + 1 := by simp
  have k12 := s.k.upd u12 (s.p.offT s.k (by decide))
  have o42 := s.o.upd u12 (s.p.offT s.o (by decide))
  refine ⟨?_, (s.o2.upd u12 (s.p.offT s.o2 (by decide))).upd u13 (fun q hq hb => by cases hq; exact s.ne (List.mem_singleton.1 hb)), ?_, k12.upd u13 (o42.offT k12 (by decide)), ?_, s.kn, s.n2, s.n4, s.ne, ?_, by show (ps ++ [p]).length ≤ _; rw [hlen]; exact hb, s.nk⟩
  · unfold rcells; rw [hlen]; exact o13
  · show OwnRow H3 100 2 a12 (ps ++ [p]).length c12 _
    rw [hlen]; exact o12.upd u13 (o42.offT o12 (by decide))
  · intro b hb
    obtain ⟨q, hq, rfl⟩ := blk_of hb
    rcases f12 q hq with e | e
    · exact s.pn _ (by rw [e]; simp [blk])
    · exact Upd.none (S := []) s.u (by simp) e
  · exact Upd.drop (Upd.drop s.u u12 s.pn) u13 fun b hb => by rw [List.mem_singleton.1 hb]; exact s.n4
theorem RqS.addK {H : Heap} {b2 b4 : Nat} {kind : Int} {id : Nat} {ps : List (Txt × Txt)} {ks : List Txt} {ap ak a12 : Option Addr} {cp ck c12 : Nat} {H1 H2 H3 : Heap} {p : Txt} (s : RqS H b2 b4 ⟨kind, id, ps, ks⟩ ap cp ak ck H1)
    (o12 : OwnRow H2 9 1 a12 (ks.length + 1) c12 (txts (ks ++ [p]))) (u12 : Upd (blk ak) H1 H2) (f12 : ∀ p, a12 = some p → ak = some p ∨ H1 p.block = none)
    (o13 : OwnRow H3 41 1 (some ⟨b4, 0, none⟩) 4 4 [.int .i64 kind, .int .u64 (id : Int), .slice ap ps.length cp, .slice a12 (ks.length + 1) c12]) (u13 : Upd [b4] H2 H3) (hb : ks.length + 1 ≤ 2000000) : RqS H b2 b4 ⟨kind, id, ps, ks ++ [p]⟩ ap cp a12 c12 H3 := by
  have hlen : (ks ++ [p]).length = ks.length + 1 := by simp
  have k12 := s.p.upd u12 (s.k.offT s.p (by decide))
  have o42 := s.o.upd u12 (s.k.offT s.o (by decide))
  refine ⟨?_, (s.o2.upd u12 (s.k.offT s.o2 (by decide))).upd u13 (fun q hq hb => by cases hq; exact s.ne (List.mem_singleton.1 hb)), k12.upd u13 (o42.offT k12 (by decide)), ?_, s.pn, ?_, s.n2, s.n4, s.ne, ?_, s.np, by show (ks ++ [p]).length ≤ _; rw [hlen]; exact hb⟩
  · unfold rcells; rw [hlen]; exact o13
  · show OwnRow H3 9 1 a12 (ks ++ [p]).length c12 _
    rw [hlen]; exact o12.upd u13 (o42.offT o12 (by decide))
  · intro b hb
    obtain ⟨q, hq, rfl⟩ := blk_of hb
    rcases f12 q hq with e | e
    · exact s.kn _ (by rw [e]; simp [blk])
    · exact Upd.none (S := []) s.u (by simp) e
  · exact Upd.drop (Upd.drop s.u u12 s.kn) u13 fun b hb => by rw [List.mem_singleton.1 hb]; exact s.n4
end Go.Proofs.YtfcmjomnpahllaaGreat
