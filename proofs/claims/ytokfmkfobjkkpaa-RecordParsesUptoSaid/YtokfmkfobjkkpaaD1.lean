import Derived.Test.YtokfmkfobjkkpaaL5
namespace Go.Proofs.Ytokfmkfobjkkpaa
open Go Hv
set_option linter.unusedVariables false
set_option linter.unusedSimpArgs false
set_option maxRecDepth 10000
set_option maxHeartbeats 2000000
/-! The document's Rising, has, May -/
structure RgInv (l : List Txt) (H : Heap) (m : Nat) (vs : List Value) (H' : Heap) : Prop where
  ex : ∃ i : Nat, vs = [.int .i64 (i : Int)] ∧ m + i = l.length ∧ H' = H ∧ ∀ j x, j < i → l[j]? = some x → x.length ≤ 65535 ∧ ∀ y, 0 < j → l[j - 1]? = some y → y < x
structure RhInv (l : List Txt) (k : Txt) (H : Heap) (m : Nat) (vs : List Value) (H' : Heap) : Prop where
  ex : ∃ i : Nat, vs = [.int .i64 (i : Int)] ∧ m + i = l.length ∧ H' = H ∧ ∀ j x, j < i → l[j]? = some x → x ≠ k
structure RmInv (r : Rec) (H : Heap) (m : Nat) (vs : List Value) (H' : Heap) : Prop where
  ex : ∃ i : Nat, vs = [.int .i64 (i : Int)] ∧ m + i = r.ps.length ∧ Upd [] H H' ∧ ∀ j p, j < i → r.ps[j]? = some p → p.2.length ≤ 65535 ∧ p.1 ∈ r.ks ∧ ∀ q, 0 < j → r.ps[j - 1]? = some q → q.1 < p.1
section
variable {H : Heap} {K : Value → Heap → Prop}
theorem rrising_t {a : Option Addr} {n c : Nat} {l : List Txt} (hr : RowAt H a (txts l)) (hl : l.length = n) (hn : n ≤ 9000000000000000000)
    (hk : ∀ t : Bool, (t = true ↔ Whole l) → K (.bool t) H) : HCalls Try.prog 40 [.slice a n c] H K := by
  refine hcalls (fn := Try.f40) [(6, [(0, 0), (1, 0), (2, 0), (3, 0), (4, 0), (5, 0), (6, 0), (7, 0), (8, 0), (9, 0), (10, 0), (11, 0), (12, 0), (13, 0), (14, 0), (15, 0), (16, 0), (17, 0), (18, 0), (19, 0), (20, 0), (21, 0)])] mixed Try.func40 rfl rfl (by decide +kernel) ?_
  subst hl
  (repeat first | refine HReg.step ?_ | refine HCode.step ?_)
  refine hif (fun h1 => ?_) (fun h1 => ?_)
  · have h1 := ltB_true.1 h1
    (repeat first | refine HReg.step ?_ | refine HCode.step ?_)
    exact hk false ⟨fun h => (by cases h), fun h => by have := h.1.1; omega⟩
  have h1 := ltB_false.1 h1
  (repeat first | refine HReg.step ?_ | refine HCode.step ?_)
  refine hif (fun h2 => ?_) (fun h2 => ?_)
  · have h2 := ltB_true.1 h2
    (repeat first | refine HReg.step ?_ | refine HCode.step ?_)
    exact hk false ⟨fun h => (by cases h), fun h => by have := h.1.2.1; omega⟩
  have h2 := ltB_false.1 h2
  (repeat first | refine HReg.step ?_ | refine HCode.step ?_)
  refine hloopC [2, 3, 12, 13, 14, 15, 16, 17, 18, 19, 20, 21, 22, 23, 24, 25, 26, 27, 28, 29, 30, 31, 32, 33, 34, 35, 36, 37, 38, 39] [3] (RgInv l H) rfl (by repeat' first | exact Resp.retD | exact Resp1.valuesK | refine Resp.blockD ?_ | refine Resp.thenD ?_ ?_ | refine Resp.hcode ?_) ?_ ?_
  · exact ⟨l.length, RgInv.mk ⟨0, rfl, rfl, rfl, fun j x hj => absurd hj (Nat.not_lt_zero _)⟩⟩
  rintro m _ fe H1 ⟨i, rfl, hmi, rfl, hall⟩
  have w2 : wr .i64 ((i : Int) + 1) = ((i + 1 : Nat) : Int) := by rw [wr_i64 (by omega) (by omega)]; omega
  (repeat first | refine HReg.step ?_ | refine HCode.step ?_)
  refine hif (fun h3 => ?_) (fun h3 => ?_)
  · have h3 := ltB_true.1 h3
    obtain ⟨x, hx⟩ : ∃ x, l[i]? = some x := ⟨l[i]'(by omega), by simp⟩
    obtain ⟨ba, bo, rfl, _⟩ := hr i _ (txts_get hx)
    (repeat first | refine HReg.step ?_ | refine HCode.step ?_)
    refine HReq.mk ⟨by omega, by omega⟩ ?_
    (repeat first | refine HReg.step ?_ | refine HCode.step ?_)
    refine HLoad.one (v := .string (bs x)) (by exact hr.get (txts_get hx)) ?_
    (repeat first | refine HReg.step ?_ | refine HCode.step ?_)
    refine hif (fun h4 => ?_) (fun h4 => ?_)
    · have h4 := ltB_true.1 h4
      rw [bs_size] at h4
      (repeat first | refine HReg.step ?_ | refine HCode.step ?_)
      exact hk false ⟨fun h => (by cases h), fun h => by have := h.1.2.2 x (List.mem_of_getElem? hx); omega⟩
    have h4 := ltB_false.1 h4
    rw [bs_size] at h4
    (repeat first | refine HReg.step ?_ | refine HCode.step ?_)
    refine hif (fun h5 => ?_) (fun h5 => ?_)
    · have h5 := ltB_true.1 h5
      have w1 : wr .i64 ((i : Int) - 1) = ((i - 1 : Nat) : Int) := by rw [wr_i64 (by omega) (by omega)]; omega
      obtain ⟨y, hy⟩ : ∃ y, l[i - 1]? = some y := ⟨l[i - 1]'(by omega), by simp⟩
      (repeat first | refine HReg.step ?_ | refine HCode.step ?_)
      rw [w1]
      refine HReq.mk ⟨by omega, by omega⟩ ?_
      (repeat first | refine HReg.step ?_ | refine HCode.step ?_)
      refine HLoad.one (v := .string (bs y)) (by exact hr.get (txts_get hy)) ?_
      (repeat first | refine HReg.step ?_ | refine HCode.step ?_)
      refine HReq.mk ⟨by omega, by omega⟩ ?_
      (repeat first | refine HReg.step ?_ | refine HCode.step ?_)
      refine HLoad.one (v := .string (bs x)) (by exact hr.get (txts_get hx)) ?_
      (repeat first | refine HReg.step ?_ | refine HCode.step ?_)
      rw [sltB_bs]
      (repeat first | refine HReg.step ?_ | refine HCode.step ?_)
      by_cases hlt : y < x
      · rw [decide_eq_true hlt]
        (repeat first | refine HReg.step ?_ | refine HCode.step ?_)
        rw [w2]
        refine ⟨m - 1, by omega, RgInv.mk ⟨i + 1, rfl, by omega, rfl, fun j z hj hz => ?_⟩⟩
        by_cases e : j < i
        · exact hall j z e hz
        · have e : j = i := by omega
          subst e
          rw [hx] at hz; cases hz
          exact ⟨by omega, fun y' _ hy' => by rw [hy] at hy'; cases hy'; exact hlt⟩
      · rw [decide_eq_false hlt]
        (repeat first | refine HReg.step ?_ | refine HCode.step ?_)
        refine hk false ⟨fun h => (by cases h), fun h => absurd ?_ hlt⟩
        have e : (i - 1) + 1 = i := by omega
        exact h.2 (i - 1) y x hy (by rw [e]; exact hx)
    · have h5 := ltB_false.1 h5
      have hi0 : i = 0 := by omega
      (repeat first | refine HReg.step ?_ | refine HCode.step ?_)
      rw [w2]
      refine ⟨m - 1, by omega, RgInv.mk ⟨i + 1, rfl, by omega, rfl, fun j z hj hz => ?_⟩⟩
      have e : j = i := by omega
      subst e
      rw [hx] at hz; cases hz
      exact ⟨by omega, fun y' hj' => by omega⟩
  · have h3 := ltB_false.1 h3
    (repeat first | refine HReg.step ?_ | refine HCode.step ?_)
    refine hk true ⟨fun _ => ⟨⟨by omega, by omega, fun s hs => ?_⟩, fun j a b ha hb => ?_⟩, fun _ => rfl⟩
    · obtain ⟨j, hj⟩ := List.getElem?_of_mem hs
      have := (List.getElem?_eq_some_iff.1 hj).1
      exact (hall j s (by omega) hj).1
    · have := (List.getElem?_eq_some_iff.1 hb).1
      exact (hall (j + 1) b (by omega) hb).2 a (by omega) (by rw [Nat.add_sub_cancel]; exact ha)
theorem rhas_t {a : Option Addr} {n c : Nat} {l : List Txt} {k : Txt} (hr : RowAt H a (txts l)) (hl : l.length = n) (hn : n ≤ 9000000000000000000)
    (hk : ∀ t : Bool, (t = true ↔ k ∈ l) → K (.bool t) H) : HCalls Try.prog 41 [.slice a n c, .string (bs k)] H K := by
  refine hcalls (fn := Try.f41) [] mixed Try.func41 rfl rfl (by decide +kernel) ?_
  subst hl
  (repeat first | refine HReg.step ?_ | refine HCode.step ?_)
  refine hloopC [4, 5, 6, 7, 8, 9, 10, 11, 12, 13, 14, 15, 16, 17] [5] (RhInv l k H) rfl (by repeat' first | exact Resp.retD | exact Resp1.valuesK | refine Resp.blockD ?_ | refine Resp.thenD ?_ ?_ | refine Resp.hcode ?_) ?_ ?_
  · exact ⟨l.length, RhInv.mk ⟨0, rfl, rfl, rfl, fun j x hj => absurd hj (Nat.not_lt_zero _)⟩⟩
  rintro m _ fe H1 ⟨i, rfl, hmi, rfl, hall⟩
  have w2 : wr .i64 ((i : Int) + 1) = ((i + 1 : Nat) : Int) := by rw [wr_i64 (by omega) (by omega)]; omega
  (repeat first | refine HReg.step ?_ | refine HCode.step ?_)
  refine hif (fun h3 => ?_) (fun h3 => ?_)
  · have h3 := ltB_true.1 h3
    obtain ⟨x, hx⟩ : ∃ x, l[i]? = some x := ⟨l[i]'(by omega), by simp⟩
    obtain ⟨ba, bo, rfl, _⟩ := hr i _ (txts_get hx)
    (repeat first | refine HReg.step ?_ | refine HCode.step ?_)
    refine HReq.mk ⟨by omega, by omega⟩ ?_
    (repeat first | refine HReg.step ?_ | refine HCode.step ?_)
    refine HLoad.one (v := .string (bs x)) (by exact hr.get (txts_get hx)) ?_
    (repeat first | refine HReg.step ?_ | refine HCode.step ?_)
    rw [seqB_bs]
    (repeat first | refine HReg.step ?_ | refine HCode.step ?_)
    refine hif (fun h4 => ?_) (fun h4 => ?_)
    · have h4 := of_decide_eq_true h4
      (repeat first | refine HReg.step ?_ | refine HCode.step ?_)
      exact hk true ⟨fun _ => by rw [← h4]; exact List.mem_of_getElem? hx, fun _ => rfl⟩
    · have h4 := of_decide_eq_false h4
      (repeat first | refine HReg.step ?_ | refine HCode.step ?_)
      rw [w2]
      refine ⟨m - 1, by omega, RhInv.mk ⟨i + 1, rfl, by omega, rfl, fun j z hj hz => ?_⟩⟩
      by_cases e : j < i
      · exact hall j z e hz
      · have e : j = i := by omega
        subst e
        rw [hx] at hz; cases hz
        exact h4
  · have h3 := ltB_false.1 h3
    (repeat first | refine HReg.step ?_ | refine HCode.step ?_)
    refine hk false ⟨fun h => (by cases h), fun h => ?_⟩
    obtain ⟨j, hj⟩ := List.getElem?_of_mem h
    have := (List.getElem?_eq_some_iff.1 hj).1
    exact absurd rfl (hall j k (by omega) hj)
theorem rmay_t {r : Rec} {ap ak : Option Addr} {cp ck : Nat} (hr : RecIn H r ap ak)
    (hk : ∀ (t : Bool) H', (t = true ↔ May r) → Upd [] H H' → K (.bool t) H') : HCalls Try.prog 16 [rv r ap cp ak ck] H K := by
  refine hcalls (fn := Try.f16) [(11, [(0, 0), (1, 0), (2, 0), (3, 0), (4, 0), (5, 0), (6, 0), (7, 0), (8, 0), (9, 0), (10, 0), (11, 0), (12, 0), (13, 0), (14, 0), (15, 0), (16, 0), (17, 0), (18, 0), (19, 0), (20, 0), (21, 0), (22, 0), (23, 0), (24, 0), (25, 0), (26, 0), (27, 0)])] mixed Try.func16 rfl rfl (by decide +kernel) ?_
  have hnp := hr.np
  have hnk := hr.nk
  (repeat first | refine HReg.step ?_ | refine HCode.step ?_)
  refine HNew.mk fun b1 hb1 => ?_
  have u1 : Upd [] H (H.upd b1 (.cells (rcells r ap cp ak ck).toArray 27)) := Upd.new hb1 _
  have o1 : OwnRow (H.upd b1 (.cells (rcells r ap cp ak ck).toArray 27)) 27 1 (some ⟨b1, 0, none⟩) 4 4 (rcells r ap cp ak ck) := OwnRow.lit (upd_same _ _ _) rfl
  have hH' : H.upd b1 (.cells [Value.int .i64 r.kind, .int .u64 (r.id : Int), .slice ap r.ps.length cp, .slice ak r.ks.length ck].toArray 27) = H.upd b1 (.cells (rcells r ap cp ak ck).toArray 27) := rfl
  rw [hH']
  generalize hH1 : H.upd b1 (.cells (rcells r ap cp ak ck).toArray 27) = H1 at u1 o1
  have hr1 := hr.upd0 u1
  (repeat first | refine HReg.step ?_ | refine HCode.step ?_)
  refine HLoad.one (v := .int .u64 (r.id : Int)) (by exact o1.rows.get (i := 1) rfl) ?_
  (repeat first | refine HReg.step ?_ | refine HCode.step ?_)
  refine hif (fun h1 => ?_) (fun h1 => ?_)
  · have h1 := ltB_true.1 h1
    (repeat first | refine HReg.step ?_ | refine HCode.step ?_)
    exact hk false H1 ⟨fun h => (by cases h), fun h => by have := h.1; omega⟩ u1
  have h1 := ltB_false.1 h1
  (repeat first | refine HReg.step ?_ | refine HCode.step ?_)
  refine HLoad.one (v := .int .i64 r.kind) (by exact o1.rows.get (i := 0) rfl) ?_
  (repeat first | refine HReg.step ?_ | refine HCode.step ?_)
  refine hif (fun h2 => ?_) (fun h2 => ?_)
  · have h2 := eqB_true.1 h2
    (repeat first | refine HReg.step ?_ | refine HCode.step ?_)
    refine HLoad.one (v := .slice ap r.ps.length cp) (by exact o1.rows.get (i := 2) rfl) ?_
    (repeat first | refine HReg.step ?_ | refine HCode.step ?_)
    refine hif (fun h3 => ?_) (fun h3 => ?_)
    · have h3 := eqB_true.1 h3
      (repeat first | refine HReg.step ?_ | refine HCode.step ?_)
      refine HLoad.one (v := .slice ak r.ks.length ck) (by exact o1.rows.get (i := 3) rfl) ?_
      (repeat first | refine HReg.step ?_ | refine HCode.step ?_)
      refine hk _ H1 ⟨fun h => ⟨by omega, .inl ⟨h2, List.eq_nil_of_length_eq_zero (by omega), List.eq_nil_of_length_eq_zero ?_⟩⟩, fun h => ?_⟩ u1
      · have := eqB_true.1 h; omega
      · rcases h.2 with h | h
        · exact eqB_true.2 (by rw [h.2.2]; rfl)
        · rw [h2] at h; exact absurd h.1 (by decide)
    · have h3 := eqB_false.1 h3
      (repeat first | refine HReg.step ?_ | refine HCode.step ?_)
      refine hk false H1 ⟨fun h => (by cases h), fun h => ?_⟩ u1
      rcases h.2 with h | h
      · exact absurd (by rw [h.2.1]; rfl) h3
      · rw [h2] at h; exact absurd h.1 (by decide)
  have h2 := eqB_false.1 h2
  (repeat first | refine HReg.step ?_ | refine HCode.step ?_)
  refine HLoad.one (v := .int .i64 r.kind) (by exact o1.rows.get (i := 0) rfl) ?_
  (repeat first | refine HReg.step ?_ | refine HCode.step ?_)
  refine hif (fun h3 => ?_) (fun h3 => ?_)
  · have h3 := not_eqB_true.1 h3
    (repeat first | refine HReg.step ?_ | refine HCode.step ?_)
    refine hk false H1 ⟨fun h => (by cases h), fun h => ?_⟩ u1
    rcases h.kind with h | h
    · exact absurd h h3
    · exact absurd h h2
  have h3 := not_eqB_false.1 h3
  (repeat first | refine HReg.step ?_ | refine HCode.step ?_)
  refine HLoad.one (v := .slice ak r.ks.length ck) (by exact o1.rows.get (i := 3) rfl) ?_
  (repeat first | refine HReg.step ?_ | refine HCode.step ?_)
  refine HCall.mk ⟨Try.f40, Try.func40, by rfl, by rfl⟩ ?_
  refine rrising_t hr1.rk rfl (by omega) fun t ht => ?_
  cases t with
  | false =>
    (repeat first | refine HReg.step ?_ | refine HCode.step ?_)
    refine hk false H1 ⟨fun h => (by cases h), fun h => ?_⟩ u1
    rcases h.2 with h | h
    · exact absurd h.1 h2
    · exact ht.2 h.2.1
  | true =>
    have hw := ht.1 rfl
    (repeat first | refine HReg.step ?_ | refine HCode.step ?_)
    refine HLoad.one (v := .slice ap r.ps.length cp) (by exact o1.rows.get (i := 2) rfl) ?_
    (repeat first | refine HReg.step ?_ | refine HCode.step ?_)
    refine hif (fun h4 => ?_) (fun h4 => ?_)
    · have h4 := ltB_true.1 h4
      (repeat first | refine HReg.step ?_ | refine HCode.step ?_)
      refine hk false H1 ⟨fun h => (by cases h), fun h => ?_⟩ u1
      rcases h.2 with h | h
      · exact absurd h.1 h2
      · exact absurd (List.eq_nil_of_length_eq_zero (by omega)) h.2.2.1
    have h4 := ltB_false.1 h4
    (repeat first | refine HReg.step ?_ | refine HCode.step ?_)
    refine hloopC [2, 3, 4, 36, 37, 38, 39, 40, 41, 42, 43, 44, 45, 46, 47, 48, 49, 50, 51, 52, 53, 54, 55, 56, 57, 58, 59, 60, 61, 62, 63, 64, 65, 66, 67, 68, 69, 70, 71, 72, 73, 74, 75] [3] (RmInv r H1) rfl (by repeat' first | exact Resp.retD | exact Resp1.valuesK | refine Resp.blockD ?_ | refine Resp.thenD ?_ ?_ | refine Resp.hcode ?_) ?_ ?_
    · exact ⟨r.ps.length, RmInv.mk ⟨0, rfl, rfl, Upd.refl _ _, fun j x hj => absurd hj (Nat.not_lt_zero _)⟩⟩
    rintro m _ fe H2 ⟨i, rfl, hmi, u2, hall⟩
    have o2 := o1.upd u2 (Off.nil _)
    have hr2 := hr1.upd0 u2
    have u02 := u1.trans u2
    have w2 : wr .i64 ((i : Int) + 1) = ((i + 1 : Nat) : Int) := by rw [wr_i64 (by omega) (by omega)]; omega
    have no : ∀ {p : Txt × Txt}, r.ps[i]? = some p → (¬ (p.2.length ≤ 65535) ∨ ¬ (p.1 ∈ r.ks) ∨ ∃ q, 0 < i ∧ r.ps[i - 1]? = some q ∧ ¬ q.1 < p.1) → ¬ May r := fun {p} hp hbad h => by
      rcases h.2 with h | ⟨_, _, _, hri, hin⟩
      · exact absurd h.1 h2
      · have hm := hin p (List.mem_of_getElem? hp)
        rcases hbad with hb | hb | ⟨q, hi, hq, hb⟩
        · exact hb hm.2
        · exact hb hm.1
        · refine hb (hri (i - 1) q.1 p.1 (by rw [List.getElem?_map, hq]; rfl) ?_)
          rw [show i - 1 + 1 = i by omega, List.getElem?_map, hp]; rfl
    (repeat first | refine HReg.step ?_ | refine HCode.step ?_)
    refine HLoad.one (v := .slice ap r.ps.length cp) (by exact o2.rows.get (i := 2) rfl) ?_
    (repeat first | refine HReg.step ?_ | refine HCode.step ?_)
    refine hif (fun h5 => ?_) (fun h5 => ?_)
    · have h5 := ltB_true.1 h5
      obtain ⟨p, hp⟩ : ∃ p, r.ps[i]? = some p := ⟨r.ps[i]'(by omega), by simp⟩
      obtain ⟨ba, bo, rfl, _⟩ := hr2.rp _ _ (pairsV_get hp).1
      (repeat first | refine HReg.step ?_ | refine HCode.step ?_)
      refine HLoad.one (v := .slice (some ⟨ba, bo, none⟩) r.ps.length cp) (by exact o2.rows.get (i := 2) rfl) ?_
      (repeat first | refine HReg.step ?_ | refine HCode.step ?_)
      refine HReq.mk ⟨by omega, by omega⟩ ?_
      (repeat first | refine HReg.step ?_ | refine HCode.step ?_)
      refine HLoadN_pair hr2.rp hp ?_
      (repeat first | refine HReg.step ?_ | refine HCode.step ?_)
      refine HNew.mk fun b4 hb4 => ?_
      (repeat first | refine HReg.step ?_ | refine HCode.step ?_)
      refine store_pair (p := p) (OwnRow.lit (upd_same _ _ _) rfl) rfl fun H3 o3 u3 => ?_
      have u3 : Upd [] H2 H3 := Upd.drop (Upd.new hb4 _) u3 (fun x hx => by rw [List.mem_singleton.1 hx]; exact hb4)
      have o23 := o2.upd u3 (Off.nil _)
      have hr3 := hr2.upd0 u3
      have u03 := u02.trans u3
      (repeat first | refine HReg.step ?_ | refine HCode.step ?_)
      refine HLoad.one (v := .string (bs p.2)) (by exact o3.rows.get (i := 1) rfl) ?_
      (repeat first | refine HReg.step ?_ | refine HCode.step ?_)
      refine hif (fun h6 => ?_) (fun h6 => ?_)
      · have h6 := ltB_true.1 h6
        rw [bs_size] at h6
        (repeat first | refine HReg.step ?_ | refine HCode.step ?_)
        exact hk false H3 ⟨fun h => (by cases h), fun h => absurd h (no hp (.inl (by omega)))⟩ u03
      have h6 := ltB_false.1 h6
      rw [bs_size] at h6
      (repeat first | refine HReg.step ?_ | refine HCode.step ?_)
      refine HLoad.one (v := .slice ak r.ks.length ck) (by exact o23.rows.get (i := 3) rfl) ?_
      (repeat first | refine HReg.step ?_ | refine HCode.step ?_)
      refine HLoad.one (v := .string (bs p.1)) (by exact o3.rows.get (i := 0) rfl) ?_
      (repeat first | refine HReg.step ?_ | refine HCode.step ?_)
      refine HCall.mk ⟨Try.f41, Try.func41, by rfl, by rfl⟩ ?_
      refine rhas_t hr3.rk rfl (by omega) fun t ht => ?_
      cases t with
      | false =>
        (repeat first | refine HReg.step ?_ | refine HCode.step ?_)
        exact hk false H3 ⟨fun h => (by cases h), fun h => absurd h (no hp (.inr (.inl fun hm => by have := ht.2 hm; cases this)))⟩ u03
      | true =>
        have hm := ht.1 rfl
        (repeat first | refine HReg.step ?_ | refine HCode.step ?_)
        refine hif (fun h7 => ?_) (fun h7 => ?_)
        · have h7 := ltB_true.1 h7
          have w1 : wr .i64 ((i : Int) - 1) = ((i - 1 : Nat) : Int) := by rw [wr_i64 (by omega) (by omega)]; omega
          obtain ⟨q, hq⟩ : ∃ q, r.ps[i - 1]? = some q := ⟨r.ps[i - 1]'(by omega), by simp⟩
          (repeat first | refine HReg.step ?_ | refine HCode.step ?_)
          refine HLoad.one (v := .slice (some ⟨ba, bo, none⟩) r.ps.length cp) (by exact o23.rows.get (i := 2) rfl) ?_
          (repeat first | refine HReg.step ?_ | refine HCode.step ?_)
          rw [w1]
          refine HReq.mk ⟨by omega, by omega⟩ ?_
          (repeat first | refine HReg.step ?_ | refine HCode.step ?_)
          refine HLoad.one (v := .string (bs q.1)) (by exact hr3.rp.get (pairsV_get hq).1) ?_
          (repeat first | refine HReg.step ?_ | refine HCode.step ?_)
          refine HLoad.one (v := .string (bs p.1)) (by exact o3.rows.get (i := 0) rfl) ?_
          (repeat first | refine HReg.step ?_ | refine HCode.step ?_)
          rw [sltB_bs]
          (repeat first | refine HReg.step ?_ | refine HCode.step ?_)
          by_cases hlt : q.1 < p.1
          · rw [decide_eq_true hlt]
            (repeat first | refine HReg.step ?_ | refine HCode.step ?_)
            rw [w2]
            refine ⟨m - 1, by omega, RmInv.mk ⟨i + 1, rfl, by omega, u2.trans u3, fun j z hj hz => ?_⟩⟩
            by_cases e : j < i
            · exact hall j z e hz
            · have e : j = i := by omega
              subst e
              rw [hp] at hz; cases hz
              exact ⟨by omega, hm, fun y' _ hy' => by rw [hq] at hy'; cases hy'; exact hlt⟩
          · rw [decide_eq_false hlt]
            (repeat first | refine HReg.step ?_ | refine HCode.step ?_)
            exact hk false H3 ⟨fun h => (by cases h), fun h => absurd h (no hp (.inr (.inr ⟨q, by omega, hq, hlt⟩)))⟩ u03
        · have h7 := ltB_false.1 h7
          (repeat first | refine HReg.step ?_ | refine HCode.step ?_)
          rw [w2]
          refine ⟨m - 1, by omega, RmInv.mk ⟨i + 1, rfl, by omega, u2.trans u3, fun j z hj hz => ?_⟩⟩
          have e : j = i := by omega
          subst e
          rw [hp] at hz; cases hz
          exact ⟨by omega, hm, fun y' hj' => by omega⟩
    · have h5 := ltB_false.1 h5
      (repeat first | refine HReg.step ?_ | refine HCode.step ?_)
      refine hk true H2 ⟨fun _ => ⟨by omega, .inr ⟨h3, hw, fun h => by rw [h] at h4; exact absurd h4 (by decide), fun j a b ha hb => ?_, fun p hp => ?_⟩⟩, fun _ => rfl⟩ u02
      · rw [List.getElem?_map] at ha hb
        cases ha' : r.ps[j]? with
        | none => rw [ha'] at ha; cases ha
        | some p =>
          cases hb' : r.ps[j + 1]? with
          | none => rw [hb'] at hb; cases hb
          | some q =>
            rw [ha'] at ha; rw [hb'] at hb
            cases ha; cases hb
            have := (List.getElem?_eq_some_iff.1 hb').1
            exact (hall (j + 1) q (by omega) hb').2.2 p (by omega) (by rw [Nat.add_sub_cancel]; exact ha')
      · obtain ⟨j, hj⟩ := List.getElem?_of_mem hp
        have := (List.getElem?_eq_some_iff.1 hj).1
        have h := hall j p (by omega) hj
        exact ⟨h.2.1, h.1⟩
end
end Go.Proofs.Ytokfmkfobjkkpaa
