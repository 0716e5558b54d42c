import Derived.Test.YtlgncabjphokjaaGreatG10
namespace Go.Proofs.YtlgncabjphokjaaGreat
open Go Hv
set_option linter.unusedVariables false
set_option linter.unusedSimpArgs false
set_option maxRecDepth 10000
set_option maxHeartbeats 2000000
/-! The document's ID, lengths, twice, Rising, Has, Whole, Set, wants. CUT2 -/
theorem sort_nodup (l : List Txt) : Rising (sortT l) ↔ l.Nodup := by
  have hp : (sortT l).Perm l := List.mergeSort_perm l _
  have hs : (sortT l).Pairwise (fun a b => decide (a ≤ b) = true) := List.pairwise_mergeSort (le := fun x y => decide (x ≤ y)) (fun a b c h k => decide_eq_true (List.le_trans (of_decide_eq_true h) (of_decide_eq_true k))) (fun a b => by
    rcases List.le_total a b with h | h
    · rw [decide_eq_true h]; rfl
    · rw [decide_eq_true h]; simp) l
  refine ⟨fun h => hp.nodup_iff.1 h.nodup, fun h => Rising.of_pairwise ?_⟩
  have hn : (sortT l).Pairwise (· ≠ ·) := hp.nodup_iff.2 h
  refine (hs.and hn).imp fun {a b} hab => ?_
  have h1 := of_decide_eq_true hab.1
  rcases lt_or a b with h | h | h
  · exact h
  · exact absurd h hab.2
  · exact absurd h (List.not_lt.2 h1)
theorem valid_nodup (l : List Txt) : Valid l ↔ Lens l ∧ l.Nodup := ⟨fun h => ⟨h.1, (sort_nodup l).1 h.2⟩, fun h => ⟨h.1, (sort_nodup l).2 h.2⟩⟩
theorem nodup_get {l : List Txt} : l.Nodup ↔ ∀ (j k : Nat) a b, j < k → l[j]? = some a → l[k]? = some b → a ≠ b := by
  unfold List.Nodup
  rw [List.pairwise_iff_getElem]
  refine ⟨fun h j k a b hjk ha hb => ?_, fun h i j hi hj hij => h i j _ _ hij (by simp [hi]) (by simp [hj])⟩
  obtain ⟨h1, rfl⟩ := List.getElem?_eq_some_iff.1 ha
  obtain ⟨h2, rfl⟩ := List.getElem?_eq_some_iff.1 hb
  exact h j k h1 h2 hjk
structure HaInv (l : List Txt) (k : Txt) (H : Heap) (m : Nat) (vs : List Value) (H' : Heap) : Prop where
  ex : ∃ i : Nat, vs = [.int .i64 (i : Int)] ∧ m + i = l.length ∧ H' = H ∧ ∀ j x, j < i → l[j]? = some x → x ≠ k
structure LeInv (l : List Txt) (H : Heap) (m : Nat) (vs : List Value) (H' : Heap) : Prop where
  ex : ∃ i : Nat, vs = [.int .i64 (i : Int)] ∧ m + i = l.length ∧ H' = H ∧ ∀ j x, j < i → l[j]? = some x → x.length ≤ 65535
structure DrInv (l : List Txt) (H : Heap) (m : Nat) (vs : List Value) (H' : Heap) : Prop where
  ex : ∃ i : Nat, vs = [.int .i64 ((i : Int) + 1)] ∧ m + i = l.length ∧ H' = H ∧ ∀ j a b, j < i → l[j]? = some a → l[j + 1]? = some b → a < b
structure TwO (l : List Txt) (H : Heap) (m : Nat) (vs : List Value) (H' : Heap) : Prop where
  ex : ∃ i : Nat, vs = [.int .i64 (i : Int)] ∧ m + i = l.length ∧ H' = H ∧ ∀ j k a b, j < k → k < i → l[j]? = some a → l[k]? = some b → a ≠ b
structure TwI (l : List Txt) (H : Heap) (i : Nat) (x : Txt) (m : Nat) (vs : List Value) (H' : Heap) : Prop where
  ex : ∃ k : Nat, vs = [.int .i64 (k : Int)] ∧ m + k = i ∧ H' = H ∧ ∀ j a, j < k → l[j]? = some a → a ≠ x
section
variable {H : Heap} {K : Value → Heap → Prop}
theorem rid_t {id : Nat} (hk : ∀ t : Bool, (t = true ↔ 65536 ≤ id) → K (.bool t) H) : HCalls Tryz.prog 51 [.int .u64 (id : Int)] H K := by
  refine hcalls (fn := Tryz.f51) [] mixed Tryz.func51 rfl rfl rfl ?_
  (repeat first | refine HReg.step ?_ | refine HCode.step ?_)
  refine hk _ ⟨fun h => ?_, fun h => ?_⟩
  · have := not_ltB_true.1 h; omega
  · exact not_ltB_true.2 (by omega)
theorem rhas_t {a : Option Addr} {n c : Nat} {l : List Txt} {k : Txt} (hr : RowAt H a (txts l)) (hl : l.length = n) (hn : n ≤ 9000000000000000000)
    (hk : ∀ t : Bool, (t = true ↔ k ∈ l) → K (.bool t) H) : HCalls Tryz.prog 68 [.slice a n c, .string (bs k)] H K := by
  refine hcalls (fn := Tryz.f68) [] mixed Tryz.func68 rfl rfl (by decide +kernel) ?_
  subst hl
  (repeat first | refine HReg.step ?_ | refine HCode.step ?_)
  refine hloopC [4, 5, 6, 7, 8, 9, 10, 11, 12, 13, 14, 15, 16, 17] [5] (HaInv l k H) rfl (by repeat' first | exact Resp.retD | exact Resp1.valuesK | refine Resp.blockD ?_ | refine Resp.thenD ?_ ?_ | refine Resp.hcode ?_) ?_ ?_
  · exact ⟨l.length, HaInv.mk ⟨0, rfl, rfl, rfl, fun j x hj => absurd hj (Nat.not_lt_zero _)⟩⟩
  rintro m _ fe H1 ⟨i, rfl, hmi, rfl, hall⟩
  have w2 : wr .i64 ((i : Int) + 1) = ((i + 1 : Nat) : Int) := by rw [wr_i64 (by omega) (by omega)]; omega
  (repeat first | refine HReg.step ?_ | refine HCode.step ?_)
  refine hif (fun h3 => ?_) (fun h3 => ?_)
  · have h3 := ltB_true.1 h3
    obtain ⟨x, hx⟩ : ∃ x, l[i]? = some x := ⟨l[i]'(by omega), by simp⟩
    obtain ⟨ba, bo, rfl, _⟩ := hr i _ (txts_get hx)
    (repeat first | refine HReg.step ?_ | refine HCode.step ?_)
    refine HReq.mk ⟨by omega, by omega⟩ ?_
    (repeat first | refine HReg.step ?_ | refine HCode.step ?_)
    refine HLoad.one (v := .string (bs x)) (by exact hr.get (txts_get hx)) ?_
    (repeat first | refine HReg.step ?_ | refine HCode.step ?_)
    rw [seqB_bs]
    (repeat first | refine HReg.step ?_ | refine HCode.step ?_)
    refine hif (fun h4 => ?_) (fun h4 => ?_)
    · have h4 := of_decide_eq_true h4
      (repeat first | refine HReg.step ?_ | refine HCode.step ?_)
      exact hk true ⟨fun _ => by rw [← h4]; exact List.mem_of_getElem? hx, fun _ => rfl⟩
    · have h4 := of_decide_eq_false h4
      (repeat first | refine HReg.step ?_ | refine HCode.step ?_)
      rw [w2]
      refine ⟨m - 1, by omega, HaInv.mk ⟨i + 1, rfl, by omega, rfl, fun j z hj hz => ?_⟩⟩
      by_cases e : j < i
      · exact hall j z e hz
      · have e : j = i := by omega
        subst e
        rw [hx] at hz; cases hz
        exact h4
  · have h3 := ltB_false.1 h3
    (repeat first | refine HReg.step ?_ | refine HCode.step ?_)
    refine hk false ⟨fun h => (by cases h), fun h => ?_⟩
    obtain ⟨j, hj⟩ := List.getElem?_of_mem h
    have := (List.getElem?_eq_some_iff.1 hj).1
    exact absurd rfl (hall j k (by omega) hj)
theorem rlens_t {a : Option Addr} {n c : Nat} {l : List Txt} (hr : RowAt H a (txts l)) (hl : l.length = n) (hn : n ≤ 9000000000000000000)
    (hk : ∀ t : Bool, (t = true ↔ Lens l) → K (.bool t) H) : HCalls Tryz.prog 69 [.slice a n c] H K := by
  refine hcalls (fn := Tryz.f69) [] mixed Tryz.func69 rfl rfl (by decide +kernel) ?_
  subst hl
  (repeat first | refine HReg.step ?_ | refine HCode.step ?_)
  refine hloopC [2, 3, 4, 5, 6, 7, 8, 9, 10, 11, 12, 13, 14, 15] [3] (LeInv l H) rfl (by repeat' first | exact Resp.retD | exact Resp1.valuesK | refine Resp.blockD ?_ | refine Resp.thenD ?_ ?_ | refine Resp.hcode ?_) ?_ ?_
  · exact ⟨l.length, LeInv.mk ⟨0, rfl, rfl, rfl, fun j x hj => absurd hj (Nat.not_lt_zero _)⟩⟩
  rintro m _ fe H1 ⟨i, rfl, hmi, rfl, hall⟩
  have w2 : wr .i64 ((i : Int) + 1) = ((i + 1 : Nat) : Int) := by rw [wr_i64 (by omega) (by omega)]; omega
  (repeat first | refine HReg.step ?_ | refine HCode.step ?_)
  refine hif (fun h3 => ?_) (fun h3 => ?_)
  · have h3 := ltB_true.1 h3
    obtain ⟨x, hx⟩ : ∃ x, l[i]? = some x := ⟨l[i]'(by omega), by simp⟩
    obtain ⟨ba, bo, rfl, _⟩ := hr i _ (txts_get hx)
    (repeat first | refine HReg.step ?_ | refine HCode.step ?_)
    refine HReq.mk ⟨by omega, by omega⟩ ?_
    (repeat first | refine HReg.step ?_ | refine HCode.step ?_)
    refine HLoad.one (v := .string (bs x)) (by exact hr.get (txts_get hx)) ?_
    (repeat first | refine HReg.step ?_ | refine HCode.step ?_)
    refine hif (fun h4 => ?_) (fun h4 => ?_)
    · have h4 := ltB_true.1 h4
      rw [bs_size] at h4
      (repeat first | refine HReg.step ?_ | refine HCode.step ?_)
      exact hk false ⟨fun h => (by cases h), fun h => by have := h.2.2 x (List.mem_of_getElem? hx); omega⟩
    have h4 := ltB_false.1 h4
    rw [bs_size] at h4
    (repeat first | refine HReg.step ?_ | refine HCode.step ?_)
    rw [w2]
    refine ⟨m - 1, by omega, LeInv.mk ⟨i + 1, rfl, by omega, rfl, fun j z hj hz => ?_⟩⟩
    by_cases e : j < i
    · exact hall j z e hz
    · have e : j = i := by omega
      subst e
      rw [hx] at hz; cases hz
      omega
  · have h3 := ltB_false.1 h3
    have hall' : ∀ s ∈ l, s.length ≤ 65535 := fun s hs => by
      obtain ⟨j, hj⟩ := List.getElem?_of_mem hs
      have := (List.getElem?_eq_some_iff.1 hj).1
      exact hall j s (by omega) hj
    (repeat first | refine HReg.step ?_ | refine HCode.step ?_)
    by_cases h1 : 1 ≤ l.length
    · rw [show ltB (l.length : Int) 1 = false from ltB_false.2 (by omega)]
      (repeat first | refine HReg.step ?_ | refine HCode.step ?_)
      refine hk _ ⟨fun h => ⟨h1, ?_, hall'⟩, fun h => ?_⟩
      · have := not_ltB_true.1 h; omega
      · exact not_ltB_true.2 (by have := h.2.1; omega)
    · rw [show ltB (l.length : Int) 1 = true from ltB_true.2 (by omega)]
      (repeat first | refine HReg.step ?_ | refine HCode.step ?_)
      exact hk false ⟨fun h => (by cases h), fun h => absurd h.1 h1⟩
theorem rrise_t {a : Option Addr} {n c : Nat} {l : List Txt} (hr : RowAt H a (txts l)) (hl : l.length = n) (hn : n ≤ 9000000000000000000)
    (hk : ∀ t : Bool, (t = true ↔ Rising l) → K (.bool t) H) : HCalls Tryz.prog 77 [.slice a n c] H K := by
  refine hcalls (fn := Tryz.f77) [(4, [(0, 0), (1, 0), (2, 0), (3, 0), (4, 0), (5, 0), (6, 0), (7, 0), (8, 0), (9, 0)])] mixed Tryz.func77 rfl rfl (by decide +kernel) ?_
  subst hl
  (repeat first | refine HReg.step ?_ | refine HCode.step ?_)
  refine hloopC [2, 3, 4, 5, 6, 7, 8, 9, 10, 11, 12, 13, 14, 15, 16, 17, 18, 19] [3] (DrInv l H) rfl (by repeat' first | exact Resp.retD | exact Resp1.valuesK | refine Resp.blockD ?_ | refine Resp.thenD ?_ ?_ | refine Resp.hcode ?_) ?_ ?_
  · exact ⟨l.length, DrInv.mk ⟨0, rfl, rfl, rfl, fun j a b hj => absurd hj (Nat.not_lt_zero _)⟩⟩
  rintro m _ fe H1 ⟨i, rfl, hmi, rfl, hall⟩
  have w1 : wr .i64 ((i : Int) + 1 - 1) = (i : Int) := by rw [wr_i64 (by omega) (by omega)]; omega
  have w2 : wr .i64 ((i : Int) + 1 + 1) = ((i + 1 : Nat) : Int) + 1 := by rw [wr_i64 (by omega) (by omega)]; omega
  (repeat first | refine HReg.step ?_ | refine HCode.step ?_)
  refine hif (fun h3 => ?_) (fun h3 => ?_)
  · have h3 := ltB_true.1 h3
    obtain ⟨x, hx⟩ : ∃ x, l[i]? = some x := ⟨l[i]'(by omega), by simp⟩
    obtain ⟨y, hy⟩ : ∃ y, l[i + 1]? = some y := ⟨l[i + 1]'(by omega), by simp⟩
    obtain ⟨ba, bo, rfl, _⟩ := hr i _ (txts_get hx)
    (repeat first | refine HReg.step ?_ | refine HCode.step ?_)
    rw [w1]
    refine HReq.mk ⟨by omega, by omega⟩ ?_
    (repeat first | refine HReg.step ?_ | refine HCode.step ?_)
    refine HLoad.one (v := .string (bs x)) (by exact hr.get (txts_get hx)) ?_
    (repeat first | refine HReg.step ?_ | refine HCode.step ?_)
    refine HReq.mk ⟨by omega, by omega⟩ ?_
    (repeat first | refine HReg.step ?_ | refine HCode.step ?_)
    refine HLoad.one (v := .string (bs y)) (by exact hr.get (txts_get hy)) ?_
    (repeat first | refine HReg.step ?_ | refine HCode.step ?_)
    rw [sltB_bs]
    by_cases hlt : x < y
    · rw [decide_eq_true hlt]
      (repeat first | refine HReg.step ?_ | refine HCode.step ?_)
      rw [w2]
      refine ⟨m - 1, by omega, DrInv.mk ⟨i + 1, rfl, by omega, rfl, fun j z w hj hz hw => ?_⟩⟩
      by_cases e : j < i
      · exact hall j z w e hz hw
      · have e : j = i := by omega
        subst e
        rw [hx] at hz; cases hz
        rw [hy] at hw; cases hw
        exact hlt
    · rw [decide_eq_false hlt]
      (repeat first | refine HReg.step ?_ | refine HCode.step ?_)
      exact hk false ⟨fun h => (by cases h), fun h => absurd (h i x y hx hy) hlt⟩
  · have h3 := ltB_false.1 h3
    (repeat first | refine HReg.step ?_ | refine HCode.step ?_)
    refine hk true ⟨fun _ j a b ha hb => ?_, fun _ => rfl⟩
    have := (List.getElem?_eq_some_iff.1 hb).1
    exact hall j a b (by omega) ha hb
theorem rtwice_t {a : Option Addr} {n c : Nat} {l : List Txt} (hr : RowAt H a (txts l)) (hl : l.length = n) (hn : n ≤ 9000000000000000000)
    (hk : ∀ t : Bool, (t = true ↔ ¬ l.Nodup) → K (.bool t) H) : HCalls Tryz.prog 70 [.slice a n c] H K := by
  refine hcalls (fn := Tryz.f70) [(7, [(0, 0), (1, 0), (2, 0), (3, 0), (4, 0), (5, 0), (6, 0), (7, 0), (8, 0)])] mixed Tryz.func70 rfl rfl (by decide +kernel) ?_
  subst hl
  (repeat first | refine HReg.step ?_ | refine HCode.step ?_)
  refine hloopC [2, 3, 4, 5, 6, 7, 8, 9, 10, 11, 12, 13, 14, 15, 16, 17, 18, 19, 20, 21, 22, 23, 24] [3] (TwO l H) rfl (by repeat' first | exact Resp.retD | exact Resp1.valuesK | refine Resp.blockD ?_ | refine Resp.thenD ?_ ?_ | refine Resp.hcode ?_) ?_ ?_
  · exact ⟨l.length, TwO.mk ⟨0, rfl, rfl, rfl, fun j k a b _ hj => absurd hj (Nat.not_lt_zero _)⟩⟩
  rintro m _ fe H1 ⟨i, rfl, hmi, rfl, hall⟩
  have w2 : wr .i64 ((i : Int) + 1) = ((i + 1 : Nat) : Int) := by rw [wr_i64 (by omega) (by omega)]; omega
  (repeat first | refine HReg.step ?_ | refine HCode.step ?_)
  refine hif (fun h3 => ?_) (fun h3 => ?_)
  · have h3 := ltB_true.1 h3
    obtain ⟨x, hx⟩ : ∃ x, l[i]? = some x := ⟨l[i]'(by omega), by simp⟩
    obtain ⟨ba, bo, rfl, _⟩ := hr i _ (txts_get hx)
    (repeat first | refine HReg.step ?_ | refine HCode.step ?_)
    refine hloopC [2, 4, 11, 12, 13, 14, 15, 16, 17, 18, 19, 20, 21, 22, 23, 24] [4] (TwI l H1 i x) rfl (by repeat' first | exact Resp.retD | exact Resp1.valuesK | refine Resp.blockD ?_ | refine Resp.thenD ?_ ?_ | refine Resp.hcode ?_) ?_ ?_
    · exact ⟨i, TwI.mk ⟨0, rfl, rfl, rfl, fun j a hj => absurd hj (Nat.not_lt_zero _)⟩⟩
    rintro m2 _ fe2 H2 ⟨k, rfl, hmk, rfl, hin⟩
    have w3 : wr .i64 ((k : Int) + 1) = ((k + 1 : Nat) : Int) := by rw [wr_i64 (by omega) (by omega)]; omega
    (repeat first | refine HReg.step ?_ | refine HCode.step ?_)
    refine hif (fun h4 => ?_) (fun h4 => ?_)
    · have h4 := ltB_true.1 h4
      obtain ⟨y, hy⟩ : ∃ y, l[k]? = some y := ⟨l[k]'(by omega), by simp⟩
      (repeat first | refine HReg.step ?_ | refine HCode.step ?_)
      refine HReq.mk ⟨by omega, by omega⟩ ?_
      (repeat first | refine HReg.step ?_ | refine HCode.step ?_)
      refine HLoad.one (v := .string (bs y)) (by exact hr.get (txts_get hy)) ?_
      (repeat first | refine HReg.step ?_ | refine HCode.step ?_)
      refine HReq.mk ⟨by omega, by omega⟩ ?_
      (repeat first | refine HReg.step ?_ | refine HCode.step ?_)
      refine HLoad.one (v := .string (bs x)) (by exact hr.get (txts_get hx)) ?_
      (repeat first | refine HReg.step ?_ | refine HCode.step ?_)
      rw [seqB_bs]
      (repeat first | refine HReg.step ?_ | refine HCode.step ?_)
      refine hif (fun h5 => ?_) (fun h5 => ?_)
      · have h5 := of_decide_eq_true h5
        (repeat first | refine HReg.step ?_ | refine HCode.step ?_)
        refine hk true ⟨fun _ hn => ?_, fun _ => rfl⟩
        exact nodup_get.1 hn k i y x (by omega) hy hx h5
      · have h5 := of_decide_eq_false h5
        (repeat first | refine HReg.step ?_ | refine HCode.step ?_)
        rw [w3]
        refine ⟨m2 - 1, by omega, TwI.mk ⟨k + 1, rfl, by omega, rfl, fun j z hj hz => ?_⟩⟩
        by_cases e : j < k
        · exact hin j z e hz
        · have e : j = k := by omega
          subst e
          rw [hy] at hz; cases hz
          exact h5
    · have h4 := ltB_false.1 h4
      (repeat first | refine HReg.step ?_ | refine HCode.step ?_)
      rw [w2]
      refine ⟨m - 1, by omega, TwO.mk ⟨i + 1, rfl, by omega, rfl, fun j k' a b hj hk' ha hb => ?_⟩⟩
      by_cases e : k' < i
      · exact hall j k' a b hj e ha hb
      · have e : k' = i := by omega
        subst e
        rw [hx] at hb; cases hb
        exact hin j a (by omega) ha
  · have h3 := ltB_false.1 h3
    (repeat first | refine HReg.step ?_ | refine HCode.step ?_)
    refine hk false ⟨fun h => (by cases h), fun h => absurd ?_ h⟩
    exact nodup_get.2 fun j k a b hj ha hb => hall j k a b hj (by have := (List.getElem?_eq_some_iff.1 hb).1; omega) ha hb
theorem rwhole_t {a : Option Addr} {n c : Nat} {l : List Txt} (hr : RowAt H a (txts l)) (hl : l.length = n) (hn : n ≤ 9000000000000000000)
    (hk : ∀ t : Bool, (t = true ↔ Whole l) → K (.bool t) H) : HCalls Tryz.prog 67 [.slice a n c] H K := by
  refine hcalls (fn := Tryz.f67) [] mixed Tryz.func67 rfl rfl (by decide +kernel) ?_
  (repeat first | refine HReg.step ?_ | refine HCode.step ?_)
  refine HCall.mk ⟨Tryz.f69, Tryz.func69, by rfl, by rfl⟩ ?_
  refine rlens_t hr hl hn fun t ht => ?_
  cases t with
  | false =>
    (repeat first | refine HReg.step ?_ | refine HCode.step ?_)
    exact hk false ⟨fun h => (by cases h), fun h => ht.2 h.1⟩
  | true =>
    (repeat first | refine HReg.step ?_ | refine HCode.step ?_)
    refine HCall.mk ⟨Tryz.f77, Tryz.func77, by rfl, by rfl⟩ ?_
    refine rrise_t hr hl hn fun t2 ht2 => ?_
    (repeat first | refine HReg.step ?_ | refine HCode.step ?_)
    exact hk t2 ⟨fun h => ⟨ht.1 rfl, ht2.1 h⟩, fun h => ht2.2 h.2⟩
theorem rset_t {a : Option Addr} {n c : Nat} {l : List Txt} (hr : RowAt H a (txts l)) (hl : l.length = n) (hn : n ≤ 9000000000000000000)
    (hk : ∀ t : Bool, (t = true ↔ Valid l) → K (.bool t) H) : HCalls Tryz.prog 52 [.slice a n c] H K := by
  refine hcalls (fn := Tryz.f52) [] mixed Tryz.func52 rfl rfl (by decide +kernel) ?_
  have hv := valid_nodup l
  (repeat first | refine HReg.step ?_ | refine HCode.step ?_)
  refine HCall.mk ⟨Tryz.f69, Tryz.func69, by rfl, by rfl⟩ ?_
  refine rlens_t hr hl hn fun t ht => ?_
  cases t with
  | false =>
    (repeat first | refine HReg.step ?_ | refine HCode.step ?_)
    exact hk false ⟨fun h => (by cases h), fun h => ht.2 h.1⟩
  | true =>
    (repeat first | refine HReg.step ?_ | refine HCode.step ?_)
    refine HCall.mk ⟨Tryz.f70, Tryz.func70, by rfl, by rfl⟩ ?_
    refine rtwice_t hr hl hn fun t2 ht2 => ?_
    cases t2 with
    | false =>
      (repeat first | refine HReg.step ?_ | refine HCode.step ?_)
      exact hk true ⟨fun _ => hv.2 ⟨ht.1 rfl, Classical.byContradiction fun hn => (by cases ht2.2 hn)⟩, fun _ => rfl⟩
    | true =>
      (repeat first | refine HReg.step ?_ | refine HCode.step ?_)
      exact hk false ⟨fun h => (by cases h), fun h => absurd (hv.1 h).2 (ht2.1 rfl)⟩
structure WkInv (ws : List (Txt × Nat)) (H : Heap) (m : Nat) (vs : List Value) (H' : Heap) : Prop where
  ex : ∃ (i : Nat) (a : Option Addr) (c : Nat), vs = [.slice a i c, .int .i64 (i : Int)] ∧ m + i = ws.length ∧ Made H H' 9 1 a i c (txts ((ws.take i).map Prod.fst)) ∧ ∀ j w, j < i → ws[j]? = some w → 65536 ≤ w.2
theorem rwants_t {a : Option Addr} {n c : Nat} {ws : List (Txt × Nat)} (hr : RowAt H a (wantsV ws)) (hl : ws.length = n) (hn : n ≤ 8796093021952)
    (hk : ∀ (t : Bool) H', (t = true ↔ WantsOk ws) → Upd [] H H' → K (.bool t) H') : HCalls Tryz.prog 53 [.slice a n c] H K := by
  refine hcalls (fn := Tryz.f53) [] mixed Tryz.func53 rfl rfl (by decide +kernel) ?_
  (repeat first | refine HReg.step ?_ | refine HCode.step ?_)
  refine hloopC [2, 3, 4, 5, 6, 7, 8, 9, 10, 11, 12, 13, 14, 15, 16, 17, 18, 19, 20, 21, 22, 23, 24, 25] [3, 4] (WkInv ws H) rfl (by repeat' first | exact Resp.retD | exact Resp1.valuesK | refine Resp.blockD ?_ | refine Resp.thenD ?_ ?_ | refine Resp.hcode ?_) ?_ ?_
  · exact ⟨ws.length, WkInv.mk ⟨0, none, 0, rfl, rfl, made_nil _ _ _, fun j w hj => absurd hj (Nat.not_lt_zero _)⟩⟩
  rintro m _ fe H1 ⟨i, a1, c1, rfl, hmi, m1, hall⟩
  (repeat first | refine HReg.step ?_ | refine HCode.step ?_)
  refine hif (fun h1 => ?_) (fun h1 => ?_)
  · have h1 := ltB_true.1 h1
    have w2 : wr .i64 ((i : Int) + 1) = ((i + 1 : Nat) : Int) := by rw [wr_i64 (by omega) (by omega)]; omega
    obtain ⟨p, hp⟩ : ∃ p, ws[i]? = some p := ⟨ws[i]'(by omega), by simp⟩
    have hr1 := hr.upd (S := []) m1.upd (.inr (Off.nil _))
    obtain ⟨ba, bo, rfl, _⟩ := hr _ _ (wantsV_get hp).1
    (repeat first | refine HReg.step ?_ | refine HCode.step ?_)
    refine HReq.mk ⟨by omega, by omega⟩ ?_
    (repeat first | refine HReg.step ?_ | refine HCode.step ?_)
    refine HLoad.one (v := .int .u64 (p.2 : Int)) (by rw [Nat.add_assoc]; exact hr1.get (wantsV_get hp).2) ?_
    (repeat first | refine HReg.step ?_ | refine HCode.step ?_)
    refine HCall.mk ⟨Tryz.f51, Tryz.func51, by rfl, by rfl⟩ ?_
    refine rid_t fun t ht => ?_
    cases t with
    | false =>
      (repeat first | refine HReg.step ?_ | refine HCode.step ?_)
      exact hk false H1 ⟨fun h => (by cases h), fun h => ht.2 (h.1 p (List.mem_of_getElem? hp))⟩ m1.upd
    | true =>
      have hid := ht.1 rfl
      (repeat first | refine HReg.step ?_ | refine HCode.step ?_)
      refine HReq.mk ⟨by omega, by omega⟩ ?_
      (repeat first | refine HReg.step ?_ | refine HCode.step ?_)
      refine HLoad.one (v := .string (bs p.1)) (by exact hr1.get (wantsV_get hp).1) ?_
      (repeat first | refine HReg.step ?_ | refine HCode.step ?_)
      refine HReq.mk (by decide) ?_
      (repeat first | refine HReg.step ?_ | refine HCode.step ?_)
      refine HNew.mk fun b3 hb3 => ?_
      have u3 : Upd [] H1 (H1.upd b3 (.cells [Value.string (bs p.1)].toArray 9)) := Upd.new hb3 _
      have r3 : RowAt (H1.upd b3 (.cells [Value.string (bs p.1)].toArray 9)) (some ⟨b3, 0, none⟩) (txts [p.1]) := RowAt.of_cells (upd_same _ _ _)
      generalize hH3 : H1.upd b3 (.cells [Value.string (bs p.1)].toArray 9) = H3 at u3 r3
      (repeat first | refine HReg.step ?_ | refine HCode.step ?_)
      refine app_textsZ (m1.step u3) r3 rfl (by omega) fun a4 c4 H4 m4 => ?_
      have e : (ws.take (i + 1)).map Prod.fst = (ws.take i).map Prod.fst ++ [p.1] := by rw [List.take_add_one, hp]; simp
      (repeat first | refine HReg.step ?_ | refine HCode.step ?_)
      rw [w2]
      refine ⟨m - 1, by omega, WkInv.mk ⟨i + 1, a4, c4, rfl, by omega, by rw [e]; exact m4, fun j w hj hw => ?_⟩⟩
      by_cases ej : j < i
      · exact hall j w ej hw
      · have ej : j = i := by omega
        subst ej
        rw [hp] at hw; cases hw
        exact hid
  · have h1 := ltB_false.1 h1
    have hi : i = n := by omega
    subst hi
    rw [List.take_of_length_le (by omega)] at m1
    (repeat first | refine HReg.step ?_ | refine HCode.step ?_)
    refine HCall.mk ⟨Tryz.f52, Tryz.func52, by rfl, by rfl⟩ ?_
    refine rset_t m1.own.rows (by rw [List.length_map]; omega) (by omega) fun t ht => ?_
    (repeat first | refine HReg.step ?_ | refine HCode.step ?_)
    refine hk t H1 ⟨fun h => ⟨fun w hw => ?_, ht.1 h⟩, fun h => ht.2 h.2⟩ m1.upd
    obtain ⟨j, hj⟩ := List.getElem?_of_mem hw
    exact hall j w (by have := (List.getElem?_eq_some_iff.1 hj).1; omega) hj
end
end Go.Proofs.YtlgncabjphokjaaGreat
