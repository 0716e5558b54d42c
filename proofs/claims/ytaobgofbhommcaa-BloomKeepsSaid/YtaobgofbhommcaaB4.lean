import Derived.Test.YtaobgofbhommcaaB3
namespace Go.Proofs.Ytaobgofbhommcaa
open Go Hv
set_option linter.unusedVariables false
set_option linter.unusedSimpArgs false
set_option maxRecDepth 10000
set_option maxHeartbeats 4000000
/-! Places of both sides; lists of numbers -/
theorem HLoadN_row {H : Heap} {b off n : Nat} {vs : List Value} {K : List Value → Prop} (h : RowAt H (some ⟨b, off, none⟩) vs) (hl : vs.length = n) (hk : K vs) : HLoadN [H] b off n K :=
  ⟨vs, fun H' hH j v hv => by rw [List.mem_singleton.1 hH]; exact h.get hv, hl, hk⟩
theorem pair_own {H : Heap} {b : Nat} {e : TypeId} (x y : Value) : OwnRow (H.upd b (.cells [x, y].toArray e)) e 1 (some ⟨b, 0, none⟩) 2 2 [x, y] := OwnRow.lit (upd_same _ _ _) rfl
theorem PlacesP {n h : Int} {s : List UInt8} {H : Heap} {K : Value → Heap → Prop} (hlim : s.length ≤ 9223372036854775806)
    (hno : ∀ H', ¬ mayP n h → Upd [] H H' → K (.tuple #[.slice none 0 0, .int .i64 1]) H')
    (hyes : ∀ a c H', mayP n h → Made H H' 3 1 a h.toNat c (nums (placesL n.toNat h.toNat s)) → K (.tuple #[.slice a h.toNat c, .int .i64 0]) H') : HCalls Try.prog 19 [.string (bs s), .int .i64 n, .int .i64 h] H K := by
  refine hcalls (fn := Try.f19) [] mixed Try.func19 rfl rfl rfl ?_
  (repeat first | refine HReg.step ?_ | refine HCode.step ?_)
  refine HNew.mk fun b hb => ?_
  have u0 : Upd [] H (H.upd b (.cells [Value.int .i64 0, .int .i64 0].toArray 69)) := Upd.new hb _
  (repeat first | refine HReg.step ?_ | refine HCode.step ?_)
  refine store_row (pair_own _ _) (v := .int .i64 n) rfl (i := 0) (by decide) (by rfl) fun H1 o1 u1 => ?_
  (repeat first | refine HReg.step ?_ | refine HCode.step ?_)
  refine store_row o1 (v := .int .i64 h) rfl (i := 1) (by decide) (by rfl) fun H2 o2 u2 => ?_
  have hb2 : ∀ k ∈ [b], H k = none := fun k hk => by rw [List.mem_singleton.1 hk]; exact hb
  have u2 : Upd [] H H2 := Upd.drop (Upd.drop u0 u1 hb2) u2 hb2
  (repeat first | refine HReg.step ?_ | refine HCode.step ?_)
  refine HLoadN_row (vs := [.int .i64 n, .int .i64 h]) (by exact o2.rows) rfl ?_
  (repeat first | refine HReg.step ?_ | refine HCode.step ?_)
  refine HCall.mk ⟨Try.f34, Try.func34, by rfl, by rfl⟩ ?_
  refine may_t fun H3 u3 => ?_
  have u3' := u2.trans u3
  (repeat first | refine HReg.step ?_ | refine HCode.step ?_)
  refine hif (fun hm => ?_) (fun hm => ?_)
  · have hm : ¬ mayP n h := by simpa using hm
    (repeat first | refine HReg.step ?_ | refine HCode.step ?_)
    exact hno H3 hm u3'
  · have hm : mayP n h := by simpa using hm
    obtain ⟨m1, m2, m3, m4⟩ := id hm
    have o3 := o2.upd u3 (Off.nil _)
    (repeat first | refine HReg.step ?_ | refine HCode.step ?_)
    refine HLoadN_row (vs := [.int .i64 n, .int .i64 h]) (by exact o3.rows) rfl ?_
    (repeat first | refine HReg.step ?_ | refine HCode.step ?_)
    refine HCall.mk ⟨Try.f39, Try.func39, by rfl, by rfl⟩ ?_
    have en : n = (n.toNat : Int) := by omega
    have eh : h = (h.toNat : Int) := by omega
    have e : (shp n h) = shp (n.toNat : Int) (h.toNat : Int) := by rw [← en, ← eh]
    show HCalls Try.prog 39 [shp n h, .string (bs s)] H3 _
    rw [e]
    refine places_t hlim (by omega) (by omega) (by omega) fun a c H4 m4 => ?_
    (repeat first | refine HReg.step ?_ | refine HCode.step ?_)
    exact hyes a c H4 hm (m4.back u3')
theorem rmay_t {n h : Int} {H : Heap} {K : Value → Heap → Prop} (hk : K (.bool (decide (mayP n h))) H) : HCalls Try.prog 36 [.int .i64 n, .int .i64 h] H K := by
  refine hcalls (fn := Try.f36) [] mixed Try.func36 rfl rfl rfl ?_
  have no : ¬ mayP n h → K (.bool false) H := fun hn => by
    rwa [decide_eq_false hn] at hk
  (repeat first | refine HReg.step ?_ | refine HCode.step ?_)
  refine hif (fun h1 => ?_) (fun h1 => ?_)
  · have h1 := not_ltB_true.1 h1
    (repeat first | refine HReg.step ?_ | refine HCode.step ?_)
    refine hif (fun h2 => ?_) (fun h2 => ?_)
    · have h2 := not_ltB_true.1 h2
      (repeat first | refine HReg.step ?_ | refine HCode.step ?_)
      refine hif (fun h3 => ?_) (fun h3 => ?_)
      · have h3 := not_ltB_true.1 h3
        have e : (!ltB 16 h) = decide (mayP n h) := by
          rw [Bool.eq_iff_iff, not_ltB_true, decide_eq_true_iff]; unfold mayP; omega
        (repeat first | refine HReg.step ?_ | refine HCode.step ?_)
        rw [← e] at hk
        exact hk
      · have h3 := not_ltB_false.1 h3
        (repeat first | refine HReg.step ?_ | refine HCode.step ?_)
        exact no (by unfold mayP; omega)
    · have h2 := not_ltB_false.1 h2
      (repeat first | refine HReg.step ?_ | refine HCode.step ?_)
      exact no (by unfold mayP; omega)
  · have h1 := not_ltB_false.1 h1
    (repeat first | refine HReg.step ?_ | refine HCode.step ?_)
    exact no (by unfold mayP; omega)
structure RPlInv (n h : Nat) (s : List UInt8) (H2 : Heap) (m : Nat) (vs : List Value) (H' : Heap) : Prop where
  ex : ∃ (i : Nat) (a : Option Addr) (c : Nat), vs = [.slice a i c, .int .u64 (i : Int)] ∧ m + i = h ∧ Made H2 H' 3 1 a i c (nums ((placesL n h s).take i))
theorem RPlaces {n h : Int} {s : List UInt8} {H : Heap} {K : Value → Heap → Prop} (hlim : s.length ≤ 9223372036854775806)
    (hno : ¬ mayP n h → K (.tuple #[.slice none 0 0, .int .i64 1]) H)
    (hyes : ∀ a c H', mayP n h → Made H H' 3 1 a h.toNat c (nums (placesL n.toNat h.toNat s)) → K (.tuple #[.slice a h.toNat c, .int .i64 0]) H') : HCalls Try.prog 20 [.string (bs s), .int .i64 n, .int .i64 h] H K := by
  refine hcalls (fn := Try.f20) [] mixed Try.func20 rfl rfl rfl ?_
  (repeat first | refine HReg.step ?_ | refine HCode.step ?_)
  refine HCall.mk ⟨Try.f36, Try.func36, by rfl, by rfl⟩ ?_
  refine rmay_t ?_
  (repeat first | refine HReg.step ?_ | refine HCode.step ?_)
  refine hif (fun hm => ?_) (fun hm => ?_)
  · have hm : ¬ mayP n h := by simpa using hm
    (repeat first | refine HReg.step ?_ | refine HCode.step ?_)
    exact hno hm
  have hm : mayP n h := by simpa using hm
  obtain ⟨m1, m2, m3, m4⟩ := id hm
  obtain ⟨q, rfl⟩ : ∃ q : Nat, n = (q : Int) := ⟨n.toNat, by omega⟩
  obtain ⟨k, rfl⟩ : ∃ k : Nat, h = (k : Int) := ⟨h.toNat, by omega⟩
  rw [Int.toNat_natCast, Int.toNat_natCast] at hyes
  (repeat first | refine HReg.step ?_ | refine HCode.step ?_)
  refine HCall.mk ⟨Try.f40, Try.func40, by rfl, by rfl⟩ ?_
  refine rhash_t hlim ?_
  rw [hashN_eq]
  have e1 := shr_hi (hashN s)
  have e2 := and_lo (hashN s) (hashN_lt s)
  have w0 : wr .u64 (k : Int) = (k : Int) := by rw [wr_u64]; omega
  have w1 : wr .u64 (q : Int) = (q : Int) := by rw [wr_u64]; omega
  (repeat first | refine HReg.step ?_ | refine HCode.step ?_)
  refine hloopC [9, 10, 17, 18, 19, 20, 21, 22, 23, 24, 25, 26, 27, 28, 29, 30, 31, 32, 33, 34, 35, 36] [9, 10] (RPlInv q k s H) rfl (by repeat' first | exact Resp.retD | exact Resp1.valuesK | refine Resp.blockD ?_ | refine Resp.thenD ?_ ?_ | refine Resp.hcode ?_) ?_ ?_
  · exact ⟨k, RPlInv.mk ⟨0, none, 0, rfl, by omega, ⟨OwnRow.nil _ _ _, Upd.refl _ _, fun p hp => by cases hp⟩⟩⟩
  rintro m _ fe H3 ⟨i, a, c, rfl, hmi, hm3⟩
  (repeat first | refine HReg.step ?_ | refine HCode.step ?_)
  rw [w0]
  refine hif (fun h1 => ?_) (fun h1 => ?_)
  · have h1 := ltB_true.1 h1
    have hlt := atN_lt s (i := i) (by omega)
    have hmod : atN s i % q < q := Nat.mod_lt _ (by omega)
    (repeat first | refine HReg.step ?_ | refine HCode.step ?_)
    refine HReq.mk (by decide) ?_
    (repeat first | refine HReg.step ?_ | refine HCode.step ?_)
    refine HReq.mk (by rw [w1]; omega) ?_
    have w2 : wr .u64 (shrS .u64 (hashN s : Int) 32 + wr .u64 ((i : Int) * bitsS .and .u64 (hashN s : Int) 4294967295)) = (atN s i : Int) := by
      have h2 : hashN s / 4294967296 < 4294967296 := by have := hashN_lt s; omega
      have h4 : i * (hashN s % 4294967296) < 73014444032 := by unfold atN at hlt; omega
      rw [e1, e2, wr_u64, wr_u64, ← Int.natCast_mul]
      unfold atN
      unfold atN at hlt
      omega
    have w3 : wr .i64 (Int.tmod (wr .u64 (shrS .u64 (hashN s : Int) 32 + wr .u64 ((i : Int) * bitsS .and .u64 (hashN s : Int) 4294967295))) (wr .u64 (q : Int))) = ((atN s i % q : Nat) : Int) := by
      rw [w2, w1, Int.tmod_eq_emod_of_nonneg (by omega), ← Int.natCast_emod]
      exact wr_i64 (by omega) (by omega)
    (repeat first | refine HReg.step ?_ | refine HCode.step ?_)
    refine HReq.mk (by decide) ?_
    (repeat first | refine HReg.step ?_ | refine HCode.step ?_)
    rw [w3]
    refine HNew.mk fun b4 hb4 => ?_
    (repeat first | refine HReg.step ?_ | refine HCode.step ?_)
    refine app_int hm3 hb4 (by omega) fun a5 c5 H5 m5 => ?_
    rw [placesL_take q k s (by omega)] at m5
    have w4 : wr .u64 ((i : Int) + 1) = ((i + 1 : Nat) : Int) := by rw [wr_u64]; omega
    (repeat first | refine HReg.step ?_ | refine HCode.step ?_)
    rw [w4]
    exact ⟨m - 1, by omega, RPlInv.mk ⟨i + 1, a5, c5, rfl, by omega, m5⟩⟩
  · have h1 := ltB_false.1 h1
    have : i = k := by omega
    subst this
    (repeat first | refine HReg.step ?_ | refine HCode.step ?_)
    refine hyes a c H3 hm ?_
    rwa [List.take_of_length_le (by rw [placesL_length]; exact Nat.le_refl _)] at hm3
structure SiInv (l r : List Nat) (H0 : Heap) (m : Nat) (vs : List Value) (H' : Heap) : Prop where
  ex : ∃ (i : Nat), vs = [.int .i64 (i : Int)] ∧ m + i = l.length ∧ l.take i = r.take i ∧ H0 = H'
theorem sameInts_t {a b : Option Addr} {n m c d : Nat} {x y : List Nat} {H : Heap} {K : Value → Heap → Prop} (hx : RowAt H a (nums x)) (hn : x.length = n) (hy : RowAt H b (nums y)) (hm : y.length = m) (hl : n ≤ 9223372036854775806)
    (hk : K (.bool (decide (x = y))) H) : HCalls Try.prog 21 [.slice a n c, .slice b m d] H K := by
  refine hcalls (fn := Try.f21) [(6, [(0, 0), (1, 0), (2, 0), (3, 0), (4, 0), (5, 0), (6, 0), (7, 0), (8, 0)])] mixed Try.func21 rfl rfl (by decide +kernel) ?_
  (repeat first | refine HReg.step ?_ | refine HCode.step ?_)
  refine hif (fun h => ?_) (fun h => ?_)
  · have h := not_eqB_true.1 h
    (repeat first | refine HReg.step ?_ | refine HCode.step ?_)
    rw [decide_eq_false (fun e => h (by rw [← hn, ← hm, e]))] at hk
    exact hk
  have h := not_eqB_false.1 h
  have hnm : n = m := by omega
  (repeat first | refine HReg.step ?_ | refine HCode.step ?_)
  refine hloopC [4, 5, 11, 12, 13, 14, 15, 16, 17, 18, 19, 20, 21, 22, 23, 24, 25] [5] (SiInv x y H) rfl (by repeat' first | exact Resp.retD | exact Resp1.valuesK | refine Resp.blockD ?_ | refine Resp.thenD ?_ ?_ | refine Resp.hcode ?_) ?_ ?_
  · exact ⟨x.length, SiInv.mk ⟨0, rfl, rfl, rfl, rfl⟩⟩
  rintro k _ fe H3 ⟨i, rfl, hki, ht, rfl⟩
  (repeat first | refine HReg.step ?_ | refine HCode.step ?_)
  refine hif (fun h1 => ?_) (fun h1 => ?_)
  · have h1 := ltB_true.1 h1
    obtain ⟨p, hp⟩ : ∃ p, x[i]? = some p := ⟨x[i]'(by omega), by simp⟩
    obtain ⟨q, hq⟩ : ∃ q, y[i]? = some q := ⟨y[i]'(by omega), by simp⟩
    obtain ⟨b1, o1, rfl, _⟩ := hx i _ (nums_get hp)
    obtain ⟨b2, o2, rfl, _⟩ := hy i _ (nums_get hq)
    (repeat first | refine HReg.step ?_ | refine HCode.step ?_)
    refine HReq.mk ⟨by omega, by omega⟩ ?_
    (repeat first | refine HReg.step ?_ | refine HCode.step ?_)
    refine HLoad.one (v := .int .i64 (p : Int)) (by exact hx.get (nums_get hp)) ?_
    (repeat first | refine HReg.step ?_ | refine HCode.step ?_)
    refine HReq.mk ⟨by omega, by omega⟩ ?_
    (repeat first | refine HReg.step ?_ | refine HCode.step ?_)
    refine HLoad.one (v := .int .i64 (q : Int)) (by exact hy.get (nums_get hq)) ?_
    (repeat first | refine HReg.step ?_ | refine HCode.step ?_)
    refine hif (fun h2 => ?_) (fun h2 => ?_)
    · have h2 := not_eqB_true.1 h2
      (repeat first | refine HReg.step ?_ | refine HCode.step ?_)
      rw [decide_eq_false (fun e => h2 (by rw [e, hq] at hp; cases hp; rfl))] at hk
      exact hk
    · have h2 := not_eqB_false.1 h2
      have hpq : p = q := by omega
      have w : wr .i64 ((i : Int) + 1) = ((i + 1 : Nat) : Int) := by rw [wr_i64 (by omega) (by omega)]; omega
      (repeat first | refine HReg.step ?_ | refine HCode.step ?_)
      rw [w]
      exact ⟨k - 1, by omega, SiInv.mk ⟨i + 1, rfl, by omega, by rw [List.take_add_one, List.take_add_one, ht, hp, hq, hpq], rfl⟩⟩
  · have h1 := ltB_false.1 h1
    (repeat first | refine HReg.step ?_ | refine HCode.step ?_)
    rw [List.take_of_length_le (by omega), List.take_of_length_le (by omega)] at ht
    rw [decide_eq_true ht] at hk
    exact hk
end Go.Proofs.Ytaobgofbhommcaa
