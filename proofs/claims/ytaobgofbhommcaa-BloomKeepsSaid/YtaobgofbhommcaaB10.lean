import Derived.Test.YtaobgofbhommcaaB9
namespace Go.Proofs.Ytaobgofbhommcaa
open Go Hv
set_option linter.unusedVariables false
set_option linter.unusedSimpArgs false
set_option maxRecDepth 10000
set_option maxHeartbeats 1000000
/-! Read -/
theorem spare_iff {n : Nat} {S : List UInt8} (hn : 1 ≤ n) (hl : S.length = (n + 7) / 8) : (∀ i, n ≤ i → bitAt S i = false) ↔ (n % 8 = 0 ∨ (S.getD (S.length - 1) 0).toNat / 2 ^ (n % 8) = 0) := by
  constructor
  · intro h
    by_cases h0 : n % 8 = 0
    · exact .inl h0
    refine .inr (Nat.eq_of_testBit_eq fun j => ?_)
    rw [Nat.testBit_div_two_pow, Nat.zero_testBit]
    by_cases hj : j + n % 8 < 8
    · have := h (8 * (n / 8) + (j + n % 8)) (by omega)
      unfold bitAt at this
      rw [show (8 * (n / 8) + (j + n % 8)) / 8 = S.length - 1 by omega, show (8 * (n / 8) + (j + n % 8)) % 8 = j + n % 8 by omega] at this
      exact this
    · have hx := (S.getD (S.length - 1) 0).toNat_lt
      have hp : 2 ^ 8 ≤ 2 ^ (j + n % 8) := Nat.pow_le_pow_right (by decide) (by omega)
      exact Nat.testBit_lt_two_pow (by omega)
  · intro h i hi
    by_cases ho : 8 * S.length ≤ i
    · exact bitAt_out ho
    rcases h with h | h
    · omega
    · unfold bitAt
      by_cases h0 : n % 8 = 0
      · omega
      rw [show i / 8 = S.length - 1 by omega]
      have e : i % 8 = (i % 8 - n % 8) + n % 8 := by omega
      rw [e, ← Nat.testBit_div_two_pow, h, Nat.zero_testBit]
theorem or32 (a b : Nat) (ha : a < 4294967296) (hb : b < 4294967296) : bitsS .or .i64 (a : Int) (b : Int) = ((a ||| b : Nat) : Int) := by
  rw [bitsS_eq]
  exact (bits_nat .i64 32 (by decide) (fun n h0 h1 => IntWalk.i64_in _ ⟨by omega, by omega⟩) a b ha hb).2
theorem shl64 (a k : Nat) (d : Int) (hd : d = (k : Int)) (hk : k ≤ 24) (ha : a < 256) : shlS .i64 (a : Int) d = ((a * 2 ^ k : Nat) : Int) := by
  subst hd
  have e8 : min k IntKind.i64.bits = k := by
    have : IntKind.i64.bits = 64 := rfl
    rw [this]; omega
  have e2 : (a : Int) * (2 : Int) ^ k = ((a * 2 ^ k : Nat) : Int) := by push_cast; rfl
  have hp : 2 ^ k ≤ 2 ^ 24 := Nat.pow_le_pow_right (by decide) hk
  have hm : a * 2 ^ k ≤ 255 * 2 ^ 24 := Nat.mul_le_mul (by omega) hp
  rw [shlS_eq, Int.toNat_natCast, e8, e2]
  exact IntWalk.i64_in _ ⟨by omega, by omega⟩
theorem wrb (x : UInt8) : wr .i64 (x.toNat : Int) = (x.toNat : Int) := by
  have := x.toNat_lt
  exact wr_i64 (by omega) (by omega)
theorem or_add (i a b : Nat) (h : b < 2 ^ i) : (a * 2 ^ i) ||| b = a * 2 ^ i + b := by
  rw [Nat.mul_comm, ← Nat.two_pow_add_eq_or_of_lt h]
theorem word4 (b0 b1 b2 b3 : UInt8) : bitsS .or .i64 (bitsS .or .i64 (bitsS .or .i64 (shlS .i64 (wr .i64 (b0.toNat : Int)) 24) (shlS .i64 (wr .i64 (b1.toNat : Int)) 16)) (shlS .i64 (wr .i64 (b2.toNat : Int)) 8)) (wr .i64 (b3.toNat : Int)) =
    ((b0.toNat * 16777216 + b1.toNat * 65536 + b2.toNat * 256 + b3.toNat : Nat) : Int) := by
  have l0 := b0.toNat_lt
  have l1 := b1.toNat_lt
  have l2 := b2.toNat_lt
  have l3 := b3.toNat_lt
  rw [wrb, wrb, wrb, wrb, shl64 _ 24 24 rfl (by decide) l0, shl64 _ 16 16 rfl (by decide) l1, shl64 _ 8 8 rfl (by decide) l2]
  rw [or32 _ _ (by omega) (by omega), or_add 24 _ _ (by omega)]
  rw [or32 _ _ (by omega) (by omega), show b0.toNat * 2 ^ 24 + b1.toNat * 2 ^ 16 = (b0.toNat * 256 + b1.toNat) * 2 ^ 16 by omega, or_add 16 _ _ (by omega)]
  rw [or32 _ _ (by omega) (by omega), show (b0.toNat * 256 + b1.toNat) * 2 ^ 16 + b2.toNat * 2 ^ 8 = (b0.toNat * 65536 + b1.toNat * 256 + b2.toNat) * 2 ^ 8 by omega, or_add 8 _ _ (by omega)]
theorem HLoad_wr {H H' : Heap} {a : Addr} {K : Value → Prop} {v : Value} (h : H'.cell? a = some v) (h' : H.cell? a = some v) (hk : K v) : HLoad [H', H] a K := HLoad_two h h' hk
section
variable {H : Heap} {K : Value → Heap → Prop}
theorem may_b {n h : Int} (hk : ∀ H' (t : Bool), (t = true ↔ mayP n h) → Upd [] H H' → K (.bool t) H') : HCalls Try.prog 34 [shp n h] H K :=
  may_t fun H' u => hk H' _ (by simp) u
theorem read_t {a : Option Addr} {k c : Nat} {l : List UInt8} (hr : RowAt H a (u8s l)) (hl : l.length = k) (hc : k ≤ c) (hlim : k ≤ 140737488355328)
    (hno : ∀ H', ¬ readOk l → Upd [] H H' → K (.tuple #[.pointer none, .int .i64 2]) H')
    (hyes : ∀ g b H', readOk l → FilNew H H' g b (shapeN l) (shapeH l) (l.drop 5) → K (.tuple #[.pointer (some ⟨g, 0, none⟩), .int .i64 0]) H') :
    HCalls Try.prog 22 [.slice a k c] H K := by
  refine hcalls (fn := Try.f22) [(3, [(27, 0), (0, 1), (1, 1), (2, 1), (3, 1), (4, 1), (5, 1), (6, 1), (7, 1), (8, 1), (9, 1), (10, 1), (11, 1), (12, 1), (13, 1), (14, 1), (15, 1), (16, 1), (17, 1), (18, 1), (19, 1), (20, 1), (21, 1), (22, 1), (23, 1), (24, 1), (25, 1), (26, 1), (28, 0)]), (9, [(1, 0), (2, 0), (3, 0), (0, 1), (4, 0), (5, 0), (6, 0), (7, 0)])] mixed Try.func22 rfl rfl (by decide +kernel) ?_
  (repeat first | refine HReg.step ?_ | refine HCode.step ?_)
  refine hif (fun h1 => ?_) (fun h1 => ?_)
  · have h1 := ltB_true.1 h1
    (repeat first | refine HReg.step ?_ | refine HCode.step ?_)
    exact hno H (fun h => by have := h.1; omega) (Upd.refl _ _)
  have h1 := ltB_false.1 h1
  obtain ⟨b0, b1, b2, b3, b4, r, rfl⟩ : ∃ b0 b1 b2 b3 b4 r, l = b0 :: b1 :: b2 :: b3 :: b4 :: r := by
    match l, (by omega : 5 ≤ l.length) with
    | b0 :: b1 :: b2 :: b3 :: b4 :: r, _ => exact ⟨_, _, _, _, _, _, rfl⟩
  obtain ⟨ba, bo, rfl, _⟩ := hr 0 (u8 b0) rfl
  (repeat first | refine HReg.step ?_ | refine HCode.step ?_)
  refine HNew.mk fun p hp => ?_
  have u0 : Upd [] H (H.upd p (.cells [Value.int .i64 0, .int .i64 0].toArray 69)) := Upd.new hp _
  have hr0 := hr.upd (S := []) u0 (.inr (Off.nil _))
  (repeat first | refine HReg.step ?_ | refine HCode.step ?_)
  refine HReq.mk ⟨by omega, by omega⟩ ?_
  (repeat first | refine HReg.step ?_ | refine HCode.step ?_)
  refine HLoad_two (v := u8 b0) (by exact hr0.get (i := 0) rfl) (by exact hr.get (i := 0) rfl) ?_
  (repeat first | refine HReg.step ?_ | refine HCode.step ?_)
  refine HReq.mk (by decide) ?_
  (repeat first | refine HReg.step ?_ | refine HCode.step ?_)
  refine HReq.mk ⟨by omega, by omega⟩ ?_
  (repeat first | refine HReg.step ?_ | refine HCode.step ?_)
  refine HLoad_two (v := u8 b1) (by exact hr0.get (i := 1) rfl) (by exact hr.get (i := 1) rfl) ?_
  (repeat first | refine HReg.step ?_ | refine HCode.step ?_)
  refine HReq.mk (by decide) ?_
  (repeat first | refine HReg.step ?_ | refine HCode.step ?_)
  refine HReq.mk ⟨by omega, by omega⟩ ?_
  (repeat first | refine HReg.step ?_ | refine HCode.step ?_)
  refine HLoad_two (v := u8 b2) (by exact hr0.get (i := 2) rfl) (by exact hr.get (i := 2) rfl) ?_
  (repeat first | refine HReg.step ?_ | refine HCode.step ?_)
  refine HReq.mk (by decide) ?_
  (repeat first | refine HReg.step ?_ | refine HCode.step ?_)
  refine HReq.mk ⟨by omega, by omega⟩ ?_
  (repeat first | refine HReg.step ?_ | refine HCode.step ?_)
  refine HLoad_two (v := u8 b3) (by exact hr0.get (i := 3) rfl) (by exact hr.get (i := 3) rfl) ?_
  (repeat first | refine HReg.step ?_ | refine HCode.step ?_)
  refine HReq.mk ⟨by omega, by omega⟩ ?_
  (repeat first | refine HReg.step ?_ | refine HCode.step ?_)
  refine HLoad_two (v := u8 b4) (by exact hr0.get (i := 4) rfl) (by exact hr.get (i := 4) rfl) ?_
  have ew := word4 b0 b1 b2 b3
  have e4 := wrb b4
  (repeat first | refine HReg.step ?_ | refine HCode.step ?_)
  refine store_row (pair_own _ _) (v := .int .i64 (bitsS .or .i64 (bitsS .or .i64 (bitsS .or .i64 (shlS .i64 (wr .i64 (b0.toNat : Int)) 24) (shlS .i64 (wr .i64 (b1.toNat : Int)) 16)) (shlS .i64 (wr .i64 (b2.toNat : Int)) 8)) (wr .i64 (b3.toNat : Int)))) rfl (i := 0) (by decide) (by rfl) fun H1 o1 u1 => ?_
  (repeat first | refine HReg.step ?_ | refine HCode.step ?_)
  refine store_row o1 (v := .int .i64 (wr .i64 (b4.toNat : Int))) rfl (i := 1) (by decide) (by rfl) fun H2 o2 u2 => ?_
  rw [ew, e4] at o2
  have hp2 : ∀ k ∈ [p], H k = none := fun k hk => by rw [List.mem_singleton.1 hk]; exact hp
  have u2 : Upd [] H H2 := Upd.drop (Upd.drop u0 u1 hp2) u2 hp2
  have hsn : b0.toNat * 16777216 + b1.toNat * 65536 + b2.toNat * 256 + b3.toNat = shapeN (b0 :: b1 :: b2 :: b3 :: b4 :: r) := by
    unfold shapeN; simp only [List.getD_cons_zero, List.getD_cons_succ]
  have hsh : b4.toNat = shapeH (b0 :: b1 :: b2 :: b3 :: b4 :: r) := rfl
  have hdr : r = (b0 :: b1 :: b2 :: b3 :: b4 :: r).drop 5 := rfl
  rw [hsn, hsh] at o2
  generalize hL : b0 :: b1 :: b2 :: b3 :: b4 :: r = L at *
  generalize hN : shapeN L = N at *
  generalize hM : shapeH L = M at *
  have o2 : OwnRow H2 69 1 (some ⟨p, 0, none⟩) 2 2 [.int .i64 (N : Int), .int .i64 (M : Int)] := o2
  have bad : ¬ readOk L → ∀ H', Upd [] H H' → K (.tuple #[.pointer none, .int .i64 2]) H' := fun h H' u => hno H' h u
  (repeat first | refine HReg.step ?_ | refine HCode.step ?_)
  refine HLoadN_row (vs := [.int .i64 (N : Int), .int .i64 (M : Int)]) (by exact o2.rows) rfl ?_
  (repeat first | refine HReg.step ?_ | refine HCode.step ?_)
  refine HCall.mk ⟨Try.f34, Try.func34, by rfl, by rfl⟩ ?_
  refine may_b fun H3 tm htm u3 => ?_
  have u3' := u2.trans u3
  (repeat first | refine HReg.step ?_ | refine HCode.step ?_)
  refine hif (fun hm => ?_) (fun hm => ?_)
  · have hm : ¬ mayP N M := fun h => by rw [htm.2 h] at hm; cases hm
    (repeat first | refine HReg.step ?_ | refine HCode.step ?_)
    exact bad (fun h => hm (by have := h.2.1; rw [hN, hM] at this; unfold mayP; omega)) H3 u3'
  have hm : mayP N M := htm.1 (by cases tm <;> simp_all)
  obtain ⟨m1, m2, m3, m4⟩ := id hm
  have o3 := o2.upd u3 (Off.nil _)
  (repeat first | refine HReg.step ?_ | refine HCode.step ?_)
  refine HLoadN_row (vs := [.int .i64 (N : Int), .int .i64 (M : Int)]) (by exact o3.rows) rfl ?_
  (repeat first | refine HReg.step ?_ | refine HCode.step ?_)
  refine HCall.mk ⟨Try.f35, Try.func35, by rfl, by rfl⟩ ?_
  refine size_t (n := N) (h := M) (by omega) fun H4 u4 => ?_
  have u4' := u3'.trans u4
  have o4 := o3.upd u4 (Off.nil _)
  have w5 : wr .i64 (5 + (((N + 7) / 8 : Nat) : Int)) = ((5 + (N + 7) / 8 : Nat) : Int) := by rw [wr_i64 (by omega) (by omega)]; omega
  (repeat first | refine HReg.step ?_ | refine HCode.step ?_)
  refine hif (fun h5 => ?_) (fun h5 => ?_)
  · have h5 := not_eqB_true.1 h5
    rw [w5] at h5
    (repeat first | refine HReg.step ?_ | refine HCode.step ?_)
    exact bad (fun h => h5 (by have := h.2.2.1; rw [hN] at this; omega)) H4 u4'
  have h5 := not_eqB_false.1 h5
  rw [w5] at h5
  have hlen : (L.drop 5).length = (N + 7) / 8 := by rw [List.length_drop]; omega
  have hsp := spare_iff (n := N) (S := L.drop 5) (by omega) hlen
  have ok : (N % 8 = 0 ∨ ((L.drop 5).getD ((L.drop 5).length - 1) 0).toNat / 2 ^ (N % 8) = 0) → readOk L := fun h => ⟨by omega, by rw [hN, hM]; omega, by rw [hN]; omega, by rw [hN]; exact hsp.2 h⟩
  have nok : ¬ (N % 8 = 0 ∨ ((L.drop 5).getD ((L.drop 5).length - 1) 0).toNat / 2 ^ (N % 8) = 0) → ¬ readOk L := fun h k => h (hsp.1 (by have := k.2.2.2; rwa [hN] at this))
  have em := mod8 N
  (repeat first | refine HReg.step ?_ | refine HCode.step ?_)
  refine HLoad.one (v := .int .i64 (N : Int)) (by exact o4.rows.get (i := 0) rfl) ?_
  (repeat first | refine HReg.step ?_ | refine HCode.step ?_)
  refine HReq.mk (by decide) ?_
  have hr4 := hr.upd (S := []) u4' (.inr (Off.nil _))
  have hrow : RowAt H4 (slAddr (some ⟨ba, bo, none⟩) 5 c 1) (u8s (L.drop 5)) := by
    have := hr4.sl (l := 5) (cap := c) (size := 1) (by rw [u8s_length]; omega)
    unfold u8s at this ⊢
    rw [List.map_drop]
    rwa [Nat.mul_one] at this
  have last : (L.drop 5).getD ((L.drop 5).length - 1) 0 = L.getD (k - 1) 0 := by
    simp only [List.getD, List.getElem?_drop]
    congr 2; rw [List.length_drop]; omega
  rw [last] at ok nok
  (repeat first | refine HReg.step ?_ | refine HCode.step ?_)
  rw [em]
  refine hif (fun h6 => ?_) (fun h6 => ?_)
  · have h6 := ltB_true.1 h6
    have w7 : wr .i64 ((k : Int) - 1) = ((k - 1 : Nat) : Int) := by rw [wr_i64 (by omega) (by omega)]; omega
    obtain ⟨x, hx⟩ : ∃ x, L[k - 1]? = some x := ⟨L[k - 1]'(by omega), by simp⟩
    have hgx : L.getD (k - 1) 0 = x := by simp [List.getD, hx]
    rw [hgx] at ok nok
    (repeat first | refine HReg.step ?_ | refine HCode.step ?_)
    refine HReq.mk ⟨by rw [w7]; omega, by rw [w7]; omega⟩ ?_
    (repeat first | refine HReg.step ?_ | refine HCode.step ?_)
    refine HLoad.one (v := u8 x) (by rw [w7]; exact hr4.get (u8s_get hx)) ?_
    (repeat first | refine HReg.step ?_ | refine HCode.step ?_)
    refine HReq.mk (by omega) ?_
    have e8 : shrS .u8 (x.toNat : Int) ((N % 8 : Nat) : Int) = ((x.toNat / 2 ^ (N % 8) : Nat) : Int) := by
      have e8 : min (N % 8) IntKind.u8.bits = N % 8 := by
        have : IntKind.u8.bits = 8 := rfl
        rw [this]; omega
      have e2 : (2 : Int) ^ (N % 8) = ((2 ^ (N % 8) : Nat) : Int) := by norm_cast
      rw [shrS_eq, Int.toNat_natCast, e8, e2, Int.fdiv_eq_ediv_of_nonneg _ (Int.natCast_nonneg _)]
      norm_cast
    (repeat first | refine HReg.step ?_ | refine HCode.step ?_)
    refine hif (fun h8 => ?_) (fun h8 => ?_)
    · have h8 := not_eqB_true.1 h8
      rw [e8] at h8
      (repeat first | refine HReg.step ?_ | refine HCode.step ?_)
      exact bad (nok (by intro h; rcases h with h | h <;> omega)) H4 u4'
    · have h8 := not_eqB_false.1 h8
      rw [e8] at h8
      have rok := ok (.inr (by omega))
      (repeat first | refine HReg.step ?_ | refine HCode.step ?_)
      refine HReq.mk ⟨by omega, by omega⟩ ?_
      (repeat first | refine HReg.step ?_ | refine HCode.step ?_)
      refine HCall.mk ⟨Try.f41, Try.func41, by rfl, by rfl⟩ ?_
      refine clone_t (ys := L.drop 5) hrow (by omega) (by omega) fun a5 c5 H5 m5 => ?_
      have o5 := o4.upd m5.upd (Off.nil _)
      (repeat first | refine HReg.step ?_ | refine HCode.step ?_)
      refine HLoadN_all (vs := [.int .i64 (N : Int), .int .i64 (M : Int)]) (fun Hx hx => by
        simp only [List.take, List.mem_cons, List.not_mem_nil, or_false] at hx
        rcases hx with rfl | rfl
        · exact o5.rows
        · exact o4.rows) rfl ?_
      (repeat first | refine HReg.step ?_ | refine HCode.step ?_)
      refine HNew.mk fun g hg => ?_
      have fok := rok.fok
      rw [hN, hM] at fok
      obtain ⟨b', he, F⟩ := made_fil fok m5 (by omega) hg
      cases he
      have hkl : (L.drop 5).length = k - 5 := by rw [List.length_drop, hl]
      rw [hkl] at F
      (repeat first | refine HReg.step ?_ | refine HCode.step ?_)
      exact hyes g b' _ rok (F.back u4')
  · have h6 := ltB_false.1 h6
    have rok := ok (.inl (by omega))
    (repeat first | refine HReg.step ?_ | refine HCode.step ?_)
    refine HReq.mk ⟨by omega, by omega⟩ ?_
    (repeat first | refine HReg.step ?_ | refine HCode.step ?_)
    refine HCall.mk ⟨Try.f41, Try.func41, by rfl, by rfl⟩ ?_
    refine clone_t (ys := L.drop 5) hrow (by omega) (by omega) fun a5 c5 H5 m5 => ?_
    have o5 := o4.upd m5.upd (Off.nil _)
    (repeat first | refine HReg.step ?_ | refine HCode.step ?_)
    refine HLoadN_all (vs := [.int .i64 (N : Int), .int .i64 (M : Int)]) (fun Hx hx => by
      simp only [List.take, List.mem_cons, List.not_mem_nil, or_false] at hx
      rcases hx with rfl | rfl
      · exact o5.rows
      · exact o4.rows) rfl ?_
    (repeat first | refine HReg.step ?_ | refine HCode.step ?_)
    refine HNew.mk fun g hg => ?_
    have fok := rok.fok
    rw [hN, hM] at fok
    obtain ⟨b', he, F⟩ := made_fil fok m5 (by omega) hg
    cases he
    have hkl : (L.drop 5).length = k - 5 := by rw [List.length_drop, hl]
    rw [hkl] at F
    (repeat first | refine HReg.step ?_ | refine HCode.step ?_)
    exact hyes g b' _ rok (F.back u4')
end
end Go.Proofs.Ytaobgofbhommcaa
