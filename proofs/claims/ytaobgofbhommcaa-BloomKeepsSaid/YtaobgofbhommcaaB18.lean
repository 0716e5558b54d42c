import Derived.Test.YtaobgofbhommcaaB17
namespace Go.Proofs.Ytaobgofbhommcaa
open Go Hv
set_option linter.unusedVariables false
set_option linter.unusedSimpArgs false
set_option maxRecDepth 10000
set_option maxHeartbeats 1000000
/-! The document's Read -/
theorem part_zero (n : Nat) (D : List UInt8) : part n D 0 = zerosL n := by unfold part addAll; simp
section
variable {H : Heap} {K : Value → Heap → Prop}
theorem rread_t {a : Option Addr} {k c : Nat} {l : List UInt8} (hr : RowAt H a (u8s l)) (hl : l.length = k) (hc : k ≤ c) (hlim : k ≤ 140737488355328)
    (hno : ∀ H', ¬ readOk l → Upd [] H H' → K (.tuple #[.pointer none, .int .i64 2]) H')
    (hyes : ∀ g b H', readOk l → RFilNew H H' g b (shapeN l) (shapeH l) (l.drop 5) → K (.tuple #[.pointer (some ⟨g, 0, none⟩), .int .i64 0]) H') :
    HCalls Try.prog 23 [.slice a k c] H K := by
  refine hcalls (fn := Try.f23) [(3, [(0, 0), (1, 0), (2, 0), (3, 0), (4, 0), (5, 0), (6, 0), (7, 0), (8, 0), (9, 0), (10, 0), (11, 0), (12, 0), (13, 0), (14, 0), (15, 0), (16, 0), (17, 0), (18, 0), (19, 0), (20, 0), (21, 0), (22, 0), (23, 0), (24, 0), (25, 0), (26, 0), (27, 0), (28, 0), (29, 0), (30, 0), (31, 0)]), (9, [(0, 0), (1, 0), (2, 0), (3, 0), (4, 0), (5, 0), (6, 0), (7, 0), (8, 0), (9, 0), (10, 0), (11, 0), (12, 0), (13, 0), (14, 0), (15, 0), (16, 0), (17, 0)]), (10, [(0, 0), (1, 0), (2, 0), (3, 1), (4, 1), (5, 0)])] mixed Try.func23 rfl rfl (by decide +kernel) ?_
  (repeat first | refine HReg.step ?_ | refine HCode.step ?_)
  refine hif (fun h1 => ?_) (fun h1 => ?_)
  · have h1 := ltB_true.1 h1
    (repeat first | refine HReg.step ?_ | refine HCode.step ?_)
    exact hno H (fun h => by have := h.1; omega) (Upd.refl _ _)
  have h1 := ltB_false.1 h1
  obtain ⟨b0, b1, b2, b3, b4, r, rfl⟩ : ∃ b0 b1 b2 b3 b4 r, l = b0 :: b1 :: b2 :: b3 :: b4 :: r := by
    match l, (by omega : 5 ≤ l.length) with
    | b0 :: b1 :: b2 :: b3 :: b4 :: r, _ => exact ⟨_, _, _, _, _, _, rfl⟩
  obtain ⟨ba, bo, rfl, _⟩ := hr 0 (u8 b0) rfl
  (repeat first | refine HReg.step ?_ | refine HCode.step ?_)
  refine HReq.mk ⟨by omega, by omega⟩ ?_
  (repeat first | refine HReg.step ?_ | refine HCode.step ?_)
  refine HLoad.one (v := u8 b0) (by exact hr.get (i := 0) rfl) ?_
  (repeat first | refine HReg.step ?_ | refine HCode.step ?_)
  refine HReq.mk (by decide) ?_
  (repeat first | refine HReg.step ?_ | refine HCode.step ?_)
  refine HReq.mk ⟨by omega, by omega⟩ ?_
  (repeat first | refine HReg.step ?_ | refine HCode.step ?_)
  refine HLoad.one (v := u8 b1) (by exact hr.get (i := 1) rfl) ?_
  (repeat first | refine HReg.step ?_ | refine HCode.step ?_)
  refine HReq.mk (by decide) ?_
  (repeat first | refine HReg.step ?_ | refine HCode.step ?_)
  refine HReq.mk ⟨by omega, by omega⟩ ?_
  (repeat first | refine HReg.step ?_ | refine HCode.step ?_)
  refine HLoad.one (v := u8 b2) (by exact hr.get (i := 2) rfl) ?_
  (repeat first | refine HReg.step ?_ | refine HCode.step ?_)
  refine HReq.mk (by decide) ?_
  (repeat first | refine HReg.step ?_ | refine HCode.step ?_)
  refine HReq.mk ⟨by omega, by omega⟩ ?_
  (repeat first | refine HReg.step ?_ | refine HCode.step ?_)
  refine HLoad.one (v := u8 b3) (by exact hr.get (i := 3) rfl) ?_
  (repeat first | refine HReg.step ?_ | refine HCode.step ?_)
  refine HReq.mk ⟨by omega, by omega⟩ ?_
  (repeat first | refine HReg.step ?_ | refine HCode.step ?_)
  refine HLoad.one (v := u8 b4) (by exact hr.get (i := 4) rfl) ?_
  have ew := word4 b0 b1 b2 b3
  have e4 := wrb b4
  (repeat first | refine HReg.step ?_ | refine HCode.step ?_)
  refine HCall.mk ⟨Try.f12, Try.func12, by rfl, by rfl⟩ ?_
  show HCalls Try.prog 12 [.int .i64 (bitsS .or .i64 (bitsS .or .i64 (bitsS .or .i64 (shlS .i64 (wr .i64 (b0.toNat : Int)) 24) (shlS .i64 (wr .i64 (b1.toNat : Int)) 16)) (shlS .i64 (wr .i64 (b2.toNat : Int)) 8)) (wr .i64 (b3.toNat : Int))), .int .i64 (wr .i64 (b4.toNat : Int))] H _
  rw [ew, e4]
  have hsn : b0.toNat * 16777216 + b1.toNat * 65536 + b2.toNat * 256 + b3.toNat = shapeN (b0 :: b1 :: b2 :: b3 :: b4 :: r) := by
    unfold shapeN; simp only [List.getD_cons_zero, List.getD_cons_succ]
  have hsh : b4.toNat = shapeH (b0 :: b1 :: b2 :: b3 :: b4 :: r) := rfl
  rw [hsn, hsh]
  clear ew e4 hsn hsh
  generalize b0 :: b1 :: b2 :: b3 :: b4 :: r = L at *
  generalize hN : shapeN L = N at *
  generalize hM : shapeH L = M at *
  refine rnew_t (fun hm => ?_) fun g' b' H1 hm N1 => ?_
  · (repeat first | refine HReg.step ?_ | refine HCode.step ?_)
    refine hif (fun _ => ?_) (fun h => absurd (not_eqB_false.1 h) (by decide))
    (repeat first | refine HReg.step ?_ | refine HCode.step ?_)
    exact hno H (fun h => hm (by have := h.2.1; rw [hN, hM] at this; unfold mayP; omega)) (Upd.refl _ _)
  obtain ⟨m1, m2, m3, m4⟩ := id hm
  rw [Int.toNat_natCast, Int.toNat_natCast] at N1
  obtain ⟨c1, o1, s1⟩ := N1.fil.ex
  have hr1 := hr.upd (S := []) N1.upd (.inr (Off.nil _))
  have es : wr .i64 (5 + wr .i64 (Int.tdiv (wr .i64 ((N : Int) + 7)) 8)) = ((5 + (N + 7) / 8 : Nat) : Int) := by
    rw [wr_i64 (n := (N : Int) + 7) (by omega) (by omega), Int.tdiv_eq_ediv_of_nonneg (by omega), wr_i64 (n := ((N : Int) + 7) / 8) (by omega) (by omega), wr_i64 (by omega) (by omega)]
    omega
  (repeat first | refine HReg.step ?_ | refine HCode.step ?_)
  refine hif (fun h => absurd rfl (not_eqB_true.1 h)) (fun _ => ?_)
  (repeat first | refine HReg.step ?_ | refine HCode.step ?_)
  refine HLoad.one (v := .int .i64 (N : Int)) (by exact o1.rows.get (i := 0) rfl) ?_
  (repeat first | refine HReg.step ?_ | refine HCode.step ?_)
  refine HReq.mk (by decide) ?_
  (repeat first | refine HReg.step ?_ | refine HCode.step ?_)
  refine hif (fun h5 => ?_) (fun h5 => ?_)
  · have h5 := not_eqB_true.1 h5
    rw [es] at h5
    (repeat first | refine HReg.step ?_ | refine HCode.step ?_)
    exact hno H1 (fun h => h5 (by have := h.2.2.1; rw [hN] at this; omega)) N1.upd
  have h5 := not_eqB_false.1 h5
  rw [es] at h5
  have hlen : (L.drop 5).length = (N + 7) / 8 := by rw [List.length_drop]; omega
  (repeat first | refine HReg.step ?_ | refine HCode.step ?_)
  refine hloopC [6, 54, 55, 56, 57, 58, 59, 60, 61, 62, 63, 64, 65, 66, 67, 68, 69, 70, 71, 72, 73, 74, 75, 76, 77, 78] [6] (RUnInv H g' b' N M (L.drop 5)) rfl (by repeat' first | exact Resp.retD | exact Resp1.valuesK | refine Resp.blockD ?_ | refine Resp.thenD ?_ ?_ | refine Resp.hcode ?_) ?_ ?_
  · exact ⟨N, RUnInv.mk ⟨0, rfl, rfl, by rw [part_zero]; exact N1⟩⟩
  rintro m _ fe H3 ⟨i, rfl, hmi, N3⟩
  obtain ⟨c3, o3, s3⟩ := N3.fil.ex
  have hr3 := hr.upd (S := []) N3.upd (.inr (Off.nil _))
  (repeat first | refine HReg.step ?_ | refine HCode.step ?_)
  refine HLoad.one (v := .int .i64 (N : Int)) (by exact o3.rows.get (i := 0) rfl) ?_
  (repeat first | refine HReg.step ?_ | refine HCode.step ?_)
  refine hif (fun h6 => ?_) (fun h6 => ?_)
  · have h6 := ltB_true.1 h6
    have w2 : wr .i64 ((i : Int) + 1) = ((i + 1 : Nat) : Int) := by rw [wr_i64 (by omega) (by omega)]; omega
    obtain ⟨q, hq⟩ : ∃ q, 5 + i / 8 = q := ⟨_, rfl⟩
    have ed := div8 i (by omega)
    have em := mod8 i
    have w5 : wr .i64 (5 + wr .i64 (Int.tdiv (i : Int) 8)) = (q : Int) := by rw [ed, wr_i64 (by omega) (by omega)]; omega
    obtain ⟨x, hx⟩ : ∃ x, L[q]? = some x := ⟨L[q]'(by omega), by simp⟩
    have hbit : x.toNat.testBit (i % 8) = bitAt (L.drop 5) i := by
      unfold bitAt
      simp [List.getD, List.getElem?_drop, hq, hx]
    have et : eqB (bitsS .and .u8 (shrS .u8 (x.toNat : Int) (Int.tmod (i : Int) 8)) 1) 1 = bitAt (L.drop 5) i := by
      rw [em, test_u8' x (i % 8) (Nat.mod_lt _ (by decide)), hbit]
    (repeat first | refine HReg.step ?_ | refine HCode.step ?_)
    refine HLoad.one (v := .slice (some ⟨b', 0, none⟩) N c3) (by exact o3.rows.get (i := 2) rfl) ?_
    (repeat first | refine HReg.step ?_ | refine HCode.step ?_)
    refine HReq.mk (by decide) ?_
    (repeat first | refine HReg.step ?_ | refine HCode.step ?_)
    refine HReq.mk ⟨by rw [w5]; omega, by rw [w5]; omega⟩ ?_
    (repeat first | refine HReg.step ?_ | refine HCode.step ?_)
    refine HLoad.one (v := u8 x) (by rw [w5]; exact hr3.get (u8s_get hx)) ?_
    (repeat first | refine HReg.step ?_ | refine HCode.step ?_)
    refine HReq.mk (by decide) ?_
    (repeat first | refine HReg.step ?_ | refine HCode.step ?_)
    refine HReq.mk (by rw [em]; omega) ?_
    (repeat first | refine HReg.step ?_ | refine HCode.step ?_)
    refine HReq.mk ⟨by omega, by omega⟩ ?_
    (repeat first | refine HReg.step ?_ | refine HCode.step ?_)
    rw [et]
    refine store_row s3 (v := .bool (bitAt (L.drop 5) i)) rfl (i := i) (by omega) (by exact Nat.zero_add i) fun H4 o4 u4 => ?_
    (repeat first | refine HReg.step ?_ | refine HCode.step ?_)
    rw [w2]
    exact ⟨m - 1, by omega, RUnInv.mk ⟨i + 1, rfl, by omega, N3.set (by omega) o3 o4 u4⟩⟩
  · have h6 := ltB_false.1 h6
    have : i = N := by omega
    subst this
    have hbl : (bytesOf i M (part i (L.drop 5) i)).length = 5 + (part i (L.drop 5) i).length := by simp only [bytesOf, headOf, List.length_append, List.length_cons, List.length_nil]
    (repeat first | refine HReg.step ?_ | refine HCode.step ?_)
    refine HCall.mk ⟨Try.f18, Try.func18, by rfl, by rfl⟩ ?_
    refine rbytes_t N3.fil fun a7 c7 H7 m7 => ?_
    have hr7 := hr3.upd (S := []) m7.upd (.inr (Off.nil _))
    (repeat first | refine HReg.step ?_ | refine HCode.step ?_)
    refine HBytes.row _ hbl (by simpa using m7.own.rows) ?_ (by simp)
    (repeat first | refine HReg.step ?_ | refine HCode.step ?_)
    refine HBytes.row L hl (fun Hx hx => by
      simp only [List.take, List.mem_cons, List.not_mem_nil, or_false] at hx
      rcases hx with rfl | rfl
      · exact hr7
      · exact hr3) ?_ (by simp)
    (repeat first | refine HReg.step ?_ | refine HCode.step ?_)
    rw [seqB_bs]
    refine hif (fun h8 => ?_) (fun h8 => ?_)
    · have h8 := not_dec_true h8
      (repeat first | refine HReg.step ?_ | refine HCode.step ?_)
      exact hno H7 (fun ok => h8 (by
        have f := ok.fok
        rw [hN, hM] at f
        rw [part_full f]
        have := head_shape ok.1
        rw [hN, hM] at this; exact this)) (N3.upd.trans m7.upd)
    · have h8 := not_dec_false h8
      have ok : readOk L := by rw [← h8]; exact bytes_ok N3.fil.ok
      have f := ok.fok
      rw [hN, hM] at f
      rw [part_full f] at N3
      (repeat first | refine HReg.step ?_ | refine HCode.step ?_)
      exact hyes g' b' H7 ok (N3.upd0 m7.upd)
end
end Go.Proofs.Ytaobgofbhommcaa
