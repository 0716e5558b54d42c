import Derived.Test.YtaobgofbhommcaaB6
namespace Go.Proofs.Ytaobgofbhommcaa
open Go Hv
set_option linter.unusedVariables false
set_option linter.unusedSimpArgs false
set_option maxRecDepth 10000
set_option maxHeartbeats 4000000
/-! Bits, Hashes, Ones, Bytes -/
def popList : List UInt8 := [0, 1, 1, 2, 1, 2, 2, 3, 1, 2, 2, 3, 2, 3, 3, 4, 1, 2, 2, 3, 2, 3, 3, 4, 2, 3, 3, 4, 3, 4, 4, 5, 1, 2, 2, 3, 2, 3, 3, 4, 2, 3, 3, 4, 3, 4, 4, 5, 2, 3, 3, 4, 3, 4, 4, 5, 3, 4, 4, 5, 4, 5, 5, 6, 1, 2, 2, 3, 2, 3, 3, 4, 2, 3, 3, 4, 3, 4, 4, 5, 2, 3, 3, 4, 3, 4, 4, 5, 3, 4, 4, 5, 4, 5, 5, 6, 2, 3, 3, 4, 3, 4, 4, 5, 3, 4, 4, 5, 4, 5, 5, 6, 3, 4, 4, 5, 4, 5, 5, 6, 4, 5, 5, 6, 5, 6, 6, 7, 1, 2, 2, 3, 2, 3, 3, 4, 2, 3, 3, 4, 3, 4, 4, 5, 2, 3, 3, 4, 3, 4, 4, 5, 3, 4, 4, 5, 4, 5, 5, 6, 2, 3, 3, 4, 3, 4, 4, 5, 3, 4, 4, 5, 4, 5, 5, 6, 3, 4, 4, 5, 4, 5, 5, 6, 4, 5, 5, 6, 5, 6, 6, 7, 2, 3, 3, 4, 3, 4, 4, 5, 3, 4, 4, 5, 4, 5, 5, 6, 3, 4, 4, 5, 4, 5, 5, 6, 4, 5, 5, 6, 5, 6, 6, 7, 3, 4, 4, 5, 4, 5, 5, 6, 4, 5, 5, 6, 5, 6, 6, 7, 4, 5, 5, 6, 5, 6, 6, 7, 5, 6, 6, 7, 6, 7, 7, 8]
theorem pop_ones : ∀ n : Fin 256, (popList.getD n.1 0).toNat = ones8 (UInt8.ofNat n.1) := by decide +kernel
theorem pop_at (x : UInt8) : byteAt ⟨popList.toArray⟩ (x.toNat : Int) = (ones8 x : Int) := by
  have h := pop_ones ⟨x.toNat, x.toNat_lt⟩
  have e : UInt8.ofNat x.toNat = x := by simp
  rw [show (⟨x.toNat, x.toNat_lt⟩ : Fin 256).1 = x.toNat from rfl, e] at h
  show ((popList.getD (x.toNat : Int).toNat 0).toNat : Int) = _
  rw [Int.toNat_natCast, h]
theorem pop_t {x : UInt8} {H : Heap} {K : Value → Heap → Prop} (hk : K (.int .i64 (ones8 x : Int)) H) : HCalls Try.prog 42 [u8 x] H K := by
  refine hcalls (fn := Try.f42) [] mixed Try.func42 rfl rfl rfl ?_
  have hx := x.toNat_lt
  (repeat first | refine HReg.step ?_ | refine HCode.step ?_)
  refine HReq.mk ⟨by omega, by show (x.toNat : Int) < ((256 : Nat) : Int); omega⟩ ?_
  have e : wr .i64 (byteAt ⟨popList.toArray⟩ (x.toNat : Int)) = (ones8 x : Int) := by
    rw [pop_at, wr_i64]
    · omega
    · have : ones8 x ≤ 8 := by
        unfold ones8
        exact Nat.le_trans (List.length_filter_le _ _) (by simp)
      omega
  (repeat first | refine HReg.step ?_ | refine HCode.step ?_)
  exact (show K (.int .i64 (wr .i64 (byteAt ⟨popList.toArray⟩ (x.toNat : Int)))) H from by rw [e]; exact hk)
section
variable {H : Heap} {g b n h : Nat} {S : List UInt8} {K : Value → Heap → Prop}
theorem bits_t (F : Fil H g b n h S) (hk : K (.int .i64 (n : Int)) H) : HCalls Try.prog 14 [.pointer (some ⟨g, 0, none⟩)] H K := by
  refine hcalls (fn := Try.f14) [] mixed Try.func14 rfl rfl rfl ?_
  obtain ⟨c, o, s⟩ := F.ex
  (repeat first | refine HReg.step ?_ | refine HCode.step ?_)
  refine HLoad.one (v := .int .i64 (n : Int)) (by exact o.rows.get (i := 0) rfl) ?_
  (repeat first | refine HReg.step ?_ | refine HCode.step ?_)
  exact hk
theorem hashes_t (F : Fil H g b n h S) (hk : K (.int .i64 (h : Int)) H) : HCalls Try.prog 15 [.pointer (some ⟨g, 0, none⟩)] H K := by
  refine hcalls (fn := Try.f15) [] mixed Try.func15 rfl rfl rfl ?_
  obtain ⟨c, o, s⟩ := F.ex
  (repeat first | refine HReg.step ?_ | refine HCode.step ?_)
  refine HLoad.one (v := .int .i64 (h : Int)) (by exact o.rows.get (i := 1) rfl) ?_
  (repeat first | refine HReg.step ?_ | refine HCode.step ?_)
  exact hk
structure OnInv (S : List UInt8) (H0 : Heap) (m : Nat) (vs : List Value) (H' : Heap) : Prop where
  ex : ∃ (i : Nat), vs = [.int .i64 (onesL (S.take i) : Int), .int .i64 (i : Int)] ∧ m + i = S.length ∧ H0 = H'
theorem onesL_le (S : List UInt8) : onesL S ≤ 8 * S.length := by
  rw [onesL_count]
  have : ∀ (f : Nat → Bool) n, countB f n ≤ n := fun f n => by
    induction n with
    | zero => exact Nat.le_refl _
    | succ n ih => rw [countB]; split <;> omega
  exact this _ _
theorem onesL_take {S : List UInt8} {i : Nat} {x : UInt8} (hx : S[i]? = some x) : onesL (S.take (i + 1)) = onesL (S.take i) + ones8 x := by
  rw [List.take_add_one, hx]
  simp [onesL]
theorem ones_t (F : Fil H g b n h S) (hk : K (.int .i64 (onesL S : Int)) H) : HCalls Try.prog 24 [.pointer (some ⟨g, 0, none⟩)] H K := by
  refine hcalls (fn := Try.f24) [] mixed Try.func24 rfl rfl rfl ?_
  obtain ⟨c, o, s⟩ := F.ex
  have hlen := F.ok.len
  have hn2 := F.ok.n2
  (repeat first | refine HReg.step ?_ | refine HCode.step ?_)
  refine HLoad.one (v := .slice (some ⟨b, 0, none⟩) S.length c) (by exact o.rows.get (i := 2) rfl) ?_
  (repeat first | refine HReg.step ?_ | refine HCode.step ?_)
  refine hloopC [3, 5, 11, 12, 13, 14, 15, 16, 17, 18, 19] [3, 11] (OnInv S H) rfl (by repeat' first | exact Resp.retD | exact Resp1.valuesK | refine Resp.blockD ?_ | refine Resp.thenD ?_ ?_ | refine Resp.hcode ?_) ?_ ?_
  · exact ⟨S.length, OnInv.mk ⟨0, rfl, rfl, rfl⟩⟩
  rintro m _ fe H' ⟨i, rfl, hmi, rfl⟩
  (repeat first | refine HReg.step ?_ | refine HCode.step ?_)
  refine hif (fun h1 => ?_) (fun h1 => ?_)
  · have h1 := ltB_true.1 h1
    obtain ⟨x, hx⟩ : ∃ x, S[i]? = some x := ⟨S[i]'(by omega), by simp⟩
    (repeat first | refine HReg.step ?_ | refine HCode.step ?_)
    refine HReq.mk ⟨by omega, by omega⟩ ?_
    (repeat first | refine HReg.step ?_ | refine HCode.step ?_)
    refine HLoad.one (v := u8 x) (by exact s.rows.get (u8s_get hx)) ?_
    (repeat first | refine HReg.step ?_ | refine HCode.step ?_)
    refine HCall.mk ⟨Try.f42, Try.func42, by rfl, by rfl⟩ ?_
    refine pop_t ?_
    have hle : onesL (S.take (i + 1)) ≤ 8 * (S.take (i + 1)).length := onesL_le _
    rw [List.length_take] at hle
    have w1 : wr .i64 ((onesL (S.take i) : Int) + (ones8 x : Int)) = (onesL (S.take (i + 1)) : Int) := by
      rw [onesL_take hx] at hle ⊢
      rw [wr_i64 (by omega) (by omega)]; omega
    have w2 : wr .i64 ((i : Int) + 1) = ((i + 1 : Nat) : Int) := by rw [wr_i64 (by omega) (by omega)]; omega
    (repeat first | refine HReg.step ?_ | refine HCode.step ?_)
    rw [w1, w2]
    exact ⟨m - 1, by omega, OnInv.mk ⟨i + 1, rfl, by omega, rfl⟩⟩
  · have h1 := ltB_false.1 h1
    (repeat first | refine HReg.step ?_ | refine HCode.step ?_)
    rw [List.take_of_length_le (by omega)]
    exact hk
theorem u8_shr (n k : Nat) (d : Int) (hd : d = (k : Int)) (hk : k ≤ 64) : Value.int .u8 (wr .u8 (shrS .i64 (n : Int) d)) = u8 (UInt8.ofNat (n / 2 ^ k)) := by
  subst hd
  unfold u8
  congr 1
  rw [wr_u8, shrS_eq, Int.toNat_natCast]
  have : min k IntKind.i64.bits = k := Nat.min_eq_left hk
  have e2 : (2 : Int) ^ k = ((2 ^ k : Nat) : Int) := by norm_cast
  rw [this, e2, Int.fdiv_eq_ediv_of_nonneg _ (Int.natCast_nonneg _), UInt8.toNat_ofNat']
  norm_cast
theorem u8_wr (n : Nat) : Value.int .u8 (wr .u8 (n : Int)) = u8 (UInt8.ofNat n) := by
  unfold u8
  congr 1
  rw [wr_u8, UInt8.toNat_ofNat']
  norm_cast
theorem bytes_t (F : Fil H g b n h S) (hk : ∀ a c H', Made H H' 5 1 a (5 + S.length) c (u8s (bytesOf n h S)) → K (.slice a (5 + S.length) c) H') : HCalls Try.prog 17 [.pointer (some ⟨g, 0, none⟩)] H K := by
  refine hcalls (fn := Try.f17) [(2, [(0, 0), (1, 0), (2, 0), (3, 0), (4, 0), (5, 0), (6, 0), (7, 0), (8, 0), (9, 0), (10, 0), (11, 0), (12, 0), (13, 0), (14, 0), (15, 0), (16, 0), (17, 0), (18, 1), (19, 1), (20, 1), (21, 1), (22, 0), (23, 0)])] mixed Try.func17 rfl rfl (by decide +kernel) ?_
  obtain ⟨c, o, s⟩ := F.ex
  have hlen := F.ok.len
  have hn2 := F.ok.n2
  (repeat first | refine HReg.step ?_ | refine HCode.step ?_)
  refine HLoad.one (v := .int .i64 (n : Int)) (by exact o.rows.get (i := 0) rfl) ?_
  (repeat first | refine HReg.step ?_ | refine HCode.step ?_)
  refine HReq.mk (by decide) ?_
  (repeat first | refine HReg.step ?_ | refine HCode.step ?_)
  refine HReq.mk (by decide) ?_
  (repeat first | refine HReg.step ?_ | refine HCode.step ?_)
  refine HReq.mk (by decide) ?_
  (repeat first | refine HReg.step ?_ | refine HCode.step ?_)
  refine HLoad.one (v := .int .i64 (h : Int)) (by exact o.rows.get (i := 1) rfl) ?_
  (repeat first | refine HReg.step ?_ | refine HCode.step ?_)
  refine HReq.mk (by decide) ?_
  (repeat first | refine HReg.step ?_ | refine HCode.step ?_)
  refine HNew.mk fun b1 hb1 => ?_
  have e : [Value.int .u8 (wr .u8 (shrS .i64 (n : Int) 24)), .int .u8 (wr .u8 (shrS .i64 (n : Int) 16)), .int .u8 (wr .u8 (shrS .i64 (n : Int) 8)), .int .u8 (wr .u8 (n : Int)), .int .u8 (wr .u8 (h : Int))] = u8s (headOf n h) := by
    rw [u8_shr n 24 24 rfl (by decide), u8_shr n 16 16 rfl (by decide), u8_shr n 8 8 rfl (by decide), u8_wr, u8_wr]
    rfl
  have m1 : Made H (H.upd b1 (.cells [Value.int .u8 (wr .u8 (shrS .i64 (n : Int) 24)), .int .u8 (wr .u8 (shrS .i64 (n : Int) 16)), .int .u8 (wr .u8 (shrS .i64 (n : Int) 8)), .int .u8 (wr .u8 (n : Int)), .int .u8 (wr .u8 (h : Int))].toArray 5)) 5 1 (some ⟨b1, 0, none⟩) 5 5 (u8s (headOf n h)) := by
    rw [e]
    exact ⟨OwnRow.lit (upd_same _ _ _) rfl, Upd.new hb1 _, fun p hp => by cases hp; exact hb1⟩
  (repeat first | refine HReg.step ?_ | refine HCode.step ?_)
  refine HLoad_two (v := .slice (some ⟨b, 0, none⟩) S.length c) (by exact (o.upd m1.upd (Off.nil _)).rows.get (i := 2) rfl) (by exact o.rows.get (i := 2) rfl) ?_
  (repeat first | refine HReg.step ?_ | refine HCode.step ?_)
  refine append_made m1 (s.upd m1.upd (Off.nil _)).rows rfl (by omega) fun a' c' H' m => ?_
  (repeat first | refine HReg.step ?_ | refine HCode.step ?_)
  exact hk a' c' H' m
end
end Go.Proofs.Ytaobgofbhommcaa
