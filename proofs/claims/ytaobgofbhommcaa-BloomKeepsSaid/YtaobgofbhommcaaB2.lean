import Derived.Test.YtaobgofbhommcaaB0
import Derived.Test.YtaobgofbhommcaaB1
import Derived.Laws.Bits64b
namespace Go.Proofs.Ytaobgofbhommcaa
open Go Hv
set_option linter.unusedVariables false
set_option linter.unusedSimpArgs false
set_option maxRecDepth 10000
set_option maxHeartbeats 4000000
/-! Hashes -/
theorem drop_get {α : Type} {l : List α} {i : Nat} {x : α} (h : l[i]? = some x) : l.drop i = x :: l.drop (i + 1) := by
  obtain ⟨h1, h2⟩ := List.getElem?_eq_some_iff.1 h
  rw [List.drop_eq_getElem_cons h1, h2]
noncomputable def feedL : Int → List UInt8 → Int
  | h, [] => h
  | h, c :: cs => feedL (wr .u64 (bitsS .xor .u64 h (wr .u64 (c.toNat : Int)) * 1099511628211)) cs
structure FeInv (r : Int) (l : List UInt8) (H0 : Heap) (m : Nat) (vs : List Value) (H' : Heap) : Prop where
  ex : ∃ (i : Nat) (h : Int), vs = [.int .u64 h, .int .i64 (i : Int)] ∧ m + i = l.length ∧ feedL h (l.drop i) = r ∧ H0 = H'
theorem byteAt_bs {l : List UInt8} {i : Nat} {x : UInt8} (h : l[i]? = some x) : byteAt (bs l) (i : Int) = (x.toNat : Int) := by
  show ((l.getD (i : Int).toNat 0).toNat : Int) = _
  have : (i : Int).toNat = i := rfl
  rw [this]; simp [List.getD, h]
theorem feed_t {h : Int} {l : List UInt8} {H : Heap} {K : Value → Heap → Prop} (hlim : l.length ≤ 9223372036854775806) (hk : K (.int .u64 (feedL h l)) H) : HCalls Try.prog 48 [.int .u64 h, .string (bs l)] H K := by
  refine hcalls (fn := Try.f48) [] mixed Try.func48 rfl rfl (by decide +kernel) ?_
  (repeat first | refine HReg.step ?_ | refine HCode.step ?_)
  refine hloopC [0, 5, 8, 9, 10, 11, 12, 13, 14, 15, 16, 17, 18, 19] [0, 8] (FeInv (feedL h l) l H) rfl (by repeat' first | exact Resp.retD | exact Resp1.valuesK | refine Resp.blockD ?_ | refine Resp.thenD ?_ ?_ | refine Resp.hcode ?_) ?_ ?_
  · exact ⟨l.length, FeInv.mk ⟨0, h, rfl, rfl, rfl, rfl⟩⟩
  rintro m vs f H' ⟨i, h', rfl, hmi, hw, rfl⟩
  (repeat first | refine HReg.step ?_ | refine HCode.step ?_)
  refine hif (fun h => ?_) (fun h => ?_)
  · have h := ltB_true.1 h
    rw [bs_size] at h
    obtain ⟨x, hx⟩ : ∃ x, l[i]? = some x := ⟨l[i]'(by omega), by simp⟩
    (repeat first | refine HReg.step ?_ | refine HCode.step ?_)
    refine HReq.mk ⟨by omega, by rw [bs_size]; omega⟩ ?_
    (repeat first | refine HReg.step ?_ | refine HCode.step ?_)
    have hwi : wr .i64 ((i : Int) + 1) = ((i + 1 : Nat) : Int) := by rw [wr_i64 (by omega) (by omega)]; omega
    rw [hwi, byteAt_bs hx]
    refine Exists.intro (m - 1) ?_
    refine And.intro (by omega) ?_
    rw [drop_get hx] at hw
    exact FeInv.mk ⟨i + 1, _, rfl, by omega, hw, rfl⟩
  · have h := ltB_false.1 h
    rw [bs_size] at h
    (repeat first | refine HReg.step ?_ | refine HCode.step ?_)
    rw [List.drop_eq_nil_of_le (by omega)] at hw
    have hw' : h' = feedL _ l := hw
    rw [hw']
    exact hk
theorem rfeed_t {h : Int} {l : List UInt8} {H : Heap} {K : Value → Heap → Prop} (hlim : l.length ≤ 9223372036854775806) (hk : K (.int .u64 (feedL h l)) H) : HCalls Try.prog 46 [.int .u64 h, .string (bs l)] H K := by
  refine hcalls (fn := Try.f46) [] mixed Try.func46 rfl rfl (by decide +kernel) ?_
  (repeat first | refine HReg.step ?_ | refine HCode.step ?_)
  refine hloopC [0, 5, 6, 7, 8, 9, 10, 11, 12, 13, 14, 15, 16, 17, 18] [0, 5] (FeInv (feedL h l) l H) rfl (by repeat' first | exact Resp.retD | exact Resp1.valuesK | refine Resp.blockD ?_ | refine Resp.thenD ?_ ?_ | refine Resp.hcode ?_) ?_ ?_
  · exact ⟨l.length, FeInv.mk ⟨0, h, rfl, rfl, rfl, rfl⟩⟩
  rintro m vs f H' ⟨i, h', rfl, hmi, hw, rfl⟩
  (repeat first | refine HReg.step ?_ | refine HCode.step ?_)
  refine hif (fun h => ?_) (fun h => ?_)
  · have h := ltB_true.1 h
    rw [bs_size] at h
    obtain ⟨x, hx⟩ : ∃ x, l[i]? = some x := ⟨l[i]'(by omega), by simp⟩
    (repeat first | refine HReg.step ?_ | refine HCode.step ?_)
    refine HReq.mk ⟨by omega, by rw [bs_size]; omega⟩ ?_
    (repeat first | refine HReg.step ?_ | refine HCode.step ?_)
    have hwi : wr .i64 ((i : Int) + 1) = ((i + 1 : Nat) : Int) := by rw [wr_i64 (by omega) (by omega)]; omega
    rw [hwi, byteAt_bs hx]
    refine Exists.intro (m - 1) ?_
    refine And.intro (by omega) ?_
    rw [drop_get hx] at hw
    exact FeInv.mk ⟨i + 1, _, rfl, by omega, hw, rfl⟩
  · have h := ltB_false.1 h
    rw [bs_size] at h
    (repeat first | refine HReg.step ?_ | refine HCode.step ?_)
    rw [List.drop_eq_nil_of_le (by omega)] at hw
    have hw' : h' = feedL _ l := hw
    rw [hw']
    exact hk
def basis : Int := 14695981039346656037
theorem hash_t {l : List UInt8} {H : Heap} {K : Value → Heap → Prop} (hlim : l.length ≤ 9223372036854775806) (hk : K (.int .u64 (feedL basis l)) H) : HCalls Try.prog 45 [.string (bs l)] H K := by
  refine hcalls (fn := Try.f45) [] mixed Try.func45 rfl rfl rfl ?_
  (repeat first | refine HReg.step ?_ | refine HCode.step ?_)
  refine HCall.mk ⟨Try.f49, Try.func49, by rfl, by rfl⟩ ?_
  refine hcalls (fn := Try.f49) [] mixed Try.func49 rfl rfl rfl ?_
  (repeat first | refine HReg.step ?_ | refine HCode.step ?_)
  refine HCall.mk ⟨Try.f48, Try.func48, by rfl, by rfl⟩ ?_
  refine feed_t hlim ?_
  (repeat first | refine HReg.step ?_ | refine HCode.step ?_)
  exact hk
theorem rhash_t {l : List UInt8} {H : Heap} {K : Value → Heap → Prop} (hlim : l.length ≤ 9223372036854775806) (hk : K (.int .u64 (feedL basis l)) H) : HCalls Try.prog 40 [.string (bs l)] H K := by
  refine hcalls (fn := Try.f40) [] mixed Try.func40 rfl rfl rfl ?_
  (repeat first | refine HReg.step ?_ | refine HCode.step ?_)
  refine HCall.mk ⟨Try.f46, Try.func46, by rfl, by rfl⟩ ?_
  refine rfeed_t hlim ?_
  (repeat first | refine HReg.step ?_ | refine HCode.step ?_)
  exact hk
theorem feedL_in (l : List UInt8) : ∀ h : Int, 0 ≤ h → h < 18446744073709551616 → 0 ≤ feedL h l ∧ feedL h l < 18446744073709551616 := by
  induction l with
  | nil => intro h h0 h1; exact ⟨h0, h1⟩
  | cons c l ih => intro h _ _; unfold feedL; refine ih _ ?_ ?_ <;> rw [wr_u64] <;> omega
noncomputable def hashN (l : List UInt8) : Nat := (feedL basis l).toNat
theorem hashN_eq (l : List UInt8) : feedL basis l = (hashN l : Int) := by
  have := (feedL_in l basis (by decide) (by decide)).1
  unfold hashN; omega
theorem hashN_lt (l : List UInt8) : hashN l < 18446744073709551616 := by
  have := (feedL_in l basis (by decide) (by decide)).2
  unfold hashN; omega
theorem and_lo (n : Nat) (h : n < 18446744073709551616) : bitsS .and .u64 (n : Int) 4294967295 = ((n % 4294967296 : Nat) : Int) := by
  rw [bitsS_eq]
  have := bits_and_u64_nat n 4294967295 (by omega) (by decide)
  rw [show (4294967295 : Nat) = 2 ^ 32 - 1 from rfl, Nat.and_two_pow_sub_one_eq_mod] at this
  exact this
theorem shr_hi (n : Nat) : shrS .u64 (n : Int) 32 = ((n / 4294967296 : Nat) : Int) := by
  rw [shrS_eq]
  have e1 : min ((32 : Int).toNat) IntKind.u64.bits = 32 := by decide
  rw [e1, Int.fdiv_eq_ediv_of_nonneg _ (by decide)]
  omega
/-! Shapes and places -/
def mayP (n h : Int) : Prop := 1 ≤ n ∧ n ≤ 65536 ∧ 1 ≤ h ∧ h ≤ 16
instance (n h : Int) : Decidable (mayP n h) := by unfold mayP; infer_instance
def shp (n h : Int) : Value := .agg [Value.int .i64 n, .int .i64 h].toArray
theorem may_t {n h : Int} {H : Heap} {K : Value → Heap → Prop} (hk : ∀ H', Upd [] H H' → K (.bool (decide (mayP n h))) H') : HCalls Try.prog 34 [shp n h] H K := by
  refine hcalls (fn := Try.f34) [] mixed Try.func34 rfl rfl rfl ?_
  (repeat first | refine HReg.step ?_ | refine HCode.step ?_)
  refine HNew.mk fun b hb => ?_
  have u : Upd [] H (H.upd b (.cells [Value.int .i64 n, .int .i64 h].toArray 69)) := Upd.new hb _
  have r : RowAt (H.upd b (.cells [Value.int .i64 n, .int .i64 h].toArray 69)) (some ⟨b, 0, none⟩) [.int .i64 n, .int .i64 h] := RowAt.of_cells (upd_same _ _ _)
  have no : ¬ mayP n h → K (.bool false) (H.upd b (.cells [Value.int .i64 n, .int .i64 h].toArray 69)) := fun hn => by
    have := hk _ u
    rwa [decide_eq_false hn] at this
  (repeat first | refine HReg.step ?_ | refine HCode.step ?_)
  refine HLoad.one (v := .int .i64 n) (by exact r.get (i := 0) rfl) ?_
  (repeat first | refine HReg.step ?_ | refine HCode.step ?_)
  refine hif (fun h1 => ?_) (fun h1 => ?_)
  · have h1 := not_ltB_true.1 h1
    (repeat first | refine HReg.step ?_ | refine HCode.step ?_)
    refine HLoad.one (v := .int .i64 n) (by exact r.get (i := 0) rfl) ?_
    (repeat first | refine HReg.step ?_ | refine HCode.step ?_)
    refine hif (fun h2 => ?_) (fun h2 => ?_)
    · have h2 := not_ltB_true.1 h2
      (repeat first | refine HReg.step ?_ | refine HCode.step ?_)
      refine HLoad.one (v := .int .i64 h) (by exact r.get (i := 1) rfl) ?_
      (repeat first | refine HReg.step ?_ | refine HCode.step ?_)
      refine hif (fun h3 => ?_) (fun h3 => ?_)
      · have h3 := not_ltB_true.1 h3
        (repeat first | refine HReg.step ?_ | refine HCode.step ?_)
        refine HLoad.one (v := .int .i64 h) (by exact r.get (i := 1) rfl) ?_
        have e : (!ltB 16 h) = decide (mayP n h) := by
          rw [Bool.eq_iff_iff, not_ltB_true, decide_eq_true_iff]; unfold mayP; omega
        (repeat first | refine HReg.step ?_ | refine HCode.step ?_)
        have := hk _ u
        rw [← e] at this
        exact this
      · have h3 := not_ltB_false.1 h3
        (repeat first | refine HReg.step ?_ | refine HCode.step ?_)
        exact no (by unfold mayP; omega)
    · have h2 := not_ltB_false.1 h2
      (repeat first | refine HReg.step ?_ | refine HCode.step ?_)
      exact no (by unfold mayP; omega)
  · have h1 := not_ltB_false.1 h1
    (repeat first | refine HReg.step ?_ | refine HCode.step ?_)
    exact no (by unfold mayP; omega)
theorem size_t {n h : Nat} {H : Heap} {K : Value → Heap → Prop} (hn : n ≤ 65536) (hk : ∀ H', Upd [] H H' → K (.int .i64 (((n + 7) / 8 : Nat) : Int)) H') : HCalls Try.prog 35 [shp n h] H K := by
  refine hcalls (fn := Try.f35) [] mixed Try.func35 rfl rfl rfl ?_
  (repeat first | refine HReg.step ?_ | refine HCode.step ?_)
  refine HNew.mk fun b hb => ?_
  have u : Upd [] H (H.upd b (.cells [Value.int .i64 (n : Int), .int .i64 (h : Int)].toArray 69)) := Upd.new hb _
  have r : RowAt (H.upd b (.cells [Value.int .i64 (n : Int), .int .i64 (h : Int)].toArray 69)) (some ⟨b, 0, none⟩) [.int .i64 (n : Int), .int .i64 (h : Int)] := RowAt.of_cells (upd_same _ _ _)
  (repeat first | refine HReg.step ?_ | refine HCode.step ?_)
  refine HLoad.one (v := .int .i64 (n : Int)) (by exact r.get (i := 0) rfl) ?_
  (repeat first | refine HReg.step ?_ | refine HCode.step ?_)
  refine HReq.mk (by decide) ?_
  have e : wr .i64 (Int.tdiv (wr .i64 ((n : Int) + 7)) 8) = (((n + 7) / 8 : Nat) : Int) := by
    rw [wr_i64 (n := (n : Int) + 7) (by omega) (by omega), Int.tdiv_eq_ediv_of_nonneg (by omega), wr_i64 (by omega) (by omega)]; omega
  (repeat first | refine HReg.step ?_ | refine HCode.step ?_)
  rw [e]
  exact hk _ u
end Go.Proofs.Ytaobgofbhommcaa
