import Derived.Test.YtaobgofbhommcaaB17
import Derived.Test.YtaobgofbhommcaaB15
namespace Go.Proofs.Ytaobgofbhommcaa
open Go Hv
set_option linter.unusedVariables false
set_option linter.unusedSimpArgs false
set_option maxRecDepth 10000
set_option maxHeartbeats 1000000
/-! BloomJust: plain; bitsOf -/
theorem addTexts_append (n h : Nat) (S : List UInt8) (a b : List (List UInt8)) : addTexts n h S (a ++ b) = addTexts n h (addTexts n h S a) b := by
  unfold addTexts; rw [List.foldl_append]
theorem union_texts {n h : Nat} {Z : List UInt8} {a b : List (List UInt8)} (f : FOk n h Z) (hz : ∀ i, bitAt Z i = false) : orSets (addTexts n h Z a) (addTexts n h Z b) = addTexts n h Z (a ++ b) :=
  (orSets_ok (f.adds a) (f.adds b)).ext (f.adds (a ++ b)) fun i _ => by
    rw [orSets_bit (by rw [(f.adds a).len, (f.adds b).len]), f.bits, f.bits, f.bits, hz, List.any_append]
    simp
theorem texts_ext {n h : Nat} {Z S : List UInt8} {ts : List (List UInt8)} (f : FOk n h Z) (hz : ∀ i, bitAt Z i = false) (k : FOk n h S) (h1 : ∀ i, bitAt S i = true → ∃ t ∈ ts, i ∈ placesL n h t) (h2 : ∀ t ∈ ts, ∀ i ∈ placesL n h t, bitAt S i = true) : S = addTexts n h Z ts :=
  k.ext (f.adds ts) fun i _ => by
    rw [f.bits, hz, Bool.false_or, Bool.eq_iff_iff, List.any_eq_true]
    constructor
    · intro h
      obtain ⟨t, ht, hi⟩ := h1 i h
      exact ⟨t, ht, by simpa using hi⟩
    · rintro ⟨t, ht, hi⟩
      exact h2 t ht i (by simpa using hi)
theorem texts_comm {n h : Nat} {Z : List UInt8} {a b : List (List UInt8)} (f : FOk n h Z) (hab : ∀ t, t ∈ a ↔ t ∈ b) : addTexts n h Z a = addTexts n h Z b :=
  (f.adds a).ext (f.adds b) fun i _ => by
    rw [f.bits, f.bits]
    congr 1
    rw [Bool.eq_iff_iff, List.any_eq_true, List.any_eq_true]
    constructor
    · rintro ⟨t, ht, hi⟩; exact ⟨t, (hab t).1 ht, hi⟩
    · rintro ⟨t, ht, hi⟩; exact ⟨t, (hab t).2 ht, hi⟩
structure BoInv (len : Nat) (H0 : Heap) (m : Nat) (vs : List Value) (H' : Heap) : Prop where
  ex : ∃ (i : Nat), vs = [.int .i64 (i : Int)] ∧ m + i = 8 * len ∧ H0 = H'
theorem bitsOf_t {n h bo c1 c2 : Nat} {a : Option Addr} {S : List UInt8} {H : Heap} {K : Value → Heap → Prop} (f : FOk n h S) (hr : RowAt H a (u8s (bytesOf n h S))) (ho : OwnRow H 4 1 (some ⟨bo, 0, none⟩) n c2 (boolsOf n S))
    (hk : K (.bool true) H) : HCalls Try.prog 32 [.slice a (5 + S.length) c1, .slice (some ⟨bo, 0, none⟩) n c2] H K := by
  refine hcalls (fn := Try.f32) [] mixed Try.func32 rfl rfl rfl ?_
  have hlen := f.len
  have n1 := f.n1
  have n2 := f.n2
  have hbl := bytesOf_length n h S
  have es : wr .i64 (5 + wr .i64 (Int.tdiv (wr .i64 ((n : Int) + 7)) 8)) = ((5 + S.length : Nat) : Int) := by
    rw [wr_i64 (n := (n : Int) + 7) (by omega) (by omega), Int.tdiv_eq_ediv_of_nonneg (by omega), wr_i64 (n := ((n : Int) + 7) / 8) (by omega) (by omega), wr_i64 (by omega) (by omega)]
    omega
  have e8 : wr .i64 (8 * wr .i64 (((5 + S.length : Nat) : Int) - 5)) = ((8 * S.length : Nat) : Int) := by
    rw [wr_i64 (n := ((5 + S.length : Nat) : Int) - 5) (by omega) (by omega), wr_i64 (by omega) (by omega)]
    omega
  (repeat first | refine HReg.step ?_ | refine HCode.step ?_)
  refine HReq.mk (by decide) ?_
  (repeat first | refine HReg.step ?_ | refine HCode.step ?_)
  refine hif (fun h => absurd es.symm (not_eqB_true.1 h)) (fun _ => ?_)
  (repeat first | refine HReg.step ?_ | refine HCode.step ?_)
  refine hloopC [4, 5, 6, 15, 16, 17, 18, 19, 20, 21, 22, 23, 24, 25, 26, 27, 28, 29, 30, 31, 32, 33, 34, 35, 36, 37, 38, 39, 40, 41, 42, 43, 44, 45] [5] (BoInv S.length H) rfl (by repeat' first | exact Resp.retD | exact Resp1.valuesK | refine Resp.blockD ?_ | refine Resp.thenD ?_ ?_ | refine Resp.hcode ?_) ?_ ?_
  · exact ⟨8 * S.length, BoInv.mk ⟨0, rfl, rfl, rfl⟩⟩
  rintro m _ fe H' ⟨i, rfl, hmi, rfl⟩
  (repeat first | refine HReg.step ?_ | refine HCode.step ?_)
  rw [e8]
  refine hif (fun h1 => ?_) (fun h1 => ?_)
  · have h1 := ltB_true.1 h1
    have w2 : wr .i64 ((i : Int) + 1) = ((i + 1 : Nat) : Int) := by rw [wr_i64 (by omega) (by omega)]; omega
    have ed := div8 i (by omega)
    have em := mod8 i
    obtain ⟨q, hq⟩ : ∃ q, 5 + i / 8 = q := ⟨_, rfl⟩
    have w5 : wr .i64 (5 + wr .i64 (Int.tdiv (i : Int) 8)) = (q : Int) := by rw [ed, wr_i64 (by omega) (by omega)]; omega
    obtain ⟨x, hx⟩ : ∃ x, (bytesOf n h S)[q]? = some x := ⟨(bytesOf n h S)[q]'(by omega), by simp⟩
    have hbit : x.toNat.testBit (i % 8) = bitAt S i := by
      unfold bitAt
      have hx' : S[i / 8]? = some x := by
        rw [← hx, ← hq]
        unfold bytesOf
        have hh : (headOf n h).length = 5 := rfl
        rw [List.getElem?_append_right (by omega), hh]
        congr 1; omega
      simp [List.getD, hx']
    have et : eqB (bitsS .and .u8 (shrS .u8 (x.toNat : Int) (Int.tmod (i : Int) 8)) 1) 1 = bitAt S i := by
      rw [em, test_u8' x (i % 8) (Nat.mod_lt _ (by decide)), hbit]
    obtain ⟨ba, bo', rfl, _⟩ := hr _ _ (u8s_get hx)
    (repeat first | refine HReg.step ?_ | refine HCode.step ?_)
    refine HReq.mk (by decide) ?_
    (repeat first | refine HReg.step ?_ | refine HCode.step ?_)
    refine HReq.mk ⟨by rw [w5]; omega, by rw [w5]; omega⟩ ?_
    (repeat first | refine HReg.step ?_ | refine HCode.step ?_)
    refine HLoad.one (v := u8 x) (by rw [w5]; exact hr.get (u8s_get hx)) ?_
    (repeat first | refine HReg.step ?_ | refine HCode.step ?_)
    refine HReq.mk (by decide) ?_
    (repeat first | refine HReg.step ?_ | refine HCode.step ?_)
    refine HReq.mk (by rw [em]; omega) ?_
    (repeat first | refine HReg.step ?_ | refine HCode.step ?_)
    refine hif (fun h2 => ?_) (fun h2 => ?_)
    · have h2 := ltB_true.1 h2
      (repeat first | refine HReg.step ?_ | refine HCode.step ?_)
      refine HReq.mk ⟨by omega, by omega⟩ ?_
      (repeat first | refine HReg.step ?_ | refine HCode.step ?_)
      refine HLoad.one (v := .bool (bitAt S i)) (by exact ho.rows.get (i := i) (bools_get (by omega))) ?_
      (repeat first | refine HReg.step ?_ | refine HCode.step ?_)
      rw [et]
      refine hif (fun h => absurd h (by simp)) (fun _ => ?_)
      (repeat first | refine HReg.step ?_ | refine HCode.step ?_)
      rw [w2]
      exact ⟨m - 1, by omega, BoInv.mk ⟨i + 1, rfl, by omega, rfl⟩⟩
    · have h2 := ltB_false.1 h2
      have hs := f.spare i (by omega)
      (repeat first | refine HReg.step ?_ | refine HCode.step ?_)
      rw [et, hs]
      (repeat first | refine HReg.step ?_ | refine HCode.step ?_)
      rw [w2]
      exact ⟨m - 1, by omega, BoInv.mk ⟨i + 1, rfl, by omega, rfl⟩⟩
  · (repeat first | refine HReg.step ?_ | refine HCode.step ?_)
    exact hk
end Go.Proofs.Ytaobgofbhommcaa
