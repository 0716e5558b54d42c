import Derived.Test.YtaobgofbhommcaaB7
namespace Go.Proofs.Ytaobgofbhommcaa
open Go Hv
set_option linter.unusedVariables false
set_option linter.unusedSimpArgs false
set_option maxRecDepth 10000
set_option maxHeartbeats 400000
/-! Add, Has -/
theorem u8_wrap (n : Int) (h0 : 0 ≤ n) (h1 : n < 2 ^ 8) : IntKind.u8.wrap n = n := by
  have : IntKind.u8.wrap n = n % 256 := rfl
  rw [this]; omega
theorem or_u8 (a b : UInt8) : bitsS .or .u8 (a.toNat : Int) (b.toNat : Int) = ((a ||| b).toNat : Int) := by
  rw [bitsS_eq, UInt8.toNat_or]
  exact (bits_nat .u8 8 (by decide) (fun n h0 h1 => u8_wrap n h0 h1) a.toNat b.toNat a.toNat_lt b.toNat_lt).2
theorem shl_u8 (p : Nat) : shlS .u8 1 ((p % 8 : Nat) : Int) = ((maskOf p).toNat : Int) := by
  have hp : p % 8 < 8 := Nat.mod_lt _ (by decide)
  have : 2 ^ (p % 8) < 256 := by
    have : 2 ^ (p % 8) ≤ 2 ^ 7 := Nat.pow_le_pow_right (by decide) (by omega)
    omega
  have e8 : min (p % 8) IntKind.u8.bits = p % 8 := by
    have : IntKind.u8.bits = 8 := rfl
    rw [this]; omega
  rw [shlS_eq, Int.toNat_natCast, e8]
  unfold maskOf
  have e : (1 : Int) * 2 ^ (p % 8) = ((2 ^ (p % 8) : Nat) : Int) := by rw [Int.one_mul]; norm_cast
  rw [e, UInt8.toNat_ofNat']
  generalize 2 ^ (p % 8) = m at this
  rw [u8_wrap _ (by omega) (by omega), Nat.mod_eq_of_lt this]
theorem test_u8 (x : UInt8) (k : Nat) (hk : k < 8) : eqB (bitsS .and .u8 (shrS .u8 (x.toNat : Int) (k : Int)) 1) 0 = !(x.toNat.testBit k) := by
  have e8 : min k IntKind.u8.bits = k := by
    have : IntKind.u8.bits = 8 := rfl
    rw [this]; omega
  have e2 : (2 : Int) ^ k = ((2 ^ k : Nat) : Int) := by norm_cast
  have hx := x.toNat_lt
  have hd : x.toNat / 2 ^ k < 2 ^ 8 := Nat.lt_of_le_of_lt (Nat.div_le_self _ _) hx
  have e3 : shrS .u8 (x.toNat : Int) (k : Int) = ((x.toNat / 2 ^ k : Nat) : Int) := by
    rw [shrS_eq, Int.toNat_natCast, e8, e2, Int.fdiv_eq_ediv_of_nonneg _ (Int.natCast_nonneg _)]
    norm_cast
  have e4 : bitsS .and .u8 ((x.toNat / 2 ^ k : Nat) : Int) 1 = ((x.toNat / 2 ^ k % 2 : Nat) : Int) := by
    rw [bitsS_eq, ← Nat.and_one_is_mod]
    exact (bits_nat .u8 8 (by decide) (fun n h0 h1 => u8_wrap n h0 h1) (x.toNat / 2 ^ k) 1 hd (by decide)).1
  rw [e3, e4, Nat.testBit_eq_decide_div_mod_eq, eqB_eq]
  rcases Nat.mod_two_eq_zero_or_one (x.toNat / 2 ^ k) with h | h <;> rw [h] <;> rfl
theorem div8 (p : Nat) (h : p ≤ 9223372036854775807) : wr .i64 (Int.tdiv (p : Int) 8) = ((p / 8 : Nat) : Int) := by
  rw [Int.tdiv_eq_ediv_of_nonneg (Int.natCast_nonneg _), wr_i64 (by omega) (by omega)]; omega
theorem mod8 (p : Nat) : Int.tmod (p : Int) 8 = ((p % 8 : Nat) : Int) := by
  rw [Int.tmod_eq_emod_of_nonneg (Int.natCast_nonneg _)]; omega
section
variable {H : Heap} {g b n h : Nat} {S : List UInt8} {K : Value → Heap → Prop}
theorem Fil.lenb (F : Fil H g b n h S) : n ≤ 8 * S.length := by have := F.ok.len; omega
theorem addAll_ok {n h : Nat} {S : List UInt8} (f : FOk n h S) {ps : List Nat} (hp : ∀ p ∈ ps, p < n) : FOk n h (addAll S ps) := by
  have hl := f.len
  refine ⟨f.n1, f.n2, f.h1, f.h2, by rw [addAll_length]; exact hl, fun i hi => ?_⟩
  rw [addAll_bit fun p hpm => by have := hp p hpm; omega, f.spare i hi]
  have : i ∉ ps := fun hm => by have := hp i hm; omega
  simp [this]
theorem addAll_take {S : List UInt8} {ps : List Nat} {i p : Nat} (hp : ps[i]? = some p) : addAll S (ps.take (i + 1)) = orBit (addAll S (ps.take i)) p := by
  unfold addAll
  rw [List.take_add_one, hp, List.foldl_append]; rfl
structure AdInv (g b n h : Nat) (S : List UInt8) (ps : List Nat) (H0 : Heap) (m : Nat) (vs : List Value) (H' : Heap) : Prop where
  ex : ∃ (i : Nat), vs = [.int .i64 (i : Int)] ∧ m + i = ps.length ∧ Upd [b] H0 H' ∧ Fil H' g b n h (addAll S (ps.take i))
theorem add_t {s : List UInt8} (F : Fil H g b n h S) (hlim : s.length ≤ 9223372036854775806)
    (hk : ∀ H', Fil H' g b n h (addAll S (placesL n h s)) → Upd [b] H H' → K (.tuple #[]) H') : HCalls Try.prog 29 [.pointer (some ⟨g, 0, none⟩), .string (bs s)] H K := by
  refine hcalls (fn := Try.f29) [(3, [(0, 0), (1, 0), (2, 0), (3, 0), (4, 0), (5, 0), (6, 0), (7, 0), (8, 0), (9, 0), (10, 0), (11, 0), (12, 0), (13, 0)])] mixed Try.func29 rfl rfl (by decide +kernel) ?_
  obtain ⟨c, o, st⟩ := F.ex
  have hlen := F.ok.len
  have n1 := F.ok.n1
  have n2 := F.ok.n2
  have h2 := F.ok.h2
  (repeat first | refine HReg.step ?_ | refine HCode.step ?_)
  refine HLoadN_row (vs := [.int .i64 (n : Int), .int .i64 (h : Int)]) (by exact o.rows.take 2) rfl ?_
  (repeat first | refine HReg.step ?_ | refine HCode.step ?_)
  refine HCall.mk ⟨Try.f39, Try.func39, by rfl, by rfl⟩ ?_
  refine places_t hlim n1 n2 h2 fun a c1 H1 m1 => ?_
  have F1 := F.upd0 m1.upd
  have hoff : Off [b] a := fun p hp hb => by
    obtain ⟨cc, z, hbl⟩ := F.liveB
    have := m1.new p hp
    rw [List.mem_singleton.1 hb, hbl] at this; cases this
  have hpl := placesL_length n h s
  have hpn := placesL_lt (h := h) (s := s) (n := n) (by omega)
  generalize placesL n h s = ps at m1 hpl hpn hk
  (repeat first | refine HReg.step ?_ | refine HCode.step ?_)
  refine hloopC [5, 13, 14, 15, 16, 17, 18, 19, 20, 21, 22, 23, 24, 25, 26, 27, 28, 29, 30] [13] (AdInv g b n h S ps H1) rfl (by repeat' first | exact Resp.retD | exact Resp1.valuesK | refine Resp.blockD ?_ | refine Resp.thenD ?_ ?_ | refine Resp.hcode ?_) ?_ ?_
  · exact ⟨ps.length, AdInv.mk ⟨0, rfl, rfl, Upd.refl _ _, F1⟩⟩
  rintro m _ fe H3 ⟨i, rfl, hmi, u3, F3⟩
  have r3 := m1.own.rows.upd u3 (.inr hoff)
  (repeat first | refine HReg.step ?_ | refine HCode.step ?_)
  refine hif (fun h1 => ?_) (fun h1 => ?_)
  · have h1 := ltB_true.1 h1
    obtain ⟨p, hp⟩ : ∃ p, ps[i]? = some p := ⟨ps[i]'(by omega), by simp⟩
    have hpn' := hpn p (List.mem_of_getElem? hp)
    obtain ⟨ba, bo, ha, _⟩ := r3 i _ (nums_get hp)
    subst ha
    obtain ⟨c3, o3, s3⟩ := F3.ex
    have hl3 := addAll_length S (ps.take i)
    obtain ⟨x, hx⟩ : ∃ x, (addAll S (ps.take i))[p / 8]? = some x := ⟨(addAll S (ps.take i))[p / 8]'(by omega), by simp⟩
    (repeat first | refine HReg.step ?_ | refine HCode.step ?_)
    refine HReq.mk ⟨by omega, by omega⟩ ?_
    (repeat first | refine HReg.step ?_ | refine HCode.step ?_)
    refine HLoad.one (v := .int .i64 (p : Int)) (by exact r3.get (nums_get hp)) ?_
    (repeat first | refine HReg.step ?_ | refine HCode.step ?_)
    refine HLoad.one (v := .slice (some ⟨b, 0, none⟩) (addAll S (ps.take i)).length c3) (by exact o3.rows.get (i := 2) rfl) ?_
    have ed := div8 p (by omega)
    have em := mod8 p
    (repeat first | refine HReg.step ?_ | refine HCode.step ?_)
    refine HReq.mk (by decide) ?_
    (repeat first | refine HReg.step ?_ | refine HCode.step ?_)
    refine HReq.mk ⟨by rw [ed]; omega, by rw [ed]; omega⟩ ?_
    (repeat first | refine HReg.step ?_ | refine HCode.step ?_)
    refine HLoad.one (v := u8 x) (by rw [ed]; exact s3.rows.get (u8s_get hx)) ?_
    (repeat first | refine HReg.step ?_ | refine HCode.step ?_)
    refine HReq.mk (by decide) ?_
    (repeat first | refine HReg.step ?_ | refine HCode.step ?_)
    refine HReq.mk (by rw [em]; omega) ?_
    (repeat first | refine HReg.step ?_ | refine HCode.step ?_)
    refine HReq.mk ⟨by rw [ed]; omega, by rw [ed]; omega⟩ ?_
    have ev : bitsS .or .u8 (x.toNat : Int) (shlS .u8 1 (Int.tmod (p : Int) 8)) = ((x ||| maskOf p).toNat : Int) := by
      rw [em, shl_u8, or_u8]
    (repeat first | refine HReg.step ?_ | refine HCode.step ?_)
    rw [ev]
    refine store_row s3 (v := u8 (x ||| maskOf p)) rfl (i := p / 8) (by omega) (by rw [ed]; exact Nat.zero_add (p / 8)) fun H4 o4 u4 => ?_
    have eset : (u8s (addAll S (ps.take i))).set (p / 8) (u8 (x ||| maskOf p)) = u8s (addAll S (ps.take (i + 1))) := by
      rw [addAll_take hp]
      unfold orBit u8s
      rw [List.map_set]
      congr 2
      simp [List.getD, hx]
    rw [eset] at o4
    have hg4 : g ∉ [b] := fun hb => F3.gb F3 (List.mem_singleton.1 hb)
    have F4 : Fil H4 g b n h (addAll S (ps.take (i + 1))) := by
      refine ⟨addAll_ok F.ok fun q hq => hpn q (List.mem_of_mem_take hq), c3, ?_⟩
      rw [addAll_length] at o3 o4 ⊢
      exact ⟨o3.upd u4 (fun p hp => by cases hp; exact hg4), o4⟩
    have w2 : wr .i64 ((i : Int) + 1) = ((i + 1 : Nat) : Int) := by rw [wr_i64 (by omega) (by omega)]; omega
    (repeat first | refine HReg.step ?_ | refine HCode.step ?_)
    rw [w2]
    exact ⟨m - 1, by omega, AdInv.mk ⟨i + 1, rfl, by omega, u3.trans u4, F4⟩⟩
  · have h1 := ltB_false.1 h1
    (repeat first | refine HReg.step ?_ | refine HCode.step ?_)
    rw [List.take_of_length_le (by omega)] at F3
    exact hk H3 F3 ((m1.upd.mono (by simp)).trans u3)
/-! Has -/
def fnHas (b2 : Nat) : Value := .func (.func 44) #[] #[.pointer (some ⟨b2, 0, none⟩)]
theorem has1_t {b2 p : Nat} (F : Fil H g b n h S) (hb : RowAt H (some ⟨b2, 0, none⟩) [.pointer (some ⟨g, 0, none⟩)]) (hp : p < n) (hk : K (.bool (!bitAt S p)) H) : HCalls Try.prog 44 [.int .i64 (p : Int), .pointer (some ⟨b2, 0, none⟩)] H K := by
  refine hcalls (fn := Try.f44) [] mixed Try.func44 rfl rfl rfl ?_
  obtain ⟨c, o, st⟩ := F.ex
  have hlen := F.ok.len
  have n2 := F.ok.n2
  obtain ⟨x, hx⟩ : ∃ x, S[p / 8]? = some x := ⟨S[p / 8]'(by omega), by simp⟩
  have ed := div8 p (by omega)
  have em := mod8 p
  (repeat first | refine HReg.step ?_ | refine HCode.step ?_)
  refine HLoad.one (v := .pointer (some ⟨g, 0, none⟩)) (by exact hb.get (i := 0) rfl) ?_
  (repeat first | refine HReg.step ?_ | refine HCode.step ?_)
  refine HLoad.one (v := .slice (some ⟨b, 0, none⟩) S.length c) (by exact o.rows.get (i := 2) rfl) ?_
  (repeat first | refine HReg.step ?_ | refine HCode.step ?_)
  refine HReq.mk (by decide) ?_
  (repeat first | refine HReg.step ?_ | refine HCode.step ?_)
  refine HReq.mk ⟨by rw [ed]; omega, by rw [ed]; omega⟩ ?_
  (repeat first | refine HReg.step ?_ | refine HCode.step ?_)
  refine HLoad.one (v := u8 x) (by rw [ed]; exact st.rows.get (u8s_get hx)) ?_
  (repeat first | refine HReg.step ?_ | refine HCode.step ?_)
  refine HReq.mk (by decide) ?_
  (repeat first | refine HReg.step ?_ | refine HCode.step ?_)
  refine HReq.mk (by rw [em]; omega) ?_
  have e : eqB (bitsS .and .u8 (shrS .u8 (x.toNat : Int) (Int.tmod (p : Int) 8)) 1) 0 = !bitAt S p := by
    rw [em, test_u8 x (p % 8) (Nat.mod_lt _ (by decide))]
    unfold bitAt
    simp [List.getD, hx]
  (repeat first | refine HReg.step ?_ | refine HCode.step ?_)
  exact (show K (.bool (eqB (bitsS .and .u8 (shrS .u8 (x.toNat : Int) (Int.tmod (p : Int) 8)) 1) 0)) H from by rw [e]; exact hk)
structure IxInv (S : List UInt8) (ps : List Nat) (H0 : Heap) (m : Nat) (vs : List Value) (H' : Heap) : Prop where
  ex : ∃ (i : Nat), vs = [.int .i64 (i : Int)] ∧ m + i = ps.length ∧ hasAll S (ps.take i) = true ∧ H0 = H'
theorem hasAll_take {S : List UInt8} {ps : List Nat} {i p : Nat} (hp : ps[i]? = some p) : hasAll S (ps.take (i + 1)) = (hasAll S (ps.take i) && bitAt S p) := by
  unfold hasAll
  rw [List.take_add_one, hp]
  simp
theorem hasAll_false {S : List UInt8} {ps : List Nat} {i p : Nat} (hp : ps[i]? = some p) (h : bitAt S p = false) : hasAll S ps = false := by
  unfold hasAll
  rw [List.all_eq_false]
  exact ⟨p, List.mem_of_getElem? hp, by simp [h]⟩
theorem index_t {a : Option Addr} {k c b2 : Nat} {ps : List Nat} (F : Fil H g b n h S) (hb : RowAt H (some ⟨b2, 0, none⟩) [.pointer (some ⟨g, 0, none⟩)]) (hr : RowAt H a (nums ps)) (hl : ps.length = k) (hk16 : k ≤ 16) (hpn : ∀ p ∈ ps, p < n)
    (hno : hasAll S ps = true → K (.int .i64 (-1)) H) (hyes : ∀ i : Nat, hasAll S ps = false → K (.int .i64 (i : Int)) H) : HCalls Try.prog 47 [.slice a k c, fnHas b2] H K := by
  refine hcalls (fn := Try.f47) [] mixed Try.func47 rfl rfl rfl ?_
  (repeat first | refine HReg.step ?_ | refine HCode.step ?_)
  refine hloopC [4, 5, 8, 9, 10, 11, 12, 13, 14, 15, 16, 17, 18] [8] (IxInv S ps H) rfl (by repeat' first | exact Resp.retD | exact Resp1.valuesK | refine Resp.blockD ?_ | refine Resp.thenD ?_ ?_ | refine Resp.hcode ?_) ?_ ?_
  · exact ⟨ps.length, IxInv.mk ⟨0, rfl, rfl, rfl, rfl⟩⟩
  rintro m _ fe H3 ⟨i, rfl, hmi, ht, rfl⟩
  (repeat first | refine HReg.step ?_ | refine HCode.step ?_)
  refine hif (fun h1 => ?_) (fun h1 => ?_)
  · have h1 := ltB_true.1 h1
    obtain ⟨p, hp⟩ : ∃ p, ps[i]? = some p := ⟨ps[i]'(by omega), by simp⟩
    have hpn' := hpn p (List.mem_of_getElem? hp)
    obtain ⟨ba, bo, ha, _⟩ := hr i _ (nums_get hp)
    subst ha
    (repeat first | refine HReg.step ?_ | refine HCode.step ?_)
    refine HReq.mk ⟨by omega, by omega⟩ ?_
    (repeat first | refine HReg.step ?_ | refine HCode.step ?_)
    refine HLoad.one (v := .int .i64 (p : Int)) (by exact hr.get (nums_get hp)) ?_
    (repeat first | refine HReg.step ?_ | refine HCode.step ?_)
    refine HCall.mk ⟨Try.f44, Try.func44, by rfl, by rfl⟩ ?_
    refine has1_t F hb hpn' ?_
    (repeat first | refine HReg.step ?_ | refine HCode.step ?_)
    refine hif (fun h2 => ?_) (fun h2 => ?_)
    · have h2 : bitAt S p = false := by simpa using h2
      (repeat first | refine HReg.step ?_ | refine HCode.step ?_)
      exact hyes i (hasAll_false hp h2)
    · have h2 : bitAt S p = true := by simpa using h2
      have w2 : wr .i64 ((i : Int) + 1) = ((i + 1 : Nat) : Int) := by rw [wr_i64 (by omega) (by omega)]; omega
      (repeat first | refine HReg.step ?_ | refine HCode.step ?_)
      rw [w2]
      exact ⟨m - 1, by omega, IxInv.mk ⟨i + 1, rfl, by omega, by rw [hasAll_take hp, ht, h2]; rfl, rfl⟩⟩
  · have h1 := ltB_false.1 h1
    (repeat first | refine HReg.step ?_ | refine HCode.step ?_)
    rw [List.take_of_length_le (by omega)] at ht
    exact hno ht
theorem has_t {s : List UInt8} (F : Fil H g b n h S) (hlim : s.length ≤ 9223372036854775806)
    (hk : ∀ H', Upd [] H H' → K (.bool (hasAll S (placesL n h s))) H') : HCalls Try.prog 26 [.pointer (some ⟨g, 0, none⟩), .string (bs s)] H K := by
  refine hcalls (fn := Try.f26) [] mixed Try.func26 rfl rfl (by decide +kernel) ?_
  have n1 := F.ok.n1
  have n2 := F.ok.n2
  have h2 := F.ok.h2
  (repeat first | refine HReg.step ?_ | refine HCode.step ?_)
  refine HNew.mk fun b2 hb2 => ?_
  have u2 : Upd [] H (H.upd b2 (.cells [Value.pointer (some ⟨g, 0, none⟩)].toArray 24)) := Upd.new hb2 _
  have r2 : RowAt (H.upd b2 (.cells [Value.pointer (some ⟨g, 0, none⟩)].toArray 24)) (some ⟨b2, 0, none⟩) [.pointer (some ⟨g, 0, none⟩)] := RowAt.of_cells (upd_same _ _ _)
  generalize H.upd b2 (.cells [Value.pointer (some ⟨g, 0, none⟩)].toArray 24) = H2 at u2 r2
  have F2 := F.upd0 u2
  obtain ⟨c, o, st⟩ := F2.ex
  (repeat first | refine HReg.step ?_ | refine HCode.step ?_)
  refine HLoad.one (v := .pointer (some ⟨g, 0, none⟩)) (by exact r2.get (i := 0) rfl) ?_
  (repeat first | refine HReg.step ?_ | refine HCode.step ?_)
  refine HLoadN_row (vs := [.int .i64 (n : Int), .int .i64 (h : Int)]) (by exact o.rows.take 2) rfl ?_
  (repeat first | refine HReg.step ?_ | refine HCode.step ?_)
  refine HCall.mk ⟨Try.f39, Try.func39, by rfl, by rfl⟩ ?_
  refine places_t hlim n1 n2 h2 fun a c1 H3 m3 => ?_
  have F3 := F2.upd0 m3.upd
  have r3 := r2.upd (S := []) m3.upd (.inr (Off.nil _))
  have hpl := placesL_length n h s
  have hpn := placesL_lt (h := h) (s := s) (n := n) (by omega)
  generalize placesL n h s = ps at m3 hpl hpn hk
  (repeat first | refine HReg.step ?_ | refine HCode.step ?_)
  refine HCall.mk ⟨Try.f43, Try.func43, by rfl, by rfl⟩ ?_
  refine hcalls (fn := Try.f43) [] mixed Try.func43 rfl rfl rfl ?_
  (repeat first | refine HReg.step ?_ | refine HCode.step ?_)
  refine HCall.mk ⟨Try.f47, Try.func47, by rfl, by rfl⟩ ?_
  have hk' := hk H3 (u2.trans m3.upd)
  refine index_t F3 r3 m3.own.rows hpl h2 hpn (fun ht => ?_) (fun i hf => ?_)
  · rw [ht] at hk'
    (repeat first | refine HReg.step ?_ | refine HCode.step ?_)
    have e : (!ltB (-1) 0) = false := by rw [not_ltB_false]; decide
    rw [e]
    (repeat first | refine HReg.step ?_ | refine HCode.step ?_)
    exact hk'
  · rw [hf] at hk'
    (repeat first | refine HReg.step ?_ | refine HCode.step ?_)
    have e : (!ltB (i : Int) 0) = true := by rw [not_ltB_true]; omega
    rw [e]
    (repeat first | refine HReg.step ?_ | refine HCode.step ?_)
    exact hk'
end
end Go.Proofs.Ytaobgofbhommcaa
