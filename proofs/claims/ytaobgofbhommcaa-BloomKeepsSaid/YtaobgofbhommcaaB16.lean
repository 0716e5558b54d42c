import Derived.Test.YtaobgofbhommcaaB13
namespace Go.Proofs.Ytaobgofbhommcaa
open Go Hv
set_option linter.unusedVariables false
set_option linter.unusedSimpArgs false
set_option maxRecDepth 10000
set_option maxHeartbeats 1000000
/-! The document's filter: a row of truths. -/
def boolsOf (n : Nat) (S : List UInt8) : List Value := (List.range n).map fun i => Value.bool (bitAt S i)
theorem bools_length (n : Nat) (S : List UInt8) : (boolsOf n S).length = n := by simp [boolsOf]
theorem bools_get {n i : Nat} {S : List UInt8} (h : i < n) : (boolsOf n S)[i]? = some (.bool (bitAt S i)) := by simp [boolsOf, h]
theorem bools_set {n i : Nat} {S S' : List UInt8} {v : Bool} (h : ∀ j, j < n → bitAt S' j = if j = i then v else bitAt S j) : (boolsOf n S).set i (.bool v) = boolsOf n S' := by
  apply List.ext_getElem?
  intro j
  rw [List.getElem?_set]
  by_cases hj : j < n
  · rw [bools_get (S := S) hj, bools_get (S := S') hj, h j hj, bools_length]
    by_cases e : i = j
    · subst e; simp [hj]
    · rw [if_neg e, if_neg (Ne.symm e)]
  · have e1 : (boolsOf n S')[j]? = none := List.getElem?_eq_none (by rw [bools_length]; omega)
    have e2 : (boolsOf n S)[j]? = none := List.getElem?_eq_none (by rw [bools_length]; omega)
    rw [e1, e2, bools_length]
    split
    · rename_i e; rw [if_neg (by omega)]
    · rfl
def part (n : Nat) (D : List UInt8) (i : Nat) : List UInt8 := addAll (zerosL n) ((List.range i).filter fun j => bitAt D j)
theorem zeros_len (n : Nat) : (zerosL n).length = (n + 7) / 8 := by simp [zerosL]
theorem part_lt {n i : Nat} (D : List UInt8) (hi : i ≤ n) : ∀ p ∈ (List.range i).filter (fun j => bitAt D j), p < 8 * (zerosL n).length := fun p hp => by
  have := List.mem_range.1 ((List.mem_filter.1 hp).1)
  rw [zeros_len]; omega
theorem part_bit {n i j : Nat} {D : List UInt8} (hi : i ≤ n) : bitAt (part n D i) j = (decide (j < i) && bitAt D j) := by
  unfold part
  rw [addAll_bit (part_lt D hi), zeros_bit, Bool.false_or]
  have : (j ∈ (List.range i).filter fun j => bitAt D j) ↔ (j < i ∧ bitAt D j = true) := by rw [List.mem_filter, List.mem_range]
  rw [Bool.eq_iff_iff, decide_eq_true_iff, this, Bool.and_eq_true, decide_eq_true_iff]
theorem part_len {n i : Nat} (D : List UInt8) : (part n D i).length = (n + 7) / 8 := by unfold part; rw [addAll_length, zeros_len]
theorem part_ok {n h i : Nat} {D : List UInt8} (n1 : 1 ≤ n) (n2 : n ≤ 65536) (h1 : 1 ≤ h) (h2 : h ≤ 16) (hi : i ≤ n) : FOk n h (part n D i) :=
  ⟨n1, n2, h1, h2, part_len D, fun j hj => by rw [part_bit hi, decide_eq_false (by omega)]; rfl⟩
theorem part_full {n h : Nat} {D : List UInt8} (f : FOk n h D) : part n D n = D :=
  (part_ok f.n1 f.n2 f.h1 f.h2 (Nat.le_refl _)).ext f fun i hi => by rw [part_bit (Nat.le_refl _), decide_eq_true hi]; rfl
theorem part_yes {n i : Nat} {D : List UInt8} (hb : bitAt D i = true) : part n D (i + 1) = orBit (part n D i) i := by
  unfold part addAll
  rw [List.range_succ, List.filter_append, List.foldl_append]
  simp [hb]
theorem part_no {n i : Nat} {D : List UInt8} (hb : bitAt D i = false) : part n D (i + 1) = part n D i := by
  unfold part addAll
  rw [List.range_succ, List.filter_append, List.foldl_append]
  simp [hb]
theorem part_set {n i : Nat} {D : List UInt8} (hi : i < n) : (boolsOf n (part n D i)).set i (.bool (bitAt D i)) = boolsOf n (part n D (i + 1)) := by
  refine bools_set fun j hj => ?_
  rw [part_bit (by omega), part_bit (by omega)]
  by_cases e : j = i
  · subst e; simp
  · rw [if_neg e]
    congr 1
    rw [decide_eq_decide]; omega
structure RFil (H : Heap) (g b n h : Nat) (S : List UInt8) : Prop where
  ok : FOk n h S
  ex : ∃ c, OwnRow H 52 1 (some ⟨g, 0, none⟩) 3 3 [.int .i64 (n : Int), .int .i64 (h : Int), .slice (some ⟨b, 0, none⟩) n c] ∧ OwnRow H 4 1 (some ⟨b, 0, none⟩) n c (boolsOf n S)
structure RFilNew (H0 H : Heap) (g b n h : Nat) (S : List UInt8) : Prop where
  fil : RFil H g b n h S
  upd : Upd [] H0 H
  ng : H0 g = none
  nb : H0 b = none
theorem RFil.upd {H H' : Heap} {T : List Nat} {g b n h : Nat} {S : List UInt8} (f : RFil H g b n h S) (u : Upd T H H') (hg : g ∉ T) (hb : b ∉ T) : RFil H' g b n h S := by
  obtain ⟨c, o, s⟩ := f.ex
  exact ⟨f.ok, c, o.upd u (fun p hp => by cases hp; exact hg), s.upd u (fun p hp => by cases hp; exact hb)⟩
theorem RFil.upd0 {H H' : Heap} {g b n h : Nat} {S : List UInt8} (f : RFil H g b n h S) (u : Upd [] H H') : RFil H' g b n h S := f.upd u (by simp) (by simp)
theorem RFilNew.upd0 {H0 H H' : Heap} {g b n h : Nat} {S : List UInt8} (f : RFilNew H0 H g b n h S) (u : Upd [] H H') : RFilNew H0 H' g b n h S := ⟨f.fil.upd0 u, f.upd.trans u, f.ng, f.nb⟩
theorem RFilNew.back {H0 H1 H : Heap} {g b n h : Nat} {S : List UInt8} (f : RFilNew H1 H g b n h S) (u : Upd [] H0 H1) : RFilNew H0 H g b n h S := ⟨f.fil, u.trans f.upd, Upd.none (S := []) u (by simp) f.ng, Upd.none (S := []) u (by simp) f.nb⟩
theorem own_cells {H : Heap} {e : TypeId} {g n cap size : Nat} {xs : List Value} (h : OwnRow H e size (some ⟨g, 0, none⟩) n cap xs) : ∃ c f, H g = some (.cells c e f) := by
  rcases h.ok with ⟨ha, _⟩ | ⟨g', cur, ha, hg, _⟩
  · cases ha
  · cases ha; exact ⟨_, _, hg⟩
theorem RFil.liveG {H : Heap} {g b n h : Nat} {S : List UInt8} (f : RFil H g b n h S) : ∃ c z, H g = some (.cells c 52 z) := by obtain ⟨c, o, s⟩ := f.ex; exact own_cells o
theorem RFil.liveB {H : Heap} {g b n h : Nat} {S : List UInt8} (f : RFil H g b n h S) : ∃ c z, H b = some (.cells c 4 z) := by obtain ⟨c, o, s⟩ := f.ex; exact own_cells s
theorem RFil.gb {H : Heap} {g b g' b' n h n' h' : Nat} {S S' : List UInt8} (f : RFil H g b n h S) (f' : RFil H g' b' n' h' S') : g ≠ b' := fun e => by
  obtain ⟨c, z, h1⟩ := f.liveG
  obtain ⟨c', z', h2⟩ := f'.liveB
  rw [e, h2] at h1; cases h1
theorem repL_false : ∀ k : Nat, repL k [Value.bool false] = List.replicate k (.bool false)
  | 0 => rfl
  | k + 1 => by
    show [Value.bool false] ++ repL k _ = _
    rw [repL_false k]; rfl
theorem bools_zero (n : Nat) : boolsOf n (zerosL n) = List.replicate n (.bool false) := by
  unfold boolsOf
  apply List.ext_getElem?
  intro i
  simp only [List.getElem?_map, List.getElem?_replicate, zeros_bit]
  by_cases h : i < n <;> simp [h]
theorem rmay_b {n h : Int} {H : Heap} {K : Value → Heap → Prop} (hk : ∀ t : Bool, (t = true ↔ mayP n h) → K (.bool t) H) : HCalls Try.prog 36 [.int .i64 n, .int .i64 h] H K :=
  rmay_t (hk _ (by simp))
theorem rnew_t {n h : Int} {H : Heap} {K : Value → Heap → Prop}
    (hno : ¬ mayP n h → K (.tuple #[.pointer none, .int .i64 1]) H)
    (hyes : ∀ g b H', mayP n h → RFilNew H H' g b n.toNat h.toNat (zerosL n.toNat) → K (.tuple #[.pointer (some ⟨g, 0, none⟩), .int .i64 0]) H') : HCalls Try.prog 12 [.int .i64 n, .int .i64 h] H K := by
  refine hcalls (fn := Try.f12) [] mixed Try.func12 rfl rfl (by decide +kernel) ?_
  (repeat first | refine HReg.step ?_ | refine HCode.step ?_)
  refine HCall.mk ⟨Try.f36, Try.func36, by rfl, by rfl⟩ ?_
  refine rmay_b fun t ht => ?_
  (repeat first | refine HReg.step ?_ | refine HCode.step ?_)
  refine hif (fun hm => ?_) (fun hm => ?_)
  · have hm : ¬ mayP n h := fun h => by rw [ht.2 h] at hm; cases hm
    (repeat first | refine HReg.step ?_ | refine HCode.step ?_)
    exact hno hm
  have hm : mayP n h := ht.1 (by cases t <;> simp_all)
  obtain ⟨m1, m2, m3, m4⟩ := id hm
  have hz := zeros_ok hm
  obtain ⟨q, rfl⟩ : ∃ q : Nat, n = (q : Int) := ⟨n.toNat, by omega⟩
  obtain ⟨k, rfl⟩ : ∃ k : Nat, h = (k : Int) := ⟨h.toNat, by omega⟩
  rw [Int.toNat_natCast, Int.toNat_natCast] at hyes hz
  (repeat first | refine HReg.step ?_ | refine HCode.step ?_)
  refine HReq.mk ⟨by omega, by omega, by show (1 : Int) * _ ≤ (281474976710656 : Int); omega, by show _ < (9223372036854775808 : Int); omega⟩ ?_
  (repeat first | refine HReg.step ?_ | refine HCode.step ?_)
  refine HNew.mk fun b hb => ?_
  have hl : (repL ((q : Int).toNat) [Value.bool false]) = boolsOf q (zerosL q) := by rw [Int.toNat_natCast, repL_false, bools_zero]
  have ob : OwnRow (H.upd b (.cells (repL ((q : Int).toNat) [Value.bool false]).toArray 4)) 4 1 (some ⟨b, 0, none⟩) q q (boolsOf q (zerosL q)) := by
    rw [hl]
    exact OwnRow.lit (upd_same _ _ _) (by rw [bools_length, Nat.mul_one])
  have ub : Upd [] H (H.upd b (.cells (repL ((q : Int).toNat) [Value.bool false]).toArray 4)) := Upd.new hb _
  (repeat first | refine HReg.step ?_ | refine HCode.step ?_)
  refine HNew.mk fun g hg => ?_
  have ug : Upd [] (H.upd b (.cells (repL ((q : Int).toNat) [Value.bool false]).toArray 4)) ((H.upd b (.cells (repL ((q : Int).toNat) [Value.bool false]).toArray 4)).upd g (.cells [.int .i64 (q : Int), .int .i64 (k : Int), .slice (some ⟨b, 0, none⟩) q q].toArray 52)) := Upd.new hg _
  (repeat first | refine HReg.step ?_ | refine HCode.step ?_)
  exact hyes g b _ hm ⟨⟨hz, q, OwnRow.lit (upd_same _ _ _) rfl, ob.upd ug (Off.nil _)⟩, ub.trans ug, Upd.none (S := []) ub (by simp) hg, hb⟩
section
variable {H : Heap} {g b n h : Nat} {S : List UInt8} {K : Value → Heap → Prop}
structure ROnInv (S : List UInt8) (n : Nat) (H0 : Heap) (m : Nat) (vs : List Value) (H' : Heap) : Prop where
  ex : ∃ (i : Nat), vs = [.int .i64 (countB (bitAt S) i : Int), .int .i64 (i : Int)] ∧ m + i = n ∧ H0 = H'
theorem countB_le (f : Nat → Bool) : ∀ n, countB f n ≤ n
  | 0 => Nat.le_refl _
  | n + 1 => by have := countB_le f n; rw [countB]; split <;> omega
theorem rones_t (F : RFil H g b n h S) (hk : K (.int .i64 (onesL S : Int)) H) : HCalls Try.prog 25 [.pointer (some ⟨g, 0, none⟩)] H K := by
  refine hcalls (fn := Try.f25) [] mixed Try.func25 rfl rfl (by decide +kernel) ?_
  obtain ⟨c, o, s⟩ := F.ex
  have hlen := F.ok.len
  have hn2 := F.ok.n2
  (repeat first | refine HReg.step ?_ | refine HCode.step ?_)
  refine hloopC [3, 4, 5, 6, 7, 8, 9, 10, 11, 12, 13, 14, 15, 16, 17, 18, 19, 20, 21, 22] [3, 4] (ROnInv S n H) rfl (by repeat' first | exact Resp.retD | exact Resp1.valuesK | refine Resp.blockD ?_ | refine Resp.thenD ?_ ?_ | refine Resp.hcode ?_) ?_ ?_
  · exact ⟨n, ROnInv.mk ⟨0, rfl, rfl, rfl⟩⟩
  rintro m _ fe H' ⟨i, rfl, hmi, rfl⟩
  (repeat first | refine HReg.step ?_ | refine HCode.step ?_)
  refine HLoad.one (v := .slice (some ⟨b, 0, none⟩) n c) (by exact o.rows.get (i := 2) rfl) ?_
  (repeat first | refine HReg.step ?_ | refine HCode.step ?_)
  refine hif (fun h1 => ?_) (fun h1 => ?_)
  · have h1 := ltB_true.1 h1
    have hc := countB_le (bitAt S) i
    have w2 : wr .i64 ((i : Int) + 1) = ((i + 1 : Nat) : Int) := by rw [wr_i64 (by omega) (by omega)]; omega
    (repeat first | refine HReg.step ?_ | refine HCode.step ?_)
    refine HLoad.one (v := .slice (some ⟨b, 0, none⟩) n c) (by exact o.rows.get (i := 2) rfl) ?_
    (repeat first | refine HReg.step ?_ | refine HCode.step ?_)
    refine HReq.mk ⟨by omega, by omega⟩ ?_
    (repeat first | refine HReg.step ?_ | refine HCode.step ?_)
    refine HLoad.one (v := .bool (bitAt S i)) (by exact s.rows.get (i := i) (bools_get (by omega))) ?_
    (repeat first | refine HReg.step ?_ | refine HCode.step ?_)
    refine hif (fun h2 => ?_) (fun h2 => ?_)
    · have w3 : wr .i64 ((countB (bitAt S) i : Int) + 1) = ((countB (bitAt S) (i + 1) : Nat) : Int) := by
        rw [wr_i64 (by omega) (by omega), countB, if_pos h2]; omega
      (repeat first | refine HReg.step ?_ | refine HCode.step ?_)
      rw [w2, w3]
      exact ⟨m - 1, by omega, ROnInv.mk ⟨i + 1, rfl, by omega, rfl⟩⟩
    · have w3 : (countB (bitAt S) i : Int) = ((countB (bitAt S) (i + 1) : Nat) : Int) := by
        rw [countB, if_neg (by rw [h2]; simp)]; omega
      (repeat first | refine HReg.step ?_ | refine HCode.step ?_)
      rw [w2, w3]
      exact ⟨m - 1, by omega, ROnInv.mk ⟨i + 1, rfl, by omega, rfl⟩⟩
  · have h1 := ltB_false.1 h1
    (repeat first | refine HReg.step ?_ | refine HCode.step ?_)
    have : i = n := by omega
    subst this
    rw [onesL_count, countB_zero i _ F.ok.spare (by omega)] at hk
    exact hk
structure RHsInv (S : List UInt8) (ps : List Nat) (H0 : Heap) (m : Nat) (vs : List Value) (H' : Heap) : Prop where
  ex : ∃ (i : Nat), vs = [.int .i64 (i : Int)] ∧ m + i = ps.length ∧ hasAll S (ps.take i) = true ∧ H0 = H'
theorem rhas_t {s : List UInt8} (F : RFil H g b n h S) (hlim : s.length ≤ 9223372036854775806)
    (hk : ∀ H', Upd [] H H' → K (.bool (hasAll S (placesL n h s))) H') : HCalls Try.prog 27 [.pointer (some ⟨g, 0, none⟩), .string (bs s)] H K := by
  refine hcalls (fn := Try.f27) [(1, [(0, 0), (1, 0), (2, 0), (3, 0), (4, 0), (5, 0), (6, 0), (7, 0), (8, 0), (9, 0), (10, 0), (11, 0), (12, 0), (13, 0), (14, 0)]), (5, [(0, 0), (1, 0), (2, 0), (3, 0), (4, 0), (5, 0), (6, 0), (7, 0), (8, 0), (9, 0), (10, 0)])] mixed Try.func27 rfl rfl (by decide +kernel) ?_
  obtain ⟨c, o, st⟩ := F.ex
  have n1 := F.ok.n1
  have n2 := F.ok.n2
  have h1 := F.ok.h1
  have h2 := F.ok.h2
  (repeat first | refine HReg.step ?_ | refine HCode.step ?_)
  refine HLoad.one (v := .int .i64 (n : Int)) (by exact o.rows.get (i := 0) rfl) ?_
  (repeat first | refine HReg.step ?_ | refine HCode.step ?_)
  refine HLoad.one (v := .int .i64 (h : Int)) (by exact o.rows.get (i := 1) rfl) ?_
  (repeat first | refine HReg.step ?_ | refine HCode.step ?_)
  refine HCall.mk ⟨Try.f20, Try.func20, by rfl, by rfl⟩ ?_
  refine RPlaces (n := n) (h := h) hlim (fun hm => absurd (by unfold mayP; omega) hm) fun a c1 H1 _ m1 => ?_
  rw [Int.toNat_natCast, Int.toNat_natCast] at m1
  have u1 := m1.upd
  have o1 := o.upd u1 (Off.nil _)
  have st1 := st.upd u1 (Off.nil _)
  have hpl := placesL_length n h s
  have hpn := placesL_lt (h := h) (s := s) (n := n) (by omega)
  generalize placesL n h s = ps at m1 hpl hpn hk
  (repeat first | refine HReg.step ?_ | refine HCode.step ?_)
  refine hloopC [4, 7, 21, 22, 23, 24, 25, 26, 27, 28, 29, 30, 31, 32, 33, 34, 35, 36, 37] [7] (RHsInv S ps H1) rfl (by repeat' first | exact Resp.retD | exact Resp1.valuesK | refine Resp.blockD ?_ | refine Resp.thenD ?_ ?_ | refine Resp.hcode ?_) ?_ ?_
  · exact ⟨ps.length, RHsInv.mk ⟨0, rfl, rfl, rfl, rfl⟩⟩
  rintro m _ fe H3 ⟨i, rfl, hmi, ht, rfl⟩
  (repeat first | refine HReg.step ?_ | refine HCode.step ?_)
  refine hif (fun h3 => ?_) (fun h3 => ?_)
  · have h3 : ltB (i : Int) (h : Int) = true := by exact h3
    have h3 := ltB_true.1 h3
    obtain ⟨p, hp⟩ : ∃ p, ps[i]? = some p := ⟨ps[i]'(by omega), by simp⟩
    have hpn' := hpn p (List.mem_of_getElem? hp)
    have r1 := m1.own.rows
    obtain ⟨ba, bo, rfl, _⟩ := r1 i _ (nums_get hp)
    (repeat first | refine HReg.step ?_ | refine HCode.step ?_)
    refine HLoad.one (v := .slice (some ⟨b, 0, none⟩) n c) (by exact o1.rows.get (i := 2) rfl) ?_
    (repeat first | refine HReg.step ?_ | refine HCode.step ?_)
    refine HReq.mk ⟨by omega, by exact (by omega : (i : Int) < (h : Int))⟩ ?_
    (repeat first | refine HReg.step ?_ | refine HCode.step ?_)
    refine HLoad.one (v := .int .i64 (p : Int)) (by exact r1.get (nums_get hp)) ?_
    (repeat first | refine HReg.step ?_ | refine HCode.step ?_)
    refine HReq.mk ⟨by omega, by omega⟩ ?_
    (repeat first | refine HReg.step ?_ | refine HCode.step ?_)
    refine HLoad.one (v := .bool (bitAt S p)) (by exact st1.rows.get (bools_get hpn')) ?_
    (repeat first | refine HReg.step ?_ | refine HCode.step ?_)
    refine hif (fun h4 => ?_) (fun h4 => ?_)
    · have h4 : bitAt S p = false := by simpa using h4
      (repeat first | refine HReg.step ?_ | refine HCode.step ?_)
      have := hk H1 u1
      rw [hasAll_false hp h4] at this
      exact this
    · have h4 : bitAt S p = true := by simpa using h4
      have w2 : wr .i64 ((i : Int) + 1) = ((i + 1 : Nat) : Int) := by rw [wr_i64 (by omega) (by omega)]; omega
      (repeat first | refine HReg.step ?_ | refine HCode.step ?_)
      rw [w2]
      exact ⟨m - 1, by omega, RHsInv.mk ⟨i + 1, rfl, by omega, by rw [hasAll_take hp, ht, h4]; rfl, rfl⟩⟩
  · have h3 : ltB (i : Int) (h : Int) = false := by exact h3
    have h3 := ltB_false.1 h3
    (repeat first | refine HReg.step ?_ | refine HCode.step ?_)
    rw [List.take_of_length_le (by omega)] at ht
    have := hk H1 u1
    rw [ht] at this
    exact this
structure RAdInv (g b n h : Nat) (S : List UInt8) (ps : List Nat) (H0 : Heap) (m : Nat) (vs : List Value) (H' : Heap) : Prop where
  ex : ∃ (i : Nat), vs = [.int .i64 (i : Int)] ∧ m + i = ps.length ∧ Upd [b] H0 H' ∧ RFil H' g b n h (addAll S (ps.take i))
theorem radd_t {s : List UInt8} (F : RFil H g b n h S) (hlim : s.length ≤ 9223372036854775806)
    (hk : ∀ H', RFil H' g b n h (addAll S (placesL n h s)) → Upd [b] H H' → K (.tuple #[]) H') : HCalls Try.prog 37 [.pointer (some ⟨g, 0, none⟩), .string (bs s)] H K := by
  refine hcalls (fn := Try.f37) [(0, [(0, 0), (1, 0), (2, 0), (3, 0), (4, 0), (5, 0), (6, 0), (7, 0), (8, 0), (9, 0), (10, 0), (11, 0), (12, 0), (13, 0), (14, 0)]), (4, [(0, 0), (1, 0), (2, 0), (3, 0), (4, 0), (5, 0), (6, 0), (7, 0), (8, 0), (9, 0)])] mixed Try.func37 rfl rfl (by decide +kernel) ?_
  obtain ⟨c, o, st⟩ := F.ex
  have hlen := F.ok.len
  have n1 := F.ok.n1
  have n2 := F.ok.n2
  have h1 := F.ok.h1
  have h2 := F.ok.h2
  (repeat first | refine HReg.step ?_ | refine HCode.step ?_)
  refine HLoad.one (v := .int .i64 (n : Int)) (by exact o.rows.get (i := 0) rfl) ?_
  (repeat first | refine HReg.step ?_ | refine HCode.step ?_)
  refine HLoad.one (v := .int .i64 (h : Int)) (by exact o.rows.get (i := 1) rfl) ?_
  (repeat first | refine HReg.step ?_ | refine HCode.step ?_)
  refine HCall.mk ⟨Try.f20, Try.func20, by rfl, by rfl⟩ ?_
  refine RPlaces (n := n) (h := h) hlim (fun hm => absurd (by unfold mayP; omega) hm) fun a c1 H1 _ m1 => ?_
  rw [Int.toNat_natCast, Int.toNat_natCast] at m1
  have F1 := F.upd0 m1.upd
  have hoff : Off [b] a := fun p hp hb => by
    obtain ⟨cc, z, hbl⟩ := F.liveB
    have := m1.new p hp
    rw [List.mem_singleton.1 hb, hbl] at this; cases this
  have hpl := placesL_length n h s
  have hpn := placesL_lt (h := h) (s := s) (n := n) (by omega)
  generalize placesL n h s = ps at m1 hpl hpn hk
  (repeat first | refine HReg.step ?_ | refine HCode.step ?_)
  refine hloopC [6, 20, 21, 22, 23, 24, 25, 26, 27, 28, 29, 30, 31, 32, 33, 34] [6] (RAdInv g b n h S ps H1) rfl (by repeat' first | exact Resp.retD | exact Resp1.valuesK | refine Resp.blockD ?_ | refine Resp.thenD ?_ ?_ | refine Resp.hcode ?_) ?_ ?_
  · exact ⟨ps.length, RAdInv.mk ⟨0, rfl, rfl, Upd.refl _ _, F1⟩⟩
  rintro m _ fe H3 ⟨i, rfl, hmi, u3, F3⟩
  have r3 := m1.own.rows.upd u3 (.inr hoff)
  (repeat first | refine HReg.step ?_ | refine HCode.step ?_)
  refine hif (fun h3 => ?_) (fun h3 => ?_)
  · have h3 : ltB (i : Int) (h : Int) = true := by exact h3
    have h3 := ltB_true.1 h3
    obtain ⟨p, hp⟩ : ∃ p, ps[i]? = some p := ⟨ps[i]'(by omega), by simp⟩
    have hpn' := hpn p (List.mem_of_getElem? hp)
    obtain ⟨ba, bo, ha, _⟩ := r3 i _ (nums_get hp)
    subst ha
    obtain ⟨c3, o3, s3⟩ := F3.ex
    have hl3 := addAll_length S (ps.take i)
    (repeat first | refine HReg.step ?_ | refine HCode.step ?_)
    refine HLoad.one (v := .slice (some ⟨b, 0, none⟩) n c3) (by exact o3.rows.get (i := 2) rfl) ?_
    (repeat first | refine HReg.step ?_ | refine HCode.step ?_)
    refine HReq.mk ⟨by omega, by exact (by omega : (i : Int) < (h : Int))⟩ ?_
    (repeat first | refine HReg.step ?_ | refine HCode.step ?_)
    refine HLoad.one (v := .int .i64 (p : Int)) (by exact r3.get (nums_get hp)) ?_
    (repeat first | refine HReg.step ?_ | refine HCode.step ?_)
    refine HReq.mk ⟨by omega, by omega⟩ ?_
    (repeat first | refine HReg.step ?_ | refine HCode.step ?_)
    refine store_row s3 (v := .bool true) rfl (i := p) (by omega) (by exact Nat.zero_add p) fun H4 o4 u4 => ?_
    have eset : (boolsOf n (addAll S (ps.take i))).set p (.bool true) = boolsOf n (addAll S (ps.take (i + 1))) := by
      rw [addAll_take hp]
      refine bools_set fun j hj => ?_
      rw [orBit_bit (by rw [hl3]; omega)]
      by_cases e : j = p
      · simp [e]
      · simp [e]
    rw [eset] at o4
    have hg4 : g ∉ [b] := fun hb => F3.gb F3 (List.mem_singleton.1 hb)
    have F4 : RFil H4 g b n h (addAll S (ps.take (i + 1))) := by
      refine ⟨addAll_ok F.ok fun q hq => hpn q (List.mem_of_mem_take hq), c3, o3.upd u4 (fun p hp => by cases hp; exact hg4), o4⟩
    have w2 : wr .i64 ((i : Int) + 1) = ((i + 1 : Nat) : Int) := by rw [wr_i64 (by omega) (by omega)]; omega
    (repeat first | refine HReg.step ?_ | refine HCode.step ?_)
    rw [w2]
    exact ⟨m - 1, by omega, RAdInv.mk ⟨i + 1, rfl, by omega, u3.trans u4, F4⟩⟩
  · have h3 : ltB (i : Int) (h : Int) = false := by exact h3
    have h3 := ltB_false.1 h3
    (repeat first | refine HReg.step ?_ | refine HCode.step ?_)
    rw [List.take_of_length_le (by omega)] at F3
    exact hk H3 F3 ((m1.upd.mono (by simp)).trans u3)
end
end Go.Proofs.Ytaobgofbhommcaa
