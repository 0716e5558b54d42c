import Derived.Test.YtaobgofbhommcaaB16
import Derived.Test.YtaobgofbhommcaaB10
namespace Go.Proofs.Ytaobgofbhommcaa
open Go Hv
set_option linter.unusedVariables false
set_option linter.unusedSimpArgs false
set_option maxRecDepth 10000
set_option maxHeartbeats 1000000
/-! The document's Bytes, Union, Read -/
theorem test_u8' (x : UInt8) (k : Nat) (hk : k < 8) : eqB (bitsS .and .u8 (shrS .u8 (x.toNat : Int) (k : Int)) 1) 1 = x.toNat.testBit k := by
  have e8 : min k IntKind.u8.bits = k := by
    have : IntKind.u8.bits = 8 := rfl
    rw [this]; omega
  have e2 : (2 : Int) ^ k = ((2 ^ k : Nat) : Int) := by norm_cast
  have hx := x.toNat_lt
  have hd : x.toNat / 2 ^ k < 2 ^ 8 := Nat.lt_of_le_of_lt (Nat.div_le_self _ _) hx
  have e3 : shrS .u8 (x.toNat : Int) (k : Int) = ((x.toNat / 2 ^ k : Nat) : Int) := by
    rw [shrS_eq, Int.toNat_natCast, e8, e2, Int.fdiv_eq_ediv_of_nonneg _ (Int.natCast_nonneg _)]
    norm_cast
  have e4 : bitsS .and .u8 ((x.toNat / 2 ^ k : Nat) : Int) 1 = ((x.toNat / 2 ^ k % 2 : Nat) : Int) := by
    rw [bitsS_eq, ← Nat.and_one_is_mod]
    exact (bits_nat .u8 8 (by decide) (fun n h0 h1 => u8_wrap n h0 h1) (x.toNat / 2 ^ k) 1 hd (by decide)).1
  rw [e3, e4, Nat.testBit_eq_decide_div_mod_eq, eqB_eq]
  rcases Nat.mod_two_eq_zero_or_one (x.toNat / 2 ^ k) with h | h <;> rw [h] <;> rfl
section
variable {H : Heap} {g b n h : Nat} {S : List UInt8} {K : Value → Heap → Prop}
structure RByInv (H0 : Heap) (b4 c4 n : Nat) (S : List UInt8) (m : Nat) (vs : List Value) (H' : Heap) : Prop where
  ex : ∃ (i : Nat), vs = [.int .i64 (i : Int)] ∧ m + i = n ∧ Made H0 H' 5 1 (some ⟨b4, 0, none⟩) ((n + 7) / 8) c4 (u8s (part n S i))
theorem rbytes_t (F : RFil H g b n h S) (hk : ∀ a c H', Made H H' 5 1 a (5 + S.length) c (u8s (bytesOf n h S)) → K (.slice a (5 + S.length) c) H') : HCalls Try.prog 18 [.pointer (some ⟨g, 0, none⟩)] H K := by
  refine hcalls (fn := Try.f18) [(1, [(0, 0), (1, 0), (2, 0), (3, 0), (4, 0), (5, 0), (6, 0), (7, 0), (8, 0), (9, 0), (10, 0), (11, 0), (12, 0), (13, 0), (14, 0), (15, 0), (16, 0), (17, 0), (18, 0), (19, 0), (20, 0), (21, 0), (22, 0), (23, 0), (24, 0), (25, 0), (26, 0), (27, 0), (28, 0), (29, 0)]), (7, [(0, 0), (1, 0), (2, 0), (3, 0), (4, 0), (5, 0), (6, 0), (7, 0), (8, 0), (9, 0), (10, 0), (11, 0), (12, 0), (13, 0)])] mixed Try.func18 rfl rfl (by decide +kernel) ?_
  obtain ⟨c, o, s⟩ := F.ex
  have hlen := F.ok.len
  have hn1 := F.ok.n1
  have hn2 := F.ok.n2
  (repeat first | refine HReg.step ?_ | refine HCode.step ?_)
  refine HLoad.one (v := .int .i64 (n : Int)) (by exact o.rows.get (i := 0) rfl) ?_
  (repeat first | refine HReg.step ?_ | refine HCode.step ?_)
  refine HReq.mk (by decide) ?_
  (repeat first | refine HReg.step ?_ | refine HCode.step ?_)
  refine HLoad.one (v := .int .i64 (n : Int)) (by exact o.rows.get (i := 0) rfl) ?_
  (repeat first | refine HReg.step ?_ | refine HCode.step ?_)
  refine HReq.mk (by decide) ?_
  (repeat first | refine HReg.step ?_ | refine HCode.step ?_)
  refine HLoad.one (v := .int .i64 (n : Int)) (by exact o.rows.get (i := 0) rfl) ?_
  (repeat first | refine HReg.step ?_ | refine HCode.step ?_)
  refine HReq.mk (by decide) ?_
  (repeat first | refine HReg.step ?_ | refine HCode.step ?_)
  refine HLoad.one (v := .int .i64 (n : Int)) (by exact o.rows.get (i := 0) rfl) ?_
  (repeat first | refine HReg.step ?_ | refine HCode.step ?_)
  refine HLoad.one (v := .int .i64 (h : Int)) (by exact o.rows.get (i := 1) rfl) ?_
  (repeat first | refine HReg.step ?_ | refine HCode.step ?_)
  refine HReq.mk (by decide) ?_
  (repeat first | refine HReg.step ?_ | refine HCode.step ?_)
  refine HNew.mk fun b1 hb1 => ?_
  have e : [Value.int .u8 (wr .u8 (shrS .i64 (n : Int) 24)), .int .u8 (wr .u8 (shrS .i64 (n : Int) 16)), .int .u8 (wr .u8 (shrS .i64 (n : Int) 8)), .int .u8 (wr .u8 (n : Int)), .int .u8 (wr .u8 (h : Int))] = u8s (headOf n h) := by
    rw [u8_shr n 24 24 rfl (by decide), u8_shr n 16 16 rfl (by decide), u8_shr n 8 8 rfl (by decide), u8_wr, u8_wr]
    rfl
  have m1 : Made H (H.upd b1 (.cells [Value.int .u8 (wr .u8 (shrS .i64 (n : Int) 24)), .int .u8 (wr .u8 (shrS .i64 (n : Int) 16)), .int .u8 (wr .u8 (shrS .i64 (n : Int) 8)), .int .u8 (wr .u8 (n : Int)), .int .u8 (wr .u8 (h : Int))].toArray 5)) 5 1 (some ⟨b1, 0, none⟩) 5 5 (u8s (headOf n h)) := by
    rw [e]
    exact ⟨OwnRow.lit (upd_same _ _ _) rfl, Upd.new hb1 _, fun p hp => by cases hp; exact hb1⟩
  generalize H.upd b1 (.cells [Value.int .u8 (wr .u8 (shrS .i64 (n : Int) 24)), .int .u8 (wr .u8 (shrS .i64 (n : Int) 16)), .int .u8 (wr .u8 (shrS .i64 (n : Int) 8)), .int .u8 (wr .u8 (n : Int)), .int .u8 (wr .u8 (h : Int))].toArray 5) = H1 at m1
  have o1 := o.upd m1.upd (Off.nil _)
  have es : wr .i64 (Int.tdiv (wr .i64 ((n : Int) + 7)) 8) = (((n + 7) / 8 : Nat) : Int) := by
    rw [wr_i64 (n := (n : Int) + 7) (by omega) (by omega), Int.tdiv_eq_ediv_of_nonneg (by omega), wr_i64 (by omega) (by omega)]; omega
  (repeat first | refine HReg.step ?_ | refine HCode.step ?_)
  refine HLoad.one (v := .int .i64 (n : Int)) (by exact o1.rows.get (i := 0) rfl) ?_
  (repeat first | refine HReg.step ?_ | refine HCode.step ?_)
  refine HReq.mk (by decide) ?_
  (repeat first | refine HReg.step ?_ | refine HCode.step ?_)
  rw [es]
  refine HReq.mk ⟨by omega, by omega, by show (1 : Int) * _ ≤ (281474976710656 : Int); omega, by show _ < (9223372036854775808 : Int); omega⟩ ?_
  (repeat first | refine HReg.step ?_ | refine HCode.step ?_)
  refine HNew.mk fun b4 hb4 => ?_
  have hl : (repL ((((n + 7) / 8 : Nat) : Int).toNat) [Value.int .u8 0]) = u8s (part n S 0) := repL_zero _
  have m4 : Made H1 (H1.upd b4 (.cells (repL ((((n + 7) / 8 : Nat) : Int).toNat) [Value.int .u8 0]).toArray 5)) 5 1 (some ⟨b4, 0, none⟩) ((n + 7) / 8) ((n + 7) / 8) (u8s (part n S 0)) := by
    rw [hl]
    exact ⟨OwnRow.lit (upd_same _ _ _) (by rw [u8s_length, part_len, Nat.mul_one]), Upd.new hb4 _, fun p hp => by cases hp; exact hb4⟩
  generalize hH4 : H1.upd b4 (.cells (repL ((((n + 7) / 8 : Nat) : Int).toNat) [Value.int .u8 0]).toArray 5) = H4 at m4
  have hH4' : H1.upd b4 (.cells (repL ((((n + 7) / 8 : Nat) : Int).toNat) (Value.int .u8 0).cells.toList).toArray 5) = H4 := hH4
  try rw [hH4']
  (repeat first | refine HReg.step ?_ | refine HCode.step ?_)
  refine hloopC [5, 42, 43, 44, 45, 46, 47, 48, 49, 50, 51, 52, 53, 54, 55, 56, 57, 58, 59, 60, 61, 62, 63, 64, 65, 66, 67, 68, 69] [5] (RByInv H1 b4 ((n + 7) / 8) n S) rfl (by repeat' first | exact Resp.retD | exact Resp1.valuesK | refine Resp.blockD ?_ | refine Resp.thenD ?_ ?_ | refine Resp.hcode ?_) ?_ ?_
  · exact ⟨n, RByInv.mk ⟨0, rfl, rfl, by first | exact m4 | (rw [← hH4] at m4; exact m4)⟩⟩
  rintro m _ fe H5 ⟨i, rfl, hmi, m5⟩
  have o5 := o1.upd m5.upd (Off.nil _)
  have s5 := (s.upd m1.upd (Off.nil _)).upd m5.upd (Off.nil _)
  (repeat first | refine HReg.step ?_ | refine HCode.step ?_)
  refine HLoad.one (v := .int .i64 (n : Int)) (by exact o5.rows.get (i := 0) rfl) ?_
  (repeat first | refine HReg.step ?_ | refine HCode.step ?_)
  refine hif (fun h1 => ?_) (fun h1 => ?_)
  · have h1 := ltB_true.1 h1
    have w2 : wr .i64 ((i : Int) + 1) = ((i + 1 : Nat) : Int) := by rw [wr_i64 (by omega) (by omega)]; omega
    (repeat first | refine HReg.step ?_ | refine HCode.step ?_)
    refine HLoad.one (v := .slice (some ⟨b, 0, none⟩) n c) (by exact o5.rows.get (i := 2) rfl) ?_
    (repeat first | refine HReg.step ?_ | refine HCode.step ?_)
    refine HReq.mk ⟨by omega, by omega⟩ ?_
    (repeat first | refine HReg.step ?_ | refine HCode.step ?_)
    refine HLoad.one (v := .bool (bitAt S i)) (by exact s5.rows.get (i := i) (bools_get (by omega))) ?_
    (repeat first | refine HReg.step ?_ | refine HCode.step ?_)
    refine hif (fun h2 => ?_) (fun h2 => ?_)
    · have ed := div8 i (by omega)
      have em := mod8 i
      have hpl := part_len (n := n) (i := i) S
      obtain ⟨x, hx⟩ : ∃ x, (part n S i)[i / 8]? = some x := ⟨(part n S i)[i / 8]'(by omega), by simp⟩
      (repeat first | refine HReg.step ?_ | refine HCode.step ?_)
      refine HReq.mk (by decide) ?_
      (repeat first | refine HReg.step ?_ | refine HCode.step ?_)
      refine HReq.mk (by decide) ?_
      (repeat first | refine HReg.step ?_ | refine HCode.step ?_)
      refine HReq.mk ⟨by rw [ed]; omega, by rw [ed]; omega⟩ ?_
      (repeat first | refine HReg.step ?_ | refine HCode.step ?_)
      refine HLoad.one (v := u8 x) (by rw [ed]; exact m5.own.rows.get (u8s_get hx)) ?_
      (repeat first | refine HReg.step ?_ | refine HCode.step ?_)
      refine HReq.mk (by decide) ?_
      (repeat first | refine HReg.step ?_ | refine HCode.step ?_)
      refine HReq.mk (by rw [em]; omega) ?_
      (repeat first | refine HReg.step ?_ | refine HCode.step ?_)
      refine HReq.mk ⟨by rw [ed]; omega, by rw [ed]; omega⟩ ?_
      have ev : bitsS .or .u8 (x.toNat : Int) (shlS .u8 1 (Int.tmod (i : Int) 8)) = ((x ||| maskOf i).toNat : Int) := by
        rw [em, shl_u8, or_u8]
      (repeat first | refine HReg.step ?_ | refine HCode.step ?_)
      rw [ev]
      refine store_row m5.own (v := u8 (x ||| maskOf i)) rfl (i := i / 8) (by omega) (by rw [ed]; exact Nat.zero_add (i / 8)) fun H6 o6 u6 => ?_
      have eset : (u8s (part n S i)).set (i / 8) (u8 (x ||| maskOf i)) = u8s (part n S (i + 1)) := by
        rw [part_yes h2]
        unfold orBit u8s
        rw [List.map_set]
        congr 2
        simp [List.getD, hx]
      rw [eset] at o6
      (repeat first | refine HReg.step ?_ | refine HCode.step ?_)
      rw [w2]
      exact ⟨m - 1, by omega, RByInv.mk ⟨i + 1, rfl, by omega, Made.store m5 o6 u6⟩⟩
    · (repeat first | refine HReg.step ?_ | refine HCode.step ?_)
      rw [w2]
      exact ⟨m - 1, by omega, RByInv.mk ⟨i + 1, rfl, by omega, by rw [part_no h2]; exact m5⟩⟩
  · have h1 := ltB_false.1 h1
    have : i = n := by omega
    subst this
    rw [part_full F.ok] at m5
    (repeat first | refine HReg.step ?_ | refine HCode.step ?_)
    refine append_made (m1.step m5.upd) m5.own.rows F.ok.len (by omega) fun a' c' H' m => ?_
    (repeat first | refine HReg.step ?_ | refine HCode.step ?_)
    rw [← hlen] at m ⊢
    exact hk a' c' H' m
structure RUnInv (H0 : Heap) (g b n h : Nat) (D : List UInt8) (m : Nat) (vs : List Value) (H' : Heap) : Prop where
  ex : ∃ (i : Nat), vs = [.int .i64 (i : Int)] ∧ m + i = n ∧ RFilNew H0 H' g b n h (part n D i)
theorem RFilNew.set {H0 H H' : Heap} {g b n h c i : Nat} {D : List UInt8} (f : RFilNew H0 H g b n h (part n D i)) (hi : i < n) (o : OwnRow H 52 1 (some ⟨g, 0, none⟩) 3 3 [.int .i64 (n : Int), .int .i64 (h : Int), .slice (some ⟨b, 0, none⟩) n c]) (o' : OwnRow H' 4 1 (some ⟨b, 0, none⟩) n c ((boolsOf n (part n D i)).set i (.bool (bitAt D i)))) (u : Upd [b] H H') : RFilNew H0 H' g b n h (part n D (i + 1)) := by
  have ok := f.fil.ok
  rw [part_set hi] at o'
  refine ⟨⟨part_ok ok.n1 ok.n2 ok.h1 ok.h2 (by omega), c, o.upd u (fun p hp => by cases hp; exact fun hb => f.fil.gb f.fil (List.mem_singleton.1 hb)), o'⟩, Upd.drop f.upd u fun k hk => by rw [List.mem_singleton.1 hk]; exact f.nb, f.ng, f.nb⟩
theorem runion_t {g2 b2 n2 h2 : Nat} {T : List UInt8} (F : RFil H g b n h S) (G : RFil H g2 b2 n2 h2 T)
    (hno : ¬ (n = n2 ∧ h = h2) → K (.tuple #[.pointer none, .int .i64 1]) H)
    (hyes : ∀ g' b' H', n = n2 → h = h2 → RFilNew H H' g' b' n h (orSets S T) → K (.tuple #[.pointer (some ⟨g', 0, none⟩), .int .i64 0]) H') :
    HCalls Try.prog 38 [.pointer (some ⟨g, 0, none⟩), .pointer (some ⟨g2, 0, none⟩)] H K := by
  refine hcalls (fn := Try.f38) [(1, [(0, 0), (1, 0), (2, 0), (3, 0), (4, 0), (5, 0), (6, 0), (7, 0), (8, 0), (9, 0), (10, 0), (11, 0), (12, 0), (13, 0), (14, 0), (15, 0), (16, 0), (17, 0), (18, 0), (19, 0), (20, 0), (21, 0), (22, 0), (23, 0), (24, 0), (25, 0), (26, 0), (27, 0)]), (3, [(0, 0), (1, 0), (2, 0), (3, 0), (4, 0), (5, 0), (6, 0), (7, 0), (8, 0), (9, 0), (10, 0), (11, 0), (12, 0), (13, 0)]), (7, [(0, 0), (1, 0), (2, 0), (3, 0), (4, 0), (5, 0), (6, 0), (7, 0), (8, 0), (9, 0), (10, 0), (11, 0), (12, 0), (13, 0), (14, 0), (15, 0), (16, 0), (17, 0), (18, 0), (19, 0), (20, 0), (21, 0), (22, 0)])] mixed Try.func38 rfl rfl (by decide +kernel) ?_
  obtain ⟨c, o, st⟩ := F.ex
  obtain ⟨c2, o2, st2⟩ := G.ex
  (repeat first | refine HReg.step ?_ | refine HCode.step ?_)
  refine HLoad.one (v := .int .i64 (n : Int)) (by exact o.rows.get (i := 0) rfl) ?_
  (repeat first | refine HReg.step ?_ | refine HCode.step ?_)
  refine HLoad.one (v := .int .i64 (n2 : Int)) (by exact o2.rows.get (i := 0) rfl) ?_
  (repeat first | refine HReg.step ?_ | refine HCode.step ?_)
  refine hif (fun h1 => ?_) (fun h1 => ?_)
  · have h1 := not_eqB_true.1 h1
    (repeat first | refine HReg.step ?_ | refine HCode.step ?_)
    exact hno (by omega)
  have h1 := not_eqB_false.1 h1
  (repeat first | refine HReg.step ?_ | refine HCode.step ?_)
  refine HLoad.one (v := .int .i64 (h : Int)) (by exact o.rows.get (i := 1) rfl) ?_
  (repeat first | refine HReg.step ?_ | refine HCode.step ?_)
  refine HLoad.one (v := .int .i64 (h2 : Int)) (by exact o2.rows.get (i := 1) rfl) ?_
  (repeat first | refine HReg.step ?_ | refine HCode.step ?_)
  refine hif (fun h3 => ?_) (fun h3 => ?_)
  · have h3 := not_eqB_true.1 h3
    (repeat first | refine HReg.step ?_ | refine HCode.step ?_)
    exact hno (by omega)
  have h3 := not_eqB_false.1 h3
  obtain rfl : n = n2 := by omega
  obtain rfl : h = h2 := by omega
  have k1 := F.ok.n1
  have k2 := F.ok.n2
  have k3 := F.ok.h1
  have k4 := F.ok.h2
  have hl : S.length = T.length := by rw [F.ok.len, G.ok.len]
  (repeat first | refine HReg.step ?_ | refine HCode.step ?_)
  refine HLoad.one (v := .int .i64 (n : Int)) (by exact o.rows.get (i := 0) rfl) ?_
  (repeat first | refine HReg.step ?_ | refine HCode.step ?_)
  refine HLoad.one (v := .int .i64 (h : Int)) (by exact o.rows.get (i := 1) rfl) ?_
  (repeat first | refine HReg.step ?_ | refine HCode.step ?_)
  refine HCall.mk ⟨Try.f12, Try.func12, by rfl, by rfl⟩ ?_
  refine rnew_t (fun hm => absurd (by unfold mayP; omega) hm) fun g' b' H1 _ N1 => ?_
  rw [Int.toNat_natCast, Int.toNat_natCast] at N1
  (repeat first | refine HReg.step ?_ | refine HCode.step ?_)
  refine hloopC [8, 49, 50, 51, 52, 53, 54, 55, 56, 57, 58, 59, 60, 61, 62, 63, 64, 65, 66, 67, 68, 69, 70, 71, 72, 73, 74, 75, 76, 77, 78] [8] (RUnInv H g' b' n h (orSets S T)) rfl (by repeat' first | exact Resp.retD | exact Resp1.valuesK | refine Resp.blockD ?_ | refine Resp.thenD ?_ ?_ | refine Resp.hcode ?_) ?_ ?_
  · exact ⟨n, RUnInv.mk ⟨0, rfl, rfl, N1⟩⟩
  rintro m _ fe H3 ⟨i, rfl, hmi, N3⟩
  obtain ⟨c3, o3, s3⟩ := N3.fil.ex
  have ou := o.upd N3.upd (Off.nil _)
  have ou2 := o2.upd N3.upd (Off.nil _)
  have su := st.upd N3.upd (Off.nil _)
  have su2 := st2.upd N3.upd (Off.nil _)
  (repeat first | refine HReg.step ?_ | refine HCode.step ?_)
  refine HLoad.one (v := .int .i64 (n : Int)) (by exact o3.rows.get (i := 0) rfl) ?_
  (repeat first | refine HReg.step ?_ | refine HCode.step ?_)
  refine hif (fun h1 => ?_) (fun h1 => ?_)
  · have h1 := ltB_true.1 h1
    have w2 : wr .i64 ((i : Int) + 1) = ((i + 1 : Nat) : Int) := by rw [wr_i64 (by omega) (by omega)]; omega
    have hor := orSets_bit hl i
    (repeat first | refine HReg.step ?_ | refine HCode.step ?_)
    refine HLoad.one (v := .slice (some ⟨b', 0, none⟩) n c3) (by exact o3.rows.get (i := 2) rfl) ?_
    (repeat first | refine HReg.step ?_ | refine HCode.step ?_)
    refine HLoad.one (v := .slice (some ⟨b, 0, none⟩) n c) (by exact ou.rows.get (i := 2) rfl) ?_
    (repeat first | refine HReg.step ?_ | refine HCode.step ?_)
    refine HReq.mk ⟨by omega, by omega⟩ ?_
    (repeat first | refine HReg.step ?_ | refine HCode.step ?_)
    refine HLoad.one (v := .bool (bitAt S i)) (by exact su.rows.get (i := i) (bools_get (by omega))) ?_
    (repeat first | refine HReg.step ?_ | refine HCode.step ?_)
    refine hif (fun h2 => ?_) (fun h2 => ?_)
    · rw [h2, Bool.true_or] at hor
      (repeat first | refine HReg.step ?_ | refine HCode.step ?_)
      refine HReq.mk ⟨by omega, by omega⟩ ?_
      (repeat first | refine HReg.step ?_ | refine HCode.step ?_)
      refine store_row s3 (v := .bool true) rfl (i := i) (by omega) (by exact Nat.zero_add i) fun H4 o4 u4 => ?_
      (repeat first | refine HReg.step ?_ | refine HCode.step ?_)
      rw [w2]
      exact ⟨m - 1, by omega, RUnInv.mk ⟨i + 1, rfl, by omega, N3.set (by omega) o3 (by rw [hor]; exact o4) u4⟩⟩
    · rw [h2, Bool.false_or] at hor
      (repeat first | refine HReg.step ?_ | refine HCode.step ?_)
      refine HLoad.one (v := .slice (some ⟨b2, 0, none⟩) n c2) (by exact ou2.rows.get (i := 2) rfl) ?_
      (repeat first | refine HReg.step ?_ | refine HCode.step ?_)
      refine HReq.mk ⟨by omega, by omega⟩ ?_
      (repeat first | refine HReg.step ?_ | refine HCode.step ?_)
      refine HLoad.one (v := .bool (bitAt T i)) (by exact su2.rows.get (i := i) (bools_get (by omega))) ?_
      (repeat first | refine HReg.step ?_ | refine HCode.step ?_)
      refine HReq.mk ⟨by omega, by omega⟩ ?_
      (repeat first | refine HReg.step ?_ | refine HCode.step ?_)
      refine store_row s3 (v := .bool (bitAt T i)) rfl (i := i) (by omega) (by exact Nat.zero_add i) fun H4 o4 u4 => ?_
      (repeat first | refine HReg.step ?_ | refine HCode.step ?_)
      rw [w2]
      exact ⟨m - 1, by omega, RUnInv.mk ⟨i + 1, rfl, by omega, N3.set (by omega) o3 (by rw [hor]; exact o4) u4⟩⟩
  · have h1 := ltB_false.1 h1
    have : i = n := by omega
    subst this
    rw [part_full (orSets_ok F.ok G.ok)] at N3
    (repeat first | refine HReg.step ?_ | refine HCode.step ?_)
    exact hyes g' b' H3 rfl rfl N3
end
end Go.Proofs.Ytaobgofbhommcaa
