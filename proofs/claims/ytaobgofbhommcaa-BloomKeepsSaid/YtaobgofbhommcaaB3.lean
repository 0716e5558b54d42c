import Derived.Test.YtaobgofbhommcaaB2
namespace Go.Proofs.Ytaobgofbhommcaa
open Go Hv
set_option linter.unusedVariables false
set_option linter.unusedSimpArgs false
set_option maxRecDepth 10000
set_option maxHeartbeats 4000000
/-! Places -/
def nums (l : List Nat) : List Value := l.map fun (p : Nat) => Value.int .i64 (p : Int)
theorem nums_length (l : List Nat) : (nums l).length = l.length := by simp [nums]
theorem nums_get {l : List Nat} {i x : Nat} (h : l[i]? = some x) : (nums l)[i]? = some (.int .i64 (x : Int)) := by simp [nums, h]
theorem plain_nums (l : List Nat) : ∀ v ∈ nums l, Value.plain v = true := fun v hv => by
  obtain ⟨b, _, rfl⟩ := List.mem_map.1 hv; rfl
noncomputable def atN (s : List UInt8) (i : Nat) : Nat := hashN s / 4294967296 + i * (hashN s % 4294967296)
noncomputable def placesL (n h : Nat) (s : List UInt8) : List Nat := (List.range h).map fun i => atN s i % n
theorem placesL_length (n h : Nat) (s : List UInt8) : (placesL n h s).length = h := by simp [placesL]
theorem placesL_take (n h : Nat) (s : List UInt8) {i : Nat} (hi : i < h) : (placesL n h s).take i ++ [atN s i % n] = (placesL n h s).take (i + 1) := by
  rw [List.take_add_one]
  congr 1
  simp [placesL, hi]
theorem placesL_lt {n h : Nat} {s : List UInt8} (hn : 0 < n) : ∀ p ∈ placesL n h s, p < n := fun p hp => by
  obtain ⟨i, _, rfl⟩ := List.mem_map.1 hp
  exact Nat.mod_lt _ hn
theorem atN_lt (s : List UInt8) {i : Nat} (hi : i ≤ 16) : atN s i < 73014444032 := by
  have h1 := hashN_lt s
  have h2 : hashN s / 4294967296 < 4294967296 := by omega
  have h3 : hashN s % 4294967296 < 4294967296 := Nat.mod_lt _ (by decide)
  have h4 : i * (hashN s % 4294967296) ≤ 16 * 4294967295 := Nat.mul_le_mul hi (by omega)
  unfold atN; omega
theorem atN_succ (s : List UInt8) (i : Nat) : atN s (i + 1) = atN s i + hashN s % 4294967296 := by
  unfold atN; rw [Nat.add_mul, Nat.one_mul, Nat.add_assoc]
theorem int1_own {H : Heap} {b : Nat} (x : Int) : RowAt (H.upd b (.cells [Value.int .i64 x].toArray 3)) (some ⟨b, 0, none⟩) [.int .i64 x] := RowAt.of_cells (upd_same _ _ _)
theorem app_int {a : Option Addr} {b n cap : Nat} {xs : List Nat} {x : Nat} {H0 H : Heap} {K : Value → Heap → Prop} (hm : Made H0 H 3 1 a n cap (nums xs)) (hb : H b = none) (hn : n ≤ 100000)
    (hk : ∀ a' cap' H', Made H0 H' 3 1 a' (n + 1) cap' (nums (xs ++ [x])) → K (.slice a' (n + 1) cap') H') :
    HSem Try.prog (Builtin.append_ #[42, 42] 42 [.slice a n cap, .slice (some ⟨b, 0, none⟩) 1 1].toArray) (H.upd b (.cells [Value.int .i64 (x : Int)].toArray 3)) K := by
  refine append_madeG (ie := Try.t3) (z := .int .i64 0) (H0 := H0) (ys := [.int .i64 (x : Int)]) (xs := nums xs) Try.underlying42 rfl rfl rfl (by decide) (hm.step (Upd.new hb _)) (int1_own _) rfl (by simp [Value.plain]) (by show (n + 1) * 8 ≤ _; omega) (by omega) fun a' cap' H' m => hk a' cap' H' ?_
  have e : nums (xs ++ [x]) = nums xs ++ [.int .i64 (x : Int)] := by simp [nums]
  rw [e]; exact m
structure PlInv (n h : Nat) (s : List UInt8) (b : Nat) (H0 H2 : Heap) (m : Nat) (vs : List Value) (H' : Heap) : Prop where
  ex : ∃ (i : Nat) (a : Option Addr) (c : Nat), vs = [.int .u64 (atN s i : Int), .slice a i c, .int .i64 (i : Int)] ∧ m + i = h ∧ Made H2 H' 3 1 a i c (nums ((placesL n h s).take i))
theorem places_t {n h : Nat} {s : List UInt8} {H : Heap} {K : Value → Heap → Prop} (hlim : s.length ≤ 9223372036854775806) (hn1 : 1 ≤ n) (hn : n ≤ 65536) (hh : h ≤ 16)
    (hk : ∀ a c H', Made H H' 3 1 a h c (nums (placesL n h s)) → K (.slice a h c) H') : HCalls Try.prog 39 [shp n h, .string (bs s)] H K := by
  refine hcalls (fn := Try.f39) [] mixed Try.func39 rfl rfl rfl ?_
  (repeat first | refine HReg.step ?_ | refine HCode.step ?_)
  refine HNew.mk fun b hb => ?_
  have u : Upd [] H (H.upd b (.cells [Value.int .i64 (n : Int), .int .i64 (h : Int)].toArray 69)) := Upd.new hb _
  have r : RowAt (H.upd b (.cells [Value.int .i64 (n : Int), .int .i64 (h : Int)].toArray 69)) (some ⟨b, 0, none⟩) [.int .i64 (n : Int), .int .i64 (h : Int)] := RowAt.of_cells (upd_same _ _ _)
  generalize H.upd b (.cells [Value.int .i64 (n : Int), .int .i64 (h : Int)].toArray 69) = H2 at u r
  (repeat first | refine HReg.step ?_ | refine HCode.step ?_)
  refine HCall.mk ⟨Try.f45, Try.func45, by rfl, by rfl⟩ ?_
  refine hash_t hlim ?_
  rw [hashN_eq]
  have e1 := shr_hi (hashN s)
  have e2 := and_lo (hashN s) (hashN_lt s)
  (repeat first | refine HReg.step ?_ | refine HCode.step ?_)
  refine HReq.mk (by decide) ?_
  (repeat first | refine HReg.step ?_ | refine HCode.step ?_)
  refine HLoad.one (v := .int .i64 (h : Int)) (by exact r.get (i := 1) rfl) ?_
  (repeat first | refine HReg.step ?_ | refine HCode.step ?_)
  refine hloopC [6, 8, 17, 18, 19, 20, 21, 22, 23, 24, 25, 26, 27, 28, 29, 30, 31] [6, 8, 17] (PlInv n h s b H H2) rfl (by repeat' first | exact Resp.retD | exact Resp1.valuesK | refine Resp.blockD ?_ | refine Resp.thenD ?_ ?_ | refine Resp.hcode ?_) ?_ ?_
  · exact ⟨h, PlInv.mk ⟨0, none, 0, by rw [e1]; unfold atN; simp, by omega, ⟨OwnRow.nil _ _ _, Upd.refl _ _, fun p hp => by cases hp⟩⟩⟩
  rintro m _ fe H3 ⟨i, a, c, rfl, hmi, hm⟩
  (repeat first | refine HReg.step ?_ | refine HCode.step ?_)
  refine hif (fun h1 => ?_) (fun h1 => ?_)
  · have h1 := ltB_true.1 h1
    have r3 := r.upd (S := []) hm.upd (.inr (Off.nil _))
    have hlt := atN_lt s (i := i) (by omega)
    have hlt2 := atN_lt s (i := i + 1) (by omega)
    (repeat first | refine HReg.step ?_ | refine HCode.step ?_)
    refine HLoad.one (v := .int .i64 (n : Int)) (by exact r3.get (i := 0) rfl) ?_
    have w1 : wr .u64 (n : Int) = (n : Int) := by rw [wr_u64]; omega
    (repeat first | refine HReg.step ?_ | refine HCode.step ?_)
    rw [w1]
    refine HReq.mk (by omega) ?_
    have hmod : atN s i % n < n := Nat.mod_lt _ hn1
    have w2 : wr .i64 (Int.tmod (atN s i : Int) (n : Int)) = ((atN s i % n : Nat) : Int) := by
      rw [Int.tmod_eq_emod_of_nonneg (by omega), ← Int.natCast_emod]
      exact wr_i64 (by omega) (by omega)
    (repeat first | refine HReg.step ?_ | refine HCode.step ?_)
    refine HReq.mk (by decide) ?_
    (repeat first | refine HReg.step ?_ | refine HCode.step ?_)
    rw [w2]
    refine HNew.mk fun b4 hb4 => ?_
    (repeat first | refine HReg.step ?_ | refine HCode.step ?_)
    refine app_int hm hb4 (by omega) fun a5 c5 H5 m5 => ?_
    rw [placesL_take n h s (by omega)] at m5
    have w3 : wr .u64 ((atN s i : Int) + bitsS .and .u64 (hashN s : Int) 4294967295) = ((atN s (i + 1) : Nat) : Int) := by
      rw [e2, wr_u64, atN_succ]; rw [atN_succ] at hlt2; omega
    have w4 : wr .i64 ((i : Int) + 1) = ((i + 1 : Nat) : Int) := by rw [wr_i64 (by omega) (by omega)]; omega
    (repeat first | refine HReg.step ?_ | refine HCode.step ?_)
    rw [w3, w4]
    exact ⟨m - 1, by omega, PlInv.mk ⟨i + 1, a5, c5, rfl, by omega, m5⟩⟩
  · have h1 := ltB_false.1 h1
    have : i = h := by omega
    subst this
    (repeat first | refine HReg.step ?_ | refine HCode.step ?_)
    refine hk a c H3 ?_
    have := hm.back u
    rwa [List.take_of_length_le (by rw [placesL_length]; exact Nat.le_refl _)] at this
end Go.Proofs.Ytaobgofbhommcaa
