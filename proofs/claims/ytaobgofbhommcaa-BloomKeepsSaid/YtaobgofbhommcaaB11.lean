import Derived.Test.YtaobgofbhommcaaB10
namespace Go.Proofs.Ytaobgofbhommcaa
open Go Hv
set_option linter.unusedVariables false
set_option linter.unusedSimpArgs false
set_option maxRecDepth 10000
set_option maxHeartbeats 1000000
/-! known -/
def feedC : Int → List UInt8 → Int
  | h, [] => h
  | h, c :: cs => feedC (IntKind.u64.wrap (bits .xor .u64 h (IntKind.u64.wrap (c.toNat : Int)) * 1099511628211)) cs
theorem feedL_C (h : Int) (l : List UInt8) : feedL h l = feedC h l := by
  induction l generalizing h with
  | nil => rfl
  | cons c l ih => unfold feedL feedC; rw [ih, wr_eq, wr_eq, bitsS_eq]
theorem hash0 : hashN [] = 14695981039346656037 := by unfold hashN; rw [feedL_C]; decide +kernel
theorem hash1 : hashN [97] = 12638187200555641996 := by unfold hashN; rw [feedL_C]; decide +kernel
theorem pl_a3 : placesL 8 3 [97] = [4, 0, 4] := by unfold placesL atN; rw [hash1]; decide +kernel
theorem pl_a2 : placesL 8 2 [97] = [4, 0] := by unfold placesL atN; rw [hash1]; decide +kernel
theorem pl_02 : placesL 8 2 [] = [4, 1] := by unfold placesL atN; rw [hash0]; decide +kernel
def eighteen : List UInt8 := [18]
theorem kn_add : addAll (zerosL 8) (placesL 8 2 []) = eighteen := by rw [pl_02]; decide +kernel
theorem kn_bytes : bytesOf 8 2 eighteen = [0, 0, 0, 8, 2, 18] := by decide +kernel
theorem kn_has0 : hasAll eighteen (placesL 8 2 []) = true := by rw [pl_02]; decide +kernel
theorem kn_hasa : hasAll eighteen (placesL 8 2 [97]) = false := by rw [pl_a2]; decide +kernel
theorem kn_ones : onesL eighteen = 2 := by decide +kernel
theorem kn_read : readOk [0, 0, 0, 8, 2, 18] := by
  refine ⟨by decide, by decide, by decide, fun i hi => bitAt_out ?_⟩
  have : shapeN [0, 0, 0, 8, 2, 18] = 8 := by decide
  rw [this] at hi; simpa using hi
theorem kn_or : orSets eighteen eighteen = eighteen := by decide +kernel
theorem kn_may : mayP 8 2 := by decide
theorem kn_may3 : mayP 8 3 := by decide
theorem nums_lit {H : Heap} {b : Nat} {l : List Nat} {cur : Array Value} {e : TypeId} {f : Nat × Nat} (h : H b = some (.cells cur e f)) (hl : cur.toList = nums l) : RowAt H (some ⟨b, 0, none⟩) (nums l) := by
  rw [← hl]; exact RowAt.of_cells h
theorem known_t {H : Heap} {K : Value → Heap → Prop} (hk : ∀ H', Upd [] H H' → K (.bool true) H') : HCalls Try.prog 10 [] H K := by
  refine hcalls (fn := Try.f10) [] mixed Try.func10 rfl rfl rfl ?_
  (repeat first | refine HReg.step ?_ | refine HCode.step ?_)
  refine HCall.mk ⟨Try.f19, Try.func19, by rfl, by rfl⟩ ?_
  refine PlacesP (s := [97]) (n := 8) (h := 3) (by decide) (fun _ h => absurd kn_may3 h) fun a c H1 _ m1 => ?_
  rw [show (8 : Int).toNat = 8 from rfl, show (3 : Int).toNat = 3 from rfl, pl_a3] at m1
  (repeat first | refine HReg.step ?_ | refine HCode.step ?_)
  refine HCall.mk ⟨Try.f11, Try.func11, by rfl, by rfl⟩ ?_
  refine new_t (n := 8) (h := 2) (fun _ h => absurd kn_may h) fun g b H2 _ F2 => ?_
  rw [show (8 : Int).toNat = 8 from rfl, show (2 : Int).toNat = 2 from rfl] at F2
  have U2 := m1.upd.trans F2.upd
  (repeat first | refine HReg.step ?_ | refine HCode.step ?_)
  refine hif (fun h => absurd rfl (not_eqB_true.1 h)) (fun _ => ?_)
  (repeat first | refine HReg.step ?_ | refine HCode.step ?_)
  refine hif (fun h => absurd rfl (not_eqB_true.1 h)) (fun _ => ?_)
  (repeat first | refine HReg.step ?_ | refine HCode.step ?_)
  refine HReq.mk (by decide) ?_
  (repeat first | refine HReg.step ?_ | refine HCode.step ?_)
  refine HNew.mk fun b3 hb3 => ?_
  have u3 : Upd [] H2 (H2.upd b3 (.cells [Value.int .i64 4, .int .i64 0, .int .i64 4].toArray 3)) := Upd.new hb3 _
  have r3 : RowAt (H2.upd b3 (.cells [Value.int .i64 4, .int .i64 0, .int .i64 4].toArray 3)) (some ⟨b3, 0, none⟩) (nums [4, 0, 4]) := nums_lit (upd_same _ _ _) rfl
  (repeat first | refine HReg.step ?_ | refine HCode.step ?_)
  refine HCall.mk ⟨Try.f21, Try.func21, by rfl, by rfl⟩ ?_
  refine sameInts_t (m1.own.rows.upd (S := []) (F2.upd.trans u3) (.inr (Off.nil _))) rfl r3 rfl (by decide) ?_
  rw [decide_eq_true rfl]
  have F3 := F2.upd0 u3
  generalize H2.upd b3 (.cells [Value.int .i64 4, .int .i64 0, .int .i64 4].toArray 3) = H3 at u3 F3
  (repeat first | refine HReg.step ?_ | refine HCode.step ?_)
  refine HCall.mk ⟨Try.f29, Try.func29, by rfl, by rfl⟩ ?_
  refine add_t (s := []) F3.fil (by decide) fun H4 F4 u4 => ?_
  rw [kn_add] at F4
  have U4 : Upd [] H H4 := Upd.drop (U2.trans u3) u4 fun k hk => by rw [List.mem_singleton.1 hk]; exact Upd.none (S := []) m1.upd (by simp) F3.nb
  (repeat first | refine HReg.step ?_ | refine HCode.step ?_)
  refine HCall.mk ⟨Try.f17, Try.func17, by rfl, by rfl⟩ ?_
  refine bytes_t F4 fun a5 c5 H5 m5 => ?_
  rw [kn_bytes] at m5
  have F5 := F4.upd0 m5.upd
  (repeat first | refine HReg.step ?_ | refine HCode.step ?_)
  refine HReq.mk (by decide) ?_
  (repeat first | refine HReg.step ?_ | refine HCode.step ?_)
  refine HNew.mk fun b6 hb6 => ?_
  have u6 : Upd [] H5 (H5.upd b6 (.cells [Value.int .u8 0, .int .u8 0, .int .u8 0, .int .u8 8, .int .u8 2, .int .u8 18].toArray 5)) := Upd.new hb6 _
  have r6 : RowAt (H5.upd b6 (.cells [Value.int .u8 0, .int .u8 0, .int .u8 0, .int .u8 8, .int .u8 2, .int .u8 18].toArray 5)) (some ⟨b6, 0, none⟩) (u8s [0, 0, 0, 8, 2, 18]) := row_lit (upd_same _ _ _) rfl
  generalize H5.upd b6 (.cells [Value.int .u8 0, .int .u8 0, .int .u8 0, .int .u8 8, .int .u8 2, .int .u8 18].toArray 5) = H6 at u6 r6
  (repeat first | refine HReg.step ?_ | refine HCode.step ?_)
  refine HCall.mk ⟨Try.f22, Try.func22, by rfl, by rfl⟩ ?_
  refine read_t r6 rfl (by decide) (by decide) (fun _ h => absurd kn_read h) fun g7 b7 H7 _ F7 => ?_
  rw [show shapeN [0, 0, 0, 8, 2, 18] = 8 by decide, show shapeH [0, 0, 0, 8, 2, 18] = 2 by decide, show List.drop 5 [0, 0, 0, 8, 2, 18] = eighteen from rfl] at F7
  (repeat first | refine HReg.step ?_ | refine HCode.step ?_)
  refine hif (fun h => absurd rfl (not_eqB_true.1 h)) (fun _ => ?_)
  (repeat first | refine HReg.step ?_ | refine HCode.step ?_)
  refine HReq.mk (by decide) ?_
  (repeat first | refine HReg.step ?_ | refine HCode.step ?_)
  refine HNew.mk fun b8 hb8 => ?_
  have u8' : Upd [] H7 (H7.upd b8 (.cells [Value.int .u8 0, .int .u8 0, .int .u8 0, .int .u8 8, .int .u8 2, .int .u8 18].toArray 5)) := Upd.new hb8 _
  have r8 : RowAt (H7.upd b8 (.cells [Value.int .u8 0, .int .u8 0, .int .u8 0, .int .u8 8, .int .u8 2, .int .u8 18].toArray 5)) (some ⟨b8, 0, none⟩) (u8s [0, 0, 0, 8, 2, 18]) := row_lit (upd_same _ _ _) rfl
  generalize H7.upd b8 (.cells [Value.int .u8 0, .int .u8 0, .int .u8 0, .int .u8 8, .int .u8 2, .int .u8 18].toArray 5) = H8 at u8' r8
  have F7' := F7.upd0 u8'
  have F8 := F5.upd0 ((u6.trans F7.upd).trans u8')
  have U8 : Upd [] H H8 := ((U4.trans m5.upd).trans u6).trans F7'.upd
  (repeat first | refine HReg.step ?_ | refine HCode.step ?_)
  refine HCall.mk ⟨Try.f16, Try.func16, by rfl, by rfl⟩ ?_
  refine same_eq (m5.own.rows.upd (S := []) ((u6.trans F7.upd).trans u8') (.inr (Off.nil _))) rfl r8 rfl rfl ?_
  (repeat first | refine HReg.step ?_ | refine HCode.step ?_)
  refine HCall.mk ⟨Try.f24, Try.func24, by rfl, by rfl⟩ ?_
  refine ones_t F8 ?_
  rw [kn_ones]
  (repeat first | refine HReg.step ?_ | refine HCode.step ?_)
  refine hif (fun h => absurd rfl (not_eqB_true.1 h)) (fun _ => ?_)
  (repeat first | refine HReg.step ?_ | refine HCode.step ?_)
  refine HCall.mk ⟨Try.f26, Try.func26, by rfl, by rfl⟩ ?_
  refine has_t (s := []) F8 (by decide) fun H9 u9 => ?_
  rw [kn_has0]
  (repeat first | refine HReg.step ?_ | refine HCode.step ?_)
  refine HCall.mk ⟨Try.f26, Try.func26, by rfl, by rfl⟩ ?_
  refine has_t (s := [97]) (F8.upd0 u9) (by decide) fun H10 u10 => ?_
  rw [kn_hasa]
  have u910 := u9.trans u10
  (repeat first | refine HReg.step ?_ | refine HCode.step ?_)
  refine HCall.mk ⟨Try.f26, Try.func26, by rfl, by rfl⟩ ?_
  refine has_t (s := []) (F7'.fil.upd0 u910) (by decide) fun H11 u11 => ?_
  rw [kn_has0]
  have u911 := u910.trans u11
  (repeat first | refine HReg.step ?_ | refine HCode.step ?_)
  refine HCall.mk ⟨Try.f26, Try.func26, by rfl, by rfl⟩ ?_
  refine has_t (s := [97]) (F7'.fil.upd0 u911) (by decide) fun H12 u12 => ?_
  rw [kn_hasa]
  have u912 := u911.trans u12
  (repeat first | refine HReg.step ?_ | refine HCode.step ?_)
  refine HCall.mk ⟨Try.f30, Try.func30, by rfl, by rfl⟩ ?_
  refine union_t (F8.upd0 u912) (F7'.fil.upd0 u912) (fun h => absurd ⟨rfl, rfl⟩ h) fun g13 b13 H13 _ _ F13 => ?_
  rw [kn_or] at F13
  (repeat first | refine HReg.step ?_ | refine HCode.step ?_)
  refine hif (fun _ => ?_) (fun h => absurd rfl (eqB_false.1 h))
  (repeat first | refine HReg.step ?_ | refine HCode.step ?_)
  refine HCall.mk ⟨Try.f26, Try.func26, by rfl, by rfl⟩ ?_
  refine has_t (s := []) F13.fil (by decide) fun H14 u14 => ?_
  rw [kn_has0]
  have F14 := F13.fil.upd0 u14
  (repeat first | refine HReg.step ?_ | refine HCode.step ?_)
  refine HCall.mk ⟨Try.f14, Try.func14, by rfl, by rfl⟩ ?_
  refine bits_t F14 ?_
  (repeat first | refine HReg.step ?_ | refine HCode.step ?_)
  refine hif (fun _ => ?_) (fun h => absurd rfl (eqB_false.1 h))
  (repeat first | refine HReg.step ?_ | refine HCode.step ?_)
  refine HCall.mk ⟨Try.f15, Try.func15, by rfl, by rfl⟩ ?_
  refine hashes_t F14 ?_
  (repeat first | refine HReg.step ?_ | refine HCode.step ?_)
  have e : eqB ((2 : Nat) : Int) 2 = true := eqB_true.2 rfl
  have fin := hk H14 (((U8.trans u912).trans F13.upd).trans u14)
  exact (show K (.bool (eqB ((2 : Nat) : Int) 2)) H14 from by rw [e]; exact fin)
end Go.Proofs.Ytaobgofbhommcaa
