import Derived.Test.YtmcadbaejedfnaaT4
namespace Go.Proofs.Ytmcadbaejedfnaa
open Go Hv Crc
set_option linter.unusedVariables false
set_option maxRecDepth 10000
set_option maxHeartbeats 1000000
structure FaJ (H0 : Heap) (vs : List Value) (H' : Heap) : Prop where
  ex : ∃ N : Nat, vs = [.int .i64 (N : Int)] ∧ N ≤ 9223372036854775807 ∧ H0 = H'
structure SfInv (a : W) (k : Nat) (H0 : Heap) (m : Nat) (vs : List Value) (H' : Heap) : Prop where
  ex : ∃ i : Nat, vs = [u32 (shn (8 * i) a), .int .i64 (i : Int)] ∧ m + i = k ∧ H0 = H'
theorem repL_one : ∀ (n : Nat) (v : Value), repL n [v] = List.replicate n v
  | 0, v => rfl
  | n + 1, v => by unfold repL; rw [repL_one n v]; rfl
theorem zeros_row (k : Nat) : repL k [Value.int .u8 0] = u8s (List.replicate k 0) := by
  rw [repL_one]; unfold u8s; rw [List.map_replicate]; rfl
theorem sumFar_t {a b c : W} {n m : Int} {H : Heap} (hn : -9223372036854775808 ≤ n ∧ n ≤ 9223372036854775807) (hm : -9223372036854775808 ≤ m ∧ m ≤ 9223372036854775807) :
    HCalls Try.prog 5 [u32 a, u32 b, u32 c, .int .i64 n, .int .i64 m] H (fun v H' => v = .bool true ∧ Upd [] H H') := by
  refine hcalls (fn := Try.f5) [] mixed Try.func5 rfl rfl (by decide +kernel) ?_
  (repeat first | refine HReg.step ?_ | refine HCode.step ?_)
  refine HCall.mk ⟨Try.f7, Try.func7, by rfl, by rfl⟩ ?_
  refine alive_t fun H1 u1 => ?_
  repeat refine HReg.step ?_
  iterate 3 refine HCode.step ?_
  repeat refine HReg.step ?_
  iterate 2 refine HCode.step ?_
  refine hcutC [3, 19, 20, 21, 22] [3] (FaJ H1) rfl (by repeat' first | exact Resp.retD | exact Resp1.valuesK | refine Resp.blockD ?_ | refine Resp.thenD ?_ ?_ | refine Resp.hcode ?_) ?_ ?_
  · (repeat first | refine HReg.step ?_ | refine HCode.step ?_)
    refine hif (fun h => ?_) (fun h => ?_)
    · have h := ltB_true.1 h
      have hw : wr .i64 (-1 - n) = ((-1 - n).toNat : Int) := by rw [wr_i64 (by omega) (by omega)]; omega
      (repeat first | refine HReg.step ?_ | refine HCode.step ?_)
      rw [hw]
      exact FaJ.mk ⟨_, rfl, by omega, rfl⟩
    · have h := ltB_false.1 h
      (repeat first | refine HReg.step ?_ | refine HCode.step ?_)
      have e : n = (n.toNat : Int) := by omega
      exact FaJ.mk ⟨n.toNat, by rw [← e], by omega, rfl⟩
  rintro _ f2 _ ⟨N, rfl, hN, rfl⟩
  refine hcutC [4, 23, 24, 25, 26] [4] (FaJ H1) rfl (by repeat' first | exact Resp.retD | exact Resp1.valuesK | refine Resp.blockD ?_ | refine Resp.thenD ?_ ?_ | refine Resp.hcode ?_) ?_ ?_
  · (repeat first | refine HReg.step ?_ | refine HCode.step ?_)
    refine hif (fun h => ?_) (fun h => ?_)
    · have h := ltB_true.1 h
      have hw : wr .i64 (-1 - m) = ((-1 - m).toNat : Int) := by rw [wr_i64 (by omega) (by omega)]; omega
      (repeat first | refine HReg.step ?_ | refine HCode.step ?_)
      rw [hw]
      exact FaJ.mk ⟨_, rfl, by omega, rfl⟩
    · have h := ltB_false.1 h
      (repeat first | refine HReg.step ?_ | refine HCode.step ?_)
      have e : m = (m.toNat : Int) := by omega
      exact FaJ.mk ⟨m.toNat, by rw [← e], by omega, rfl⟩
  rintro _ f3 _ ⟨M, rfl, hM, rfl⟩
  (repeat first | refine HReg.step ?_ | refine HCode.step ?_)
  have q : ∀ x : Nat, x ≤ 9223372036854775807 → wr .i64 ((x : Int).tdiv 2) = ((x / 2 : Nat) : Int) := fun x hx => by
    rw [Int.tdiv_eq_ediv_of_nonneg (by omega), wr_i64 (by omega) (by omega)]; omega
  refine HReq.mk (by decide) ?_
  (repeat first | refine HReg.step ?_ | refine HCode.step ?_)
  refine HReq.mk (by decide) ?_
  rw [q N hN]
  (repeat first | refine HReg.step ?_ | refine HCode.step ?_)
  rw [q M hM]
  generalize hN1 : N / 2 = N1
  generalize hM1 : M / 2 = M1
  refine HCall.mk ⟨Try.f13, Try.func13, by rfl, by rfl⟩ ?_
  refine join_t (n := N1) (by omega) ?_
  (repeat first | refine HReg.step ?_ | refine HCode.step ?_)
  refine HCall.mk ⟨Try.f13, Try.func13, by rfl, by rfl⟩ ?_
  refine join_t (n := M1) (by omega) ?_
  (repeat first | refine HReg.step ?_ | refine HCode.step ?_)
  refine HCall.mk ⟨Try.f13, Try.func13, by rfl, by rfl⟩ ?_
  refine join_t (n := M1) (by omega) ?_
  (repeat first | refine HReg.step ?_ | refine HCode.step ?_)
  have hw : wr .i64 ((N1 : Int) + (M1 : Int)) = ((N1 + M1 : Nat) : Int) := by rw [wr_i64 (by omega) (by omega)]; omega
  rw [hw]
  refine HCall.mk ⟨Try.f13, Try.func13, by rfl, by rfl⟩ ?_
  refine join_t (n := N1 + M1) (by omega) ?_
  (repeat first | refine HReg.step ?_ | refine HCode.step ?_)
  refine hif (fun h => absurd (by rw [join_join]) (not_eqB_true.1 h)) (fun _ => ?_)
  (repeat first | refine HReg.step ?_ | refine HCode.step ?_)
  refine HCall.mk ⟨Try.f13, Try.func13, by rfl, by rfl⟩ ?_
  refine join_t (n := 0) (by omega) ?_
  (repeat first | refine HReg.step ?_ | refine HCode.step ?_)
  refine hif (fun h => absurd (by rw [xor32]; rfl) (not_eqB_true.1 h)) (fun _ => ?_)
  (repeat first | refine HReg.step ?_ | refine HCode.step ?_)
  refine HCall.mk ⟨Try.f13, Try.func13, by rfl, by rfl⟩ ?_
  refine joinNeg_t (by rw [wr_i64 (by omega) (by omega)]; omega) ?_
  (repeat first | refine HReg.step ?_ | refine HCode.step ?_)
  refine hif (fun h => absurd (by rw [xor32]) (not_eqB_true.1 h)) (fun _ => ?_)
  (repeat first | refine HReg.step ?_ | refine HCode.step ?_)
  refine HCall.mk ⟨Try.f13, Try.func13, by rfl, by rfl⟩ ?_
  refine join_t (a := 0#32) (n := N1) (by omega) ?_
  have jz : join 0#32 b N1 = b := by unfold join; rw [shn_zero, BitVec.zero_xor]
  rw [jz]
  (repeat first | refine HReg.step ?_ | refine HCode.step ?_)
  refine hif (fun h => absurd rfl (not_eqB_true.1 h)) (fun _ => ?_)
  (repeat first | refine HReg.step ?_ | refine HCode.step ?_)
  refine HReq.mk (by decide) ?_
  have er : (N1 : Int).tmod 200 = ((N1 % 200 : Nat) : Int) := by rw [Int.tmod_eq_emod_of_nonneg (by omega)]; omega
  (repeat first | refine HReg.step ?_ | refine HCode.step ?_)
  rw [er]
  have hk : N1 % 200 < 200 := Nat.mod_lt _ (by decide)
  generalize N1 % 200 = k at hk
  refine HReq.mk ⟨by omega, by omega, ?_, ?_⟩ ?_
  · show ((1 : Nat) : Int) * (k : Int) ≤ cap48; unfold cap48; omega
  · show (k : Int) < cap63; unfold cap63; omega
  refine HNew.mk fun b5 hb5 => ?_
  have rz : RowAt (H1.upd b5 (.cells (repL (k : Int).toNat [Value.int .u8 0]).toArray 5)) (some ⟨b5, 0, none⟩) (u8s (List.replicate k 0)) := by
    rw [← zeros_row]; exact RowAt.of_cells (upd_same _ _ _)
  have u5 : Upd [] H1 (H1.upd b5 (.cells (repL (k : Int).toNat [Value.int .u8 0]).toArray 5)) := Upd.new hb5 _
  (repeat first | refine HReg.step ?_ | refine HCode.step ?_)
  refine hloopC [14, 15, 80, 81, 82, 83, 84, 85, 86] [14, 15] (SfInv a k (H1.upd b5 (.cells (repL (k : Int).toNat [Value.int .u8 0]).toArray 5))) rfl (by repeat' first | exact Resp.retD | exact Resp1.valuesK | refine Resp.blockD ?_ | refine Resp.thenD ?_ ?_ | refine Resp.hcode ?_) ?_ ?_
  · exact ⟨k, SfInv.mk ⟨0, rfl, rfl, rfl⟩⟩
  rintro m7 vs7 f7 H7 ⟨i, rfl, hmi, rfl⟩
  (repeat first | refine HReg.step ?_ | refine HCode.step ?_)
  refine hif (fun h => ?_) (fun h => ?_)
  · have h := ltB_true.1 h
    (repeat first | refine HReg.step ?_ | refine HCode.step ?_)
    refine HCall.mk ⟨Try.f13, Try.func13, by rfl, by rfl⟩ ?_
    refine join_t (b := 0#32) (n := 1) (by decide) ?_
    have j1 : join (shn (8 * i) a) 0#32 1 = shn (8 * (i + 1)) a := by
      unfold join
      rw [BitVec.xor_zero, ← shn_add]
      congr 1; omega
    rw [j1]
    (repeat first | refine HReg.step ?_ | refine HCode.step ?_)
    have hwi : wr .i64 ((i : Int) + 1) = ((i + 1 : Nat) : Int) := by rw [wr_i64 (by omega) (by omega)]; omega
    rw [hwi]
    refine Exists.intro (m7 - 1) ?_
    refine And.intro (by omega) ?_
    exact SfInv.mk ⟨i + 1, rfl, by omega, rfl⟩
  have h := ltB_false.1 h
  (repeat first | refine HReg.step ?_ | refine HCode.step ?_)
  have hik : i = k := by omega
  subst hik
  refine HCall.mk ⟨Try.f13, Try.func13, by rfl, by rfl⟩ ?_
  refine join_t (b := 0#32) (n := i) (by omega) ?_
  have jk : join a 0#32 i = shn (8 * i) a := by unfold join; rw [BitVec.xor_zero]
  rw [jk]
  (repeat first | refine HReg.step ?_ | refine HCode.step ?_)
  refine hif (fun _ => ?_) (fun h => absurd rfl (eqB_false.1 h))
  (repeat first | refine HReg.step ?_ | refine HCode.step ?_)
  refine HCall.mk ⟨Try.f11, Try.func11, by rfl, by rfl⟩ ?_
  refine update_t (ys := List.replicate i 0) rz (by simp) (by show i ≤ _; omega) fun H8 u8' => ?_
  (repeat first | refine HReg.step ?_ | refine HCode.step ?_)
  refine HCall.mk ⟨Try.f9, Try.func9, by rfl, by rfl⟩ ?_
  refine sum_t (ys := List.replicate i 0) (rz.upd u8' (.inr (Off.nil _))) (by simp) (by show i ≤ _; omega) fun H9 u9 => ?_
  (repeat first | refine HReg.step ?_ | refine HCode.step ?_)
  refine HCall.mk ⟨Try.f13, Try.func13, by rfl, by rfl⟩ ?_
  refine join_t (n := i) (by omega) ?_
  have jj : join a (crc 0#32 (List.replicate i 0)) i = crc a (List.replicate i 0) := by
    have := crc_join a (List.replicate i 0)
    rw [List.length_replicate] at this
    exact this.symm
  rw [jj]
  (repeat first | refine HReg.step ?_ | refine HCode.step ?_)
  exact ⟨congrArg Value.bool (eqB_true.2 rfl), u1.trans (u5.trans (u8'.trans u9))⟩
end Go.Proofs.Ytmcadbaejedfnaa
