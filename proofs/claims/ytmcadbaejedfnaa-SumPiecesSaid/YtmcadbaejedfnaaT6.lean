import Derived.Test.YtmcadbaejedfnaaT4
namespace Go.Proofs.Ytmcadbaejedfnaa
open Go Hv Crc
set_option linter.unusedVariables false
set_option maxRecDepth 10000
set_option maxHeartbeats 1000000
theorem sumPieces_t {a0 : Option Addr} {n0 c0 : Nat} {ys : List UInt8} {i j : Int} {H : Heap} (h0 : RowAt H a0 (u8s ys)) (l0 : ys.length = n0) (d0 : n0 ≤ c0) (b0 : n0 ≤ 140737488351232) :
    HCalls Try.prog 4 [.slice a0 n0 c0, .int .i64 i, .int .i64 j] H (fun v H' => v = .bool true ∧ Upd [] H H') := by
  refine hcalls (fn := Try.f4) [(12, [(0, 0), (1, 0), (2, 0), (3, 1), (4, 1), (5, 0), (6, 2), (7, 2), (8, 0), (9, 3), (10, 3), (11, 0), (12, 0), (13, 0), (14, 0), (15, 1), (16, 1), (17, 0), (18, 2), (19, 2), (20, 0), (21, 0), (22, 0), (23, 0)])] mixed Try.func4 rfl rfl (by decide +kernel) ?_
  (repeat first | refine HReg.step ?_ | refine HCode.step ?_)
  refine HCall.mk ⟨Try.f7, Try.func7, by rfl, by rfl⟩ ?_
  refine alive_t fun H1 u1 => ?_
  (repeat first | refine HReg.step ?_ | refine HCode.step ?_)
  refine HCall.mk ⟨Try.f19, Try.func19, by rfl, by rfl⟩ ?_
  refine rest_t (m := n0) (by omega) fun I hI => ?_
  (repeat first | refine HReg.step ?_ | refine HCode.step ?_)
  have hw1 : wr .i64 ((n0 : Int) - (I : Int)) = ((n0 - I : Nat) : Int) := by rw [wr_i64 (by omega) (by omega)]; omega
  rw [hw1]
  refine HCall.mk ⟨Try.f19, Try.func19, by rfl, by rfl⟩ ?_
  refine rest_t (m := n0 - I) (by omega) fun D hD => ?_
  (repeat first | refine HReg.step ?_ | refine HCode.step ?_)
  have hw2 : wr .i64 ((I : Int) + (D : Int)) = ((I + D : Nat) : Int) := by rw [wr_i64 (by omega) (by omega)]; omega
  rw [hw2]
  refine HReq.mk ⟨by omega, by omega⟩ ?_
  (repeat first | refine HReg.step ?_ | refine HCode.step ?_)
  obtain ⟨X, hX⟩ : ∃ X, X = ys.take I := ⟨_, rfl⟩
  obtain ⟨Y, hY⟩ : ∃ Y, Y = (ys.drop I).take D := ⟨_, rfl⟩
  obtain ⟨Z, hZ⟩ : ∃ Z, Z = ys.drop (I + D) := ⟨_, rfl⟩
  have lX : X.length = I := by rw [hX, List.length_take]; omega
  have lY : Y.length = D := by rw [hY, List.length_take, List.length_drop]; omega
  have lZ : Z.length = n0 - (I + D) := by rw [hZ, List.length_drop]; omega
  have hxyz : ys = X ++ (Y ++ Z) := by
    rw [hX, hY, hZ, ← List.drop_drop, List.take_append_drop, List.take_append_drop]
  have r1 := h0.upd u1 (.inr (Off.nil _))
  have rX : RowAt H1 a0 (u8s X) := by rw [hX, u8s_take]; exact r1.take I
  have rY : RowAt H1 (slAddr a0 I c0 1) (u8s Y) := by
    have := (r1.sl (l := I) (cap := c0) (size := 1) (by rw [u8s_length]; omega)).take D
    rw [← u8s_drop, ← u8s_take, Nat.mul_one] at this
    rw [hY]; exact this
  have rZ : RowAt H1 (slAddr a0 (I + D) c0 1) (u8s Z) := by
    have := r1.sl (l := I + D) (cap := c0) (size := 1) (by rw [u8s_length]; omega)
    rw [← u8s_drop, Nat.mul_one] at this
    rw [hZ]; exact this
  refine HCall.mk ⟨Try.f8, Try.func8, by rfl, by rfl⟩ ?_
  refine own_t rX lX (by show I ≤ _; omega) fun a2 c2 H2 m2 => ?_
  (repeat first | refine HReg.step ?_ | refine HCode.step ?_)
  refine HReq.mk ⟨by omega, by omega⟩ ?_
  (repeat first | refine HReg.step ?_ | refine HCode.step ?_)
  refine HReq.mk ⟨by omega, by omega⟩ ?_
  (repeat first | refine HReg.step ?_ | refine HCode.step ?_)
  refine HCall.mk ⟨Try.f8, Try.func8, by rfl, by rfl⟩ ?_
  refine own_t (rY.upd m2.upd (.inr (Off.nil _))) (by show Y.length = (I + D) - I; omega) (by show (I + D) - I ≤ _; omega) fun a3 c3 H3 m3 => ?_
  (repeat first | refine HReg.step ?_ | refine HCode.step ?_)
  refine HReq.mk ⟨by omega, by omega⟩ ?_
  (repeat first | refine HReg.step ?_ | refine HCode.step ?_)
  refine HCall.mk ⟨Try.f8, Try.func8, by rfl, by rfl⟩ ?_
  refine own_t (rZ.upd (m2.upd.trans m3.upd) (.inr (Off.nil _))) (by show Z.length = n0 - (I + D); omega) (by show n0 - (I + D) ≤ _; omega) fun a4 c4 H4 m4 => ?_
  (repeat first | refine HReg.step ?_ | refine HCode.step ?_)
  refine HCall.mk ⟨Try.f8, Try.func8, by rfl, by rfl⟩ ?_
  refine own_t (r1.upd (m2.upd.trans (m3.upd.trans m4.upd)) (.inr (Off.nil _))) l0 (by omega) fun a5 c5 H5 m5 => ?_
  (repeat first | refine HReg.step ?_ | refine HCode.step ?_)
  refine HCall.mk ⟨Try.f9, Try.func9, by rfl, by rfl⟩ ?_
  refine sum_t m5.own.rows l0 (by omega) fun H6 u6 => ?_
  have x6 := m2.own.rows.upd (m3.upd.trans (m4.upd.trans (m5.upd.trans u6))) (.inr (Off.nil _))
  have y6 := m3.own.rows.upd (m4.upd.trans (m5.upd.trans u6)) (.inr (Off.nil _))
  have z6 := m4.own.rows.upd (m5.upd.trans u6) (.inr (Off.nil _))
  have b6 := h0.upd (u1.trans (m2.upd.trans (m3.upd.trans (m4.upd.trans (m5.upd.trans u6))))) (.inr (Off.nil _))
  have u06 : Upd [] H H6 := u1.trans (m2.upd.trans (m3.upd.trans (m4.upd.trans (m5.upd.trans u6))))
  have eY : (I + D) - I = D := by omega
  have jY : ∀ s : W, join s (crc 0#32 Y) ((I + D) - I) = crc s Y := fun s => by rw [eY, ← lY]; exact (crc_join _ _).symm
  have jZ : ∀ s : W, join s (crc 0#32 Z) (n0 - (I + D)) = crc s Z := fun s => by rw [← lZ]; exact (crc_join _ _).symm
  (repeat first | refine HReg.step ?_ | refine HCode.step ?_)
  refine HCall.mk ⟨Try.f9, Try.func9, by rfl, by rfl⟩ ?_
  refine sum_t (ys := X) x6 lX (by show I ≤ _; omega) fun H7 u7 => ?_
  (repeat first | refine HReg.step ?_ | refine HCode.step ?_)
  refine HCall.mk ⟨Try.f11, Try.func11, by rfl, by rfl⟩ ?_
  refine update_t (ys := Y) (y6.upd u7 (.inr (Off.nil _))) (by show Y.length = (I + D) - I; omega) (by show (I + D) - I ≤ _; omega) fun H8 u8 => ?_
  (repeat first | refine HReg.step ?_ | refine HCode.step ?_)
  refine HCall.mk ⟨Try.f11, Try.func11, by rfl, by rfl⟩ ?_
  refine update_t (ys := Z) (z6.upd (u7.trans u8) (.inr (Off.nil _))) (by show Z.length = n0 - (I + D); omega) (by show n0 - (I + D) ≤ _; omega) fun H9 u9 => ?_
  rw [← crc_append, ← crc_append, List.append_assoc, ← hxyz]
  (repeat first | refine HReg.step ?_ | refine HCode.step ?_)
  refine hif (fun h => absurd rfl (not_eqB_true.1 h)) (fun _ => ?_)
  (repeat first | refine HReg.step ?_ | refine HCode.step ?_)
  have u69 := u7.trans (u8.trans u9)
  refine HCall.mk ⟨Try.f9, Try.func9, by rfl, by rfl⟩ ?_
  refine sum_t (ys := X) (x6.upd u69 (.inr (Off.nil _))) lX (by show I ≤ _; omega) fun H10 u10 => ?_
  (repeat first | refine HReg.step ?_ | refine HCode.step ?_)
  refine HCall.mk ⟨Try.f9, Try.func9, by rfl, by rfl⟩ ?_
  refine sum_t (ys := Y) (y6.upd (u69.trans u10) (.inr (Off.nil _))) (by show Y.length = (I + D) - I; omega) (by show (I + D) - I ≤ _; omega) fun H11 u11 => ?_
  (repeat first | refine HReg.step ?_ | refine HCode.step ?_)
  refine HCall.mk ⟨Try.f13, Try.func13, by rfl, by rfl⟩ ?_
  refine join_t (n := (I + D) - I) (by omega) ?_
  rw [jY]
  (repeat first | refine HReg.step ?_ | refine HCode.step ?_)
  have u611 := u69.trans (u10.trans u11)
  refine HCall.mk ⟨Try.f9, Try.func9, by rfl, by rfl⟩ ?_
  refine sum_t (ys := Z) (z6.upd u611 (.inr (Off.nil _))) (by show Z.length = n0 - (I + D); omega) (by show n0 - (I + D) ≤ _; omega) fun H12 u12 => ?_
  (repeat first | refine HReg.step ?_ | refine HCode.step ?_)
  refine HCall.mk ⟨Try.f13, Try.func13, by rfl, by rfl⟩ ?_
  refine join_t (n := n0 - (I + D)) (by omega) ?_
  rw [jZ, ← crc_append, ← crc_append, List.append_assoc, ← hxyz]
  (repeat first | refine HReg.step ?_ | refine HCode.step ?_)
  refine hif (fun h => absurd rfl (not_eqB_true.1 h)) (fun _ => ?_)
  (repeat first | refine HReg.step ?_ | refine HCode.step ?_)
  have u612 := u611.trans u12
  refine HCall.mk ⟨Try.f9, Try.func9, by rfl, by rfl⟩ ?_
  refine sum_t (ys := X) (x6.upd u612 (.inr (Off.nil _))) lX (by show I ≤ _; omega) fun H13 u13 => ?_
  (repeat first | refine HReg.step ?_ | refine HCode.step ?_)
  refine HCall.mk ⟨Try.f9, Try.func9, by rfl, by rfl⟩ ?_
  refine sum_t (ys := Y) (y6.upd (u612.trans u13) (.inr (Off.nil _))) (by show Y.length = (I + D) - I; omega) (by show (I + D) - I ≤ _; omega) fun H14 u14 => ?_
  (repeat first | refine HReg.step ?_ | refine HCode.step ?_)
  have u614 := u612.trans (u13.trans u14)
  refine HCall.mk ⟨Try.f9, Try.func9, by rfl, by rfl⟩ ?_
  refine sum_t (ys := Z) (z6.upd u614 (.inr (Off.nil _))) (by show Z.length = n0 - (I + D); omega) (by show n0 - (I + D) ≤ _; omega) fun H15 u15 => ?_
  (repeat first | refine HReg.step ?_ | refine HCode.step ?_)
  refine HCall.mk ⟨Try.f13, Try.func13, by rfl, by rfl⟩ ?_
  refine join_t (n := n0 - (I + D)) (by omega) ?_
  rw [jZ, ← crc_append]
  (repeat first | refine HReg.step ?_ | refine HCode.step ?_)
  have hw3 : wr .i64 ((((I + D) - I : Nat) : Int) + ((n0 - (I + D) : Nat) : Int)) = (((Y ++ Z).length : Nat) : Int) := by
    rw [List.length_append, lY, lZ, wr_i64 (by omega) (by omega)]; omega
  refine HCall.mk ⟨Try.f13, Try.func13, by rfl, by rfl⟩ ?_
  rw [show wr .i64 ((((I + D : Nat) : Int).toNat - (I : Int).toNat : Nat) + ((n0 - ((I + D : Nat) : Int).toNat : Nat) : Int)) = (((Y ++ Z).length : Nat) : Int) from hw3]
  refine join_t (n := (Y ++ Z).length) (by rw [List.length_append]; omega) ?_
  rw [← crc_join, ← crc_append, ← hxyz]
  (repeat first | refine HReg.step ?_ | refine HCode.step ?_)
  refine hif (fun h => absurd rfl (not_eqB_true.1 h)) (fun _ => ?_)
  have u615 := u614.trans u15
  have x15 := x6.upd u615 (.inr (Off.nil _))
  have y15 := y6.upd u615 (.inr (Off.nil _))
  have z15 := z6.upd u615 (.inr (Off.nil _))
  have b15 := b6.upd u615 (.inr (Off.nil _))
  (repeat first | refine HReg.step ?_ | refine HCode.step ?_)
  refine HBytes.row X lX (by simpa using x15) ?_ (by simp)
  (repeat first | refine HReg.step ?_ | refine HCode.step ?_)
  refine HCall.mk ⟨Try.f15, Try.func15, by rfl, by rfl⟩ ?_
  refine hash_t (by omega) ?_
  (repeat first | refine HReg.step ?_ | refine HCode.step ?_)
  refine HBytes.row Y (by show Y.length = (I + D) - I; omega) (by simpa using y15) ?_ (by simp)
  (repeat first | refine HReg.step ?_ | refine HCode.step ?_)
  refine HCall.mk ⟨Try.f17, Try.func17, by rfl, by rfl⟩ ?_
  refine feed_t (by omega) ?_
  (repeat first | refine HReg.step ?_ | refine HCode.step ?_)
  refine HBytes.row Z (by show Z.length = n0 - (I + D); omega) (by simpa using z15) ?_ (by simp)
  (repeat first | refine HReg.step ?_ | refine HCode.step ?_)
  refine HCall.mk ⟨Try.f17, Try.func17, by rfl, by rfl⟩ ?_
  refine feed_t (by omega) ?_
  rw [← feedL_append, ← feedL_append, List.append_assoc, ← hxyz]
  (repeat first | refine HReg.step ?_ | refine HCode.step ?_)
  refine HBytes.row ys l0 (by simpa using b15) ?_ (by simp)
  (repeat first | refine HReg.step ?_ | refine HCode.step ?_)
  refine HCall.mk ⟨Try.f15, Try.func15, by rfl, by rfl⟩ ?_
  refine hash_t (by omega) ?_
  (repeat first | refine HReg.step ?_ | refine HCode.step ?_)
  refine hif (fun _ => ?_) (fun h => absurd rfl (eqB_false.1 h))
  (repeat first | refine HReg.step ?_ | refine HCode.step ?_)
  refine HCall.mk ⟨Try.f20, Try.func20, by rfl, by rfl⟩ ?_
  refine begin_t ?_
  (repeat first | refine HReg.step ?_ | refine HCode.step ?_)
  refine HBytes.row ys l0 (by simpa using b15) ?_ (by simp)
  (repeat first | refine HReg.step ?_ | refine HCode.step ?_)
  refine HCall.mk ⟨Try.f17, Try.func17, by rfl, by rfl⟩ ?_
  refine feed_t (by omega) ?_
  (repeat first | refine HReg.step ?_ | refine HCode.step ?_)
  refine HBytes.row ys l0 (by simpa using b15) ?_ (by simp)
  (repeat first | refine HReg.step ?_ | refine HCode.step ?_)
  refine HCall.mk ⟨Try.f15, Try.func15, by rfl, by rfl⟩ ?_
  refine hash_t (by omega) ?_
  (repeat first | refine HReg.step ?_ | refine HCode.step ?_)
  exact ⟨congrArg Value.bool (eqB_true.2 rfl), u06.trans u615⟩
end Go.Proofs.Ytmcadbaejedfnaa
