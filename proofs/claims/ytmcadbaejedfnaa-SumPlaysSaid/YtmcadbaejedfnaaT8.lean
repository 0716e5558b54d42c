import Derived.Test.YtmcadbaejedfnaaT4
namespace Go.Proofs.Ytmcadbaejedfnaa
open Go Hv Crc
set_option linter.unusedVariables false
set_option maxRecDepth 10000
set_option maxHeartbeats 2000000
theorem HLoad_two {H H' : Heap} {a : Addr} {K : Value → Prop} {v : Value} (h : H.cell? a = some v) (h' : H'.cell? a = some v) (hk : K v) : HLoad [H, H'] a K := ⟨v, fun Hx hx => by
  simp only [List.mem_cons, List.not_mem_nil, or_false] at hx
  rcases hx with rfl | rfl
  · exact h
  · exact h', hk⟩
noncomputable def joinI (a b : W) (n : Int) : W := if n ≤ 0 then a ^^^ b else join a b n.toNat
theorem joinI_t {a b : W} {n : Int} {H : Heap} {K : Value → Heap → Prop} (hn : n ≤ 9223372036854775807) (hk : K (u32 (joinI a b n)) H) : HCalls Try.prog 13 [u32 a, u32 b, .int .i64 n] H K := by
  unfold joinI at hk
  by_cases h : n ≤ 0
  · rw [if_pos h] at hk; exact joinNeg_t h hk
  · rw [if_neg h] at hk
    obtain ⟨m, rfl⟩ : ∃ m : Nat, n = (m : Int) := ⟨n.toNat, by omega⟩
    exact join_t (by omega) hk
theorem rjoinI_t {a b : W} {n : Int} {H : Heap} {K : Value → Heap → Prop} (hn : n ≤ 9223372036854775807) (hk : K (u32 (joinI a b n)) H) : HCalls Try.prog 14 [u32 a, u32 b, .int .i64 n] H K := by
  unfold joinI at hk
  by_cases h : n ≤ 0
  · rw [if_pos h] at hk; exact rjoinNeg_t h hk
  · rw [if_neg h] at hk
    obtain ⟨m, rfl⟩ : ∃ m : Nat, n = (m : Int) := ⟨n.toNat, by omega⟩
    exact rjoin_t (by omega) hk
theorem sumPlays_t {a0 : Option Addr} {n0 c0 : Nat} {ys T : List UInt8} {S R : W} {h N : Int} {H : Heap} (h0 : RowAt H a0 (u8s ys)) (l0 : ys.length = n0) (b0 : n0 ≤ 140737488351232) (hT : T.length ≤ 9223372036854775806) (hN : N ≤ 9223372036854775807) :
    HCalls Try.prog 3 [.agg #[.slice a0 n0 c0, .string (bs T), u32 S, u32 R, .int .u64 h, .int .i64 N]] H (fun v H' => v = .bool true ∧ Upd [] H H') := by
  refine hcalls (fn := Try.f3) [(6, [(0, 0), (1, 0), (2, 1), (3, 1), (4, 0), (5, 0), (6, 0), (7, 0), (8, 0), (9, 0), (10, 0), (11, 1), (12, 1), (13, 1), (14, 1), (15, 0), (16, 0), (17, 0), (18, 0), (19, 0), (20, 0), (21, 0), (22, 0), (23, 0), (24, 0), (25, 0), (26, 1), (27, 1), (28, 1), (29, 1), (30, 1), (31, 1), (32, 0), (33, 0), (34, 0)]), (10, [(0, 0), (1, 0), (2, 0), (3, 1), (4, 1), (5, 0), (6, 0), (7, 0), (8, 0), (9, 0), (10, 0), (11, 0), (12, 0), (13, 1), (14, 1), (15, 1), (16, 1), (17, 0), (18, 0), (19, 0), (20, 0)])] mixed Try.func3 rfl rfl (by decide +kernel) ?_
  (repeat first | refine HReg.step ?_ | refine HCode.step ?_)
  refine HNew.mk fun b1 hb1 => ?_
  have q0 : RowAt (H.upd b1 (.cells [.slice a0 n0 c0, .string (bs T), u32 S, u32 R, .int .u64 h, .int .i64 N].toArray 26)) (some ⟨b1, 0, none⟩) [.slice a0 n0 c0, .string (bs T), u32 S, u32 R, .int .u64 h, .int .i64 N] := RowAt.of_cells (upd_same _ _ _)
  have u0 : Upd [] H (H.upd b1 (.cells [.slice a0 n0 c0, .string (bs T), u32 S, u32 R, .int .u64 h, .int .i64 N].toArray 26)) := Upd.new hb1 _
  (repeat first | refine HReg.step ?_ | refine HCode.step ?_)
  refine HCall.mk ⟨Try.f7, Try.func7, by rfl, by rfl⟩ ?_
  refine alive_t fun H1 u1 => ?_
  have q1 := q0.upd u1 (.inr (Off.nil _))
  have r1 := h0.upd (u0.trans u1) (.inr (Off.nil _))
  (repeat first | refine HReg.step ?_ | refine HCode.step ?_)
  refine HLoad.one (v := .slice a0 n0 c0) (by exact q1.get (i := 0) rfl) ?_
  (repeat first | refine HReg.step ?_ | refine HCode.step ?_)
  refine HCall.mk ⟨Try.f8, Try.func8, by rfl, by rfl⟩ ?_
  refine own_t r1 l0 (by omega) fun a2 c2 H2 m2 => ?_
  (repeat first | refine HReg.step ?_ | refine HCode.step ?_)
  refine HReq.mk (by decide) ?_
  (repeat first | refine HReg.step ?_ | refine HCode.step ?_)
  refine HNew.mk fun b3 hb3 => ?_
  (repeat first | refine HReg.step ?_ | refine HCode.step ?_)
  have u3 : Upd [] H2 (H2.upd b3 (.cells [Value.int .u8 161, Value.int .u8 162].toArray 5)) := Upd.new hb3 _
  refine append_made (ys := [161, 162]) (m2.step u3) (row_lit (upd_same _ _ _) rfl) rfl (by omega) fun a4 c4 H4 m4 => ?_
  obtain ⟨g4, rfl⟩ := m4.own.addr (by omega)
  have le4 := m4.own.le
  have u4 := m4.upd
  have q4 := q1.upd u4 (.inr (Off.nil _))
  have r4 := r1.upd u4 (.inr (Off.nil _))
  have x4 : RowAt H4 (some ⟨g4, 0, none⟩) (u8s ys) := by
    have := m4.own.rows.take n0
    rw [← u8s_take, List.take_append_of_le_length (by omega), List.take_of_length_le (by omega)] at this
    exact this
  (repeat first | refine HReg.step ?_ | refine HCode.step ?_)
  refine HLoad.one (v := .slice a0 n0 c0) (by exact q4.get (i := 0) rfl) ?_
  (repeat first | refine HReg.step ?_ | refine HCode.step ?_)
  refine HReq.mk ⟨by omega, by omega⟩ ?_
  (repeat first | refine HReg.step ?_ | refine HCode.step ?_)
  refine HCall.mk ⟨Try.f9, Try.func9, by rfl, by rfl⟩ ?_
  refine sum_t x4 l0 (by omega) fun H5 u5 => ?_
  have q5 := q4.upd u5 (.inr (Off.nil _))
  (repeat first | refine HReg.step ?_ | refine HCode.step ?_)
  refine HLoad_two (v := .slice a0 n0 c0) (by exact q5.get (i := 0) rfl) (by exact q4.get (i := 0) rfl) ?_
  (repeat first | refine HReg.step ?_ | refine HCode.step ?_)
  refine HCall.mk ⟨Try.f10, Try.func10, by rfl, by rfl⟩ ?_
  refine rsum_t (r4.upd u5 (.inr (Off.nil _))) l0 (by omega) ?_
  (repeat first | refine HReg.step ?_ | refine HCode.step ?_)
  refine hif (fun h => absurd rfl (not_eqB_true.1 h)) (fun _ => ?_)
  (repeat first | refine HReg.step ?_ | refine HCode.step ?_)
  refine HLoad.one (v := u32 S) (by exact q5.get (i := 2) rfl) ?_
  (repeat first | refine HReg.step ?_ | refine HCode.step ?_)
  refine HCall.mk ⟨Try.f11, Try.func11, by rfl, by rfl⟩ ?_
  refine update_t (x4.upd u5 (.inr (Off.nil _))) l0 (by omega) fun H6 u6 => ?_
  have q6 := q5.upd u6 (.inr (Off.nil _))
  (repeat first | refine HReg.step ?_ | refine HCode.step ?_)
  refine HLoad_two (v := u32 S) (by exact q6.get (i := 2) rfl) (by exact q5.get (i := 2) rfl) ?_
  (repeat first | refine HReg.step ?_ | refine HCode.step ?_)
  refine HLoad_two (v := .slice a0 n0 c0) (by exact q6.get (i := 0) rfl) (by exact q5.get (i := 0) rfl) ?_
  (repeat first | refine HReg.step ?_ | refine HCode.step ?_)
  refine HCall.mk ⟨Try.f12, Try.func12, by rfl, by rfl⟩ ?_
  refine rupdate_t (r4.upd (u5.trans u6) (.inr (Off.nil _))) l0 (by omega) ?_
  (repeat first | refine HReg.step ?_ | refine HCode.step ?_)
  refine hif (fun h => absurd rfl (not_eqB_true.1 h)) (fun _ => ?_)
  (repeat first | refine HReg.step ?_ | refine HCode.step ?_)
  refine HLoad.one (v := u32 S) (by exact q6.get (i := 2) rfl) ?_
  (repeat first | refine HReg.step ?_ | refine HCode.step ?_)
  refine HLoad.one (v := u32 R) (by exact q6.get (i := 3) rfl) ?_
  (repeat first | refine HReg.step ?_ | refine HCode.step ?_)
  refine HLoad.one (v := .int .i64 N) (by exact q6.get (i := 5) rfl) ?_
  (repeat first | refine HReg.step ?_ | refine HCode.step ?_)
  refine HCall.mk ⟨Try.f13, Try.func13, by rfl, by rfl⟩ ?_
  refine joinI_t hN ?_
  (repeat first | refine HReg.step ?_ | refine HCode.step ?_)
  refine HLoad_two (v := u32 S) (by exact q6.get (i := 2) rfl) (by exact q6.get (i := 2) rfl) ?_
  (repeat first | refine HReg.step ?_ | refine HCode.step ?_)
  refine HLoad_two (v := u32 R) (by exact q6.get (i := 3) rfl) (by exact q6.get (i := 3) rfl) ?_
  (repeat first | refine HReg.step ?_ | refine HCode.step ?_)
  refine HLoad_two (v := .int .i64 N) (by exact q6.get (i := 5) rfl) (by exact q6.get (i := 5) rfl) ?_
  (repeat first | refine HReg.step ?_ | refine HCode.step ?_)
  refine HCall.mk ⟨Try.f14, Try.func14, by rfl, by rfl⟩ ?_
  refine rjoinI_t hN ?_
  (repeat first | refine HReg.step ?_ | refine HCode.step ?_)
  refine hif (fun h => absurd rfl (not_eqB_true.1 h)) (fun _ => ?_)
  have x6 := x4.upd (u5.trans u6) (.inr (Off.nil _))
  have r6 := r4.upd (u5.trans u6) (.inr (Off.nil _))
  (repeat first | refine HReg.step ?_ | refine HCode.step ?_)
  refine HBytes.row ys l0 (by simpa using x6) ?_ (by simp)
  (repeat first | refine HReg.step ?_ | refine HCode.step ?_)
  refine HLoad.one (v := .slice a0 n0 c0) (by exact q6.get (i := 0) rfl) ?_
  (repeat first | refine HReg.step ?_ | refine HCode.step ?_)
  refine HBytes.row ys l0 (by simpa using r6) ?_ (by simp)
  have es : (!seqB (bs ys) (bs ys)) = false := by rw [seqB_bs, decide_eq_true rfl]; rfl
  (repeat first | refine HReg.step ?_ | refine HCode.step ?_)
  refine hif (fun h => absurd h (by rw [es]; decide)) (fun _ => ?_)
  have rf := m4.own.rows.upd (u5.trans u6) (.inr (Off.nil _))
  have e161 : (u8s (ys ++ [161, 162]))[n0]? = some (u8 161) := by
    refine u8s_get ?_
    rw [List.getElem?_append_right (by omega), l0, Nat.sub_self]; rfl
  have e162 : (u8s (ys ++ [161, 162]))[n0 + 1]? = some (u8 162) := by
    refine u8s_get ?_
    rw [List.getElem?_append_right (by omega), l0, Nat.add_sub_cancel_left]; rfl
  (repeat first | refine HReg.step ?_ | refine HCode.step ?_)
  refine HLoad.one (v := .slice a0 n0 c0) (by exact q6.get (i := 0) rfl) ?_
  (repeat first | refine HReg.step ?_ | refine HCode.step ?_)
  refine HReq.mk ⟨by omega, by omega⟩ ?_
  (repeat first | refine HReg.step ?_ | refine HCode.step ?_)
  refine HLoad.one (v := u8 161) (by exact rf.get e161) ?_
  (repeat first | refine HReg.step ?_ | refine HCode.step ?_)
  refine hif (fun h => absurd rfl (not_eqB_true.1 h)) (fun _ => ?_)
  (repeat first | refine HReg.step ?_ | refine HCode.step ?_)
  refine HLoad.one (v := .slice a0 n0 c0) (by exact q6.get (i := 0) rfl) ?_
  (repeat first | refine HReg.step ?_ | refine HCode.step ?_)
  have hw1 : wr .i64 ((n0 : Int) + 1) = ((n0 + 1 : Nat) : Int) := by rw [wr_i64 (by omega) (by omega)]; omega
  rw [hw1]
  refine HReq.mk ⟨by omega, by omega⟩ ?_
  (repeat first | refine HReg.step ?_ | refine HCode.step ?_)
  refine HLoad.one (v := u8 162) (by exact rf.get e162) ?_
  (repeat first | refine HReg.step ?_ | refine HCode.step ?_)
  refine hif (fun h => absurd rfl (not_eqB_true.1 h)) (fun _ => ?_)
  (repeat first | refine HReg.step ?_ | refine HCode.step ?_)
  refine HLoad.one (v := .string (bs T)) (by exact q6.get (i := 1) rfl) ?_
  (repeat first | refine HReg.step ?_ | refine HCode.step ?_)
  refine HCall.mk ⟨Try.f15, Try.func15, by rfl, by rfl⟩ ?_
  refine hash_t hT ?_
  (repeat first | refine HReg.step ?_ | refine HCode.step ?_)
  refine HLoad_two (v := .string (bs T)) (by exact q6.get (i := 1) rfl) (by exact q6.get (i := 1) rfl) ?_
  (repeat first | refine HReg.step ?_ | refine HCode.step ?_)
  refine HCall.mk ⟨Try.f16, Try.func16, by rfl, by rfl⟩ ?_
  refine rhash_t hT ?_
  (repeat first | refine HReg.step ?_ | refine HCode.step ?_)
  refine hif (fun _ => ?_) (fun h => absurd rfl (eqB_false.1 h))
  (repeat first | refine HReg.step ?_ | refine HCode.step ?_)
  refine HLoad.one (v := .int .u64 h) (by exact q6.get (i := 4) rfl) ?_
  (repeat first | refine HReg.step ?_ | refine HCode.step ?_)
  refine HLoad.one (v := .string (bs T)) (by exact q6.get (i := 1) rfl) ?_
  (repeat first | refine HReg.step ?_ | refine HCode.step ?_)
  refine HCall.mk ⟨Try.f17, Try.func17, by rfl, by rfl⟩ ?_
  refine feed_t hT ?_
  (repeat first | refine HReg.step ?_ | refine HCode.step ?_)
  refine HLoad_two (v := .int .u64 h) (by exact q6.get (i := 4) rfl) (by exact q6.get (i := 4) rfl) ?_
  (repeat first | refine HReg.step ?_ | refine HCode.step ?_)
  refine HLoad_two (v := .string (bs T)) (by exact q6.get (i := 1) rfl) (by exact q6.get (i := 1) rfl) ?_
  (repeat first | refine HReg.step ?_ | refine HCode.step ?_)
  refine HCall.mk ⟨Try.f18, Try.func18, by rfl, by rfl⟩ ?_
  refine rfeed_t hT ?_
  (repeat first | refine HReg.step ?_ | refine HCode.step ?_)
  exact ⟨congrArg Value.bool (eqB_true.2 rfl), u0.trans (u1.trans (u4.trans (u5.trans u6)))⟩
end Go.Proofs.Ytmcadbaejedfnaa
