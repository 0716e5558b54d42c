import Derived.Test.YtaobgofbhommcaaB18
import Derived.Test.YtaobgofbhommcaaB11
namespace Go.Proofs.Ytaobgofbhommcaa
open Go Hv
set_option linter.unusedVariables false
set_option linter.unusedSimpArgs false
set_option maxRecDepth 10000
set_option maxHeartbeats 1000000
/-! BloomReads -/
theorem bloomReads_t {a : Option Addr} {k c : Nat} {l s : List UInt8} {H : Heap} {K : Value → Heap → Prop} (hr : RowAt H a (u8s l)) (hl : l.length = k) (hc : k ≤ c) (hlim : k ≤ 140737488351232) (hs : s.length ≤ 140737488351232)
    (hk : ∀ H', Upd [] H H' → K (.bool true) H') : HCalls Try.prog 5 [.slice a k c, .string (bs s)] H K := by
  refine hcalls (fn := Try.f5) [(5, [(0, 0), (1, 0), (2, 0), (3, 0), (4, 0), (5, 1), (6, 0), (7, 0), (8, 0), (9, 0), (10, 1), (11, 0), (12, 0), (13, 0), (14, 0), (15, 0), (16, 0), (17, 0), (18, 1), (19, 1), (20, 0), (21, 0), (22, 0), (23, 0), (24, 0), (25, 0), (26, 1), (27, 1), (28, 1), (29, 1), (30, 0), (31, 0), (32, 0), (33, 0), (34, 0), (35, 1), (36, 1), (37, 1), (38, 1), (39, 0), (40, 0), (41, 0), (42, 0)])] mixed Try.func5 rfl rfl (by decide +kernel) ?_
  (repeat first | refine HReg.step ?_ | refine HCode.step ?_)
  refine HCall.mk ⟨Try.f22, Try.func22, by rfl, by rfl⟩ ?_
  refine read_t hr hl hc (by omega) (fun H1 hn u1 => ?_) fun g b H1 ok F1 => ?_
  · (repeat first | refine HReg.step ?_ | refine HCode.step ?_)
    refine HCall.mk ⟨Try.f23, Try.func23, by rfl, by rfl⟩ ?_
    refine rread_t (hr.upd (S := []) u1 (.inr (Off.nil _))) hl hc (by omega) (fun H2 _ u2 => ?_) fun g b H2 ok => absurd ok hn
    (repeat first | refine HReg.step ?_ | refine HCode.step ?_)
    refine HCall.mk ⟨Try.f10, Try.func10, by rfl, by rfl⟩ ?_
    refine known_t fun H3 u3 => ?_
    (repeat first | refine HReg.step ?_ | refine HCode.step ?_)
    refine hif (fun h => absurd rfl (not_eqB_true.1 h)) (fun _ => ?_)
    (repeat first | refine HReg.step ?_ | refine HCode.step ?_)
    exact hk H3 ((u1.trans u2).trans u3)
  · (repeat first | refine HReg.step ?_ | refine HCode.step ?_)
    refine HCall.mk ⟨Try.f23, Try.func23, by rfl, by rfl⟩ ?_
    refine rread_t (hr.upd (S := []) F1.upd (.inr (Off.nil _))) hl hc (by omega) (fun H2 hn => absurd ok hn) fun g2 b2 H2 _ P2 => ?_
    (repeat first | refine HReg.step ?_ | refine HCode.step ?_)
    refine HCall.mk ⟨Try.f10, Try.func10, by rfl, by rfl⟩ ?_
    refine known_t fun H3 u3 => ?_
    have F3 := F1.fil.upd0 (P2.upd.trans u3)
    have P3 := P2.fil.upd0 u3
    have u3' := (F1.upd.trans P2.upd).trans u3
    have hlen : (5 + (l.drop 5).length) = l.length := by rw [List.length_drop]; have := ok.1; omega
    (repeat first | refine HReg.step ?_ | refine HCode.step ?_)
    refine hif (fun h => absurd rfl (not_eqB_true.1 h)) (fun _ => ?_)
    (repeat first | refine HReg.step ?_ | refine HCode.step ?_)
    refine HCall.mk ⟨Try.f17, Try.func17, by rfl, by rfl⟩ ?_
    refine bytes_t F3 fun a4 c4 H4 m4 => ?_
    rw [head_shape ok.1] at m4
    have F4 := F3.upd0 m4.upd
    have P4 := P3.upd0 m4.upd
    have u4 := u3'.trans m4.upd
    (repeat first | refine HReg.step ?_ | refine HCode.step ?_)
    refine HCall.mk ⟨Try.f16, Try.func16, by rfl, by rfl⟩ ?_
    refine same_eq m4.own.rows hlen.symm (hr.upd (S := []) u4 (.inr (Off.nil _))) hl rfl ?_
    (repeat first | refine HReg.step ?_ | refine HCode.step ?_)
    refine HCall.mk ⟨Try.f24, Try.func24, by rfl, by rfl⟩ ?_
    refine ones_t F4 ?_
    (repeat first | refine HReg.step ?_ | refine HCode.step ?_)
    refine HCall.mk ⟨Try.f25, Try.func25, by rfl, by rfl⟩ ?_
    refine rones_t P4 ?_
    (repeat first | refine HReg.step ?_ | refine HCode.step ?_)
    refine hif (fun _ => ?_) (fun h => absurd rfl (eqB_false.1 h))
    (repeat first | refine HReg.step ?_ | refine HCode.step ?_)
    refine HCall.mk ⟨Try.f26, Try.func26, by rfl, by rfl⟩ ?_
    refine has_t (s := s) F4 (by omega) fun H5 u5 => ?_
    (repeat first | refine HReg.step ?_ | refine HCode.step ?_)
    refine HCall.mk ⟨Try.f27, Try.func27, by rfl, by rfl⟩ ?_
    refine rhas_t (s := s) (P4.upd0 u5) (by omega) fun H6 u6 => ?_
    have F6 := F4.upd0 (u5.trans u6)
    have P6 := P4.upd0 (u5.trans u6)
    obtain ⟨c6, o6, s6⟩ := P6.ex
    (repeat first | refine HReg.step ?_ | refine HCode.step ?_)
    refine hif (fun _ => ?_) (fun h => absurd h (by simp))
    (repeat first | refine HReg.step ?_ | refine HCode.step ?_)
    refine HCall.mk ⟨Try.f14, Try.func14, by rfl, by rfl⟩ ?_
    refine bits_t F6 ?_
    (repeat first | refine HReg.step ?_ | refine HCode.step ?_)
    refine HLoad_two (v := .int .i64 (shapeN l : Int)) (by exact o6.rows.get (i := 0) rfl) (by exact o6.rows.get (i := 0) rfl) ?_
    (repeat first | refine HReg.step ?_ | refine HCode.step ?_)
    refine hif (fun _ => ?_) (fun h => absurd rfl (eqB_false.1 h))
    (repeat first | refine HReg.step ?_ | refine HCode.step ?_)
    refine HCall.mk ⟨Try.f15, Try.func15, by rfl, by rfl⟩ ?_
    refine hashes_t F6 ?_
    (repeat first | refine HReg.step ?_ | refine HCode.step ?_)
    refine HLoad_two (v := .int .i64 (shapeH l : Int)) (by exact o6.rows.get (i := 1) rfl) (by exact o6.rows.get (i := 1) rfl) ?_
    have e : eqB (shapeH l : Int) (shapeH l : Int) = true := eqB_true.2 rfl
    (repeat first | refine HReg.step ?_ | refine HCode.step ?_)
    exact (show K (.bool (eqB (shapeH l : Int) (shapeH l : Int))) H6 from by rw [e]; exact hk H6 ((u4.trans u5).trans u6))
end Go.Proofs.Ytaobgofbhommcaa
