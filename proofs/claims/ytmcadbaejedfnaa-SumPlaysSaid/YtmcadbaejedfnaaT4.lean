import Derived.Test.YtmcadbaejedfnaaT3
namespace Go.Proofs.Ytmcadbaejedfnaa
open Go Hv Crc
set_option linter.unusedVariables false
set_option maxRecDepth 10000
set_option maxHeartbeats 1000000
def feedC : Int → List UInt8 → Int
  | h, [] => h
  | h, c :: cs => feedC (IntKind.u64.wrap (bits .xor .u64 h (IntKind.u64.wrap (c.toNat : Int)) * 1099511628211)) cs
theorem feedL_C (h : Int) (l : List UInt8) : feedL h l = feedC h l := by
  induction l generalizing h with
  | nil => rfl
  | cons c l ih => unfold feedL feedC; rw [ih, wr_eq, wr_eq, bitsS_eq]
theorem crc_a : crc 0#32 [49, 50, 51, 52, 53, 54, 55, 56, 57] = 0xCBF43926#32 := by decide +kernel
theorem crc_b : crc (crc 0#32 [49, 50, 51, 52]) [53, 54, 55, 56, 57] = 0xCBF43926#32 := by decide +kernel
theorem crc_c : join (crc 0#32 [49, 50, 51, 52]) (crc 0#32 [53, 54, 55, 56, 57]) 5 = 0xCBF43926#32 := by decide +kernel
theorem feed_a : feedL 14695981039346656037 [97] = 12638187200555641996 := by rw [feedL_C]; decide +kernel
theorem feed_b : feedL (feedL 14695981039346656037 [102, 111]) [111, 98, 97, 114] = 9625390261332436968 := by rw [feedL_C, feedL_C]; decide +kernel
theorem alive_t {H : Heap} {K : Value → Heap → Prop} (hk : ∀ H', Upd [] H H' → K (.bool true) H') : HCalls Try.prog 7 [] H K := by
  refine hcalls (fn := Try.f7) [] mixed Try.func7 rfl rfl (by decide +kernel) ?_
  (repeat first | refine HReg.step ?_ | refine HCode.step ?_)
  refine HReq.mk (by decide) ?_
  (repeat first | refine HReg.step ?_ | refine HCode.step ?_)
  refine HNew.mk fun b1 hb1 => ?_
  (repeat first | refine HReg.step ?_ | refine HCode.step ?_)
  refine conv_mark Try.underlying22 Try.underlying5 (upd_same _ _ _) fun f1 => ?_
  rw [upd_upd]
  (repeat first | refine HReg.step ?_ | refine HCode.step ?_)
  refine HCall.mk ⟨Try.f9, Try.func9, by rfl, by rfl⟩ ?_
  refine sum_t (ys := [49, 50, 51, 52]) (row_lit (upd_same _ _ _) rfl) rfl (by decide) fun H1 u1 => ?_
  (repeat first | refine HReg.step ?_ | refine HCode.step ?_)
  refine HReq.mk (by decide) ?_
  (repeat first | refine HReg.step ?_ | refine HCode.step ?_)
  refine HNew.mk fun b2 hb2 => ?_
  (repeat first | refine HReg.step ?_ | refine HCode.step ?_)
  refine conv_mark Try.underlying22 Try.underlying5 (upd_same _ _ _) fun f2 => ?_
  rw [upd_upd]
  (repeat first | refine HReg.step ?_ | refine HCode.step ?_)
  refine HCall.mk ⟨Try.f9, Try.func9, by rfl, by rfl⟩ ?_
  refine sum_t (ys := [53, 54, 55, 56, 57]) (row_lit (upd_same _ _ _) rfl) rfl (by decide) fun H2 u2 => ?_
  (repeat first | refine HReg.step ?_ | refine HCode.step ?_)
  refine HReq.mk (by decide) ?_
  (repeat first | refine HReg.step ?_ | refine HCode.step ?_)
  refine HNew.mk fun b3 hb3 => ?_
  (repeat first | refine HReg.step ?_ | refine HCode.step ?_)
  refine conv_mark Try.underlying22 Try.underlying5 (upd_same _ _ _) fun f3 => ?_
  rw [upd_upd]
  (repeat first | refine HReg.step ?_ | refine HCode.step ?_)
  refine HCall.mk ⟨Try.f9, Try.func9, by rfl, by rfl⟩ ?_
  refine sum_t (ys := [49, 50, 51, 52, 53, 54, 55, 56, 57]) (row_lit (upd_same _ _ _) rfl) rfl (by decide) fun H3 u3 => ?_
  rw [crc_a]
  (repeat first | refine HReg.step ?_ | refine HCode.step ?_)
  refine hif (fun _ => ?_) (fun h => absurd rfl (eqB_false.1 h))
  (repeat first | refine HReg.step ?_ | refine HCode.step ?_)
  refine HReq.mk (by decide) ?_
  (repeat first | refine HReg.step ?_ | refine HCode.step ?_)
  refine HNew.mk fun b4 hb4 => ?_
  (repeat first | refine HReg.step ?_ | refine HCode.step ?_)
  refine conv_mark Try.underlying22 Try.underlying5 (upd_same _ _ _) fun f4 => ?_
  rw [upd_upd]
  (repeat first | refine HReg.step ?_ | refine HCode.step ?_)
  refine HCall.mk ⟨Try.f11, Try.func11, by rfl, by rfl⟩ ?_
  refine update_t (ys := [53, 54, 55, 56, 57]) (row_lit (upd_same _ _ _) rfl) rfl (by decide) fun H4 u4 => ?_
  rw [crc_b]
  (repeat first | refine HReg.step ?_ | refine HCode.step ?_)
  refine hif (fun _ => ?_) (fun h => absurd rfl (eqB_false.1 h))
  (repeat first | refine HReg.step ?_ | refine HCode.step ?_)
  refine HCall.mk ⟨Try.f13, Try.func13, by rfl, by rfl⟩ ?_
  refine join_t (n := 5) (by decide) ?_
  rw [crc_c]
  (repeat first | refine HReg.step ?_ | refine HCode.step ?_)
  refine hif (fun _ => ?_) (fun h => absurd rfl (eqB_false.1 h))
  (repeat first | refine HReg.step ?_ | refine HCode.step ?_)
  refine HCall.mk ⟨Try.f15, Try.func15, by rfl, by rfl⟩ ?_
  refine hash_t (l := [97]) (by decide) ?_
  rw [feed_a]
  (repeat first | refine HReg.step ?_ | refine HCode.step ?_)
  refine hif (fun _ => ?_) (fun h => absurd rfl (eqB_false.1 h))
  (repeat first | refine HReg.step ?_ | refine HCode.step ?_)
  refine HCall.mk ⟨Try.f20, Try.func20, by rfl, by rfl⟩ ?_
  refine begin_t ?_
  (repeat first | refine HReg.step ?_ | refine HCode.step ?_)
  refine hif (fun _ => ?_) (fun h => absurd rfl (eqB_false.1 h))
  (repeat first | refine HReg.step ?_ | refine HCode.step ?_)
  refine HCall.mk ⟨Try.f15, Try.func15, by rfl, by rfl⟩ ?_
  refine hash_t (l := [102, 111]) (by decide) ?_
  (repeat first | refine HReg.step ?_ | refine HCode.step ?_)
  refine HCall.mk ⟨Try.f17, Try.func17, by rfl, by rfl⟩ ?_
  refine feed_t (l := [111, 98, 97, 114]) (by decide) ?_
  rw [feed_b]
  (repeat first | refine HReg.step ?_ | refine HCode.step ?_)
  have hkk := hk H4 ((Upd.new hb1 _).trans (u1.trans ((Upd.new hb2 _).trans (u2.trans ((Upd.new hb3 _).trans (u3.trans ((Upd.new hb4 _).trans u4)))))))
  rw [show eqB 9625390261332436968 9625390261332436968 = true from eqB_true.2 rfl]
  exact hkk
end Go.Proofs.Ytmcadbaejedfnaa
