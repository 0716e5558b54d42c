import Derived.Test.YtocejipjnklieaaE9
namespace Go.Proofs.Ytocejipjnklieaa
open Go Hv
set_option linter.unusedVariables false
set_option linter.unusedSimpArgs false
set_option maxRecDepth 10000
set_option maxHeartbeats 4000000
/-! DiskRefused. CUT2 -/
structure RfInv (H1 : Heap) (ops : List OpA) (ga ra gb rb : Nat) (m : Nat) (vs : List Value) (H' : Heap) : Prop where
  ex : ∃ (i : Nat) (s : St) (fa fb : List Fl), vs = [.int .i64 (i : Int)] ∧ m + i = ops.length ∧ Many H1 H' [⟨ga, ra, s, fa⟩, ⟨gb, rb, s, fb⟩] ∧ s.Ok (1 + opSum (ops.take i)) ∧ Quiet s
structure RfJ (H1 : Heap) (ops : List OpA) (ga ra gb rb : Nat) (vs : List Value) (H' : Heap) : Prop where
  ex : ∃ (s : St) (fa fb : List Fl), vs = [] ∧ Many H1 H' [⟨ga, ra, s, fa⟩, ⟨gb, rb, s, fb⟩] ∧ s.Ok (1 + opSum ops) ∧ Quiet s
def longA : ByteArray := ⟨#[110, 111, 110, 101, 32, 111, 102, 32, 116, 104, 105, 115, 32, 110, 97, 109, 101, 44, 32, 105, 116, 32, 105, 115, 32, 116, 111, 111, 32, 108, 111, 110, 103, 32, 116, 111, 32, 98, 101, 32, 111, 110, 101]⟩
def longB : ByteArray := ⟨#[97, 32, 110, 97, 109, 101, 32, 116, 104, 97, 116, 32, 104, 97, 115, 32, 109, 111, 114, 101, 32, 116, 104, 97, 110, 32, 116, 104, 105, 114, 116, 121, 45, 116, 119, 111, 32, 98, 121, 116, 101, 115]⟩
theorem longA_no : ¬ (1 ≤ longA.size ∧ longA.size ≤ 32) := by decide
theorem longB_no : ¬ (1 ≤ longB.size ∧ longB.size ≤ 32) := by decide
theorem empty_no : ¬ (1 ≤ (bs []).size ∧ (bs []).size ≤ 32) := by decide
section
variable {H : Heap} {K : Value → Heap → Prop}
theorem refused_t {a0 a1 : Option Addr} {c0 c1 : Nat} {ops0 ops1 : List OpA} (hr0 : RowAt H a0 (orow ops0)) (hr1 : RowAt H a1 (orow ops1)) (h0 : ∀ o ∈ ops0, OpIn H o) (h1 : ∀ o ∈ ops1, OpIn H o)
    (l0 : ops0.length ≤ 1048576) (l1 : ops1.length ≤ 1048576) (s0 : opSum ops0 ≤ 1048576) (s1 : opSum ops1 ≤ 1048576)
    (hk : ∀ H', Upd [] H H' → K (.bool true) H') : HCalls Try.prog 8 [.slice a0 ops0.length c0, .slice a1 ops1.length c1] H K := by
  refine hcalls (fn := Try.f8) [(14, [(0, 0), (1, 0), (2, 0), (3, 1), (4, 1), (5, 0), (6, 0)])] mixed Try.func8 rfl rfl (by decide +kernel) ?_
  (repeat first | refine HReg.step ?_ | refine HCode.step ?_)
  refine HCall.mk ⟨Try.f9, Try.func9, by rfl, by rfl⟩ ?_
  refine alive_t fun H1 u1 => ?_
  (repeat first | refine HReg.step ?_ | refine HCode.step ?_)
  refine HCall.mk ⟨Try.f10, Try.func10, by rfl, by rfl⟩ ?_
  refine new_t fun ga ra H2 Da ua => ?_
  (repeat first | refine HReg.step ?_ | refine HCode.step ?_)
  refine HCall.mk ⟨Try.f10, Try.func10, by rfl, by rfl⟩ ?_
  refine new_t fun gb rb H3 Db ub => ?_
  have M1 : Many H1 H2 [⟨ga, ra, St0, []⟩] := (Many.nil H1 H1).add (Upd.refl _ _) Da ua
  have M2 : Many H1 H3 [⟨ga, ra, St0, []⟩, ⟨gb, rb, St0, []⟩] := M1.add ua Db ub
  have r0 := hr0.upd (S := []) u1 (.inr (Off.nil _))
  have r1 := hr1.upd (S := []) u1 (.inr (Off.nil _))
  (repeat first | refine HReg.step ?_ | refine HCode.step ?_)
  refine HReq.mk (by decide) ?_
  (repeat first | refine HReg.step ?_ | refine HCode.step ?_)
  refine HNew.mk fun b0x hb0x => ?_
  (repeat first | refine HReg.step ?_ | refine HCode.step ?_)
  refine conv_mark Try.underlying22 Try.underlying5 (upd_same _ _ _) fun f0x => ?_
  rw [upd_upd]
  have v0x : Upd [] H3 (H3.upd b0x (.cells [Value.int .u8 107].toArray 5 f0x)) := Upd.new hb0x _
  (repeat first | refine HReg.step ?_ | refine HCode.step ?_)
  refine HCall.mk ⟨Try.f11, Try.func11, by rfl, by rfl⟩ ?_
  refine append_t (n := keptN) (M2.each 0 _ rfl |>.upd0 v0x) (ys := [107]) (row_lit (upd_same _ _ _) rfl) rfl (off_new (H' := H3) (M2.each 0 _ rfl) hb0x rfl) (fun x y h => by cases h) (by decide) fun fl0x H5 D0x S0x => ?_
  have M5 := (M2.upd0 v0x).step (i := 0) rfl D0x S0x
  simp only [List.set] at M5
  (repeat first | refine HReg.step ?_ | refine HCode.step ?_)
  refine HReq.mk (by decide) ?_
  (repeat first | refine HReg.step ?_ | refine HCode.step ?_)
  refine HNew.mk fun b1x hb1x => ?_
  (repeat first | refine HReg.step ?_ | refine HCode.step ?_)
  refine conv_mark Try.underlying22 Try.underlying5 (upd_same _ _ _) fun f1x => ?_
  rw [upd_upd]
  have v1x : Upd [] H5 (H5.upd b1x (.cells [Value.int .u8 107].toArray 5 f1x)) := Upd.new hb1x _
  (repeat first | refine HReg.step ?_ | refine HCode.step ?_)
  refine HCall.mk ⟨Try.f11, Try.func11, by rfl, by rfl⟩ ?_
  refine append_t (n := keptN) (M5.each 1 _ rfl |>.upd0 v1x) (ys := [107]) (row_lit (upd_same _ _ _) rfl) rfl (off_new (H' := H5) (M5.each 1 _ rfl) hb1x rfl) (fun x y h => by cases h) (by decide) fun fl1x H7 D1x S1x => ?_
  have M7 := (M5.upd0 v1x).step (i := 1) rfl D1x S1x
  simp only [List.set] at M7
  have q0 : Quiet (St0.append keptN [107]).2 := Quiet.append ⟨rfl, rfl⟩ _ _
  have k0 : (St0.append keptN [107]).2.Ok 1 := (ok0 0).append keptN [107]
  generalize (St0.append keptN [107]).2 = sk at M7 q0 k0
  clear M1 M2 M5 v0x v1x D0x S0x D1x S1x hb0x hb1x Da Db ua ub
  ((repeat refine HReg.step ?_); first | (show HCode _ _ _ (Code.seq (Code.seq (Code.region _ _ _) (Code.block _ _)) _) _ _ _; refine hcutC (a := Code.seq (Code.region _ _ _) (Code.block _ _)) [4, 7, 8, 9, 10, 11, 12, 13, 14, 15, 16, 17, 44, 45, 46, 47, 48, 49, 50, 51, 52, 53, 54, 55, 56, 57, 58, 59, 60, 61, 62, 63, 64, 65, 66, 67, 68, 69, 70, 71, 72, 73, 74, 75, 76, 77, 78, 79, 80, 81, 82, 83, 84, 85, 86, 87, 88, 89, 90, 91, 92, 93, 94, 95, 96, 97, 98, 99, 100, 101, 102, 103, 104, 105, 106, 107, 108, 109, 110, 111, 112, 113, 114, 115, 116, 117, 118, 119, 120, 121, 122, 123, 124, 125, 126, 127, 128, 129, 130, 131, 132, 133, 134, 135, 136, 137, 138, 139, 140, 141, 142, 143, 144, 145] [] (RfJ H1 ops0 ga ra gb rb) rfl (by repeat' first | exact Resp.retD | exact Resp1.valuesK | refine Resp.blockD ?_ | refine Resp.thenD ?_ ?_ | refine Resp.hcode ?_) ?_ ?_) | (refine HCode.step ?_; (repeat refine HReg.step ?_); first | (show HCode _ _ _ (Code.seq (Code.seq (Code.region _ _ _) (Code.block _ _)) _) _ _ _; refine hcutC (a := Code.seq (Code.region _ _ _) (Code.block _ _)) [4, 7, 8, 9, 10, 11, 12, 13, 14, 15, 16, 17, 44, 45, 46, 47, 48, 49, 50, 51, 52, 53, 54, 55, 56, 57, 58, 59, 60, 61, 62, 63, 64, 65, 66, 67, 68, 69, 70, 71, 72, 73, 74, 75, 76, 77, 78, 79, 80, 81, 82, 83, 84, 85, 86, 87, 88, 89, 90, 91, 92, 93, 94, 95, 96, 97, 98, 99, 100, 101, 102, 103, 104, 105, 106, 107, 108, 109, 110, 111, 112, 113, 114, 115, 116, 117, 118, 119, 120, 121, 122, 123, 124, 125, 126, 127, 128, 129, 130, 131, 132, 133, 134, 135, 136, 137, 138, 139, 140, 141, 142, 143, 144, 145] [] (RfJ H1 ops0 ga ra gb rb) rfl (by repeat' first | exact Resp.retD | exact Resp1.valuesK | refine Resp.blockD ?_ | refine Resp.thenD ?_ ?_ | refine Resp.hcode ?_) ?_ ?_) | (refine HCode.step ?_; (repeat refine HReg.step ?_); first | (show HCode _ _ _ (Code.seq (Code.seq (Code.region _ _ _) (Code.block _ _)) _) _ _ _; refine hcutC (a := Code.seq (Code.region _ _ _) (Code.block _ _)) [4, 7, 8, 9, 10, 11, 12, 13, 14, 15, 16, 17, 44, 45, 46, 47, 48, 49, 50, 51, 52, 53, 54, 55, 56, 57, 58, 59, 60, 61, 62, 63, 64, 65, 66, 67, 68, 69, 70, 71, 72, 73, 74, 75, 76, 77, 78, 79, 80, 81, 82, 83, 84, 85, 86, 87, 88, 89, 90, 91, 92, 93, 94, 95, 96, 97, 98, 99, 100, 101, 102, 103, 104, 105, 106, 107, 108, 109, 110, 111, 112, 113, 114, 115, 116, 117, 118, 119, 120, 121, 122, 123, 124, 125, 126, 127, 128, 129, 130, 131, 132, 133, 134, 135, 136, 137, 138, 139, 140, 141, 142, 143, 144, 145] [] (RfJ H1 ops0 ga ra gb rb) rfl (by repeat' first | exact Resp.retD | exact Resp1.valuesK | refine Resp.blockD ?_ | refine Resp.thenD ?_ ?_ | refine Resp.hcode ?_) ?_ ?_) | (refine HCode.step ?_; (repeat refine HReg.step ?_); first | (show HCode _ _ _ (Code.seq (Code.seq (Code.region _ _ _) (Code.block _ _)) _) _ _ _; refine hcutC (a := Code.seq (Code.region _ _ _) (Code.block _ _)) [4, 7, 8, 9, 10, 11, 12, 13, 14, 15, 16, 17, 44, 45, 46, 47, 48, 49, 50, 51, 52, 53, 54, 55, 56, 57, 58, 59, 60, 61, 62, 63, 64, 65, 66, 67, 68, 69, 70, 71, 72, 73, 74, 75, 76, 77, 78, 79, 80, 81, 82, 83, 84, 85, 86, 87, 88, 89, 90, 91, 92, 93, 94, 95, 96, 97, 98, 99, 100, 101, 102, 103, 104, 105, 106, 107, 108, 109, 110, 111, 112, 113, 114, 115, 116, 117, 118, 119, 120, 121, 122, 123, 124, 125, 126, 127, 128, 129, 130, 131, 132, 133, 134, 135, 136, 137, 138, 139, 140, 141, 142, 143, 144, 145] [] (RfJ H1 ops0 ga ra gb rb) rfl (by repeat' first | exact Resp.retD | exact Resp1.valuesK | refine Resp.blockD ?_ | refine Resp.thenD ?_ ?_ | refine Resp.hcode ?_) ?_ ?_) | (refine HCode.step ?_; (repeat refine HReg.step ?_); first | (show HCode _ _ _ (Code.seq (Code.seq (Code.region _ _ _) (Code.block _ _)) _) _ _ _; refine hcutC (a := Code.seq (Code.region _ _ _) (Code.block _ _)) [4, 7, 8, 9, 10, 11, 12, 13, 14, 15, 16, 17, 44, 45, 46, 47, 48, 49, 50, 51, 52, 53, 54, 55, 56, 57, 58, 59, 60, 61, 62, 63, 64, 65, 66, 67, 68, 69, 70, 71, 72, 73, 74, 75, 76, 77, 78, 79, 80, 81, 82, 83, 84, 85, 86, 87, 88, 89, 90, 91, 92, 93, 94, 95, 96, 97, 98, 99, 100, 101, 102, 103, 104, 105, 106, 107, 108, 109, 110, 111, 112, 113, 114, 115, 116, 117, 118, 119, 120, 121, 122, 123, 124, 125, 126, 127, 128, 129, 130, 131, 132, 133, 134, 135, 136, 137, 138, 139, 140, 141, 142, 143, 144, 145] [] (RfJ H1 ops0 ga ra gb rb) rfl (by repeat' first | exact Resp.retD | exact Resp1.valuesK | refine Resp.blockD ?_ | refine Resp.thenD ?_ ?_ | refine Resp.hcode ?_) ?_ ?_) | (refine HCode.step ?_; (repeat refine HReg.step ?_); first | (show HCode _ _ _ (Code.seq (Code.seq (Code.region _ _ _) (Code.block _ _)) _) _ _ _; refine hcutC (a := Code.seq (Code.region _ _ _) (Code.block _ _)) [4, 7, 8, 9, 10, 11, 12, 13, 14, 15, 16, 17, 44, 45, 46, 47, 48, 49, 50, 51, 52, 53, 54, 55, 56, 57, 58, 59, 60, 61, 62, 63, 64, 65, 66, 67, 68, 69, 70, 71, 72, 73, 74, 75, 76, 77, 78, 79, 80, 81, 82, 83, 84, 85, 86, 87, 88, 89, 90, 91, 92, 93, 94, 95, 96, 97, 98, 99, 100, 101, 102, 103, 104, 105, 106, 107, 108, 109, 110, 111, 112, 113, 114, 115, 116, 117, 118, 119, 120, 121, 122, 123, 124, 125, 126, 127, 128, 129, 130, 131, 132, 133, 134, 135, 136, 137, 138, 139, 140, 141, 142, 143, 144, 145] [] (RfJ H1 ops0 ga ra gb rb) rfl (by repeat' first | exact Resp.retD | exact Resp1.valuesK | refine Resp.blockD ?_ | refine Resp.thenD ?_ ?_ | refine Resp.hcode ?_) ?_ ?_) | (refine HCode.step ?_; (repeat refine HReg.step ?_); first | (show HCode _ _ _ (Code.seq (Code.seq (Code.region _ _ _) (Code.block _ _)) _) _ _ _; refine hcutC (a := Code.seq (Code.region _ _ _) (Code.block _ _)) [4, 7, 8, 9, 10, 11, 12, 13, 14, 15, 16, 17, 44, 45, 46, 47, 48, 49, 50, 51, 52, 53, 54, 55, 56, 57, 58, 59, 60, 61, 62, 63, 64, 65, 66, 67, 68, 69, 70, 71, 72, 73, 74, 75, 76, 77, 78, 79, 80, 81, 82, 83, 84, 85, 86, 87, 88, 89, 90, 91, 92, 93, 94, 95, 96, 97, 98, 99, 100, 101, 102, 103, 104, 105, 106, 107, 108, 109, 110, 111, 112, 113, 114, 115, 116, 117, 118, 119, 120, 121, 122, 123, 124, 125, 126, 127, 128, 129, 130, 131, 132, 133, 134, 135, 136, 137, 138, 139, 140, 141, 142, 143, 144, 145] [] (RfJ H1 ops0 ga ra gb rb) rfl (by repeat' first | exact Resp.retD | exact Resp1.valuesK | refine Resp.blockD ?_ | refine Resp.thenD ?_ ?_ | refine Resp.hcode ?_) ?_ ?_) | (refine HCode.step ?_; (repeat refine HReg.step ?_); first | (show HCode _ _ _ (Code.seq (Code.seq (Code.region _ _ _) (Code.block _ _)) _) _ _ _; refine hcutC (a := Code.seq (Code.region _ _ _) (Code.block _ _)) [4, 7, 8, 9, 10, 11, 12, 13, 14, 15, 16, 17, 44, 45, 46, 47, 48, 49, 50, 51, 52, 53, 54, 55, 56, 57, 58, 59, 60, 61, 62, 63, 64, 65, 66, 67, 68, 69, 70, 71, 72, 73, 74, 75, 76, 77, 78, 79, 80, 81, 82, 83, 84, 85, 86, 87, 88, 89, 90, 91, 92, 93, 94, 95, 96, 97, 98, 99, 100, 101, 102, 103, 104, 105, 106, 107, 108, 109, 110, 111, 112, 113, 114, 115, 116, 117, 118, 119, 120, 121, 122, 123, 124, 125, 126, 127, 128, 129, 130, 131, 132, 133, 134, 135, 136, 137, 138, 139, 140, 141, 142, 143, 144, 145] [] (RfJ H1 ops0 ga ra gb rb) rfl (by repeat' first | exact Resp.retD | exact Resp1.valuesK | refine Resp.blockD ?_ | refine Resp.thenD ?_ ?_ | refine Resp.hcode ?_) ?_ ?_) | (refine HCode.step ?_; (repeat refine HReg.step ?_); first | (show HCode _ _ _ (Code.seq (Code.seq (Code.region _ _ _) (Code.block _ _)) _) _ _ _; refine hcutC (a := Code.seq (Code.region _ _ _) (Code.block _ _)) [4, 7, 8, 9, 10, 11, 12, 13, 14, 15, 16, 17, 44, 45, 46, 47, 48, 49, 50, 51, 52, 53, 54, 55, 56, 57, 58, 59, 60, 61, 62, 63, 64, 65, 66, 67, 68, 69, 70, 71, 72, 73, 74, 75, 76, 77, 78, 79, 80, 81, 82, 83, 84, 85, 86, 87, 88, 89, 90, 91, 92, 93, 94, 95, 96, 97, 98, 99, 100, 101, 102, 103, 104, 105, 106, 107, 108, 109, 110, 111, 112, 113, 114, 115, 116, 117, 118, 119, 120, 121, 122, 123, 124, 125, 126, 127, 128, 129, 130, 131, 132, 133, 134, 135, 136, 137, 138, 139, 140, 141, 142, 143, 144, 145] [] (RfJ H1 ops0 ga ra gb rb) rfl (by repeat' first | exact Resp.retD | exact Resp1.valuesK | refine Resp.blockD ?_ | refine Resp.thenD ?_ ?_ | refine Resp.hcode ?_) ?_ ?_) | (refine HCode.step ?_; (repeat refine HReg.step ?_); first | (show HCode _ _ _ (Code.seq (Code.seq (Code.region _ _ _) (Code.block _ _)) _) _ _ _; refine hcutC (a := Code.seq (Code.region _ _ _) (Code.block _ _)) [4, 7, 8, 9, 10, 11, 12, 13, 14, 15, 16, 17, 44, 45, 46, 47, 48, 49, 50, 51, 52, 53, 54, 55, 56, 57, 58, 59, 60, 61, 62, 63, 64, 65, 66, 67, 68, 69, 70, 71, 72, 73, 74, 75, 76, 77, 78, 79, 80, 81, 82, 83, 84, 85, 86, 87, 88, 89, 90, 91, 92, 93, 94, 95, 96, 97, 98, 99, 100, 101, 102, 103, 104, 105, 106, 107, 108, 109, 110, 111, 112, 113, 114, 115, 116, 117, 118, 119, 120, 121, 122, 123, 124, 125, 126, 127, 128, 129, 130, 131, 132, 133, 134, 135, 136, 137, 138, 139, 140, 141, 142, 143, 144, 145] [] (RfJ H1 ops0 ga ra gb rb) rfl (by repeat' first | exact Resp.retD | exact Resp1.valuesK | refine Resp.blockD ?_ | refine Resp.thenD ?_ ?_ | refine Resp.hcode ?_) ?_ ?_) | (refine HCode.step ?_; (repeat refine HReg.step ?_); first | (show HCode _ _ _ (Code.seq (Code.seq (Code.region _ _ _) (Code.block _ _)) _) _ _ _; refine hcutC (a := Code.seq (Code.region _ _ _) (Code.block _ _)) [4, 7, 8, 9, 10, 11, 12, 13, 14, 15, 16, 17, 44, 45, 46, 47, 48, 49, 50, 51, 52, 53, 54, 55, 56, 57, 58, 59, 60, 61, 62, 63, 64, 65, 66, 67, 68, 69, 70, 71, 72, 73, 74, 75, 76, 77, 78, 79, 80, 81, 82, 83, 84, 85, 86, 87, 88, 89, 90, 91, 92, 93, 94, 95, 96, 97, 98, 99, 100, 101, 102, 103, 104, 105, 106, 107, 108, 109, 110, 111, 112, 113, 114, 115, 116, 117, 118, 119, 120, 121, 122, 123, 124, 125, 126, 127, 128, 129, 130, 131, 132, 133, 134, 135, 136, 137, 138, 139, 140, 141, 142, 143, 144, 145] [] (RfJ H1 ops0 ga ra gb rb) rfl (by repeat' first | exact Resp.retD | exact Resp1.valuesK | refine Resp.blockD ?_ | refine Resp.thenD ?_ ?_ | refine Resp.hcode ?_) ?_ ?_) | (refine HCode.step ?_; (repeat refine HReg.step ?_); first | (show HCode _ _ _ (Code.seq (Code.seq (Code.region _ _ _) (Code.block _ _)) _) _ _ _; refine hcutC (a := Code.seq (Code.region _ _ _) (Code.block _ _)) [4, 7, 8, 9, 10, 11, 12, 13, 14, 15, 16, 17, 44, 45, 46, 47, 48, 49, 50, 51, 52, 53, 54, 55, 56, 57, 58, 59, 60, 61, 62, 63, 64, 65, 66, 67, 68, 69, 70, 71, 72, 73, 74, 75, 76, 77, 78, 79, 80, 81, 82, 83, 84, 85, 86, 87, 88, 89, 90, 91, 92, 93, 94, 95, 96, 97, 98, 99, 100, 101, 102, 103, 104, 105, 106, 107, 108, 109, 110, 111, 112, 113, 114, 115, 116, 117, 118, 119, 120, 121, 122, 123, 124, 125, 126, 127, 128, 129, 130, 131, 132, 133, 134, 135, 136, 137, 138, 139, 140, 141, 142, 143, 144, 145] [] (RfJ H1 ops0 ga ra gb rb) rfl (by repeat' first | exact Resp.retD | exact Resp1.valuesK | refine Resp.blockD ?_ | refine Resp.thenD ?_ ?_ | refine Resp.hcode ?_) ?_ ?_) | (refine HCode.step ?_; (repeat refine HReg.step ?_); first | (show HCode _ _ _ (Code.seq (Code.seq (Code.region _ _ _) (Code.block _ _)) _) _ _ _; refine hcutC (a := Code.seq (Code.region _ _ _) (Code.block _ _)) [4, 7, 8, 9, 10, 11, 12, 13, 14, 15, 16, 17, 44, 45, 46, 47, 48, 49, 50, 51, 52, 53, 54, 55, 56, 57, 58, 59, 60, 61, 62, 63, 64, 65, 66, 67, 68, 69, 70, 71, 72, 73, 74, 75, 76, 77, 78, 79, 80, 81, 82, 83, 84, 85, 86, 87, 88, 89, 90, 91, 92, 93, 94, 95, 96, 97, 98, 99, 100, 101, 102, 103, 104, 105, 106, 107, 108, 109, 110, 111, 112, 113, 114, 115, 116, 117, 118, 119, 120, 121, 122, 123, 124, 125, 126, 127, 128, 129, 130, 131, 132, 133, 134, 135, 136, 137, 138, 139, 140, 141, 142, 143, 144, 145] [] (RfJ H1 ops0 ga ra gb rb) rfl (by repeat' first | exact Resp.retD | exact Resp1.valuesK | refine Resp.blockD ?_ | refine Resp.thenD ?_ ?_ | refine Resp.hcode ?_) ?_ ?_) | (refine HCode.step ?_; (repeat refine HReg.step ?_); first | (show HCode _ _ _ (Code.seq (Code.seq (Code.region _ _ _) (Code.block _ _)) _) _ _ _; refine hcutC (a := Code.seq (Code.region _ _ _) (Code.block _ _)) [4, 7, 8, 9, 10, 11, 12, 13, 14, 15, 16, 17, 44, 45, 46, 47, 48, 49, 50, 51, 52, 53, 54, 55, 56, 57, 58, 59, 60, 61, 62, 63, 64, 65, 66, 67, 68, 69, 70, 71, 72, 73, 74, 75, 76, 77, 78, 79, 80, 81, 82, 83, 84, 85, 86, 87, 88, 89, 90, 91, 92, 93, 94, 95, 96, 97, 98, 99, 100, 101, 102, 103, 104, 105, 106, 107, 108, 109, 110, 111, 112, 113, 114, 115, 116, 117, 118, 119, 120, 121, 122, 123, 124, 125, 126, 127, 128, 129, 130, 131, 132, 133, 134, 135, 136, 137, 138, 139, 140, 141, 142, 143, 144, 145] [] (RfJ H1 ops0 ga ra gb rb) rfl (by repeat' first | exact Resp.retD | exact Resp1.valuesK | refine Resp.blockD ?_ | refine Resp.thenD ?_ ?_ | refine Resp.hcode ?_) ?_ ?_) | (refine HCode.step ?_; (repeat refine HReg.step ?_); first | (show HCode _ _ _ (Code.seq (Code.seq (Code.region _ _ _) (Code.block _ _)) _) _ _ _; refine hcutC (a := Code.seq (Code.region _ _ _) (Code.block _ _)) [4, 7, 8, 9, 10, 11, 12, 13, 14, 15, 16, 17, 44, 45, 46, 47, 48, 49, 50, 51, 52, 53, 54, 55, 56, 57, 58, 59, 60, 61, 62, 63, 64, 65, 66, 67, 68, 69, 70, 71, 72, 73, 74, 75, 76, 77, 78, 79, 80, 81, 82, 83, 84, 85, 86, 87, 88, 89, 90, 91, 92, 93, 94, 95, 96, 97, 98, 99, 100, 101, 102, 103, 104, 105, 106, 107, 108, 109, 110, 111, 112, 113, 114, 115, 116, 117, 118, 119, 120, 121, 122, 123, 124, 125, 126, 127, 128, 129, 130, 131, 132, 133, 134, 135, 136, 137, 138, 139, 140, 141, 142, 143, 144, 145] [] (RfJ H1 ops0 ga ra gb rb) rfl (by repeat' first | exact Resp.retD | exact Resp1.valuesK | refine Resp.blockD ?_ | refine Resp.thenD ?_ ?_ | refine Resp.hcode ?_) ?_ ?_) | (refine HCode.step ?_; (repeat refine HReg.step ?_); first | (show HCode _ _ _ (Code.seq (Code.seq (Code.region _ _ _) (Code.block _ _)) _) _ _ _; refine hcutC (a := Code.seq (Code.region _ _ _) (Code.block _ _)) [4, 7, 8, 9, 10, 11, 12, 13, 14, 15, 16, 17, 44, 45, 46, 47, 48, 49, 50, 51, 52, 53, 54, 55, 56, 57, 58, 59, 60, 61, 62, 63, 64, 65, 66, 67, 68, 69, 70, 71, 72, 73, 74, 75, 76, 77, 78, 79, 80, 81, 82, 83, 84, 85, 86, 87, 88, 89, 90, 91, 92, 93, 94, 95, 96, 97, 98, 99, 100, 101, 102, 103, 104, 105, 106, 107, 108, 109, 110, 111, 112, 113, 114, 115, 116, 117, 118, 119, 120, 121, 122, 123, 124, 125, 126, 127, 128, 129, 130, 131, 132, 133, 134, 135, 136, 137, 138, 139, 140, 141, 142, 143, 144, 145] [] (RfJ H1 ops0 ga ra gb rb) rfl (by repeat' first | exact Resp.retD | exact Resp1.valuesK | refine Resp.blockD ?_ | refine Resp.thenD ?_ ?_ | refine Resp.hcode ?_) ?_ ?_) | (refine HCode.step ?_; (repeat refine HReg.step ?_); first | (show HCode _ _ _ (Code.seq (Code.seq (Code.region _ _ _) (Code.block _ _)) _) _ _ _; refine hcutC (a := Code.seq (Code.region _ _ _) (Code.block _ _)) [4, 7, 8, 9, 10, 11, 12, 13, 14, 15, 16, 17, 44, 45, 46, 47, 48, 49, 50, 51, 52, 53, 54, 55, 56, 57, 58, 59, 60, 61, 62, 63, 64, 65, 66, 67, 68, 69, 70, 71, 72, 73, 74, 75, 76, 77, 78, 79, 80, 81, 82, 83, 84, 85, 86, 87, 88, 89, 90, 91, 92, 93, 94, 95, 96, 97, 98, 99, 100, 101, 102, 103, 104, 105, 106, 107, 108, 109, 110, 111, 112, 113, 114, 115, 116, 117, 118, 119, 120, 121, 122, 123, 124, 125, 126, 127, 128, 129, 130, 131, 132, 133, 134, 135, 136, 137, 138, 139, 140, 141, 142, 143, 144, 145] [] (RfJ H1 ops0 ga ra gb rb) rfl (by repeat' first | exact Resp.retD | exact Resp1.valuesK | refine Resp.blockD ?_ | refine Resp.thenD ?_ ?_ | refine Resp.hcode ?_) ?_ ?_) | (refine HCode.step ?_; (repeat refine HReg.step ?_); first | (show HCode _ _ _ (Code.seq (Code.seq (Code.region _ _ _) (Code.block _ _)) _) _ _ _; refine hcutC (a := Code.seq (Code.region _ _ _) (Code.block _ _)) [4, 7, 8, 9, 10, 11, 12, 13, 14, 15, 16, 17, 44, 45, 46, 47, 48, 49, 50, 51, 52, 53, 54, 55, 56, 57, 58, 59, 60, 61, 62, 63, 64, 65, 66, 67, 68, 69, 70, 71, 72, 73, 74, 75, 76, 77, 78, 79, 80, 81, 82, 83, 84, 85, 86, 87, 88, 89, 90, 91, 92, 93, 94, 95, 96, 97, 98, 99, 100, 101, 102, 103, 104, 105, 106, 107, 108, 109, 110, 111, 112, 113, 114, 115, 116, 117, 118, 119, 120, 121, 122, 123, 124, 125, 126, 127, 128, 129, 130, 131, 132, 133, 134, 135, 136, 137, 138, 139, 140, 141, 142, 143, 144, 145] [] (RfJ H1 ops0 ga ra gb rb) rfl (by repeat' first | exact Resp.retD | exact Resp1.valuesK | refine Resp.blockD ?_ | refine Resp.thenD ?_ ?_ | refine Resp.hcode ?_) ?_ ?_) | (refine HCode.step ?_; (repeat refine HReg.step ?_); first | (show HCode _ _ _ (Code.seq (Code.seq (Code.region _ _ _) (Code.block _ _)) _) _ _ _; refine hcutC (a := Code.seq (Code.region _ _ _) (Code.block _ _)) [4, 7, 8, 9, 10, 11, 12, 13, 14, 15, 16, 17, 44, 45, 46, 47, 48, 49, 50, 51, 52, 53, 54, 55, 56, 57, 58, 59, 60, 61, 62, 63, 64, 65, 66, 67, 68, 69, 70, 71, 72, 73, 74, 75, 76, 77, 78, 79, 80, 81, 82, 83, 84, 85, 86, 87, 88, 89, 90, 91, 92, 93, 94, 95, 96, 97, 98, 99, 100, 101, 102, 103, 104, 105, 106, 107, 108, 109, 110, 111, 112, 113, 114, 115, 116, 117, 118, 119, 120, 121, 122, 123, 124, 125, 126, 127, 128, 129, 130, 131, 132, 133, 134, 135, 136, 137, 138, 139, 140, 141, 142, 143, 144, 145] [] (RfJ H1 ops0 ga ra gb rb) rfl (by repeat' first | exact Resp.retD | exact Resp1.valuesK | refine Resp.blockD ?_ | refine Resp.thenD ?_ ?_ | refine Resp.hcode ?_) ?_ ?_) | (refine HCode.step ?_; (repeat refine HReg.step ?_); first | (show HCode _ _ _ (Code.seq (Code.seq (Code.region _ _ _) (Code.block _ _)) _) _ _ _; refine hcutC (a := Code.seq (Code.region _ _ _) (Code.block _ _)) [4, 7, 8, 9, 10, 11, 12, 13, 14, 15, 16, 17, 44, 45, 46, 47, 48, 49, 50, 51, 52, 53, 54, 55, 56, 57, 58, 59, 60, 61, 62, 63, 64, 65, 66, 67, 68, 69, 70, 71, 72, 73, 74, 75, 76, 77, 78, 79, 80, 81, 82, 83, 84, 85, 86, 87, 88, 89, 90, 91, 92, 93, 94, 95, 96, 97, 98, 99, 100, 101, 102, 103, 104, 105, 106, 107, 108, 109, 110, 111, 112, 113, 114, 115, 116, 117, 118, 119, 120, 121, 122, 123, 124, 125, 126, 127, 128, 129, 130, 131, 132, 133, 134, 135, 136, 137, 138, 139, 140, 141, 142, 143, 144, 145] [] (RfJ H1 ops0 ga ra gb rb) rfl (by repeat' first | exact Resp.retD | exact Resp1.valuesK | refine Resp.blockD ?_ | refine Resp.thenD ?_ ?_ | refine Resp.hcode ?_) ?_ ?_) | (refine HCode.step ?_; (repeat refine HReg.step ?_); (show HCode _ _ _ (Code.seq (Code.seq (Code.region _ _ _) (Code.block _ _)) _) _ _ _; refine hcutC (a := Code.seq (Code.region _ _ _) (Code.block _ _)) [4, 7, 8, 9, 10, 11, 12, 13, 14, 15, 16, 17, 44, 45, 46, 47, 48, 49, 50, 51, 52, 53, 54, 55, 56, 57, 58, 59, 60, 61, 62, 63, 64, 65, 66, 67, 68, 69, 70, 71, 72, 73, 74, 75, 76, 77, 78, 79, 80, 81, 82, 83, 84, 85, 86, 87, 88, 89, 90, 91, 92, 93, 94, 95, 96, 97, 98, 99, 100, 101, 102, 103, 104, 105, 106, 107, 108, 109, 110, 111, 112, 113, 114, 115, 116, 117, 118, 119, 120, 121, 122, 123, 124, 125, 126, 127, 128, 129, 130, 131, 132, 133, 134, 135, 136, 137, 138, 139, 140, 141, 142, 143, 144, 145] [] (RfJ H1 ops0 ga ra gb rb) rfl (by repeat' first | exact Resp.retD | exact Resp1.valuesK | refine Resp.blockD ?_ | refine Resp.thenD ?_ ?_ | refine Resp.hcode ?_) ?_ ?_))))))))))))))))))))))
  · (repeat first | refine HReg.step ?_ | refine HCode.step ?_)
    refine hloopC [4, 7, 8, 9, 10, 11, 12, 13, 14, 15, 16, 17, 44, 45, 46, 47, 48, 49, 50, 51, 52, 53, 54, 55, 56, 57, 58, 59, 60, 61, 62, 63, 64, 65, 66, 67, 68, 69, 70, 71, 72, 73, 74, 75, 76, 77, 78, 79, 80, 81, 82, 83, 84, 85, 86, 87, 88, 89, 90, 91, 92, 93, 94, 95, 96, 97, 98, 99, 100, 101, 102, 103, 104, 105, 106, 107, 108, 109, 110, 111, 112, 113, 114, 115, 116, 117, 118, 119, 120, 121, 122, 123, 124, 125, 126, 127, 128, 129, 130, 131, 132, 133, 134, 135, 136, 137, 138, 139, 140, 141, 142, 143, 144, 145] [7] (RfInv H1 ops0 ga ra gb rb) rfl (by repeat' first | exact Resp.retD | exact Resp1.valuesK | refine Resp.blockD ?_ | refine Resp.thenD ?_ ?_ | refine Resp.hcode ?_) ?_ ?_
    · exact ⟨ops0.length, RfInv.mk ⟨0, sk, _, _, rfl, rfl, M7, k0, q0⟩⟩
    rintro m _ fe H8 ⟨i, s, fa, fb, rfl, hmi, M, ok, qu⟩
    have wi : wr .i64 ((i : Int) + 1) = ((i + 1 : Nat) : Int) := by rw [wr_i64 (by omega) (by omega)]; omega
    (repeat first | refine HReg.step ?_ | refine HCode.step ?_)
    refine hif (fun h2 => ?_) (fun h2 => ?_)
    · have h2 := ltB_true.1 h2
      obtain ⟨o, ho⟩ : ∃ o, ops0[i]? = some o := ⟨ops0[i]'(by omega), by simp⟩
      obtain ⟨ba, bo, rfl, _⟩ := r0 _ _ (orow_get ho 0 _ rfl)
      have hin := (h0 o (List.mem_of_getElem? ho)).upd0 u1
      have hs := opSum_take ho
      have hle := opSum_le ops0 (i + 1)
      have rr := r0.upd (S := []) (M.base (i := 0) rfl) (.inr (Off.nil _))
      (repeat first | refine HReg.step ?_ | refine HCode.step ?_)
      refine HReq.mk ⟨by omega, by omega⟩ ?_
      (repeat first | refine HReg.step ?_ | refine HCode.step ?_)
      refine HLoadN_op rr ho ?_
      (repeat first | refine HReg.step ?_ | refine HCode.step ?_)
      refine HNew.mk fun b14 hb14 => ?_
      (repeat first | refine HReg.step ?_ | refine HCode.step ?_)
      refine store_op (o := o) (OwnRow.lit (upd_same _ _ _) rfl) rfl fun H9 o9 u9 => ?_
      have u9 : Upd [] H8 H9 := Upd.drop (Upd.new hb14 _) u9 (fun q hq => by rw [List.mem_singleton.1 hq]; exact hb14)
      have M9 := M.upd0 u9
      have kd := o9.rows.get (i := 0) rfl
      have hf := hin.fits
      (repeat first | refine HReg.step ?_ | refine HCode.step ?_)
      refine HLoad.one (v := .int .i64 o.o.kind) (by exact kd) ?_
      by_cases e12 : o.o.kind = 12
      · (repeat first | refine HReg.step ?_ | refine HCode.step ?_)
        rw [eqB_true.2 e12]
        (repeat first | refine HReg.step ?_ | refine HCode.step ?_)
        rw [wi]
        exact ⟨m - 1, by omega, RfInv.mk ⟨i + 1, s, fa, fb, rfl, by omega, M9, ok.mono (by omega), qu⟩⟩
      (repeat first | refine HReg.step ?_ | refine HCode.step ?_)
      rw [eqB_false.2 e12]
      (repeat first | refine HReg.step ?_ | refine HCode.step ?_)
      refine HLoad.one (v := .int .i64 o.o.kind) (by exact kd) ?_
      by_cases e11 : o.o.kind = 11
      · (repeat first | refine HReg.step ?_ | refine HCode.step ?_)
        rw [eqB_true.2 e11]
        (repeat first | refine HReg.step ?_ | refine HCode.step ?_)
        rw [wi]
        exact ⟨m - 1, by omega, RfInv.mk ⟨i + 1, s, fa, fb, rfl, by omega, M9, ok.mono (by omega), qu⟩⟩
      (repeat first | refine HReg.step ?_ | refine HCode.step ?_)
      rw [eqB_false.2 e11]
      have D9 := M9.each 0 _ rfl
      (repeat first | refine HReg.step ?_ | refine HCode.step ?_)
      refine HLoadN_row o9.rows rfl ?_
      (repeat first | refine HReg.step ?_ | refine HCode.step ?_)
      refine HCall.mk ⟨Try.f29, Try.func29, by rfl, by rfl⟩ ?_
      refine does_t (o := o.o) (a := o.a) (c := o.c) D9 ok (hin.upd0 (M9.base (i := 0) rfl)).row (by omega) hf fun fa' H11 D11 S11 => ?_
      have M11 := M9.step (i := 0) rfl D11 S11
      simp only [List.set] at M11
      have o15 := o9.upd S11.upd (off_notin (D9.offT o9 (by decide) (by decide) (by decide)))
      (repeat first | refine HReg.step ?_ | refine HCode.step ?_)
      refine HLoadN_row2 o15.rows o9.rows rfl ?_
      (repeat first | refine HReg.step ?_ | refine HCode.step ?_)
      refine HCall.mk ⟨Try.f29, Try.func29, by rfl, by rfl⟩ ?_
      refine does_t (o := o.o) (a := o.a) (c := o.c) (M11.each 1 _ rfl) ok (hin.upd0 (M11.base (i := 0) rfl)).row (by omega) hf fun fb2 H12 D12 S12 => ?_
      have M12 := M11.step (i := 1) rfl D12 S12
      simp only [List.set] at M12
      have qu' : Quiet (s.does o.o).2 := qu.does e11 e12
      have ok' : (s.does o.o).2.Ok (1 + opSum (ops0.take (i + 1))) := (ok.does o.o).mono (by omega)
      (repeat first | refine HReg.step ?_ | refine HCode.step ?_)
      rw [eqB_self]
      generalize (s.does o.o).2 = t at qu' ok' M12
      clear M9 D9 M11 D11 S11 D12 S12 o15 o9 kd u9
      (repeat first | refine HReg.step ?_ | refine HCode.step ?_)
      refine hif (fun h3 => ?_) (fun h3 => ?_)
      · have h3 := ltB_true.1 h3
        (repeat first | refine HReg.step ?_ | refine HCode.step ?_)
        refine HCall.mk ⟨Try.f26, Try.func26, by rfl, by rfl⟩ ?_
        refine down_t (M12.each 0 _ rfl) ?_
        by_cases hoff : t.d.off = true
        · (repeat first | refine HReg.step ?_ | refine HCode.step ?_)
          rw [hoff]
          (repeat first | refine HReg.step ?_ | refine HCode.step ?_)
          rw [wi]
          exact ⟨m - 1, by omega, RfInv.mk ⟨i + 1, t, fa', fb2, rfl, by omega, M12, ok', qu'⟩⟩
        have hoff : t.d.off = false := by simpa using hoff
        (repeat first | refine HReg.step ?_ | refine HCode.step ?_)
        rw [hoff]
        obtain ⟨w, hw⟩ : ∃ o, ops1[i]? = some o := ⟨ops1[i]'(by omega), by simp⟩
        obtain ⟨wa, wo, rfl, _⟩ := r1 _ _ (orow_get hw 0 _ rfl)
        have win := (h1 w (List.mem_of_getElem? hw)).upd0 u1
        have ws := opSum_take hw
        have wle := opSum_le ops1 (i + 1)
        have wr1 := r1.upd (S := []) (M12.base (i := 0) rfl) (.inr (Off.nil _))
        (repeat first | refine HReg.step ?_ | refine HCode.step ?_)
        refine HReq.mk ⟨by omega, by omega⟩ ?_
        (repeat first | refine HReg.step ?_ | refine HCode.step ?_)
        refine HLoadN_op wr1 hw ?_
        (repeat first | refine HReg.step ?_ | refine HCode.step ?_)
        refine HNew.mk fun b16 hb16 => ?_
        (repeat first | refine HReg.step ?_ | refine HCode.step ?_)
        refine store_op (o := w) (OwnRow.lit (upd_same _ _ _) rfl) rfl fun H13 o13 u13 => ?_
        have u13 : Upd [] H12 H13 := Upd.drop (Upd.new hb16 _) u13 (fun q hq => by rw [List.mem_singleton.1 hq]; exact hb16)
        have M13 := M12.upd0 u13
        (repeat first | refine HReg.step ?_ | refine HCode.step ?_)
        refine HCall.mk ⟨Try.f33, Try.func33, by rfl, by rfl⟩ ?_
        refine full_t (n := 1) (M13.each 0 _ rfl) (by decide) fun H14 D14 S14 => ?_
        have M14 := M13.step (i := 0) rfl D14 S14
        simp only [List.set] at M14
        have o14 := o13.upd S14.upd (off_notin ((M13.each 0 _ rfl).offT o13 (by decide) (by decide) (by decide)))
        (repeat first | refine HReg.step ?_ | refine HCode.step ?_)
        refine HLoad.one (v := .slice w.a w.o.b.length w.c) (by exact o14.rows.get (i := 4) rfl) ?_
        (repeat first | refine HReg.step ?_ | refine HCode.step ?_)
        refine HCall.mk ⟨Try.f12, Try.func12, by rfl, by rfl⟩ ?_
        refine own_t (win.upd0 (M14.base (i := 0) rfl)).row rfl (by omega) fun a15 c15 H15 m15 => ?_
        (repeat first | refine HReg.step ?_ | refine HCode.step ?_)
        refine HReq.mk (by decide) ?_
        (repeat first | refine HReg.step ?_ | refine HCode.step ?_)
        refine HNew.mk fun b17 hb17 => ?_
        have v17 : Upd [] H15 (H15.upd b17 (.cells [Value.int .u8 1].toArray 5)) := Upd.new hb17 _
        have r17 : RowAt (H15.upd b17 (.cells [Value.int .u8 1].toArray 5)) (some ⟨b17, 0, none⟩) (u8s [1]) := RowAt.of_cells (upd_same _ _ _)
        generalize H15.upd b17 (.cells [Value.int .u8 1].toArray 5) = H16 at v17 r17 ⊢
        (repeat first | refine HReg.step ?_ | refine HCode.step ?_)
        refine append_made (m15.step v17) r17 rfl (by omega) fun a16 c16 H17 m17 => ?_
        obtain ⟨r, hr, eA, eE⟩ := wrong_append qu' hoff ok' (ys := w.o.b ++ [1]) (by simp)
        have lec : ∀ x, (t.full 1).call.fs keptN = some x → x.1.length ≤ 1 + opSum (ops0.take (i + 1)) := fun x hx => by
          rw [full_call qu' hoff ok'] at hx
          exact (ok'.le _ _ hx).1
        (repeat first | refine HReg.step ?_ | refine HCode.step ?_)
        refine HCall.mk ⟨Try.f11, Try.func11, by rfl, by rfl⟩ ?_
        refine append_t (n := keptN) ((M14.each 0 _ rfl).upd0 m17.upd) m17.own.rows (by rw [List.length_append]; rfl) (off_made (M14.each 0 _ rfl) m17) (fun x y hx => by have := lec _ hx; simp only at this; omega) (by omega) fun f18 H18 D18 S18 => ?_
        have o17 := o14.upd m17.upd (Off.nil _)
        have o18 := o17.upd S18.upd (off_notin (((M14.each 0 _ rfl).upd0 m17.upd).offT o17 (by decide) (by decide) (by decide)))
        rw [eA] at D18
        rw [eE]
        have M18 := (M14.upd0 m17.upd).step (i := 0) rfl D18 S18
        simp only [List.set] at M18
        clear m15 m17 o14 o13 o17 D14 S14 D18 S18 v17 r17 M13 M14
        (repeat first | refine HReg.step ?_ | refine HCode.step ?_)
        refine HLoad.one (v := .slice w.a w.o.b.length w.c) (by exact o18.rows.get (i := 4) rfl) ?_
        (repeat first | refine HReg.step ?_ | refine HCode.step ?_)
        refine HCall.mk ⟨Try.f12, Try.func12, by rfl, by rfl⟩ ?_
        refine own_t (win.upd0 (M18.base (i := 0) rfl)).row rfl (by omega) fun a19 c19 H19 m19 => ?_
        (repeat first | refine HReg.step ?_ | refine HCode.step ?_)
        refine HCall.mk ⟨Try.f11, Try.func11, by rfl, by rfl⟩ ?_
        refine append_t (n := bs []) ((M18.each 0 _ rfl).upd0 m19.upd) m19.own.rows rfl (off_made (M18.each 0 _ rfl) m19) (fun x y hx => by
          have h5 : (t.full r).call.fs (bs []) = some (x, y) := hx
          rw [full_call qu' hoff ok'] at h5
          have h6 : t.fs (bs []) = some (x, y) := h5
          rw [no_long qu' hoff ok' empty_no] at h6; cases h6) (by omega) fun f20 H20 D20 S20 => ?_
        have o19 := o18.upd m19.upd (Off.nil _)
        have o20 := o19.upd S20.upd (off_notin (((M18.each 0 _ rfl).upd0 m19.upd).offT o19 (by decide) (by decide) (by decide)))
        rw [wrong_empty qu' hoff ok'] at D20
        rw [wrong_empty qu' hoff ok']
        have M20 := (M18.upd0 m19.upd).step (i := 0) rfl D20 S20
        simp only [List.set] at M20
        clear m19 o18 o19 D20 S20 M18
        (repeat first | refine HReg.step ?_ | refine HCode.step ?_)
        refine HCall.mk ⟨Try.f13, Try.func13, by rfl, by rfl⟩ ?_
        refine sync_f (n := longA) (M20.each 0 _ rfl) fun f21 H21 D21 S21 => ?_
        have o21 := o20.upd S21.upd (off_notin ((M20.each 0 _ rfl).offT o20 (by decide) (by decide) (by decide)))
        rw [wrong_sync qu' hoff ok' r longA_no] at D21 ⊢
        have M21 := M20.step (i := 0) rfl D21 S21
        simp only [List.set] at M21
        (repeat first | refine HReg.step ?_ | refine HCode.step ?_)
        refine HCall.mk ⟨Try.f18, Try.func18, by rfl, by rfl⟩ ?_
        refine read_f (n := bs []) (M21.each 0 _ rfl) fun a22 c22 f22 H22 H23 D22 S22 m23 => ?_
        have o22 := o21.upd S22.upd (off_notin ((M21.each 0 _ rfl).offT o21 (by decide) (by decide) (by decide)))
        have o23 := o22.upd m23.upd (Off.nil _)
        rw [full_call qu' hoff ok'] at D22
        have M22 := M21.step (i := 0) rfl D22 S22
        simp only [List.set] at M22
        have M23 := M22.upd0 m23.upd
        rw [wrong_read qu' hoff ok' r empty_no]
        (repeat first | refine HReg.step ?_ | refine HCode.step ?_)
        refine HCall.mk ⟨Try.f15, Try.func15, by rfl, by rfl⟩ ?_
        refine rename_t (n := keptN) (to := longB) (M23.each 0 _ rfl) fun f24 H24 D24 S24 => ?_
        have o24 := o23.upd S24.upd (off_notin ((M23.each 0 _ rfl).offT o23 (by decide) (by decide) (by decide)))
        rw [wrong_rename qu' hoff ok' r keptN longB_no] at D24 ⊢
        have M24 := M23.step (i := 0) rfl D24 S24
        simp only [List.set] at M24
        (repeat first | refine HReg.step ?_ | refine HCode.step ?_)
        refine HCall.mk ⟨Try.f34, Try.func34, by rfl, by rfl⟩ ?_
        refine size_f (n := keptN) (M24.each 0 _ rfl) fun f25 H25 D25 S25 => ?_
        have o25 := o24.upd S25.upd (off_notin ((M24.each 0 _ rfl).offT o24 (by decide) (by decide) (by decide)))
        rw [full_call qu' hoff ok'] at D25
        have M25 := M24.step (i := 0) rfl D25 S25
        simp only [List.set] at M25
        clear o20 o21 o22 o23 o24 D21 S21 D22 S22 m23 D24 S24 D25 S25 M20 M21 M22 M23 M24
        cases hkf : t.fs keptN with
        | none =>
          rw [size_no qu' hoff ok' r hkf]
          (repeat first | refine HReg.step ?_ | refine HCode.step ?_)
          rw [show eqB 61 0 = false from eqB_false.2 (by decide)]
          (repeat first | refine HReg.step ?_ | refine HCode.step ?_)
          refine HCall.mk ⟨Try.f33, Try.func33, by rfl, by rfl⟩ ?_
          refine full_t (n := 0) (M25.each 0 _ rfl) (by decide) fun H29 D29 S29 => ?_
          have e29 : (t.full r).full 0 = t := by
            show t.full 0 = t
            exact full_zero qu'
          rw [e29] at D29
          have M29 := M25.step (i := 0) rfl D29 S29
          simp only [List.set] at M29
          (repeat first | refine HReg.step ?_ | refine HCode.step ?_)
          rw [eqB_self 1]
          (repeat first | refine HReg.step ?_ | refine HCode.step ?_)
          rw [eqB_self 61]
          (repeat first | refine HReg.step ?_ | refine HCode.step ?_)
          rw [eqB_self 61]
          (repeat first | refine HReg.step ?_ | refine HCode.step ?_)
          rw [eqB_self 1]
          (repeat first | refine HReg.step ?_ | refine HCode.step ?_)
          rw [wi]
          exact ⟨m - 1, by omega, RfInv.mk ⟨i + 1, t, _, fb2, rfl, by omega, M29, ok', qu'⟩⟩
        | some xy =>
          obtain ⟨x, y⟩ := xy
          have hx := (ok'.le _ _ hkf).1
          simp only at hx
          rw [size_yes qu' hoff ok' r hkf]
          (repeat first | refine HReg.step ?_ | refine HCode.step ?_)
          rw [eqB_self 0]
          (repeat first | refine HReg.step ?_ | refine HCode.step ?_)
          rw [if_neg (fun h => by cases h.1)]
          (repeat first | refine HReg.step ?_ | refine HCode.step ?_)
          rw [eqB_self 60]
          have w1 : wr .i64 (((0, x).2.length : Int) + 1) = ((x.length + 1 : Nat) : Int) := by
            show wr .i64 ((x.length : Int) + 1) = _
            rw [wr_i64 (by omega) (by omega)]; omega
          (repeat first | refine HReg.step ?_ | refine HCode.step ?_)
          rw [w1]
          (repeat first | refine HReg.step ?_ | refine HCode.step ?_)
          refine HCall.mk ⟨Try.f35, Try.func35, by rfl, by rfl⟩ ?_
          refine cut_t (n := keptN) (M25.each 0 _ rfl) fun f26 H26 D26 S26 => ?_
          have o26 := o25.upd S26.upd (off_notin ((M25.each 0 _ rfl).offT o25 (by decide) (by decide) (by decide)))
          rw [wrong_cut qu' hoff ok' r hkf (.inr (by omega))] at D26 ⊢
          have M26 := M25.step (i := 0) rfl D26 S26
          simp only [List.set] at M26
          (repeat first | refine HReg.step ?_ | refine HCode.step ?_)
          rw [eqB_self 1]
          (repeat first | refine HReg.step ?_ | refine HCode.step ?_)
          refine HLoad.one (v := .int .i64 w.o.n) (by exact o26.rows.get (i := 5) rfl) ?_
          have ha : bitsS .and .i64 w.o.n 255 = w.o.n % 256 := and_mask w.o.n 8 (by decide)
          have hn0 : 0 ≤ w.o.n % 256 := Int.emod_nonneg _ (by decide)
          have hn1 : w.o.n % 256 < 256 := Int.emod_lt_of_pos _ (by decide)
          (repeat first | refine HReg.step ?_ | refine HCode.step ?_)
          rw [ha, wr_i64 (n := -1 - w.o.n % 256) (by omega) (by omega)]
          (repeat first | refine HReg.step ?_ | refine HCode.step ?_)
          refine HCall.mk ⟨Try.f35, Try.func35, by rfl, by rfl⟩ ?_
          refine cut_t (n := keptN) (M26.each 0 _ rfl) fun f27 H27 D27 S27 => ?_
          rw [wrong_cut qu' hoff ok' r hkf (.inl (by omega))] at D27 ⊢
          have M27 := M26.step (i := 0) rfl D27 S27
          simp only [List.set] at M27
          (repeat first | refine HReg.step ?_ | refine HCode.step ?_)
          rw [eqB_self 1]
          (repeat first | refine HReg.step ?_ | refine HCode.step ?_)
          refine HCall.mk ⟨Try.f33, Try.func33, by rfl, by rfl⟩ ?_
          refine full_t (n := 0) (M27.each 0 _ rfl) (by decide) fun H29 D29 S29 => ?_
          have e29 : (t.full r).full 0 = t := by
            show t.full 0 = t
            exact full_zero qu'
          rw [e29] at D29
          have M29 := M27.step (i := 0) rfl D29 S29
          simp only [List.set] at M29
          (repeat first | refine HReg.step ?_ | refine HCode.step ?_)
          rw [eqB_self 1]
          (repeat first | refine HReg.step ?_ | refine HCode.step ?_)
          rw [eqB_self 61]
          (repeat first | refine HReg.step ?_ | refine HCode.step ?_)
          rw [eqB_self 61]
          (repeat first | refine HReg.step ?_ | refine HCode.step ?_)
          rw [eqB_self 1]
          (repeat first | refine HReg.step ?_ | refine HCode.step ?_)
          rw [wi]
          exact ⟨m - 1, by omega, RfInv.mk ⟨i + 1, t, _, fb2, rfl, by omega, M29, ok', qu'⟩⟩
      · (repeat first | refine HReg.step ?_ | refine HCode.step ?_)
        rw [wi]
        exact ⟨m - 1, by omega, RfInv.mk ⟨i + 1, t, fa', fb2, rfl, by omega, M12, ok', qu'⟩⟩
    · have h2 := ltB_false.1 h2
      (repeat first | refine HReg.step ?_ | refine HCode.step ?_)
      obtain rfl : i = ops0.length := by omega
      rw [List.take_length] at ok
      exact RfJ.mk ⟨s, fa, fb, rfl, M, ok, qu⟩
  rintro _ fe1 H8 ⟨s, fa, fb, rfl, M, ok, qu⟩
  have l5 : 1 + opSum ops0 ≤ 140737488355328 := by omega
  (repeat first | refine HReg.step ?_ | refine HCode.step ?_)
  refine HCall.mk ⟨Try.f30, Try.func30, by rfl, by rfl⟩ ?_
  refine many_shot (i := 0) (d := ⟨ga, ra, s, fa⟩) M rfl ok l5 fun x40 y40 c40 e40 ns40 fl40 G40 B40 N40 ub40 V40 nm40 g40 => ?_
  simp only [List.set] at N40
  (repeat first | refine HReg.step ?_ | refine HCode.step ?_)
  refine HNew.mk fun b40s hb40s => ?_
  (repeat first | refine HReg.step ?_ | refine HCode.step ?_)
  refine store_shot (OwnRow.lit (upd_same _ _ _) rfl) rfl fun P40 o40 u40 => ?_
  have u40 : Upd [] G40 P40 := Upd.drop (Upd.new hb40s _) u40 (fun q hq => by rw [List.mem_singleton.1 hq]; exact hb40s)
  have N40 := N40.upd0 u40
  have w40 := N40.rest (i := 0) rfl
  have o40 := N40.keepO o40 (by decide) (by decide) (by decide)
  have V40 := V40.upd0 w40
  have N40 := N40.less
  have uB := u1.trans (ub40.trans w40)
  (repeat first | refine HReg.step ?_ | refine HCode.step ?_)
  refine HCall.mk ⟨Try.f30, Try.func30, by rfl, by rfl⟩ ?_
  refine many_shot (i := 1) (d := ⟨gb, rb, s, fb⟩) N40 rfl ok l5 fun x41 y41 c41 e41 ns41 fl41 G41 B41 N41 ub41 V41 nm41 g41 => ?_
  simp only [List.set] at N41
  have V40 := V40.upd0 ub41
  have o40 := o40.upd ub41 (Off.nil _)
  (repeat first | refine HReg.step ?_ | refine HCode.step ?_)
  refine HNew.mk fun b41s hb41s => ?_
  (repeat first | refine HReg.step ?_ | refine HCode.step ?_)
  refine store_shot (OwnRow.lit (upd_same _ _ _) rfl) rfl fun P41 o41 u41 => ?_
  have u41 : Upd [] G41 P41 := Upd.drop (Upd.new hb41s _) u41 (fun q hq => by rw [List.mem_singleton.1 hq]; exact hb41s)
  have N41 := N41.upd0 u41
  have w41 := N41.rest (i := 0) rfl
  have o41 := N41.keepO o41 (by decide) (by decide) (by decide)
  have V40 := V40.upd0 w41
  have V41 := V41.upd0 w41
  have o40 := o40.upd w41 (Off.nil _)
  have N41 := N41.less
  have uB := uB.trans (ub41.trans w41)
  (repeat first | refine HReg.step ?_ | refine HCode.step ?_)
  refine HCall.mk ⟨Try.f31, Try.func31, by rfl, by rfl⟩ ?_
  refine crash_t (N41.each 0 _ rfl) fun f42 H42 D42 S42 => ?_
  have N42 := N41.step (i := 0) rfl D42 S42
  simp only [List.set] at N42
  (repeat first | refine HReg.step ?_ | refine HCode.step ?_)
  refine HCall.mk ⟨Try.f31, Try.func31, by rfl, by rfl⟩ ?_
  refine crash_t (N42.each 1 _ rfl) fun f43 H43 D43 S43 => ?_
  have N43 := N42.step (i := 1) rfl D43 S43
  simp only [List.set] at N43
  have ok3 : (s.upp.crash 0).Ok (1 + opSum ops0) := ok.upp.crash 0
  (repeat first | refine HReg.step ?_ | refine HCode.step ?_)
  refine HCall.mk ⟨Try.f30, Try.func30, by rfl, by rfl⟩ ?_
  refine many_shot (i := 0) (d := ⟨ga, ra, s.upp.crash 0, f42⟩) N43 rfl ok3 l5 fun x44 y44 c44 e44 ns44 fl44 G44 B44 N44 ub44 V44 nm44 g44 => ?_
  simp only [List.set] at N44
  have V40 := V40.upd0 ub44
  have V41 := V41.upd0 ub44
  have o40 := o40.upd ub44 (Off.nil _)
  have o41 := o41.upd ub44 (Off.nil _)
  (repeat first | refine HReg.step ?_ | refine HCode.step ?_)
  refine HNew.mk fun b44s hb44s => ?_
  (repeat first | refine HReg.step ?_ | refine HCode.step ?_)
  refine store_shot (OwnRow.lit (upd_same _ _ _) rfl) rfl fun P44 o44 u44 => ?_
  have u44 : Upd [] G44 P44 := Upd.drop (Upd.new hb44s _) u44 (fun q hq => by rw [List.mem_singleton.1 hq]; exact hb44s)
  have N44 := N44.upd0 u44
  have w44 := N44.rest (i := 0) rfl
  have o44 := N44.keepO o44 (by decide) (by decide) (by decide)
  have V40 := V40.upd0 w44
  have V41 := V41.upd0 w44
  have V44 := V44.upd0 w44
  have o40 := o40.upd w44 (Off.nil _)
  have o41 := o41.upd w44 (Off.nil _)
  have N44 := N44.less
  have uB := uB.trans (ub44.trans w44)
  (repeat first | refine HReg.step ?_ | refine HCode.step ?_)
  refine HCall.mk ⟨Try.f30, Try.func30, by rfl, by rfl⟩ ?_
  refine many_shot (i := 1) (d := ⟨gb, rb, s.upp.crash 0, f43⟩) N44 rfl ok3 l5 fun x45 y45 c45 e45 ns45 fl45 G45 B45 N45 ub45 V45 nm45 g45 => ?_
  simp only [List.set] at N45
  have V40 := V40.upd0 ub45
  have V41 := V41.upd0 ub45
  have V44 := V44.upd0 ub45
  have o40 := o40.upd ub45 (Off.nil _)
  have o41 := o41.upd ub45 (Off.nil _)
  have o44 := o44.upd ub45 (Off.nil _)
  (repeat first | refine HReg.step ?_ | refine HCode.step ?_)
  refine HNew.mk fun b45s hb45s => ?_
  (repeat first | refine HReg.step ?_ | refine HCode.step ?_)
  refine store_shot (OwnRow.lit (upd_same _ _ _) rfl) rfl fun P45 o45 u45 => ?_
  have u45 : Upd [] G45 P45 := Upd.drop (Upd.new hb45s _) u45 (fun q hq => by rw [List.mem_singleton.1 hq]; exact hb45s)
  have N45 := N45.upd0 u45
  have w45 := N45.rest (i := 0) rfl
  have o45 := N45.keepO o45 (by decide) (by decide) (by decide)
  have V40 := V40.upd0 w45
  have V41 := V41.upd0 w45
  have V44 := V44.upd0 w45
  have V45 := V45.upd0 w45
  have o40 := o40.upd w45 (Off.nil _)
  have o41 := o41.upd w45 (Off.nil _)
  have o44 := o44.upd w45 (Off.nil _)
  have N45 := N45.less
  have uB := uB.trans (ub45.trans w45)
  have hn1 : ns41 = ns40 := nm41.uniq nm40 fun k => Iff.rfl
  have hn2 : ns45 = ns44 := nm45.uniq nm44 fun k => Iff.rfl
  subst hn1 hn2
  have ue := N45.base (i := 0) rfl
  have V40 := V40.upd0 ue
  have V41 := V41.upd0 ue
  have V44 := V44.upd0 ue
  have V45 := V45.upd0 ue
  have o40 := o40.upd ue (Off.nil _)
  have o41 := o41.upd ue (Off.nil _)
  have o44 := o44.upd ue (Off.nil _)
  have o45 := o45.upd ue (Off.nil _)
  (repeat first | refine HReg.step ?_ | refine HCode.step ?_)
  refine HLoadN_row o40.rows rfl ?_
  (repeat first | refine HReg.step ?_ | refine HCode.step ?_)
  refine HLoadN_row o41.rows rfl ?_
  (repeat first | refine HReg.step ?_ | refine HCode.step ?_)
  refine HCall.mk ⟨Try.f32, Try.func32, by rfl, by rfl⟩ ?_
  refine sameShot_t V40 V41 (by omega) (by rw [List.length_map]; omega) fun H50 u50 => ?_
  (repeat first | refine HReg.step ?_ | refine HCode.step ?_)
  refine HLoadN_row (o44.upd u50 (Off.nil _)).rows rfl ?_
  (repeat first | refine HReg.step ?_ | refine HCode.step ?_)
  refine HLoadN_row (o45.upd u50 (Off.nil _)).rows rfl ?_
  (repeat first | refine HReg.step ?_ | refine HCode.step ?_)
  refine HCall.mk ⟨Try.f32, Try.func32, by rfl, by rfl⟩ ?_
  refine sameShot_t (V44.upd0 u50) (V45.upd0 u50) (by omega) (by rw [List.length_map]; omega) fun H51 u51 => ?_
  (repeat first | refine HReg.step ?_ | refine HCode.step ?_)
  exact hk H51 (uB.trans (ue.trans (u50.trans u51)))
end
end Go.Proofs.Ytocejipjnklieaa
