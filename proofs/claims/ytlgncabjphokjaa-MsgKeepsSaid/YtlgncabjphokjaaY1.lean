import Derived.Test.YtlgncabjphokjaaG14
namespace Go.Proofs.Ytlgncabjphokjaa
open Go Hv
set_option linter.unusedVariables false
set_option linter.unusedSimpArgs false
set_option maxRecDepth 10000
set_option maxHeartbeats 1000000
/-! MsgKeeps: the mark. CUT2 -/
def markT (i : Nat) : Txt := [UInt8.ofNat i, 7, 7]
theorem mark_cells (i : Nat) : [Value.int .u8 ((i % 256 : Nat) : Int), .int .u8 7, .int .u8 7] = u8s (markT i) := by
  simp [markT, u8s, u8]
section
variable {H : Heap} {K : Value → Heap → Prop}
theorem mark_t {i : Nat} (hk : ∀ H', Upd [] H H' → K (.string (bs (markT i))) H') : HCalls Try.prog 41 [.int .i64 (i : Int)] H K := by
  refine hcalls (fn := Try.f41) [] mixed Try.func41 rfl rfl (by decide +kernel) ?_
  have wi : wr .u8 (i : Int) = ((i % 256 : Nat) : Int) := wr8 i
  (repeat first | refine HReg.step ?_ | refine HCode.step ?_)
  rw [wi]
  refine HReq.mk (by decide) ?_
  (repeat first | refine HReg.step ?_ | refine HCode.step ?_)
  refine HNew.mk fun b hb => ?_
  have u1 : Upd [] H (H.upd b (.cells [Value.int .u8 ((i % 256 : Nat) : Int), .int .u8 7, .int .u8 7].toArray 5)) := Upd.new hb _
  have r1 : RowAt (H.upd b (.cells [Value.int .u8 ((i % 256 : Nat) : Int), .int .u8 7, .int .u8 7].toArray 5)) (some ⟨b, 0, none⟩) (u8s (markT i)) := by
    rw [← mark_cells]; exact RowAt.of_cells (upd_same _ _ _)
  generalize hH1 : H.upd b (.cells [Value.int .u8 ((i % 256 : Nat) : Int), .int .u8 7, .int .u8 7].toArray 5) = H1 at u1 r1
  (repeat first | refine HReg.step ?_ | refine HCode.step ?_)
  refine HBytes.row (markT i) rfl (by simpa using r1) ?_ (by simp)
  (repeat first | refine HReg.step ?_ | refine HCode.step ?_)
  exact hk H1 u1
end
end Go.Proofs.Ytlgncabjphokjaa
