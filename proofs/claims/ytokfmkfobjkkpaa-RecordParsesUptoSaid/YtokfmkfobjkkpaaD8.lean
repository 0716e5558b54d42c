import Derived.Test.YtokfmkfobjkkpaaQ5
namespace Go.Proofs.Ytokfmkfobjkkpaa
open Go Hv
set_option linter.unusedVariables false
set_option linter.unusedSimpArgs false
set_option maxRecDepth 10000
set_option maxHeartbeats 2000000
/-! The document's piece -/
section
variable {H : Heap} {K : Value → Heap → Prop}
theorem piece_t {a : Option Addr} {L c p : Nat} {l : List UInt8} (hr : RowAt H a (u8s l)) (hl : l.length = L) (hc : L ≤ c) (hlim : L ≤ 100000000000) (hp : p ≤ 100000000000)
    (hk : K (.tuple #[.string (bs (pieceR l p).1), .int .i64 ((pieceR l p).2 : Int)]) H) : HCalls Try.prog 69 [.slice a L c, .int .i64 (p : Int)] H K := by
  refine hcalls (fn := Try.f69) [] mixed Try.func69 rfl rfl (by decide +kernel) ?_
  subst hl
  have hg := getR_lt l p 4
  have hg : getR l p 4 < 4294967296 := hg
  have w0 : wr .i64 (getR l p 4 : Int) = (getR l p 4 : Int) := by rw [wr_i64 (by omega) (by omega)]
  have w4 : wr .i64 ((p : Int) + 4) = ((p + 4 : Nat) : Int) := by rw [wr_i64 (by omega) (by omega)]; omega
  (repeat first | refine HReg.step ?_ | refine HCode.step ?_)
  refine HCall.mk ⟨Try.f48, Try.func48, by rfl, by rfl⟩ ?_
  refine get_t (n := 4) hr rfl (by omega) (by omega) (by decide) ?_
  have inst0 : ∀ (x y : Int) (i : Decidable (Builtin.min = Builtin.max)), (@ite Int (Builtin.min = Builtin.max) i (if y > x then y else x) (if y < x then y else x)) = min x y := fun x y i => by
    rw [if_neg (by intro h; cases h)]
    by_cases h : y < x
    · rw [if_pos h]; omega
    · rw [if_neg h]; omega
  obtain ⟨fr, hfr⟩ : ∃ fr : Nat, fr = min (p + 4) l.length := ⟨_, rfl⟩
  obtain ⟨to, hto⟩ : ∃ to : Nat, to = min (fr + getR l p 4) l.length := ⟨_, rfl⟩
  have hfr0 := hfr
  have hto0 := hto
  have e1 : min ((p + 4 : Nat) : Int) (l.length : Int) = (fr : Int) := by omega
  have w5 : wr .i64 ((fr : Int) + (getR l p 4 : Int)) = ((fr + getR l p 4 : Nat) : Int) := by rw [wr_i64 (by omega) (by omega)]; omega
  have e2 : min ((fr + getR l p 4 : Nat) : Int) (l.length : Int) = (to : Int) := by omega
  have w6 : wr .i64 (((p + 4 : Nat) : Int) + (getR l p 4 : Int)) = ((p + 4 + getR l p 4 : Nat) : Int) := by rw [wr_i64 (by omega) (by omega)]; omega
  (repeat first | refine HReg.step ?_ | refine HCode.step ?_)
  rw [w0, w4, inst0, e1, w5, inst0, e2]
  refine HReq.mk ⟨by omega, by omega⟩ ?_
  refine HReq.mk ⟨by omega, by omega⟩ ?_
  (repeat first | refine HReg.step ?_ | refine HCode.step ?_)
  refine HBytes.row ((l.drop fr).take (to - fr)) (by rw [List.length_take, List.length_drop, Int.toNat_natCast, Int.toNat_natCast]; omega) (fun H' hH => by rw [List.mem_singleton.1 hH]; exact row_cut hr (by omega)) ?_ (by simp)
  (repeat first | refine HReg.step ?_ | refine HCode.step ?_)
  rw [w4, w6]
  have e : pieceR l p = ((l.drop fr).take (to - fr), p + 4 + getR l p 4) := by
    unfold pieceR; rw [← hfr, ← hto]
  rw [e] at hk
  exact hk
end
end Go.Proofs.Ytokfmkfobjkkpaa
