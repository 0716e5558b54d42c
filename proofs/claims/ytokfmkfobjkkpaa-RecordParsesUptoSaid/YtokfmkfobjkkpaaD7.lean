import Derived.Test.YtokfmkfobjkkpaaD5
namespace Go.Proofs.Ytokfmkfobjkkpaa
open Go Hv
set_option linter.unusedVariables false
set_option linter.unusedSimpArgs false
set_option maxRecDepth 10000
set_option maxHeartbeats 2000000
/-! The document's get, piece -/
/-- A number of n bytes at a place; beyond the end the bytes are 0. -/
def getR (l : List UInt8) (at_ : Nat) : Nat → Nat
  | 0 => 0
  | n + 1 => getR l at_ n * 256 + (match l[at_ + n]? with | some c => c.toNat | none => 0)
theorem getR_lt (l : List UInt8) (a : Nat) : ∀ n, getR l a n < 256 ^ n
  | 0 => by show 0 < 1; decide
  | n + 1 => by
    have ih := getR_lt l a n
    have hc : (match l[a + n]? with | some c => c.toNat | none => 0) < 256 := by
      cases l[a + n]? with
      | none => show (0 : Nat) < 256; decide
      | some c => exact c.toNat_lt
    show getR l a n * 256 + _ < 256 ^ (n + 1)
    rw [Nat.pow_succ]
    omega
structure GeInv (l : List UInt8) (a n : Nat) (H : Heap) (m : Nat) (vs : List Value) (H' : Heap) : Prop where
  ex : ∃ i : Nat, vs = [.int .u64 (getR l a i : Int), .int .i64 (i : Int)] ∧ m + i = n ∧ H' = H
structure GeJ (l : List UInt8) (a i : Nat) (H : Heap) (vs : List Value) (H' : Heap) : Prop where
  ex : vs = [.int .u64 (getR l a (i + 1) : Int)] ∧ H' = H
section
variable {H : Heap} {K : Value → Heap → Prop}
theorem get_t {a : Option Addr} {L c p n : Nat} {l : List UInt8} (hr : RowAt H a (u8s l)) (hl : l.length = L) (hlim : L ≤ 1000000000000) (hp : p ≤ 1000000000000) (hn : n ≤ 8)
    (hk : K (.int .u64 (getR l p n : Int)) H) : HCalls Try.prog 48 [.slice a L c, .int .i64 (p : Int), .int .i64 (n : Int)] H K := by
  refine hcalls (fn := Try.f48) [] mixed Try.func48 rfl rfl (by decide +kernel) ?_
  subst hl
  (repeat first | refine HReg.step ?_ | refine HCode.step ?_)
  refine hloopC [7, 8, 9, 10, 11, 12, 13, 14, 15, 16, 17, 18, 19, 20, 21, 22, 23, 24, 25, 26, 27, 28, 29, 30] [7, 8] (GeInv l p n H) rfl (by repeat' first | exact Resp.retD | exact Resp1.valuesK | refine Resp.blockD ?_ | refine Resp.thenD ?_ ?_ | refine Resp.hcode ?_) ?_ ?_
  · exact ⟨n, GeInv.mk ⟨0, rfl, rfl, rfl⟩⟩
  rintro m _ fe H1 ⟨i, rfl, hmi, rfl⟩
  have wi : wr .i64 ((i : Int) + 1) = ((i + 1 : Nat) : Int) := by rw [wr_i64 (by omega) (by omega)]; omega
  have wa : wr .i64 ((p : Int) + (i : Int)) = ((p + i : Nat) : Int) := by rw [wr_i64 (by omega) (by omega)]; omega
  (repeat first | refine HReg.step ?_ | refine HCode.step ?_)
  refine hif (fun h1 => ?_) (fun h1 => ?_)
  · have h1 := ltB_true.1 h1
    have hlt := getR_lt l p i
    have hlt1 := getR_lt l p (i + 1)
    have hpow : 256 ^ (i + 1) ≤ 256 ^ 8 := Nat.pow_le_pow_right (by decide) (by omega)
    have h8 : 256 ^ 8 = 18446744073709551616 := by decide
    have hstep : getR l p (i + 1) = getR l p i * 256 + (match l[p + i]? with | some c => c.toNat | none => 0) := rfl
    have wm : wr .u64 ((getR l p i : Int) * 256) = ((getR l p i * 256 : Nat) : Int) := by
      rw [wr_u64]; omega
    (repeat first | refine HReg.step ?_ | refine HCode.step ?_)
    rw [wa]
    refine hif (fun h2 => ?_) (fun h2 => ?_)
    · have h2 := ltB_true.1 h2
      obtain ⟨x, hx⟩ : ∃ x, l[p + i]? = some x := ⟨l[p + i]'(by omega), by simp⟩
      obtain ⟨ba, bo, rfl, _⟩ := hr _ _ (u8s_get hx)
      have hx0 := x.toNat_lt
      rw [hx] at hstep
      have hstep : getR l p (i + 1) = getR l p i * 256 + x.toNat := hstep
      have wx : wr .u64 (x.toNat : Int) = (x.toNat : Int) := by rw [wr_u64]; omega
      have ws : wr .u64 (((getR l p i * 256 : Nat) : Int) + (x.toNat : Int)) = ((getR l p (i + 1) : Nat) : Int) := by
        rw [wr_u64, hstep]; omega
      (repeat first | refine HReg.step ?_ | refine HCode.step ?_)
      rw [wa]
      refine HReq.mk ⟨by omega, by omega⟩ ?_
      (repeat first | refine HReg.step ?_ | refine HCode.step ?_)
      refine HLoad.one (v := u8 x) (by exact hr.get (u8s_get hx)) ?_
      (repeat first | refine HReg.step ?_ | refine HCode.step ?_)
      rw [wi, wm, wx, ws]
      exact ⟨m - 1, by omega, GeInv.mk ⟨i + 1, rfl, by omega, rfl⟩⟩
    · have h2 := ltB_false.1 h2
      rw [List.getElem?_eq_none (by omega)] at hstep
      have hstep : getR l p (i + 1) = getR l p i * 256 + 0 := hstep
      (repeat first | refine HReg.step ?_ | refine HCode.step ?_)
      rw [wi, wm]
      exact ⟨m - 1, by omega, GeInv.mk ⟨i + 1, by rw [hstep]; rfl, by omega, rfl⟩⟩
  · have h1 := ltB_false.1 h1
    have hi : i = n := by omega
    subst hi
    (repeat first | refine HReg.step ?_ | refine HCode.step ?_)
    exact hk
end
end Go.Proofs.Ytokfmkfobjkkpaa
