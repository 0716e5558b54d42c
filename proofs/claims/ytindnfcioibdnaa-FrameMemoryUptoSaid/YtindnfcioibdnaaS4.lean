import Derived.Test.YtindnfcioibdnaaS3
namespace Go.Proofs.Ytindnfcioibdnaa
open Go Hv
set_option linter.unusedVariables false
set_option maxRecDepth 10000

/-- A slice that reads as these bytes. -/
def Slr (H : Heap) (v : Value) (l : List UInt8) : Prop := ∃ a c, v = .slice a l.length c ∧ RowAt H a (u8s l)
theorem Slo.slr {H : Heap} {v : Value} {l : List UInt8} (h : Slo H v l) : Slr H v l := by
  obtain ⟨a, c, rfl, ho⟩ := h
  exact ⟨a, c, rfl, ho.rows⟩
theorem ex_get {α : Type} {l : List α} {i : Nat} (h : i < l.length) : ∃ x, l[i]? = some x := ⟨l[i], by simp [h]⟩

structure SlInv (xs ys : List (List UInt8)) (H : Heap) (m : Nat) (vs : List Value) (H' : Heap) : Prop where
  ex : ∃ i : Nat, vs = [.int .i64 (i : Int)] ∧ m + i = xs.length ∧ (∀ j, j < i → xs[j]? = ys[j]?) ∧ H' = H

theorem sameLists_t {a b : Option Addr} {n m c d : Nat} {xs ys : List (List UInt8)} {hs ks : List Value} {H : Heap} {K : Value → Heap → Prop} (hx : RowAt H a hs) (hn : hs.length = n) (hxx : All2 (Slr H) hs xs) (hy : RowAt H b ks) (hm : ks.length = m) (hyy : All2 (Slr H) ks ys) (hlim : n ≤ 4611686018427387904)
    (hk : K (.bool (decide (xs = ys))) H) : HCalls Try.prog 15 [.slice a n c, .slice b m d] H K := by
  refine hcalls (fn := Try.f15) [(6, [(0, 0), (1, 0), (2, 0), (3, 0), (4, 0), (5, 0), (6, 0), (7, 0), (8, 0), (9, 0)])] mixed Try.func15 rfl rfl (by decide +kernel) ?_
  (repeat first | refine HReg.step ?_ | refine HCode.step ?_)
  have lx := hxx.length
  have ly := hyy.length
  (repeat first | refine HReg.step ?_ | refine HCode.step ?_)
  refine hif (fun h => ?_) (fun h => ?_)
  · have h := not_eqB_true.1 h
    have : xs ≠ ys := by rintro rfl; omega
    rw [decide_eq_false this] at hk
    (repeat first | refine HReg.step ?_ | refine HCode.step ?_)
    exact hk
  · have h := not_eqB_false.1 h
    (repeat first | refine HReg.step ?_ | refine HCode.step ?_)
    refine hloopC [4, 5, 11, 12, 13, 14, 15, 16, 17, 18, 19, 20, 21, 22, 23, 24, 25, 26] [5] (SlInv xs ys H) rfl (.blockD (.thenD (Resp.hcode .retD) .retD)) ?_ ?_
    · refine ⟨n, ?_⟩
      refine SlInv.mk ⟨0, rfl, by omega, fun j hj => absurd hj (by omega), rfl⟩
    · rintro k vs f H' ⟨i, rfl, hki, hall, rfl⟩
      (repeat first | refine HReg.step ?_ | refine HCode.step ?_)
      refine hif (fun h1 => ?_) (fun h1 => ?_)
      · have h1 := ltB_true.1 h1
        obtain ⟨x, gx⟩ := ex_get (l := xs) (i := i) (by omega)
        obtain ⟨y, gy⟩ := ex_get (l := ys) (i := i) (by omega)
        obtain ⟨vx, hvx, ax, cx, rfl, rx⟩ := hxx.get gx
        obtain ⟨vy, hvy, ay, cy, rfl, ry⟩ := hyy.get gy
        obtain ⟨ba, oa, rfl, hca⟩ := hx i _ hvx
        obtain ⟨bb, ob, rfl, hcb⟩ := hy i _ hvy
        (repeat first | refine HReg.step ?_ | refine HCode.step ?_)
        refine HReq.mk ⟨by omega, by omega⟩ ?_
        (repeat first | refine HReg.step ?_ | refine HCode.step ?_)
        refine HLoad.one (v := .slice ax x.length cx) (by exact hca) ?_
        (repeat first | refine HReg.step ?_ | refine HCode.step ?_)
        refine HReq.mk ⟨by omega, by omega⟩ ?_
        (repeat first | refine HReg.step ?_ | refine HCode.step ?_)
        refine HLoad.one (v := .slice ay y.length cy) (by exact hcb) ?_
        (repeat first | refine HReg.step ?_ | refine HCode.step ?_)
        refine HCall.mk ⟨Try.f14, Try.func14, by rfl, by rfl⟩ ?_
        refine same_t rx rfl ry rfl ?_
        (repeat first | refine HReg.step ?_ | refine HCode.step ?_)
        by_cases hxy : x = y
        · rw [decide_eq_true hxy]
          (repeat first | refine HReg.step ?_ | refine HCode.step ?_)
          refine Exists.intro (k - 1) ?_
          refine And.intro (by omega) ?_
          have hw : wr .i64 ((i : Int) + 1) = ((i + 1 : Nat) : Int) := by rw [wr_i64 (by omega) (by omega)]; omega
          rw [hw]
          refine SlInv.mk ⟨i + 1, rfl, by omega, fun j hj => ?_, rfl⟩
          rcases Nat.lt_succ_iff_lt_or_eq.1 hj with h | rfl
          · exact hall j h
          · rw [gx, gy, hxy]
        · rw [decide_eq_false hxy]
          have : xs ≠ ys := by rintro rfl; rw [gx] at gy; cases gy; exact hxy rfl
          rw [decide_eq_false this] at hk
          (repeat first | refine HReg.step ?_ | refine HCode.step ?_)
          exact hk
      · have h1 := ltB_false.1 h1
        have : xs = ys := by
          apply List.ext_getElem?
          intro j
          by_cases hj : j < i
          · exact hall j hj
          · rw [List.getElem?_eq_none (by omega), List.getElem?_eq_none (by omega)]
        rw [decide_eq_true this] at hk
        (repeat first | refine HReg.step ?_ | refine HCode.step ?_)
        exact hk
end Go.Proofs.Ytindnfcioibdnaa
