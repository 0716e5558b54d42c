import Derived.Test.YtaobgofbhommcaaB25
namespace Go.Proofs.Ytaobgofbhommcaa
open Go Hv
set_option linter.unusedVariables false
set_option linter.unusedSimpArgs false
set_option maxRecDepth 10000
set_option maxHeartbeats 4000000
structure KeJ (H : Heap) (g b n h : Nat) (vs : List Value) (H' : Heap) : Prop where
  ex : ∃ S : List UInt8, vs = [] ∧ Fil H' g b n h S ∧ Upd [] H H'
structure KeI (H : Heap) (g b n h k : Nat) (m : Nat) (vs : List Value) (H' : Heap) : Prop where
  ex : ∃ (i : Nat) (S : List UInt8), vs = [.int .i64 (i : Int)] ∧ m + i = k ∧ Fil H' g b n h S ∧ Upd [] H H'
structure KeI2 (Hb : Heap) (r k c : Nat) (m : Nat) (vs : List Value) (H' : Heap) : Prop where
  ex : ∃ (i : Nat) (X : List Value), vs = [.int .i64 (i : Int)] ∧ m + i = k ∧ OwnRow H' 5 1 (some ⟨r, 0, none⟩) k c X ∧ Upd [r] Hb H'
structure KeIx (n : Nat) (H0 : Heap) (m : Nat) (vs : List Value) (H' : Heap) : Prop where
  ex : ∃ i : Nat, vs = [.int .i64 (i : Int)] ∧ m + i = n ∧ H' = H0
theorem bloomKeeps_t {b0 h0 : Int} {at_ : Option Addr} {nt ct : Nat} {ts : List (List UInt8)} {H : Heap} {K : Value → Heap → Prop}
    (rt : RowAt H at_ (txts ts)) (lt : ts.length = nt) (bt : ∀ t ∈ ts, t.length ≤ 140737488351232) (bn : nt ≤ 8796093021952)
    (hk : ∀ H', Upd [] H H' → K (.bool true) H') : HCalls Try.prog 9 [.int .i64 b0, .int .i64 h0, .slice at_ nt ct] H K := by
  refine hcalls (fn := Try.f9) [] mixed Try.func9 rfl rfl (by decide +kernel) ?_
  (repeat first | refine HReg.step ?_ | refine HCode.step ?_)
  refine HCall.mk ⟨Try.f31, Try.func31, by rfl, by rfl⟩ ?_
  refine rest_t (most := 2047) (by decide) ?_
  have hr := restN_le (wr .i64 (b0 - 1)) 2047
  generalize restN (wr .i64 (b0 - 1)) 2047 = rb at hr
  have w1 : wr .i64 (1 + (rb : Int)) = ((1 + rb : Nat) : Int) := by rw [wr_i64 (by omega) (by omega)]; omega
  (repeat first | refine HReg.step ?_ | refine HCode.step ?_)
  rw [w1]
  obtain ⟨bits, hbits, hb1, hb2⟩ : ∃ x : Nat, x = 1 + rb ∧ 1 ≤ x ∧ x ≤ 2048 := ⟨1 + rb, rfl, by omega, by omega⟩
  rw [← hbits]
  have hmay : mayP (bits : Int) 5 := by unfold mayP; omega
  refine HCall.mk ⟨Try.f28, Try.func28, by rfl, by rfl⟩ ?_
  refine fresh_t fun gf bf Ha Fa => ?_
  generalize shN (bits : Int) = n at Fa
  generalize shH h0 = k at Fa
  (repeat first | refine HReg.step ?_ | refine HCode.step ?_)
  refine HCall.mk ⟨Try.f10, Try.func10, by rfl, by rfl⟩ ?_
  refine known_t fun Hb ub => ?_
  have Fb := Fa.upd0 ub
  first | refine hcutC (a := Code.seq (Code.region _ _ _) (Code.block _ _)) [8, 47, 48, 49, 50, 51, 52, 53, 54, 55, 56, 57, 58, 59, 60, 61, 62] [] (KeJ H gf bf n k) rfl (by repeat' first | exact Resp.retD | exact Resp1.valuesK | refine Resp.blockD ?_ | refine Resp.thenD ?_ ?_ | refine Resp.hcode ?_) ?_ ?_ | ((first | refine HReg.step ?_ | refine HCode.step ?_); first | refine hcutC (a := Code.seq (Code.region _ _ _) (Code.block _ _)) [8, 47, 48, 49, 50, 51, 52, 53, 54, 55, 56, 57, 58, 59, 60, 61, 62] [] (KeJ H gf bf n k) rfl (by repeat' first | exact Resp.retD | exact Resp1.valuesK | refine Resp.blockD ?_ | refine Resp.thenD ?_ ?_ | refine Resp.hcode ?_) ?_ ?_ | ((first | refine HReg.step ?_ | refine HCode.step ?_); first | refine hcutC (a := Code.seq (Code.region _ _ _) (Code.block _ _)) [8, 47, 48, 49, 50, 51, 52, 53, 54, 55, 56, 57, 58, 59, 60, 61, 62] [] (KeJ H gf bf n k) rfl (by repeat' first | exact Resp.retD | exact Resp1.valuesK | refine Resp.blockD ?_ | refine Resp.thenD ?_ ?_ | refine Resp.hcode ?_) ?_ ?_ | ((first | refine HReg.step ?_ | refine HCode.step ?_); first | refine hcutC (a := Code.seq (Code.region _ _ _) (Code.block _ _)) [8, 47, 48, 49, 50, 51, 52, 53, 54, 55, 56, 57, 58, 59, 60, 61, 62] [] (KeJ H gf bf n k) rfl (by repeat' first | exact Resp.retD | exact Resp1.valuesK | refine Resp.blockD ?_ | refine Resp.thenD ?_ ?_ | refine Resp.hcode ?_) ?_ ?_ | ((first | refine HReg.step ?_ | refine HCode.step ?_); first | refine hcutC (a := Code.seq (Code.region _ _ _) (Code.block _ _)) [8, 47, 48, 49, 50, 51, 52, 53, 54, 55, 56, 57, 58, 59, 60, 61, 62] [] (KeJ H gf bf n k) rfl (by repeat' first | exact Resp.retD | exact Resp1.valuesK | refine Resp.blockD ?_ | refine Resp.thenD ?_ ?_ | refine Resp.hcode ?_) ?_ ?_ | ((first | refine HReg.step ?_ | refine HCode.step ?_); first | refine hcutC (a := Code.seq (Code.region _ _ _) (Code.block _ _)) [8, 47, 48, 49, 50, 51, 52, 53, 54, 55, 56, 57, 58, 59, 60, 61, 62] [] (KeJ H gf bf n k) rfl (by repeat' first | exact Resp.retD | exact Resp1.valuesK | refine Resp.blockD ?_ | refine Resp.thenD ?_ ?_ | refine Resp.hcode ?_) ?_ ?_ | ((first | refine HReg.step ?_ | refine HCode.step ?_); first | refine hcutC (a := Code.seq (Code.region _ _ _) (Code.block _ _)) [8, 47, 48, 49, 50, 51, 52, 53, 54, 55, 56, 57, 58, 59, 60, 61, 62] [] (KeJ H gf bf n k) rfl (by repeat' first | exact Resp.retD | exact Resp1.valuesK | refine Resp.blockD ?_ | refine Resp.thenD ?_ ?_ | refine Resp.hcode ?_) ?_ ?_ | ((first | refine HReg.step ?_ | refine HCode.step ?_); first | refine hcutC (a := Code.seq (Code.region _ _ _) (Code.block _ _)) [8, 47, 48, 49, 50, 51, 52, 53, 54, 55, 56, 57, 58, 59, 60, 61, 62] [] (KeJ H gf bf n k) rfl (by repeat' first | exact Resp.retD | exact Resp1.valuesK | refine Resp.blockD ?_ | refine Resp.thenD ?_ ?_ | refine Resp.hcode ?_) ?_ ?_ | ((first | refine HReg.step ?_ | refine HCode.step ?_); first | refine hcutC (a := Code.seq (Code.region _ _ _) (Code.block _ _)) [8, 47, 48, 49, 50, 51, 52, 53, 54, 55, 56, 57, 58, 59, 60, 61, 62] [] (KeJ H gf bf n k) rfl (by repeat' first | exact Resp.retD | exact Resp1.valuesK | refine Resp.blockD ?_ | refine Resp.thenD ?_ ?_ | refine Resp.hcode ?_) ?_ ?_ | ((first | refine HReg.step ?_ | refine HCode.step ?_); first | refine hcutC (a := Code.seq (Code.region _ _ _) (Code.block _ _)) [8, 47, 48, 49, 50, 51, 52, 53, 54, 55, 56, 57, 58, 59, 60, 61, 62] [] (KeJ H gf bf n k) rfl (by repeat' first | exact Resp.retD | exact Resp1.valuesK | refine Resp.blockD ?_ | refine Resp.thenD ?_ ?_ | refine Resp.hcode ?_) ?_ ?_ | ((first | refine HReg.step ?_ | refine HCode.step ?_); first | refine hcutC (a := Code.seq (Code.region _ _ _) (Code.block _ _)) [8, 47, 48, 49, 50, 51, 52, 53, 54, 55, 56, 57, 58, 59, 60, 61, 62] [] (KeJ H gf bf n k) rfl (by repeat' first | exact Resp.retD | exact Resp1.valuesK | refine Resp.blockD ?_ | refine Resp.thenD ?_ ?_ | refine Resp.hcode ?_) ?_ ?_ | ((first | refine HReg.step ?_ | refine HCode.step ?_); first | refine hcutC (a := Code.seq (Code.region _ _ _) (Code.block _ _)) [8, 47, 48, 49, 50, 51, 52, 53, 54, 55, 56, 57, 58, 59, 60, 61, 62] [] (KeJ H gf bf n k) rfl (by repeat' first | exact Resp.retD | exact Resp1.valuesK | refine Resp.blockD ?_ | refine Resp.thenD ?_ ?_ | refine Resp.hcode ?_) ?_ ?_ | ((first | refine HReg.step ?_ | refine HCode.step ?_); first | refine hcutC (a := Code.seq (Code.region _ _ _) (Code.block _ _)) [8, 47, 48, 49, 50, 51, 52, 53, 54, 55, 56, 57, 58, 59, 60, 61, 62] [] (KeJ H gf bf n k) rfl (by repeat' first | exact Resp.retD | exact Resp1.valuesK | refine Resp.blockD ?_ | refine Resp.thenD ?_ ?_ | refine Resp.hcode ?_) ?_ ?_ | ((first | refine HReg.step ?_ | refine HCode.step ?_); first | refine hcutC (a := Code.seq (Code.region _ _ _) (Code.block _ _)) [8, 47, 48, 49, 50, 51, 52, 53, 54, 55, 56, 57, 58, 59, 60, 61, 62] [] (KeJ H gf bf n k) rfl (by repeat' first | exact Resp.retD | exact Resp1.valuesK | refine Resp.blockD ?_ | refine Resp.thenD ?_ ?_ | refine Resp.hcode ?_) ?_ ?_ | ((first | refine HReg.step ?_ | refine HCode.step ?_); first | refine hcutC (a := Code.seq (Code.region _ _ _) (Code.block _ _)) [8, 47, 48, 49, 50, 51, 52, 53, 54, 55, 56, 57, 58, 59, 60, 61, 62] [] (KeJ H gf bf n k) rfl (by repeat' first | exact Resp.retD | exact Resp1.valuesK | refine Resp.blockD ?_ | refine Resp.thenD ?_ ?_ | refine Resp.hcode ?_) ?_ ?_ | ((first | refine HReg.step ?_ | refine HCode.step ?_); first | refine hcutC (a := Code.seq (Code.region _ _ _) (Code.block _ _)) [8, 47, 48, 49, 50, 51, 52, 53, 54, 55, 56, 57, 58, 59, 60, 61, 62] [] (KeJ H gf bf n k) rfl (by repeat' first | exact Resp.retD | exact Resp1.valuesK | refine Resp.blockD ?_ | refine Resp.thenD ?_ ?_ | refine Resp.hcode ?_) ?_ ?_ | ((first | refine HReg.step ?_ | refine HCode.step ?_); first | refine hcutC (a := Code.seq (Code.region _ _ _) (Code.block _ _)) [8, 47, 48, 49, 50, 51, 52, 53, 54, 55, 56, 57, 58, 59, 60, 61, 62] [] (KeJ H gf bf n k) rfl (by repeat' first | exact Resp.retD | exact Resp1.valuesK | refine Resp.blockD ?_ | refine Resp.thenD ?_ ?_ | refine Resp.hcode ?_) ?_ ?_ | ((first | refine HReg.step ?_ | refine HCode.step ?_); first | refine hcutC (a := Code.seq (Code.region _ _ _) (Code.block _ _)) [8, 47, 48, 49, 50, 51, 52, 53, 54, 55, 56, 57, 58, 59, 60, 61, 62] [] (KeJ H gf bf n k) rfl (by repeat' first | exact Resp.retD | exact Resp1.valuesK | refine Resp.blockD ?_ | refine Resp.thenD ?_ ?_ | refine Resp.hcode ?_) ?_ ?_ | ((first | refine HReg.step ?_ | refine HCode.step ?_); first | refine hcutC (a := Code.seq (Code.region _ _ _) (Code.block _ _)) [8, 47, 48, 49, 50, 51, 52, 53, 54, 55, 56, 57, 58, 59, 60, 61, 62] [] (KeJ H gf bf n k) rfl (by repeat' first | exact Resp.retD | exact Resp1.valuesK | refine Resp.blockD ?_ | refine Resp.thenD ?_ ?_ | refine Resp.hcode ?_) ?_ ?_ | ((first | refine HReg.step ?_ | refine HCode.step ?_); first | refine hcutC (a := Code.seq (Code.region _ _ _) (Code.block _ _)) [8, 47, 48, 49, 50, 51, 52, 53, 54, 55, 56, 57, 58, 59, 60, 61, 62] [] (KeJ H gf bf n k) rfl (by repeat' first | exact Resp.retD | exact Resp1.valuesK | refine Resp.blockD ?_ | refine Resp.thenD ?_ ?_ | refine Resp.hcode ?_) ?_ ?_ | ((first | refine HReg.step ?_ | refine HCode.step ?_); first | refine hcutC (a := Code.seq (Code.region _ _ _) (Code.block _ _)) [8, 47, 48, 49, 50, 51, 52, 53, 54, 55, 56, 57, 58, 59, 60, 61, 62] [] (KeJ H gf bf n k) rfl (by repeat' first | exact Resp.retD | exact Resp1.valuesK | refine Resp.blockD ?_ | refine Resp.thenD ?_ ?_ | refine Resp.hcode ?_) ?_ ?_ | ((first | refine HReg.step ?_ | refine HCode.step ?_); first | refine hcutC (a := Code.seq (Code.region _ _ _) (Code.block _ _)) [8, 47, 48, 49, 50, 51, 52, 53, 54, 55, 56, 57, 58, 59, 60, 61, 62] [] (KeJ H gf bf n k) rfl (by repeat' first | exact Resp.retD | exact Resp1.valuesK | refine Resp.blockD ?_ | refine Resp.thenD ?_ ?_ | refine Resp.hcode ?_) ?_ ?_ | ((first | refine HReg.step ?_ | refine HCode.step ?_); first | refine hcutC (a := Code.seq (Code.region _ _ _) (Code.block _ _)) [8, 47, 48, 49, 50, 51, 52, 53, 54, 55, 56, 57, 58, 59, 60, 61, 62] [] (KeJ H gf bf n k) rfl (by repeat' first | exact Resp.retD | exact Resp1.valuesK | refine Resp.blockD ?_ | refine Resp.thenD ?_ ?_ | refine Resp.hcode ?_) ?_ ?_ | ((first | refine HReg.step ?_ | refine HCode.step ?_); first | refine hcutC (a := Code.seq (Code.region _ _ _) (Code.block _ _)) [8, 47, 48, 49, 50, 51, 52, 53, 54, 55, 56, 57, 58, 59, 60, 61, 62] [] (KeJ H gf bf n k) rfl (by repeat' first | exact Resp.retD | exact Resp1.valuesK | refine Resp.blockD ?_ | refine Resp.thenD ?_ ?_ | refine Resp.hcode ?_) ?_ ?_ | ((first | refine HReg.step ?_ | refine HCode.step ?_); first | refine hcutC (a := Code.seq (Code.region _ _ _) (Code.block _ _)) [8, 47, 48, 49, 50, 51, 52, 53, 54, 55, 56, 57, 58, 59, 60, 61, 62] [] (KeJ H gf bf n k) rfl (by repeat' first | exact Resp.retD | exact Resp1.valuesK | refine Resp.blockD ?_ | refine Resp.thenD ?_ ?_ | refine Resp.hcode ?_) ?_ ?_ | ((first | refine HReg.step ?_ | refine HCode.step ?_); first | refine hcutC (a := Code.seq (Code.region _ _ _) (Code.block _ _)) [8, 47, 48, 49, 50, 51, 52, 53, 54, 55, 56, 57, 58, 59, 60, 61, 62] [] (KeJ H gf bf n k) rfl (by repeat' first | exact Resp.retD | exact Resp1.valuesK | refine Resp.blockD ?_ | refine Resp.thenD ?_ ?_ | refine Resp.hcode ?_) ?_ ?_ | ((first | refine HReg.step ?_ | refine HCode.step ?_); first | refine hcutC (a := Code.seq (Code.region _ _ _) (Code.block _ _)) [8, 47, 48, 49, 50, 51, 52, 53, 54, 55, 56, 57, 58, 59, 60, 61, 62] [] (KeJ H gf bf n k) rfl (by repeat' first | exact Resp.retD | exact Resp1.valuesK | refine Resp.blockD ?_ | refine Resp.thenD ?_ ?_ | refine Resp.hcode ?_) ?_ ?_ | ((first | refine HReg.step ?_ | refine HCode.step ?_); first | refine hcutC (a := Code.seq (Code.region _ _ _) (Code.block _ _)) [8, 47, 48, 49, 50, 51, 52, 53, 54, 55, 56, 57, 58, 59, 60, 61, 62] [] (KeJ H gf bf n k) rfl (by repeat' first | exact Resp.retD | exact Resp1.valuesK | refine Resp.blockD ?_ | refine Resp.thenD ?_ ?_ | refine Resp.hcode ?_) ?_ ?_ | ((first | refine HReg.step ?_ | refine HCode.step ?_); first | refine hcutC (a := Code.seq (Code.region _ _ _) (Code.block _ _)) [8, 47, 48, 49, 50, 51, 52, 53, 54, 55, 56, 57, 58, 59, 60, 61, 62] [] (KeJ H gf bf n k) rfl (by repeat' first | exact Resp.retD | exact Resp1.valuesK | refine Resp.blockD ?_ | refine Resp.thenD ?_ ?_ | refine Resp.hcode ?_) ?_ ?_ | ((first | refine HReg.step ?_ | refine HCode.step ?_); first | refine hcutC (a := Code.seq (Code.region _ _ _) (Code.block _ _)) [8, 47, 48, 49, 50, 51, 52, 53, 54, 55, 56, 57, 58, 59, 60, 61, 62] [] (KeJ H gf bf n k) rfl (by repeat' first | exact Resp.retD | exact Resp1.valuesK | refine Resp.blockD ?_ | refine Resp.thenD ?_ ?_ | refine Resp.hcode ?_) ?_ ?_ | ((first | refine HReg.step ?_ | refine HCode.step ?_); first | refine hcutC (a := Code.seq (Code.region _ _ _) (Code.block _ _)) [8, 47, 48, 49, 50, 51, 52, 53, 54, 55, 56, 57, 58, 59, 60, 61, 62] [] (KeJ H gf bf n k) rfl (by repeat' first | exact Resp.retD | exact Resp1.valuesK | refine Resp.blockD ?_ | refine Resp.thenD ?_ ?_ | refine Resp.hcode ?_) ?_ ?_ | ((first | refine HReg.step ?_ | refine HCode.step ?_); first | refine hcutC (a := Code.seq (Code.region _ _ _) (Code.block _ _)) [8, 47, 48, 49, 50, 51, 52, 53, 54, 55, 56, 57, 58, 59, 60, 61, 62] [] (KeJ H gf bf n k) rfl (by repeat' first | exact Resp.retD | exact Resp1.valuesK | refine Resp.blockD ?_ | refine Resp.thenD ?_ ?_ | refine Resp.hcode ?_) ?_ ?_ | ((first | refine HReg.step ?_ | refine HCode.step ?_); first | refine hcutC (a := Code.seq (Code.region _ _ _) (Code.block _ _)) [8, 47, 48, 49, 50, 51, 52, 53, 54, 55, 56, 57, 58, 59, 60, 61, 62] [] (KeJ H gf bf n k) rfl (by repeat' first | exact Resp.retD | exact Resp1.valuesK | refine Resp.blockD ?_ | refine Resp.thenD ?_ ?_ | refine Resp.hcode ?_) ?_ ?_ | ((first | refine HReg.step ?_ | refine HCode.step ?_); first | refine hcutC (a := Code.seq (Code.region _ _ _) (Code.block _ _)) [8, 47, 48, 49, 50, 51, 52, 53, 54, 55, 56, 57, 58, 59, 60, 61, 62] [] (KeJ H gf bf n k) rfl (by repeat' first | exact Resp.retD | exact Resp1.valuesK | refine Resp.blockD ?_ | refine Resp.thenD ?_ ?_ | refine Resp.hcode ?_) ?_ ?_ | ((first | refine HReg.step ?_ | refine HCode.step ?_); first | refine hcutC (a := Code.seq (Code.region _ _ _) (Code.block _ _)) [8, 47, 48, 49, 50, 51, 52, 53, 54, 55, 56, 57, 58, 59, 60, 61, 62] [] (KeJ H gf bf n k) rfl (by repeat' first | exact Resp.retD | exact Resp1.valuesK | refine Resp.blockD ?_ | refine Resp.thenD ?_ ?_ | refine Resp.hcode ?_) ?_ ?_ | ((first | refine HReg.step ?_ | refine HCode.step ?_); first | refine hcutC (a := Code.seq (Code.region _ _ _) (Code.block _ _)) [8, 47, 48, 49, 50, 51, 52, 53, 54, 55, 56, 57, 58, 59, 60, 61, 62] [] (KeJ H gf bf n k) rfl (by repeat' first | exact Resp.retD | exact Resp1.valuesK | refine Resp.blockD ?_ | refine Resp.thenD ?_ ?_ | refine Resp.hcode ?_) ?_ ?_ | ((first | refine HReg.step ?_ | refine HCode.step ?_); first | refine hcutC (a := Code.seq (Code.region _ _ _) (Code.block _ _)) [8, 47, 48, 49, 50, 51, 52, 53, 54, 55, 56, 57, 58, 59, 60, 61, 62] [] (KeJ H gf bf n k) rfl (by repeat' first | exact Resp.retD | exact Resp1.valuesK | refine Resp.blockD ?_ | refine Resp.thenD ?_ ?_ | refine Resp.hcode ?_) ?_ ?_ | ((first | refine HReg.step ?_ | refine HCode.step ?_); first | refine hcutC (a := Code.seq (Code.region _ _ _) (Code.block _ _)) [8, 47, 48, 49, 50, 51, 52, 53, 54, 55, 56, 57, 58, 59, 60, 61, 62] [] (KeJ H gf bf n k) rfl (by repeat' first | exact Resp.retD | exact Resp1.valuesK | refine Resp.blockD ?_ | refine Resp.thenD ?_ ?_ | refine Resp.hcode ?_) ?_ ?_ | ((first | refine HReg.step ?_ | refine HCode.step ?_); first | refine hcutC (a := Code.seq (Code.region _ _ _) (Code.block _ _)) [8, 47, 48, 49, 50, 51, 52, 53, 54, 55, 56, 57, 58, 59, 60, 61, 62] [] (KeJ H gf bf n k) rfl (by repeat' first | exact Resp.retD | exact Resp1.valuesK | refine Resp.blockD ?_ | refine Resp.thenD ?_ ?_ | refine Resp.hcode ?_) ?_ ?_ | ((first | refine HReg.step ?_ | refine HCode.step ?_); first | refine hcutC (a := Code.seq (Code.region _ _ _) (Code.block _ _)) [8, 47, 48, 49, 50, 51, 52, 53, 54, 55, 56, 57, 58, 59, 60, 61, 62] [] (KeJ H gf bf n k) rfl (by repeat' first | exact Resp.retD | exact Resp1.valuesK | refine Resp.blockD ?_ | refine Resp.thenD ?_ ?_ | refine Resp.hcode ?_) ?_ ?_ | ((first | refine HReg.step ?_ | refine HCode.step ?_); first | refine hcutC (a := Code.seq (Code.region _ _ _) (Code.block _ _)) [8, 47, 48, 49, 50, 51, 52, 53, 54, 55, 56, 57, 58, 59, 60, 61, 62] [] (KeJ H gf bf n k) rfl (by repeat' first | exact Resp.retD | exact Resp1.valuesK | refine Resp.blockD ?_ | refine Resp.thenD ?_ ?_ | refine Resp.hcode ?_) ?_ ?_ | ((first | refine HReg.step ?_ | refine HCode.step ?_); first | refine hcutC (a := Code.seq (Code.region _ _ _) (Code.block _ _)) [8, 47, 48, 49, 50, 51, 52, 53, 54, 55, 56, 57, 58, 59, 60, 61, 62] [] (KeJ H gf bf n k) rfl (by repeat' first | exact Resp.retD | exact Resp1.valuesK | refine Resp.blockD ?_ | refine Resp.thenD ?_ ?_ | refine Resp.hcode ?_) ?_ ?_ | ((first | refine HReg.step ?_ | refine HCode.step ?_); first | refine hcutC (a := Code.seq (Code.region _ _ _) (Code.block _ _)) [8, 47, 48, 49, 50, 51, 52, 53, 54, 55, 56, 57, 58, 59, 60, 61, 62] [] (KeJ H gf bf n k) rfl (by repeat' first | exact Resp.retD | exact Resp1.valuesK | refine Resp.blockD ?_ | refine Resp.thenD ?_ ?_ | refine Resp.hcode ?_) ?_ ?_ | ((first | refine HReg.step ?_ | refine HCode.step ?_); first | refine hcutC (a := Code.seq (Code.region _ _ _) (Code.block _ _)) [8, 47, 48, 49, 50, 51, 52, 53, 54, 55, 56, 57, 58, 59, 60, 61, 62] [] (KeJ H gf bf n k) rfl (by repeat' first | exact Resp.retD | exact Resp1.valuesK | refine Resp.blockD ?_ | refine Resp.thenD ?_ ?_ | refine Resp.hcode ?_) ?_ ?_ | ((first | refine HReg.step ?_ | refine HCode.step ?_); first | refine hcutC (a := Code.seq (Code.region _ _ _) (Code.block _ _)) [8, 47, 48, 49, 50, 51, 52, 53, 54, 55, 56, 57, 58, 59, 60, 61, 62] [] (KeJ H gf bf n k) rfl (by repeat' first | exact Resp.retD | exact Resp1.valuesK | refine Resp.blockD ?_ | refine Resp.thenD ?_ ?_ | refine Resp.hcode ?_) ?_ ?_ | ((first | refine HReg.step ?_ | refine HCode.step ?_); first | refine hcutC (a := Code.seq (Code.region _ _ _) (Code.block _ _)) [8, 47, 48, 49, 50, 51, 52, 53, 54, 55, 56, 57, 58, 59, 60, 61, 62] [] (KeJ H gf bf n k) rfl (by repeat' first | exact Resp.retD | exact Resp1.valuesK | refine Resp.blockD ?_ | refine Resp.thenD ?_ ?_ | refine Resp.hcode ?_) ?_ ?_ | ((first | refine HReg.step ?_ | refine HCode.step ?_); first | refine hcutC (a := Code.seq (Code.region _ _ _) (Code.block _ _)) [8, 47, 48, 49, 50, 51, 52, 53, 54, 55, 56, 57, 58, 59, 60, 61, 62] [] (KeJ H gf bf n k) rfl (by repeat' first | exact Resp.retD | exact Resp1.valuesK | refine Resp.blockD ?_ | refine Resp.thenD ?_ ?_ | refine Resp.hcode ?_) ?_ ?_ | ((first | refine HReg.step ?_ | refine HCode.step ?_); first | refine hcutC (a := Code.seq (Code.region _ _ _) (Code.block _ _)) [8, 47, 48, 49, 50, 51, 52, 53, 54, 55, 56, 57, 58, 59, 60, 61, 62] [] (KeJ H gf bf n k) rfl (by repeat' first | exact Resp.retD | exact Resp1.valuesK | refine Resp.blockD ?_ | refine Resp.thenD ?_ ?_ | refine Resp.hcode ?_) ?_ ?_ | ((first | refine HReg.step ?_ | refine HCode.step ?_); first | refine hcutC (a := Code.seq (Code.region _ _ _) (Code.block _ _)) [8, 47, 48, 49, 50, 51, 52, 53, 54, 55, 56, 57, 58, 59, 60, 61, 62] [] (KeJ H gf bf n k) rfl (by repeat' first | exact Resp.retD | exact Resp1.valuesK | refine Resp.blockD ?_ | refine Resp.thenD ?_ ?_ | refine Resp.hcode ?_) ?_ ?_ | ((first | refine HReg.step ?_ | refine HCode.step ?_); first | refine hcutC (a := Code.seq (Code.region _ _ _) (Code.block _ _)) [8, 47, 48, 49, 50, 51, 52, 53, 54, 55, 56, 57, 58, 59, 60, 61, 62] [] (KeJ H gf bf n k) rfl (by repeat' first | exact Resp.retD | exact Resp1.valuesK | refine Resp.blockD ?_ | refine Resp.thenD ?_ ?_ | refine Resp.hcode ?_) ?_ ?_ | ((first | refine HReg.step ?_ | refine HCode.step ?_); first | refine hcutC (a := Code.seq (Code.region _ _ _) (Code.block _ _)) [8, 47, 48, 49, 50, 51, 52, 53, 54, 55, 56, 57, 58, 59, 60, 61, 62] [] (KeJ H gf bf n k) rfl (by repeat' first | exact Resp.retD | exact Resp1.valuesK | refine Resp.blockD ?_ | refine Resp.thenD ?_ ?_ | refine Resp.hcode ?_) ?_ ?_ | ((first | refine HReg.step ?_ | refine HCode.step ?_); first | refine hcutC (a := Code.seq (Code.region _ _ _) (Code.block _ _)) [8, 47, 48, 49, 50, 51, 52, 53, 54, 55, 56, 57, 58, 59, 60, 61, 62] [] (KeJ H gf bf n k) rfl (by repeat' first | exact Resp.retD | exact Resp1.valuesK | refine Resp.blockD ?_ | refine Resp.thenD ?_ ?_ | refine Resp.hcode ?_) ?_ ?_ | ((first | refine HReg.step ?_ | refine HCode.step ?_); first | refine hcutC (a := Code.seq (Code.region _ _ _) (Code.block _ _)) [8, 47, 48, 49, 50, 51, 52, 53, 54, 55, 56, 57, 58, 59, 60, 61, 62] [] (KeJ H gf bf n k) rfl (by repeat' first | exact Resp.retD | exact Resp1.valuesK | refine Resp.blockD ?_ | refine Resp.thenD ?_ ?_ | refine Resp.hcode ?_) ?_ ?_ | ((first | refine HReg.step ?_ | refine HCode.step ?_); first | refine hcutC (a := Code.seq (Code.region _ _ _) (Code.block _ _)) [8, 47, 48, 49, 50, 51, 52, 53, 54, 55, 56, 57, 58, 59, 60, 61, 62] [] (KeJ H gf bf n k) rfl (by repeat' first | exact Resp.retD | exact Resp1.valuesK | refine Resp.blockD ?_ | refine Resp.thenD ?_ ?_ | refine Resp.hcode ?_) ?_ ?_ | ((first | refine HReg.step ?_ | refine HCode.step ?_); first | refine hcutC (a := Code.seq (Code.region _ _ _) (Code.block _ _)) [8, 47, 48, 49, 50, 51, 52, 53, 54, 55, 56, 57, 58, 59, 60, 61, 62] [] (KeJ H gf bf n k) rfl (by repeat' first | exact Resp.retD | exact Resp1.valuesK | refine Resp.blockD ?_ | refine Resp.thenD ?_ ?_ | refine Resp.hcode ?_) ?_ ?_ | ((first | refine HReg.step ?_ | refine HCode.step ?_); first | refine hcutC (a := Code.seq (Code.region _ _ _) (Code.block _ _)) [8, 47, 48, 49, 50, 51, 52, 53, 54, 55, 56, 57, 58, 59, 60, 61, 62] [] (KeJ H gf bf n k) rfl (by repeat' first | exact Resp.retD | exact Resp1.valuesK | refine Resp.blockD ?_ | refine Resp.thenD ?_ ?_ | refine Resp.hcode ?_) ?_ ?_ | ((first | refine HReg.step ?_ | refine HCode.step ?_); first | refine hcutC (a := Code.seq (Code.region _ _ _) (Code.block _ _)) [8, 47, 48, 49, 50, 51, 52, 53, 54, 55, 56, 57, 58, 59, 60, 61, 62] [] (KeJ H gf bf n k) rfl (by repeat' first | exact Resp.retD | exact Resp1.valuesK | refine Resp.blockD ?_ | refine Resp.thenD ?_ ?_ | refine Resp.hcode ?_) ?_ ?_ | ((first | refine HReg.step ?_ | refine HCode.step ?_); first | refine hcutC (a := Code.seq (Code.region _ _ _) (Code.block _ _)) [8, 47, 48, 49, 50, 51, 52, 53, 54, 55, 56, 57, 58, 59, 60, 61, 62] [] (KeJ H gf bf n k) rfl (by repeat' first | exact Resp.retD | exact Resp1.valuesK | refine Resp.blockD ?_ | refine Resp.thenD ?_ ?_ | refine Resp.hcode ?_) ?_ ?_ | ((first | refine HReg.step ?_ | refine HCode.step ?_); first | refine hcutC (a := Code.seq (Code.region _ _ _) (Code.block _ _)) [8, 47, 48, 49, 50, 51, 52, 53, 54, 55, 56, 57, 58, 59, 60, 61, 62] [] (KeJ H gf bf n k) rfl (by repeat' first | exact Resp.retD | exact Resp1.valuesK | refine Resp.blockD ?_ | refine Resp.thenD ?_ ?_ | refine Resp.hcode ?_) ?_ ?_ | ((first | refine HReg.step ?_ | refine HCode.step ?_); first | refine hcutC (a := Code.seq (Code.region _ _ _) (Code.block _ _)) [8, 47, 48, 49, 50, 51, 52, 53, 54, 55, 56, 57, 58, 59, 60, 61, 62] [] (KeJ H gf bf n k) rfl (by repeat' first | exact Resp.retD | exact Resp1.valuesK | refine Resp.blockD ?_ | refine Resp.thenD ?_ ?_ | refine Resp.hcode ?_) ?_ ?_ | ((first | refine HReg.step ?_ | refine HCode.step ?_); refine hcutC (a := Code.seq (Code.region _ _ _) (Code.block _ _)) [8, 47, 48, 49, 50, 51, 52, 53, 54, 55, 56, 57, 58, 59, 60, 61, 62] [] (KeJ H gf bf n k) rfl (by repeat' first | exact Resp.retD | exact Resp1.valuesK | refine Resp.blockD ?_ | refine Resp.thenD ?_ ?_ | refine Resp.hcode ?_) ?_ ?_))))))))))))))))))))))))))))))))))))))))))))))))))))))))))))
  · (repeat first | refine HReg.step ?_ | refine HCode.step ?_)
    refine hloopC [8, 47, 48, 49, 50, 51, 52, 53, 54, 55, 56, 57, 58, 59, 60, 61, 62] [8] (KeI H gf bf n k nt) rfl (by repeat' first | exact Resp.retD | exact Resp1.valuesK | refine Resp.blockD ?_ | refine Resp.thenD ?_ ?_ | refine Resp.hcode ?_) ?_ ?_
    · exact ⟨nt, KeI.mk ⟨0, _, rfl, rfl, Fb.fil, Fb.upd⟩⟩
    rintro m _ fe Hc ⟨i, S, rfl, hmi, Fc, uc⟩
    (repeat first | refine HReg.step ?_ | refine HCode.step ?_)
    refine hif (fun h1 => ?_) (fun h1 => ?_)
    · have h1 := ltB_true.1 h1
      (repeat first | refine HReg.step ?_ | refine HCode.step ?_)
      refine hif (fun h2 => ?_) (fun h2 => ?_)
      · have h2 := ltB_true.1 h2
        have rt4 := rt.upd (S := []) uc (.inr (Off.nil _))
        obtain ⟨s, hs⟩ : ∃ s, ts[i]? = some s := ⟨ts[i]'(by omega), by simp⟩
        obtain ⟨ba, bo', rfl, _⟩ := rt4 i _ (txts_get hs)
        have w2 : wr .i64 ((i : Int) + 1) = ((i + 1 : Nat) : Int) := by rw [wr_i64 (by omega) (by omega)]; omega
        (repeat first | refine HReg.step ?_ | refine HCode.step ?_)
        refine HReq.mk ⟨by omega, by omega⟩ ?_
        (repeat first | refine HReg.step ?_ | refine HCode.step ?_)
        refine HLoad.one (v := .string (bs s)) (by exact rt4.get (txts_get hs)) ?_
        (repeat first | refine HReg.step ?_ | refine HCode.step ?_)
        refine HCall.mk ⟨Try.f29, Try.func29, by rfl, by rfl⟩ ?_
        refine add_t (s := s) Fc (by have := bt s (List.mem_of_getElem? hs); omega) fun H5 F5 u5 => ?_
        (repeat first | refine HReg.step ?_ | refine HCode.step ?_)
        rw [w2]
        exact ⟨m - 1, by omega, KeI.mk ⟨i + 1, _, rfl, by omega, F5, Upd.drop uc u5 fun q hq => by rw [List.mem_singleton.1 hq]; exact Fa.nb⟩⟩
      · (repeat first | refine HReg.step ?_ | refine HCode.step ?_)
        exact KeJ.mk ⟨S, rfl, Fc, uc⟩
    · (repeat first | refine HReg.step ?_ | refine HCode.step ?_)
      exact KeJ.mk ⟨S, rfl, Fc, uc⟩
  rintro _ fe Hc ⟨S, rfl, Fc, uc⟩
  have fok := Fc.ok
  have hn65 := fok.n2
  have hSl : S.length ≤ 8192 := by have := fok.len; omega
  obtain ⟨W, hW⟩ : ∃ W, W = bytesOf n k S := ⟨_, rfl⟩
  have hWl : W.length = 5 + S.length := by rw [hW]; exact bytesOf_len n k S
  have hWok : readOk W := by rw [hW]; exact bytes_ok fok
  have hWs : shapeN W = n ∧ shapeH W = k := by rw [hW]; exact shape_head S fok.n2 (by have := fok.h2; omega)
  have hWd : W.drop 5 = S := by rw [hW]; rfl
  (repeat first | refine HReg.step ?_ | refine HCode.step ?_)
  refine HCall.mk ⟨Try.f17, Try.func17, by rfl, by rfl⟩ ?_
  refine bytes_t Fc fun aw0 cw0 Hd md => ?_
  rw [← hW] at md
  (repeat first | refine HReg.step ?_ | refine HCode.step ?_)
  refine append_made (xs := []) (made_nil Hd 5 1) md.own.rows (by omega) (by omega) fun aw cw He me => ?_
  rw [Nat.zero_add] at me
  rw [List.nil_append] at me
  rw [Nat.zero_add (5 + S.length)]
  (repeat first | refine HReg.step ?_ | refine HCode.step ?_)
  refine append_made (xs := []) (made_nil He 5 1) me.own.rows (by omega) (by omega) fun ar1 cr1 Hf mf => ?_
  rw [Nat.zero_add] at mf
  rw [List.nil_append] at mf
  rw [Nat.zero_add (5 + S.length)]
  (repeat first | refine HReg.step ?_ | refine HCode.step ?_)
  refine HReq.mk (by decide) ?_
  (repeat first | refine HReg.step ?_ | refine HCode.step ?_)
  refine HNew.mk fun b4 hb4 => ?_
  have u4 : Upd [] Hf (Hf.upd b4 (.cells [Value.int .u8 171, .int .u8 172].toArray 5)) := Upd.new hb4 _
  have r4 : RowAt (Hf.upd b4 (.cells [Value.int .u8 171, .int .u8 172].toArray 5)) (some ⟨b4, 0, none⟩) (u8s [171, 172]) := row_lit (upd_same _ _ _) rfl
  generalize hH4 : Hf.upd b4 (.cells [Value.int .u8 171, .int .u8 172].toArray 5) = H4 at u4 r4
  (repeat first | refine HReg.step ?_ | refine HCode.step ?_)
  refine append_made (mf.step u4) r4 rfl (by omega) fun a5 c5 H5 m5 => ?_
  have hc5 := m5.own.le
  obtain ⟨r5, rfl⟩ := m5.own.addr (by omega)
  have ra5 : RowAt H5 (some ⟨r5, 0, none⟩) (u8s W) := by
    have h := m5.own.rows.take (5 + S.length)
    rw [← u8s_take, List.take_append_of_le_length (by omega), List.take_of_length_le (by omega)] at h
    exact h
  have ucH5 : Upd [] Hc H5 := (md.upd.trans me.upd).trans m5.upd
  have F5 := Fc.upd0 ucH5
  (repeat first | refine HReg.step ?_ | refine HCode.step ?_)
  refine HReq.mk ⟨by omega, by omega⟩ ?_
  (repeat first | refine HReg.step ?_ | refine HCode.step ?_)
  refine HCall.mk ⟨Try.f22, Try.func22, by rfl, by rfl⟩ ?_
  refine read_t ra5 (by have := hWl; simp; omega) (by simp; omega) (by simp; omega) (fun H' hno _ => absurd hWok hno) fun gg bg H6 _ G6 => ?_
  rw [hWs.1, hWs.2, hWd] at G6
  have F6 := F5.upd0 G6.upd
  (repeat first | refine HReg.step ?_ | refine HCode.step ?_)
  refine HCall.mk ⟨Try.f30, Try.func30, by rfl, by rfl⟩ ?_
  refine union_t F6 G6.fil (fun h => absurd ⟨rfl, rfl⟩ h) fun gu bu H7 _ _ U7 => ?_
  rw [orSets_self] at U7
  (repeat first | refine HReg.step ?_ | refine HCode.step ?_)
  have rW7 : RowAt H7 (some ⟨r5, 0, none⟩) (u8s W) := ra5.upd (S := []) (G6.upd.trans U7.upd) (.inr (Off.nil _))
  have oW7 := me.own.upd (m5.upd.trans (G6.upd.trans U7.upd)) (Off.nil _)
  have lenr : (5 + S.length + 2 : Nat) = W.length + 2 := by omega
  have o7 := m5.own.upd (G6.upd.trans U7.upd) (Off.nil _)
  have hx1 : (W ++ [171, 172])[5 + S.length]? = some 171 := by rw [List.getElem?_append_right (by omega), hWl, Nat.sub_self]; rfl
  have hx2 : (W ++ [171, 172])[5 + S.length + 1]? = some 172 := by rw [List.getElem?_append_right (by omega), hWl, Nat.add_sub_cancel_left]; rfl
  have wnb : wr .i64 (((5 + S.length : Nat) : Int) + 1) = ((5 + S.length + 1 : Nat) : Int) := by rw [wr_i64 (by omega) (by omega)]; omega
  rw [eqB_self 0]
  (repeat first | refine HReg.step ?_ | refine HCode.step ?_)
  rw [eqB_self 0]
  (repeat first | refine HReg.step ?_ | refine HCode.step ?_)
  refine HReq.mk ⟨by omega, by omega⟩ ?_
  (repeat first | refine HReg.step ?_ | refine HCode.step ?_)
  refine HCall.mk ⟨Try.f16, Try.func16, by rfl, by rfl⟩ ?_
  refine same_eq rW7 (by have := hWl; simp; omega) oW7.rows hWl rfl ?_
  (repeat first | refine HReg.step ?_ | refine HCode.step ?_)
  refine HReq.mk ⟨by omega, by omega⟩ ?_
  (repeat first | refine HReg.step ?_ | refine HCode.step ?_)
  refine HLoad.one (v := .int .u8 171) (by exact o7.rows.get (u8s_get hx1)) ?_
  (repeat first | refine HReg.step ?_ | refine HCode.step ?_)
  rw [eqB_self 171]
  (repeat first | refine HReg.step ?_ | refine HCode.step ?_)
  rw [wnb]
  refine HReq.mk ⟨by omega, by omega⟩ ?_
  (repeat first | refine HReg.step ?_ | refine HCode.step ?_)
  refine HLoad.one (v := .int .u8 172) (by exact o7.rows.get (u8s_get hx2)) ?_
  (repeat first | refine HReg.step ?_ | refine HCode.step ?_)
  rw [eqB_self 172]
  (repeat first | refine HReg.step ?_ | refine HCode.step ?_)
  have F7 := F6.upd0 U7.upd
  have G7 := G6.upd0 U7.upd
  have uH7 : Upd [] H H7 := uc.trans (ucH5.trans (G6.upd.trans U7.upd))
  have lf : gf ≠ r5 ∧ bf ≠ r5 := by
    have hnew : He r5 = none := m5.new _ rfl
    have Fe := Fc.upd0 (md.upd.trans me.upd)
    obtain ⟨c1, z1, h1⟩ := Fe.liveG
    obtain ⟨c2, z2, h2⟩ := Fe.liveB
    exact ⟨fun e => (by subst e; rw [hnew] at h1; cases h1), fun e => (by subst e; rw [hnew] at h2; cases h2)⟩
  have live5 : H5 r5 ≠ none := m5.own.there rfl
  have lg : gg ≠ r5 ∧ bg ≠ r5 := ⟨fun e => live5 (by rw [← e]; exact G6.ng), fun e => live5 (by rw [← e]; exact G6.nb)⟩
  have live6 : H6 r5 ≠ none := by rw [G6.upd r5 (by simp) live5]; exact live5
  have lu : gu ≠ r5 ∧ bu ≠ r5 := ⟨fun e => live6 (by rw [← e]; exact U7.ng), fun e => live6 (by rw [← e]; exact U7.nb)⟩
  have nr5 : H r5 = none := Upd.none (S := []) (uc.trans (md.upd.trans me.upd)) (by simp) (m5.new _ rfl)
  refine hloopC [15, 124, 125, 126, 127, 128, 129, 130, 131, 132] [15] (KeI2 H7 r5 (5 + S.length + 2) c5) rfl (by repeat' first | exact Resp.retD | exact Resp1.valuesK | refine Resp.blockD ?_ | refine Resp.thenD ?_ ?_ | refine Resp.hcode ?_) ?_ ?_
  · exact ⟨5 + S.length + 2, KeI2.mk ⟨0, _, rfl, rfl, o7, Upd.refl _ _⟩⟩
  rintro m _ fe2 H8 ⟨i, X, rfl, hmi, o8, u8_⟩
  (repeat first | refine HReg.step ?_ | refine HCode.step ?_)
  refine hif (fun h1 => ?_) (fun h1 => ?_)
  · have h1 := ltB_true.1 h1
    have w2 : wr .i64 ((i : Int) + 1) = ((i + 1 : Nat) : Int) := by rw [wr_i64 (by omega) (by omega)]; omega
    (repeat first | refine HReg.step ?_ | refine HCode.step ?_)
    refine HReq.mk ⟨by omega, by omega⟩ ?_
    (repeat first | refine HReg.step ?_ | refine HCode.step ?_)
    refine store_row o8 (v := .int .u8 7) rfl (i := i) (by omega) (by show 0 + i + 0 = i; omega) fun H9 o9 u9 => ?_
    (repeat first | refine HReg.step ?_ | refine HCode.step ?_)
    rw [w2]
    exact ⟨m - 1, by omega, KeI2.mk ⟨i + 1, _, rfl, by omega, o9, u8_.trans u9⟩⟩
  have F8 := F7.upd u8_ (by simpa using lf.1) (by simpa using lf.2)
  have G8 := G7.fil.upd u8_ (by simpa using lg.1) (by simpa using lg.2)
  have U8 := U7.fil.upd u8_ (by simpa using lu.1) (by simpa using lu.2)
  have nW : ∀ p, aw = some p → p.block ≠ r5 := fun p hp e => by
    have hnew : He r5 = none := m5.new _ rfl
    exact me.own.there hp (by rw [e]; exact hnew)
  have oW8 := oW7.upd u8_ (fun p hp hb => nW p hp (List.mem_singleton.1 hb))
  have uH8 : Upd [] H H8 := Upd.drop uH7 u8_ fun b hb => by rw [List.mem_singleton.1 hb]; exact nr5
  have hbu : bf ≠ bu ∧ bg ≠ bu := by
    obtain ⟨c2, z2, h2⟩ := F6.liveB
    obtain ⟨c3, z3, h3⟩ := G6.fil.liveB
    exact ⟨fun e => (by rw [e, U7.nb] at h2; cases h2), fun e => (by rw [e, U7.nb] at h3; cases h3)⟩
  have hnbu : H bu = none := Upd.none (S := []) (uc.trans (ucH5.trans G6.upd)) (by simp) U7.nb
  have hwbu : ∀ p, aw = some p → p.block ≠ bu := fun p hp e => by
    have h := (me.own.upd (m5.upd.trans G6.upd) (Off.nil _)).there hp
    rw [e] at h
    exact h U7.nb
  clear o8 u8_ oW7 o7 rW7 F7 G7 uH7 lf lg lu live5 live6 nr5 F6 F5 ra5 nW
  (repeat first | refine HReg.step ?_ | refine HCode.step ?_)
  refine HCall.mk ⟨Try.f17, Try.func17, by rfl, by rfl⟩ ?_
  refine bytes_t F8 fun x1 y1 Ha1 n1 => ?_
  rw [← hW] at n1
  have g1 := (GrpM.nil 5 H8).add n1 hWl
  (repeat first | refine HReg.step ?_ | refine HCode.step ?_)
  refine HCall.mk ⟨Try.f17, Try.func17, by rfl, by rfl⟩ ?_
  refine bytes_t (F8.upd0 g1.upd) fun x2 y2 Ha2 n2 => ?_
  rw [← hW] at n2
  have g2 := g1.add n2 hWl
  (repeat first | refine HReg.step ?_ | refine HCode.step ?_)
  refine HCall.mk ⟨Try.f17, Try.func17, by rfl, by rfl⟩ ?_
  refine bytes_t (G8.upd0 g2.upd) fun x3 y3 Ha3 n3 => ?_
  rw [← hW] at n3
  have g3 := g2.add n3 hWl
  (repeat first | refine HReg.step ?_ | refine HCode.step ?_)
  refine HCall.mk ⟨Try.f17, Try.func17, by rfl, by rfl⟩ ?_
  refine bytes_t (U8.upd0 g3.upd) fun x4 y4 Ha4 n4 => ?_
  rw [← hW] at n4
  have g4 := g3.add n4 hWl
  (repeat first | refine HReg.step ?_ | refine HCode.step ?_)
  refine HCall.mk ⟨Try.f17, Try.func17, by rfl, by rfl⟩ ?_
  refine bytes_t (F8.upd0 g4.upd) fun x5 y5 Ha5 n5 => ?_
  rw [← hW] at n5
  have g5 := g4.add n5 hWl
  (repeat first | refine HReg.step ?_ | refine HCode.step ?_)
  refine HReq.mk (by decide) ?_
  (repeat first | refine HReg.step ?_ | refine HCode.step ?_)
  refine HNew.mk fun b16 hb16 => ?_
  have u16 : Upd [] Ha5 (Ha5.upd b16 (.cells [Value.slice x1 (5 + S.length) y1, .slice x2 (5 + S.length) y2, .slice x3 (5 + S.length) y3, .slice x4 (5 + S.length) y4, .slice x5 (5 + S.length) y5].toArray 39)) := Upd.new hb16 _
  have o16 : OwnRow (Ha5.upd b16 (.cells [Value.slice x1 (5 + S.length) y1, .slice x2 (5 + S.length) y2, .slice x3 (5 + S.length) y3, .slice x4 (5 + S.length) y4, .slice x5 (5 + S.length) y5].toArray 39)) 39 1 (some ⟨b16, 0, none⟩) 5 5 [Value.slice x1 (5 + S.length) y1, .slice x2 (5 + S.length) y2, .slice x3 (5 + S.length) y3, .slice x4 (5 + S.length) y4, .slice x5 (5 + S.length) y5] := OwnRow.lit (upd_same _ _ _) rfl
  generalize hHb : Ha5.upd b16 (.cells [Value.slice x1 (5 + S.length) y1, .slice x2 (5 + S.length) y2, .slice x3 (5 + S.length) y3, .slice x4 (5 + S.length) y4, .slice x5 (5 + S.length) y5].toArray 39) = Hb1 at u16 o16
  have hb1 : H8 b16 = none := Upd.none (S := []) g5.upd (by simp) hb16
  have g6 := g5.step0 u16
  simp only [List.nil_append, List.cons_append] at g6
  generalize hV : [Value.slice x1 (5 + S.length) y1, .slice x2 (5 + S.length) y2, .slice x3 (5 + S.length) y3, .slice x4 (5 + S.length) y4, .slice x5 (5 + S.length) y5] = V at g6 o16
  clear g1 g2 g3 g4 g5 n1 n2 n3 n4 n5 hV u16
  have e5 : (5 : Int).toNat = 5 := rfl
  have eb : (bits : Int).toNat = bits := Int.toNat_natCast bits
  obtain ⟨PL, hPL⟩ : ∃ PL, PL = placesL bits 5 [120] := ⟨_, rfl⟩
  have hPl5 : PL.length = 5 := by rw [hPL]; exact placesL_length _ _ _
  (repeat first | refine HReg.step ?_ | refine HCode.step ?_)
  refine HCall.mk ⟨Try.f19, Try.func19, by rfl, by rfl⟩ ?_
  refine PlacesP (s := [120]) (by decide) (fun H' hno _ => absurd hmay hno) fun ap cp Hc1 _ mp => ?_
  rw [e5, eb, ← hPL] at mp
  rw [e5]
  (repeat first | refine HReg.step ?_ | refine HCode.step ?_)
  refine HCall.mk ⟨Try.f19, Try.func19, by rfl, by rfl⟩ ?_
  refine PlacesP (s := [120]) (by decide) (fun H' hno _ => absurd hmay hno) fun aq cq Hd1 _ mq => ?_
  rw [e5, eb, ← hPL] at mq
  rw [e5]
  (repeat first | refine HReg.step ?_ | refine HCode.step ?_)
  refine HCall.mk ⟨Try.f19, Try.func19, by rfl, by rfl⟩ ?_
  refine PlacesP (s := [120]) (by decide) (fun H' hno _ => absurd hmay hno) fun ar cr He1 _ mr => ?_
  rw [e5, eb, ← hPL] at mr
  rw [e5]
  have pE := mp.own.upd (mq.upd.trans mr.upd) (Off.nil _)
  have qE := mq.own.upd mr.upd (Off.nil _)
  (repeat first | refine HReg.step ?_ | refine HCode.step ?_)
  refine HCall.mk ⟨Try.f21, Try.func21, by rfl, by rfl⟩ ?_
  refine sameInts_eq pE.rows hPl5 qE.rows hPl5 (by decide) ?_
  (repeat first | refine HReg.step ?_ | refine HCode.step ?_)
  refine HCall.mk ⟨Try.f21, Try.func21, by rfl, by rfl⟩ ?_
  refine sameInts_eq qE.rows hPl5 mr.own.rows hPl5 (by decide) ?_
  (repeat first | refine HReg.step ?_ | refine HCode.step ?_)
  rw [show eqB ((5 : Nat) : Int) 5 = true from eqB_true.2 rfl]
  (repeat first | refine HReg.step ?_ | refine HCode.step ?_)
  have gE := ((g6.step0 mp.upd).step0 mq.upd).step0 mr.upd
  have oE := o16.upd (mp.upd.trans (mq.upd.trans mr.upd)) (Off.nil _)
  have sE : BkS H8 b16 V [W, W, W, W, W] 5 ap cp (nums PL) aq cq (nums PL) ar cr (nums PL) He1 := by
    refine ⟨gE, oE, pE, qE, mr.own, hb1, fun x hx => ?_, fun x hx => ?_, fun x y hx hy e => ?_, fun x y hx hy e => ?_, fun x y hx hy e => ?_⟩
    · exact Upd.none (S := []) g6.upd (by simp) (mp.new x hx)
    · exact Upd.none (S := []) (g6.upd.trans mp.upd) (by simp) (mq.new x hx)
    · have h := mq.new y hy
      rw [← e] at h
      exact mp.own.there hx h
    · have h := mr.new y hy
      rw [← e] at h
      exact (mp.own.upd mq.upd (Off.nil _)).there hx h
    · have h := mr.new y hy
      rw [← e] at h
      exact mq.own.there hx h
  clear gE oE pE qE mp mq mr g6 o16
  refine hloopC [6, 23, 174, 175, 176, 177, 178, 179, 180, 181, 182, 183, 184, 185, 186] [23] (KeIx 5 He1) rfl (by repeat' first | exact Resp.retD | exact Resp1.valuesK | refine Resp.blockD ?_ | refine Resp.thenD ?_ ?_ | refine Resp.hcode ?_) ?_ ?_
  · exact ⟨5, KeIx.mk ⟨0, rfl, rfl, rfl⟩⟩
  rintro m _ fe3 Hf1 ⟨i, rfl, hmi, rfl⟩
  have wW := oW8.upd sE.G.upd (Off.nil _)
  (repeat first | refine HReg.step ?_ | refine HCode.step ?_)
  refine hif (fun h1 => ?_) (fun h1 => ?_)
  · have h1 := ltB_true.1 h1
    have w2 : wr .i64 ((i : Int) + 1) = ((i + 1 : Nat) : Int) := by rw [wr_i64 (by omega) (by omega)]; omega
    obtain ⟨l, hl⟩ : ∃ l, [W, W, W, W, W][i]? = some l := ⟨[W, W, W, W, W][i]'(by simp; omega), by simp⟩
    have hlW : l = W := by
      have := List.mem_of_getElem? hl
      simpa using this
    subst hlW
    obtain ⟨v, hv, av, cv, rfl, ov⟩ := sE.G.grp.get hl
    (repeat first | refine HReg.step ?_ | refine HCode.step ?_)
    refine HReq.mk ⟨by omega, by omega⟩ ?_
    (repeat first | refine HReg.step ?_ | refine HCode.step ?_)
    refine HLoad.one (v := .slice av l.length cv) (by exact sE.o.rows.get hv) ?_
    (repeat first | refine HReg.step ?_ | refine HCode.step ?_)
    refine HCall.mk ⟨Try.f16, Try.func16, by rfl, by rfl⟩ ?_
    refine same_eq ov.rows rfl wW.rows hWl rfl ?_
    (repeat first | refine HReg.step ?_ | refine HCode.step ?_)
    rw [w2]
    exact ⟨m - 1, by omega, KeIx.mk ⟨i + 1, rfl, by omega, rfl⟩⟩
  (repeat first | refine HReg.step ?_ | refine HCode.step ?_)
  refine hloopC [24, 25, 187, 188, 189, 190, 191, 192, 193, 194, 195, 196, 197, 198, 199, 200, 201, 202, 203, 204, 205, 206, 207, 208, 209, 210] [24] (Bk5 H8 b16 W.length V ap cp (nums PL) aq cq (nums PL) ar cr (nums PL)) rfl (by repeat' first | exact Resp.retD | exact Resp1.valuesK | refine Resp.blockD ?_ | refine Resp.thenD ?_ ?_ | refine Resp.hcode ?_) ?_ ?_
  · refine ⟨5, Bk5.mk ⟨0, _, rfl, rfl, ⟨rfl, fun k l hk => ⟨?_, fun h => by omega⟩⟩, sE⟩⟩
    have := List.mem_of_getElem? hk
    have : l = W := by simpa using this
    rw [this]
  rintro m _ fe4 Hg1 ⟨i, ls, rfl, hmi, P, s⟩
  (repeat first | refine HReg.step ?_ | refine HCode.step ?_)
  refine hif (fun h2 => ?_) (fun h2 => ?_)
  · have h2 := ltB_true.1 h2
    have w2 : wr .i64 ((i : Int) + 1) = ((i + 1 : Nat) : Int) := by rw [wr_i64 (by omega) (by omega)]; omega
    obtain ⟨l, hl⟩ : ∃ l, ls[i]? = some l := ⟨ls[i]'(by have := P.1; omega), by simp⟩
    obtain ⟨hlN, _⟩ := P.2 i l hl
    obtain ⟨v, hv, av, cv, rfl, ov⟩ := s.G.grp.get hl
    rw [hlN] at hv ov
    (repeat first | refine HReg.step ?_ | refine HCode.step ?_)
    refine hloopC [25, 193, 194, 195, 196, 197, 198, 199, 200, 201, 202, 203, 204, 205, 206, 207, 208, 209, 210] [25] (Bk6 H8 b16 W.length i l ls V ap cp (nums PL) aq cq (nums PL) ar cr (nums PL)) rfl (by repeat' first | exact Resp.retD | exact Resp1.valuesK | refine Resp.blockD ?_ | refine Resp.thenD ?_ ?_ | refine Resp.hcode ?_) ?_ ?_
    · refine ⟨W.length, Bk6.mk ⟨0, rfl, rfl, ?_⟩⟩
      have e : List.replicate 0 (m1 i) ++ l.drop 0 = l := by simp
      rw [e, set_self hl]; exact s
    rintro q _ fe5 Hh1 ⟨j, rfl, hqj, s5⟩
    (repeat first | refine HReg.step ?_ | refine HCode.step ?_)
    refine HReq.mk ⟨by omega, by omega⟩ ?_
    (repeat first | refine HReg.step ?_ | refine HCode.step ?_)
    refine HLoad.one (v := .slice av W.length cv) (by exact s5.o.rows.get hv) ?_
    (repeat first | refine HReg.step ?_ | refine HCode.step ?_)
    refine hif (fun h3 => ?_) (fun h3 => ?_)
    · have h3 := ltB_true.1 h3
      obtain ⟨gv, rfl⟩ := ov.addr (by omega)
      have w3 : wr .i64 ((j : Int) + 1) = ((j + 1 : Nat) : Int) := by rw [wr_i64 (by omega) (by omega)]; omega
      (repeat first | refine HReg.step ?_ | refine HCode.step ?_)
      refine HReq.mk ⟨by omega, by omega⟩ ?_
      (repeat first | refine HReg.step ?_ | refine HCode.step ?_)
      refine HLoad.one (v := .slice (some ⟨gv, 0, none⟩) W.length cv) (by exact s5.o.rows.get hv) ?_
      (repeat first | refine HReg.step ?_ | refine HCode.step ?_)
      refine HReq.mk ⟨by omega, by omega⟩ ?_
      (repeat first | refine HReg.step ?_ | refine HCode.step ?_)
      rw [m1_of i (by omega)]
      refine s5.G.store (x := m1 i) (i := i) (k := j) (l := List.replicate j (m1 i) ++ l.drop j) hv (get_set hl) (by rw [List.length_append, List.length_replicate, List.length_drop]; omega) (by show 0 + j + 0 = j; omega) fun Hi1 G6 u6 => ?_
      (repeat first | refine HReg.step ?_ | refine HCode.step ?_)
      rw [set_set', set_rep (by omega)] at G6
      rw [w3]
      refine Exists.intro (q - 1) ?_
      refine And.intro (by omega) ?_
      exact Bk6.mk ⟨j + 1, rfl, by omega, s5.list hv (by exact u6) G6⟩
    · have h3 := ltB_false.1 h3
      have hjl : j = W.length := by omega
      subst hjl
      rw [← hlN, List.drop_length, List.append_nil, hlN] at s5
      (repeat first | refine HReg.step ?_ | refine HCode.step ?_)
      rw [w2]
      refine Exists.intro (m - 1) ?_
      refine And.intro (by omega) ?_
      exact Bk5.mk ⟨i + 1, _, rfl, by omega, P.step hl, s5⟩
  have h2 := ltB_false.1 h2
  have hi5 : i = 5 := by omega
  subst hi5
  (repeat first | refine HReg.step ?_ | refine HCode.step ?_)
  refine hloopC [26, 211, 212, 213, 214, 215, 216, 217, 218, 219, 220] [26] (Bk7 H8 b16 V ls ap cp aq cq ar cr (nums PL)) rfl (by repeat' first | exact Resp.retD | exact Resp1.valuesK | refine Resp.blockD ?_ | refine Resp.thenD ?_ ?_ | refine Resp.hcode ?_) ?_ ?_
  · exact ⟨5, Bk7.mk ⟨0, _, _, rfl, rfl, fun k hk => by omega, s⟩⟩
  rintro m _ fe6 Hj1 ⟨i, X, Y, rfl, hmi, hXY, s7⟩
  (repeat first | refine HReg.step ?_ | refine HCode.step ?_)
  refine hif (fun h3 => ?_) (fun h3 => ?_)
  · have h3 := ltB_true.1 h3
    have w2 : wr .i64 ((i : Int) + 1) = ((i + 1 : Nat) : Int) := by rw [wr_i64 (by omega) (by omega)]; omega
    obtain ⟨gp, rfl⟩ := s7.p.addr (by omega)
    obtain ⟨gq, rfl⟩ := s7.q.addr (by omega)
    have hXl : X.length = 5 := s7.p.len
    have hYl : Y.length = 5 := s7.q.len
    (repeat first | refine HReg.step ?_ | refine HCode.step ?_)
    refine HReq.mk ⟨by omega, by omega⟩ ?_
    (repeat first | refine HReg.step ?_ | refine HCode.step ?_)
    refine store_row s7.p (v := .int .i64 (-1)) rfl (i := i) (by omega) (by show 0 + i + 0 = i; omega) fun Hk1 p8 up => ?_
    have s8 := s7.first up p8
    (repeat first | refine HReg.step ?_ | refine HCode.step ?_)
    refine HReq.mk ⟨by omega, by omega⟩ ?_
    (repeat first | refine HReg.step ?_ | refine HCode.step ?_)
    refine store_row s8.q (v := .int .i64 (-2)) rfl (i := i) (by omega) (by show 0 + i + 0 = i; omega) fun Hl1 q9 uq => ?_
    have s9 := (s8.swap.first uq q9).swap
    (repeat first | refine HReg.step ?_ | refine HCode.step ?_)
    rw [w2]
    refine Exists.intro (m - 1) ?_
    refine And.intro (by omega) ?_
    refine Bk7.mk ⟨i + 1, _, _, rfl, by omega, fun k hk => ?_, s9⟩
    by_cases hki : k = i
    · subst hki
      exact ⟨by rw [List.getElem?_set, if_pos rfl, if_pos (by omega)], by rw [List.getElem?_set, if_pos rfl, if_pos (by omega)]⟩
    · obtain ⟨h4, h5⟩ := hXY k (by omega)
      exact ⟨by rw [List.getElem?_set, if_neg (by omega)]; exact h4, by rw [List.getElem?_set, if_neg (by omega)]; exact h5⟩
  have h3 := ltB_false.1 h3
  have hi5 : i = 5 := by omega
  subst hi5
  (repeat first | refine HReg.step ?_ | refine HCode.step ?_)
  refine hloopC [27, 28, 221, 222, 223, 224, 225, 226, 227, 228, 229, 230, 231, 232, 233, 234, 235, 236, 237, 238, 239, 240, 241, 242] [27] (Bk8 H8 b16 W.length ap cp X aq cq Y ar cr (nums PL)) rfl (by repeat' first | exact Resp.retD | exact Resp1.valuesK | refine Resp.blockD ?_ | refine Resp.thenD ?_ ?_ | refine Resp.hcode ?_) ?_ ?_
  · exact ⟨5, Bk8.mk ⟨0, V, ls, rfl, rfl, Pa.of P, s7⟩⟩
  rintro m _ fe7 Hk1 ⟨i, V8, ls8, rfl, hmi, P8, s8⟩
  (repeat first | refine HReg.step ?_ | refine HCode.step ?_)
  refine hif (fun h4 => ?_) (fun h4 => ?_)
  · have h4 := ltB_true.1 h4
    have w2 : wr .i64 ((i : Int) + 1) = ((i + 1 : Nat) : Int) := by rw [wr_i64 (by omega) (by omega)]; omega
    (repeat first | refine HReg.step ?_ | refine HCode.step ?_)
    refine hloopC [28, 227, 228, 229, 230, 231, 232, 233, 234, 235, 236, 237, 238, 239, 240, 241, 242] [28] (Bk9 H8 b16 W.length i ap cp X aq cq Y ar cr (nums PL)) rfl (by repeat' first | exact Resp.retD | exact Resp1.valuesK | refine Resp.blockD ?_ | refine Resp.thenD ?_ ?_ | refine Resp.hcode ?_) ?_ ?_
    · exact ⟨60, Bk9.mk ⟨0, V8, ls8, rfl, rfl, P8, s8⟩⟩
    rintro q _ fe8 Hl1 ⟨j, V9, ls9, rfl, hqj, P9, s9⟩
    (repeat first | refine HReg.step ?_ | refine HCode.step ?_)
    refine hif (fun h5 => ?_) (fun h5 => ?_)
    · have h5 := ltB_true.1 h5
      have w3 : wr .i64 ((j : Int) + 1) = ((j + 1 : Nat) : Int) := by rw [wr_i64 (by omega) (by omega)]; omega
      obtain ⟨l, hl⟩ : ∃ l, ls9[i]? = some l := ⟨ls9[i]'(by have := P9.1; omega), by simp⟩
      have hll := P9.len hl (by omega)
      obtain ⟨v, hv, av, cv, rfl, ov⟩ := s9.G.grp.get hl
      (repeat first | refine HReg.step ?_ | refine HCode.step ?_)
      refine HReq.mk ⟨by omega, by omega⟩ ?_
      (repeat first | refine HReg.step ?_ | refine HCode.step ?_)
      refine HLoad.one (v := .slice av l.length cv) (by exact s9.o.rows.get hv) ?_
      (repeat first | refine HReg.step ?_ | refine HCode.step ?_)
      refine HReq.mk (by decide) ?_
      (repeat first | refine HReg.step ?_ | refine HCode.step ?_)
      rw [m2_of i (by omega)]
      refine HNew.mk fun b7 hb7 => ?_
      have u7 : Upd [] Hl1 (Hl1.upd b7 (.cells [Value.int .u8 ((m2 i).toNat : Int)].toArray 5)) := Upd.new hb7 _
      have r7 : RowAt (Hl1.upd b7 (.cells [Value.int .u8 ((m2 i).toNat : Int)].toArray 5)) (some ⟨b7, 0, none⟩) (u8s [m2 i]) := row_lit (upd_same _ _ _) rfl
      generalize hHm : Hl1.upd b7 (.cells [Value.int .u8 ((m2 i).toNat : Int)].toArray 5) = Hm1 at u7 r7
      have s10 := s9.upd0 u7
      have ov7 := ov.upd u7 (Off.nil _)
      (repeat first | refine HReg.step ?_ | refine HCode.step ?_)
      refine app_own' ov7 r7 (by omega) fun a8 c8 Hn1 o8 u8' f8 => ?_
      have hlen8 : (l ++ [m2 i]).length = l.length + 1 := by simp
      have hnb : ∀ b ∈ vblk (.slice a8 (l.length + 1) c8), b ∈ vblk (.slice av l.length cv) ∨ Hm1 b = none := fun b hb => by
        rw [vblk_slice] at hb ⊢
        obtain ⟨p, hp, rfl⟩ := blk_of hb
        rcases f8 p hp with h | h
        · left; rw [h]; simp [blk]
        · exact .inr h
      have uv : Upd (vblk (.slice av l.length cv)) Hm1 Hn1 := by rw [vblk_slice]; exact u8'
      have g11 := s10.G.change (v' := .slice a8 (l.length + 1) c8) (l' := l ++ [m2 i]) hv uv ⟨a8, c8, by rw [hlen8], by rw [hlen8]; exact o8⟩ hnb
      (repeat first | refine HReg.step ?_ | refine HCode.step ?_)
      refine HReq.mk ⟨by omega, by omega⟩ ?_
      (repeat first | refine HReg.step ?_ | refine HCode.step ?_)
      have oN := s10.o.upd uv (s10.o.apart s10.G.grp (by decide) hv)
      refine store_row oN (v := .slice a8 (l.length + 1) c8) rfl (i := i) (by omega) (by show 0 + i + 0 = i; omega) fun Ho1 oO uO => ?_
      have s12 : BkS H8 b16 (V9.set i (.slice a8 (l.length + 1) c8)) (ls9.set i (l ++ [m2 i])) 5 ap cp X aq cq Y ar cr (nums PL) Ho1 := by
        have hb : blk (some (⟨b16, 0, none⟩ : Addr)) = [b16] := rfl
        have uO' : Upd (blk (some (⟨b16, 0, none⟩ : Addr))) Hn1 Ho1 := uO
        have pN := s10.p.upd uv (s10.p.apart s10.G.grp (by decide) hv)
        have qN := s10.q.upd uv (s10.q.apart s10.G.grp (by decide) hv)
        have rN := s10.r.upd uv (s10.r.apart s10.G.grp (by decide) hv)
        exact ⟨g11.step uO' (oN.notT (by decide)) (fun b h => by rw [hb, List.mem_singleton] at h; rw [h]; exact s10.nb), oO, pN.upd uO' (oN.offT pN (by decide)), qN.upd uO' (oN.offT qN (by decide)), rN.upd uO' (oN.offT rN (by decide)), s10.nb, s10.pn, s10.qn, s10.pq, s10.pr, s10.qr⟩
      (repeat first | refine HReg.step ?_ | refine HCode.step ?_)
      rw [w3]
      refine Exists.intro (q - 1) ?_
      refine And.intro (by omega) ?_
      exact Bk9.mk ⟨j + 1, _, _, rfl, by omega, P9.more hl, s12⟩
    · have h5 := ltB_false.1 h5
      have hj : j = 60 := by omega
      subst hj
      (repeat first | refine HReg.step ?_ | refine HCode.step ?_)
      rw [w2]
      refine Exists.intro (m - 1) ?_
      refine And.intro (by omega) ?_
      exact Bk8.mk ⟨i + 1, _, _, rfl, by omega, P9.next, s9⟩
  have h4 := ltB_false.1 h4
  have hi5 : i = 5 := by omega
  subst hi5
  (repeat first | refine HReg.step ?_ | refine HCode.step ?_)
  refine HReq.mk (by decide) ?_
  (repeat first | refine HReg.step ?_ | refine HCode.step ?_)
  refine HNew.mk fun b9 hb9 => ?_
  have u9 : Upd [] Hk1 (Hk1.upd b9 (.cells [Value.int .i64 (-3), .int .i64 (-3)].toArray 3)) := Upd.new hb9 _
  have r9 : RowAt (Hk1.upd b9 (.cells [Value.int .i64 (-3), .int .i64 (-3)].toArray 3)) (some ⟨b9, 0, none⟩) [Value.int .i64 (-3), .int .i64 (-3)] := RowAt.of_cells (upd_same _ _ _)
  generalize hHl : Hk1.upd b9 (.cells [Value.int .i64 (-3), .int .i64 (-3)].toArray 3) = Hl1 at u9 r9
  have s9 := s8.upd0 u9
  have hXl : X.length = 5 := s9.p.len
  have hYl : Y.length = 5 := s9.q.len
  (repeat first | refine HReg.step ?_ | refine HCode.step ?_)
  refine append_rows (ie := Try.t3) (z := .int .i64 0) (xs := X) (ys := [Value.int .i64 (-3), .int .i64 (-3)]) Try.underlying42 rfl rfl rfl (by decide) s9.p r9 rfl ?_ (by decide) (by decide) fun ap2 cp2 Hm1 p2 up2 fp2 => ?_
  · intro v hv
    rcases List.mem_cons.1 hv with rfl | hv
    · rfl
    · rw [List.mem_singleton.1 hv]; rfl
  have gM := s9.G.step up2 (s9.p.notT (by decide)) (fun b hb => by obtain ⟨x, hx, rfl⟩ := blk_of hb; exact s9.pn x hx)
  have oM := s9.o.upd up2 (s9.p.offT s9.o (by decide))
  have qM := s9.q.upd up2 (off_ne s9.pq)
  have rM := s9.r.upd up2 (off_ne s9.pr)
  (repeat first | refine HReg.step ?_ | refine HCode.step ?_)
  refine HReq.mk (by decide) ?_
  (repeat first | refine HReg.step ?_ | refine HCode.step ?_)
  refine HNew.mk fun b10 hb10 => ?_
  have u10 : Upd [] Hm1 (Hm1.upd b10 (.cells [Value.int .i64 (-4), .int .i64 (-4)].toArray 3)) := Upd.new hb10 _
  have r10 : RowAt (Hm1.upd b10 (.cells [Value.int .i64 (-4), .int .i64 (-4)].toArray 3)) (some ⟨b10, 0, none⟩) [Value.int .i64 (-4), .int .i64 (-4)] := RowAt.of_cells (upd_same _ _ _)
  generalize hHn : Hm1.upd b10 (.cells [Value.int .i64 (-4), .int .i64 (-4)].toArray 3) = Hn1 at u10 r10
  have qN := qM.upd u10 (Off.nil _)
  (repeat first | refine HReg.step ?_ | refine HCode.step ?_)
  refine append_rows (ie := Try.t3) (z := .int .i64 0) (xs := Y) (ys := [Value.int .i64 (-4), .int .i64 (-4)]) Try.underlying42 rfl rfl rfl (by decide) qN r10 rfl ?_ (by decide) (by decide) fun aq2 cq2 Ho1 q2 uq2 fq2 => ?_
  · intro v hv
    rcases List.mem_cons.1 hv with rfl | hv
    · rfl
    · rw [List.mem_singleton.1 hv]; rfl
  have gO := (gM.step0 u10).step uq2 (qN.notT (by decide)) (fun b hb => by obtain ⟨x, hx, rfl⟩ := blk_of hb; exact s9.qn x hx)
  have oO := (oM.upd u10 (Off.nil _)).upd uq2 (qN.offT (oM.upd u10 (Off.nil _)) (by decide))
  have rO := (rM.upd u10 (Off.nil _)).upd uq2 (off_ne s9.qr)
  have pO := (p2.upd u10 (Off.nil _)).upd uq2 (fun y hy hb => by
    obtain ⟨z, hz, e⟩ := blk_of hb
    rcases fp2 y hy with h | h
    · exact s9.pq y z h hz e.symm
    · rw [← e] at h
      exact s9.q.there hz h)
  clear gM oM qM rM qN p2
  (repeat first | refine HReg.step ?_ | refine HCode.step ?_)
  refine hloopC [6, 29, 30, 249, 250, 251, 252, 253, 254, 255, 256, 257, 258, 259, 260, 261, 262, 263, 264, 265, 266, 267, 268, 269, 270, 271, 272, 273, 274, 275, 276, 277, 278, 279, 280, 281, 282, 283, 284, 285, 286, 287, 288, 289, 290, 291, 292, 293, 294, 295, 296, 297, 298, 299] [29] (KeIx 5 Ho1) rfl (by repeat' first | exact Resp.retD | exact Resp1.valuesK | refine Resp.blockD ?_ | refine Resp.thenD ?_ ?_ | refine Resp.hcode ?_) ?_ ?_
  · exact ⟨5, KeIx.mk ⟨0, rfl, rfl, rfl⟩⟩
  rintro m _ fe9 Hp1 ⟨i, rfl, hmi, rfl⟩
  have wW2 := oW8.upd gO.upd (Off.nil _)
  (repeat first | refine HReg.step ?_ | refine HCode.step ?_)
  refine hif (fun h5 => ?_) (fun h5 => ?_)
  · have h5 := ltB_true.1 h5
    have w2 : wr .i64 ((i : Int) + 1) = ((i + 1 : Nat) : Int) := by rw [wr_i64 (by omega) (by omega)]; omega
    obtain ⟨l, hl⟩ : ∃ l, ls8[i]? = some l := ⟨ls8[i]'(by have := P8.1; omega), by simp⟩
    have hll := P8.2 i l hl
    rw [if_pos (by omega)] at hll
    obtain ⟨v, hv, av, cv, rfl, ov⟩ := gO.grp.get hl
    have hlen : l.length = 5 + S.length + 60 := by rw [hll, List.length_append, List.length_replicate, List.length_replicate]; omega
    rw [hlen] at hv ov
    obtain ⟨gv, rfl⟩ := ov.addr (by omega)
    obtain ⟨e1, e2⟩ := m12 i (by omega)
    (repeat first | refine HReg.step ?_ | refine HCode.step ?_)
    refine hloopC [6, 30, 255, 256, 257, 258, 259, 260, 261, 262, 263, 264, 265, 266, 267, 268, 269, 270, 271, 272, 273, 274, 275, 276, 277, 278, 279, 280, 281, 282, 283, 284, 285, 286, 287, 288, 289, 290, 291, 292, 293, 294, 295, 296, 297, 298, 299] [30] (KeIx (5 + S.length + 60) Hp1) rfl (by repeat' first | exact Resp.retD | exact Resp1.valuesK | refine Resp.blockD ?_ | refine Resp.thenD ?_ ?_ | refine Resp.hcode ?_) ?_ ?_
    · exact ⟨_, KeIx.mk ⟨0, rfl, rfl, rfl⟩⟩
    rintro q _ fe10 Hq1 ⟨j, rfl, hqj, rfl⟩
    (repeat first | refine HReg.step ?_ | refine HCode.step ?_)
    refine HReq.mk ⟨by omega, by omega⟩ ?_
    (repeat first | refine HReg.step ?_ | refine HCode.step ?_)
    refine HLoad.one (v := .slice (some ⟨gv, 0, none⟩) (5 + S.length + 60) cv) (by exact oO.rows.get hv) ?_
    (repeat first | refine HReg.step ?_ | refine HCode.step ?_)
    refine hif (fun h6 => ?_) (fun h6 => ?_)
    · have h6 := ltB_true.1 h6
      have w3 : wr .i64 ((j : Int) + 1) = ((j + 1 : Nat) : Int) := by rw [wr_i64 (by omega) (by omega)]; omega
      (repeat first | refine HReg.step ?_ | refine HCode.step ?_)
      refine HReq.mk ⟨by omega, by omega⟩ ?_
      (repeat first | refine HReg.step ?_ | refine HCode.step ?_)
      refine HLoad.one (v := .slice (some ⟨gv, 0, none⟩) (5 + S.length + 60) cv) (by exact oO.rows.get hv) ?_
      (repeat first | refine HReg.step ?_ | refine HCode.step ?_)
      refine HReq.mk ⟨by omega, by omega⟩ ?_
      (repeat first | refine HReg.step ?_ | refine HCode.step ?_)
      have hW5 : W.length = 5 + S.length := hWl
      by_cases hjn : j < 5 + S.length
      · have hx : l[j]? = some (m1 i) := by rw [hll, List.getElem?_append_left (by rw [List.length_replicate]; omega), List.getElem?_replicate, if_pos (by omega)]
        (repeat first | refine HReg.step ?_ | refine HCode.step ?_)
        refine HLoad.one (v := .int .u8 ((m1 i).toNat : Int)) (by exact ov.rows.get (u8s_get hx)) ?_
        (repeat first | refine HReg.step ?_ | refine HCode.step ?_)
        rw [m1_of i (by omega), eqB_self ((m1 i).toNat : Int)]
        (repeat first | refine HReg.step ?_ | refine HCode.step ?_)
        refine HReq.mk ⟨by omega, by omega⟩ ?_
        (repeat first | refine HReg.step ?_ | refine HCode.step ?_)
        refine HLoad.one (v := .slice (some ⟨gv, 0, none⟩) (5 + S.length + 60) cv) (by exact oO.rows.get hv) ?_
        (repeat first | refine HReg.step ?_ | refine HCode.step ?_)
        refine HReq.mk ⟨by omega, by omega⟩ ?_
        (repeat first | refine HReg.step ?_ | refine HCode.step ?_)
        refine HLoad.one (v := .int .u8 ((m1 i).toNat : Int)) (by exact ov.rows.get (u8s_get hx)) ?_
        (repeat first | refine HReg.step ?_ | refine HCode.step ?_)
        rw [m2_of i (by omega), show eqB ((m1 i).toNat : Int) ((m2 i).toNat : Int) = false from eqB_false.2 (by omega)]
        (repeat first | refine HReg.step ?_ | refine HCode.step ?_)
        rw [show ltB (j : Int) ((5 + S.length : Nat) : Int) = true from ltB_true.2 (by omega)]
        (repeat first | refine HReg.step ?_ | refine HCode.step ?_)
        rw [w3]
        exact ⟨q - 1, by omega, KeIx.mk ⟨j + 1, rfl, by omega, rfl⟩⟩
      · have hx : l[j]? = some (m2 i) := by rw [hll, List.getElem?_append_right (by rw [List.length_replicate]; omega), List.getElem?_replicate, if_pos (by rw [List.length_replicate]; omega)]
        (repeat first | refine HReg.step ?_ | refine HCode.step ?_)
        refine HLoad.one (v := .int .u8 ((m2 i).toNat : Int)) (by exact ov.rows.get (u8s_get hx)) ?_
        (repeat first | refine HReg.step ?_ | refine HCode.step ?_)
        rw [m1_of i (by omega), show eqB ((m2 i).toNat : Int) ((m1 i).toNat : Int) = false from eqB_false.2 (by omega)]
        (repeat first | refine HReg.step ?_ | refine HCode.step ?_)
        rw [show ltB (j : Int) ((5 + S.length : Nat) : Int) = false from ltB_false.2 (by omega)]
        (repeat first | refine HReg.step ?_ | refine HCode.step ?_)
        refine HReq.mk ⟨by omega, by omega⟩ ?_
        (repeat first | refine HReg.step ?_ | refine HCode.step ?_)
        refine HLoad.one (v := .slice (some ⟨gv, 0, none⟩) (5 + S.length + 60) cv) (by exact oO.rows.get hv) ?_
        (repeat first | refine HReg.step ?_ | refine HCode.step ?_)
        refine HReq.mk ⟨by omega, by omega⟩ ?_
        (repeat first | refine HReg.step ?_ | refine HCode.step ?_)
        refine HLoad.one (v := .int .u8 ((m2 i).toNat : Int)) (by exact ov.rows.get (u8s_get hx)) ?_
        (repeat first | refine HReg.step ?_ | refine HCode.step ?_)
        rw [m2_of i (by omega), eqB_self ((m2 i).toNat : Int)]
        (repeat first | refine HReg.step ?_ | refine HCode.step ?_)
        rw [w3]
        exact ⟨q - 1, by omega, KeIx.mk ⟨j + 1, rfl, by omega, rfl⟩⟩
    · (repeat first | refine HReg.step ?_ | refine HCode.step ?_)
      rw [w2]
      exact ⟨m - 1, by omega, KeIx.mk ⟨i + 1, rfl, by omega, rfl⟩⟩
  (repeat first | refine HReg.step ?_ | refine HCode.step ?_)
  refine HCall.mk ⟨Try.f19, Try.func19, by rfl, by rfl⟩ ?_
  refine PlacesP (s := [120]) (by decide) (fun H' hno _ => absurd hmay hno) fun as_ cs Hr1 _ ms => ?_
  rw [e5, eb, ← hPL] at ms
  rw [e5]
  have rR := rO.upd ms.upd (Off.nil _)
  have pR := pO.upd ms.upd (Off.nil _)
  have qR := q2.upd ms.upd (Off.nil _)
  obtain ⟨gp, rfl⟩ := pR.addr (by omega)
  obtain ⟨gq, rfl⟩ := qR.addr (by omega)
  have uR : Upd [] H8 Hr1 := gO.upd.trans ms.upd
  have px0 : (X ++ [Value.int .i64 (-3), .int .i64 (-3)])[0]? = some (.int .i64 (-1)) := by rw [List.getElem?_append_left (by omega)]; exact (hXY 0 (by omega)).1
  have px5 : (X ++ [Value.int .i64 (-3), .int .i64 (-3)])[5]? = some (.int .i64 (-3)) := by rw [List.getElem?_append_right (by omega), hXl]; rfl
  have qx0 : (Y ++ [Value.int .i64 (-4), .int .i64 (-4)])[0]? = some (.int .i64 (-2)) := by rw [List.getElem?_append_left (by omega)]; exact (hXY 0 (by omega)).2
  have qx5 : (Y ++ [Value.int .i64 (-4), .int .i64 (-4)])[5]? = some (.int .i64 (-4)) := by rw [List.getElem?_append_right (by omega), hYl]; rfl
  (repeat first | refine HReg.step ?_ | refine HCode.step ?_)
  refine HCall.mk ⟨Try.f21, Try.func21, by rfl, by rfl⟩ ?_
  refine sameInts_eq ms.own.rows hPl5 rR.rows hPl5 (by decide) ?_
  (repeat first | refine HReg.step ?_ | refine HCode.step ?_)
  refine HReq.mk ⟨by omega, by omega⟩ ?_
  (repeat first | refine HReg.step ?_ | refine HCode.step ?_)
  refine HLoad.one (v := .int .i64 (-1)) (by exact pR.rows.get px0) ?_
  (repeat first | refine HReg.step ?_ | refine HCode.step ?_)
  rw [eqB_self (-1)]
  (repeat first | refine HReg.step ?_ | refine HCode.step ?_)
  refine HReq.mk ⟨by omega, by omega⟩ ?_
  (repeat first | refine HReg.step ?_ | refine HCode.step ?_)
  refine HLoad.one (v := .int .i64 (-2)) (by exact qR.rows.get qx0) ?_
  (repeat first | refine HReg.step ?_ | refine HCode.step ?_)
  rw [eqB_self (-2)]
  (repeat first | refine HReg.step ?_ | refine HCode.step ?_)
  refine HReq.mk ⟨by omega, by omega⟩ ?_
  (repeat first | refine HReg.step ?_ | refine HCode.step ?_)
  refine HLoad.one (v := .int .i64 (-3)) (by exact pR.rows.get px5) ?_
  (repeat first | refine HReg.step ?_ | refine HCode.step ?_)
  rw [eqB_self (-3)]
  (repeat first | refine HReg.step ?_ | refine HCode.step ?_)
  refine HReq.mk ⟨by omega, by omega⟩ ?_
  (repeat first | refine HReg.step ?_ | refine HCode.step ?_)
  refine HLoad.one (v := .int .i64 (-4)) (by exact qR.rows.get qx5) ?_
  (repeat first | refine HReg.step ?_ | refine HCode.step ?_)
  rw [eqB_self (-4)]
  (repeat first | refine HReg.step ?_ | refine HCode.step ?_)
  clear rR pR qR pO rO oO gO wW2
  refine HCall.mk ⟨Try.f17, Try.func17, by rfl, by rfl⟩ ?_
  refine bytes_t (F8.upd0 uR) fun z1 q1 Hs1 k1 => ?_
  rw [← hW] at k1
  have us := uR.trans k1.upd
  (repeat first | refine HReg.step ?_ | refine HCode.step ?_)
  refine HCall.mk ⟨Try.f16, Try.func16, by rfl, by rfl⟩ ?_
  refine same_eq k1.own.rows hWl (oW8.upd us (Off.nil _)).rows hWl rfl ?_
  (repeat first | refine HReg.step ?_ | refine HCode.step ?_)
  refine HCall.mk ⟨Try.f17, Try.func17, by rfl, by rfl⟩ ?_
  refine bytes_t (G8.upd0 us) fun z2 q2' Hs2 k2 => ?_
  rw [← hW] at k2
  have us2 := us.trans k2.upd
  (repeat first | refine HReg.step ?_ | refine HCode.step ?_)
  refine HCall.mk ⟨Try.f16, Try.func16, by rfl, by rfl⟩ ?_
  refine same_eq k2.own.rows hWl (oW8.upd us2 (Off.nil _)).rows hWl rfl ?_
  (repeat first | refine HReg.step ?_ | refine HCode.step ?_)
  refine HCall.mk ⟨Try.f17, Try.func17, by rfl, by rfl⟩ ?_
  refine bytes_t (U8.upd0 us2) fun z3 q3 Hs3 k3 => ?_
  rw [← hW] at k3
  have us3 := us2.trans k3.upd
  (repeat first | refine HReg.step ?_ | refine HCode.step ?_)
  refine HCall.mk ⟨Try.f16, Try.func16, by rfl, by rfl⟩ ?_
  refine same_eq k3.own.rows hWl (oW8.upd us3 (Off.nil _)).rows hWl rfl ?_
  (repeat first | refine HReg.step ?_ | refine HCode.step ?_)
  refine HCall.mk ⟨Try.f28, Try.func28, by rfl, by rfl⟩ ?_
  refine fresh_t fun gn bn' Ht1 Nn => ?_
  have us4 := us3.trans Nn.upd
  (repeat first | refine HReg.step ?_ | refine HCode.step ?_)
  refine HCall.mk ⟨Try.f29, Try.func29, by rfl, by rfl⟩ ?_
  refine add_t (s := [111, 110, 101, 32, 109, 111, 114, 101]) (U8.upd0 us4) (by decide) fun Hu1 Uu uu => ?_
  (repeat first | refine HReg.step ?_ | refine HCode.step ?_)
  refine HCall.mk ⟨Try.f29, Try.func29, by rfl, by rfl⟩ ?_
  refine add_t (s := [97, 110, 100, 32, 111, 110, 101]) Uu (by decide) fun Hv1 Uv uv => ?_
  have u2 := uu.trans uv
  have N4 := Nn.fil.upd u2 (by
    have h := Nn.fil.gb (U8.upd0 us4)
    simpa using h) (by
    obtain ⟨c2, z2', h2⟩ := (U8.upd0 us3).liveB
    have hne : bn' ≠ bu := fun e => (by rw [← e, Nn.nb] at h2; cases h2)
    simpa using hne)
  have F4 := (F8.upd0 us4).upd u2 (by simpa using F8.gb U8) (by simpa using hbu.1)
  have G4 := (G8.upd0 us4).upd u2 (by simpa using G8.gb U8) (by simpa using hbu.2)
  have W4 := (oW8.upd us4 (Off.nil _)).upd u2 (fun p hp hb => hwbu p hp (List.mem_singleton.1 hb))
  have uE : Upd [] H Hv1 := Upd.drop (uH8.trans us4) u2 fun b hb => by rw [List.mem_singleton.1 hb]; exact hnbu
  (repeat first | refine HReg.step ?_ | refine HCode.step ?_)
  refine HCall.mk ⟨Try.f24, Try.func24, by rfl, by rfl⟩ ?_
  refine ones_t N4 ?_
  rw [ones_zeros]
  (repeat first | refine HReg.step ?_ | refine HCode.step ?_)
  rw [show eqB ((0 : Nat) : Int) 0 = true from eqB_true.2 rfl]
  (repeat first | refine HReg.step ?_ | refine HCode.step ?_)
  refine HCall.mk ⟨Try.f17, Try.func17, by rfl, by rfl⟩ ?_
  refine bytes_t F4 fun z5 q5 Hw1 k5 => ?_
  rw [← hW] at k5
  (repeat first | refine HReg.step ?_ | refine HCode.step ?_)
  refine HCall.mk ⟨Try.f16, Try.func16, by rfl, by rfl⟩ ?_
  refine same_eq k5.own.rows hWl (W4.upd k5.upd (Off.nil _)).rows hWl rfl ?_
  (repeat first | refine HReg.step ?_ | refine HCode.step ?_)
  refine HCall.mk ⟨Try.f17, Try.func17, by rfl, by rfl⟩ ?_
  refine bytes_t (G4.upd0 k5.upd) fun z6 q6 Hx1 k6 => ?_
  rw [← hW] at k6
  (repeat first | refine HReg.step ?_ | refine HCode.step ?_)
  refine HCall.mk ⟨Try.f16, Try.func16, by rfl, by rfl⟩ ?_
  refine same_eq k6.own.rows hWl (W4.upd (k5.upd.trans k6.upd) (Off.nil _)).rows hWl rfl ?_
  (repeat first | refine HReg.step ?_ | refine HCode.step ?_)
  exact hk _ (uE.trans (k5.upd.trans k6.upd))
end Go.Proofs.Ytaobgofbhommcaa
