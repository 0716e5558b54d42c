import Derived.Test.YtaobgofbhommcaaB13
namespace Go.Proofs.Ytaobgofbhommcaa
open Go Hv
set_option linter.unusedVariables false
set_option linter.unusedSimpArgs false
set_option maxRecDepth 10000
set_option maxHeartbeats 1000000
/-! BloomEver -/
structure EvJ (H : Heap) (gf bf gg bg n h : Nat) (os : List (List UInt8)) (vs : List Value) (H' : Heap) : Prop where
  ex : ∃ J : Nat, vs = [] ∧ (∀ k, k < os.length → k < 60 → k < J) ∧ Upd [] H H' ∧ Fil H' gf bf n h (zerosL n) ∧ Fil H' gg bg n h (addTexts n h (zerosL n) (os.take J))
structure EvI1 (H : Heap) (gf bf gg bg n h : Nat) (os : List (List UInt8)) (m : Nat) (vs : List Value) (H' : Heap) : Prop where
  ex : ∃ i : Nat, vs = [.int .i64 (i : Int)] ∧ m + i = 60 ∧ i ≤ os.length ∧ Upd [] H H' ∧ Fil H' gf bf n h (zerosL n) ∧ Fil H' gg bg n h (addTexts n h (zerosL n) (os.take i))
structure EvI2 (H : Heap) (gf bf gg bg n h : Nat) (ts : List (List UInt8)) (T : List UInt8) (m : Nat) (vs : List Value) (H' : Heap) : Prop where
  ex : ∃ i : Nat, vs = [.int .i64 (i : Int)] ∧ m + i = 60 ∧ i ≤ ts.length ∧ Upd [] H H' ∧ Fil H' gf bf n h (addTexts n h (zerosL n) (ts.take i)) ∧ Fil H' gg bg n h T
structure EvI3 (H : Heap) (top : Nat) (m : Nat) (vs : List Value) (H' : Heap) : Prop where
  ex : ∃ k : Nat, vs = [.int .i64 (k : Int)] ∧ m + k = top ∧ Upd [] H H'
theorem ev_le {i : Nat} {m : Int} : ltB m (i : Int) = true ↔ m < i := ltB_true
theorem bloomEver_t {b h : Int} {a2 a3 : Option Addr} {n2 c2 n3 c3 : Nat} {ts os : List (List UInt8)} {H : Heap} {K : Value → Heap → Prop}
    (rt : RowAt H a2 (txts ts)) (lt : ts.length = n2) (bt : ∀ t ∈ ts, t.length ≤ 9223372036854775806) (ro : RowAt H a3 (txts os)) (lo : os.length = n3) (bo : ∀ t ∈ os, t.length ≤ 9223372036854775806)
    (hk : ∀ H', Upd [] H H' → K (.bool true) H') : HCalls Try.prog 6 [.int .i64 b, .int .i64 h, .slice a2 n2 c2, .slice a3 n3 c3] H K := by
  refine hcalls (fn := Try.f6) [] mixed Try.func6 rfl rfl rfl ?_
  (repeat first | refine HReg.step ?_ | refine HCode.step ?_)
  refine HCall.mk ⟨Try.f28, Try.func28, by rfl, by rfl⟩ ?_
  refine fresh_t fun gf bf H1 F1 => ?_
  (repeat first | refine HReg.step ?_ | refine HCode.step ?_)
  refine HCall.mk ⟨Try.f28, Try.func28, by rfl, by rfl⟩ ?_
  refine fresh_t fun gg bg H2 G2 => ?_
  have F2 := F1.upd0 G2.upd
  have hbb : bf ≠ bg := fun e => by
    obtain ⟨c, z, hl⟩ := F1.fil.liveB
    have := G2.nb
    rw [← e, hl] at this; cases this
  have G2' := G2.back F1.upd
  generalize shN b = n at *
  generalize shH h = k at *
  (repeat first | refine HReg.step ?_ | refine HCode.step ?_)
  refine HCall.mk ⟨Try.f10, Try.func10, by rfl, by rfl⟩ ?_
  refine known_t fun H3 u3 => ?_
  have F3 := F2.upd0 u3
  have G3 := G2'.upd0 u3
  have hfg : gf ≠ bg := F3.fil.gb G3.fil
  have hgf : gg ≠ bf := G3.fil.gb F3.fil
  have hff : gf ≠ bf := F3.fil.gb F3.fil
  have hgg : gg ≠ bg := G3.fil.gb G3.fil
  have nf : ∀ q ∈ [bf], H q = none := fun q hq => by rw [List.mem_singleton.1 hq]; exact F3.nb
  have ng : ∀ q ∈ [bg], H q = none := fun q hq => by rw [List.mem_singleton.1 hq]; exact G3.nb
  have hn65 := F3.fil.ok.n2
  have hk16 := F3.fil.ok.h2
  first | refine hcutC (a := Code.seq (Code.region _ _ _) (Code.block _ _)) [11, 38, 39, 40, 41, 42, 43, 44, 45, 46, 47, 48, 49, 50, 51, 52, 53] [] (EvJ H gf bf gg bg n k os) rfl (by repeat' first | exact Resp.retD | exact Resp1.valuesK | refine Resp.blockD ?_ | refine Resp.thenD ?_ ?_ | refine Resp.hcode ?_) ?_ ?_ | ((first | refine HReg.step ?_ | refine HCode.step ?_); first | refine hcutC (a := Code.seq (Code.region _ _ _) (Code.block _ _)) [11, 38, 39, 40, 41, 42, 43, 44, 45, 46, 47, 48, 49, 50, 51, 52, 53] [] (EvJ H gf bf gg bg n k os) rfl (by repeat' first | exact Resp.retD | exact Resp1.valuesK | refine Resp.blockD ?_ | refine Resp.thenD ?_ ?_ | refine Resp.hcode ?_) ?_ ?_ | ((first | refine HReg.step ?_ | refine HCode.step ?_); first | refine hcutC (a := Code.seq (Code.region _ _ _) (Code.block _ _)) [11, 38, 39, 40, 41, 42, 43, 44, 45, 46, 47, 48, 49, 50, 51, 52, 53] [] (EvJ H gf bf gg bg n k os) rfl (by repeat' first | exact Resp.retD | exact Resp1.valuesK | refine Resp.blockD ?_ | refine Resp.thenD ?_ ?_ | refine Resp.hcode ?_) ?_ ?_ | ((first | refine HReg.step ?_ | refine HCode.step ?_); first | refine hcutC (a := Code.seq (Code.region _ _ _) (Code.block _ _)) [11, 38, 39, 40, 41, 42, 43, 44, 45, 46, 47, 48, 49, 50, 51, 52, 53] [] (EvJ H gf bf gg bg n k os) rfl (by repeat' first | exact Resp.retD | exact Resp1.valuesK | refine Resp.blockD ?_ | refine Resp.thenD ?_ ?_ | refine Resp.hcode ?_) ?_ ?_ | ((first | refine HReg.step ?_ | refine HCode.step ?_); first | refine hcutC (a := Code.seq (Code.region _ _ _) (Code.block _ _)) [11, 38, 39, 40, 41, 42, 43, 44, 45, 46, 47, 48, 49, 50, 51, 52, 53] [] (EvJ H gf bf gg bg n k os) rfl (by repeat' first | exact Resp.retD | exact Resp1.valuesK | refine Resp.blockD ?_ | refine Resp.thenD ?_ ?_ | refine Resp.hcode ?_) ?_ ?_ | ((first | refine HReg.step ?_ | refine HCode.step ?_); first | refine hcutC (a := Code.seq (Code.region _ _ _) (Code.block _ _)) [11, 38, 39, 40, 41, 42, 43, 44, 45, 46, 47, 48, 49, 50, 51, 52, 53] [] (EvJ H gf bf gg bg n k os) rfl (by repeat' first | exact Resp.retD | exact Resp1.valuesK | refine Resp.blockD ?_ | refine Resp.thenD ?_ ?_ | refine Resp.hcode ?_) ?_ ?_ | ((first | refine HReg.step ?_ | refine HCode.step ?_); first | refine hcutC (a := Code.seq (Code.region _ _ _) (Code.block _ _)) [11, 38, 39, 40, 41, 42, 43, 44, 45, 46, 47, 48, 49, 50, 51, 52, 53] [] (EvJ H gf bf gg bg n k os) rfl (by repeat' first | exact Resp.retD | exact Resp1.valuesK | refine Resp.blockD ?_ | refine Resp.thenD ?_ ?_ | refine Resp.hcode ?_) ?_ ?_ | ((first | refine HReg.step ?_ | refine HCode.step ?_); first | refine hcutC (a := Code.seq (Code.region _ _ _) (Code.block _ _)) [11, 38, 39, 40, 41, 42, 43, 44, 45, 46, 47, 48, 49, 50, 51, 52, 53] [] (EvJ H gf bf gg bg n k os) rfl (by repeat' first | exact Resp.retD | exact Resp1.valuesK | refine Resp.blockD ?_ | refine Resp.thenD ?_ ?_ | refine Resp.hcode ?_) ?_ ?_ | ((first | refine HReg.step ?_ | refine HCode.step ?_); first | refine hcutC (a := Code.seq (Code.region _ _ _) (Code.block _ _)) [11, 38, 39, 40, 41, 42, 43, 44, 45, 46, 47, 48, 49, 50, 51, 52, 53] [] (EvJ H gf bf gg bg n k os) rfl (by repeat' first | exact Resp.retD | exact Resp1.valuesK | refine Resp.blockD ?_ | refine Resp.thenD ?_ ?_ | refine Resp.hcode ?_) ?_ ?_ | ((first | refine HReg.step ?_ | refine HCode.step ?_); first | refine hcutC (a := Code.seq (Code.region _ _ _) (Code.block _ _)) [11, 38, 39, 40, 41, 42, 43, 44, 45, 46, 47, 48, 49, 50, 51, 52, 53] [] (EvJ H gf bf gg bg n k os) rfl (by repeat' first | exact Resp.retD | exact Resp1.valuesK | refine Resp.blockD ?_ | refine Resp.thenD ?_ ?_ | refine Resp.hcode ?_) ?_ ?_ | ((first | refine HReg.step ?_ | refine HCode.step ?_); first | refine hcutC (a := Code.seq (Code.region _ _ _) (Code.block _ _)) [11, 38, 39, 40, 41, 42, 43, 44, 45, 46, 47, 48, 49, 50, 51, 52, 53] [] (EvJ H gf bf gg bg n k os) rfl (by repeat' first | exact Resp.retD | exact Resp1.valuesK | refine Resp.blockD ?_ | refine Resp.thenD ?_ ?_ | refine Resp.hcode ?_) ?_ ?_ | ((first | refine HReg.step ?_ | refine HCode.step ?_); first | refine hcutC (a := Code.seq (Code.region _ _ _) (Code.block _ _)) [11, 38, 39, 40, 41, 42, 43, 44, 45, 46, 47, 48, 49, 50, 51, 52, 53] [] (EvJ H gf bf gg bg n k os) rfl (by repeat' first | exact Resp.retD | exact Resp1.valuesK | refine Resp.blockD ?_ | refine Resp.thenD ?_ ?_ | refine Resp.hcode ?_) ?_ ?_ | ((first | refine HReg.step ?_ | refine HCode.step ?_); first | refine hcutC (a := Code.seq (Code.region _ _ _) (Code.block _ _)) [11, 38, 39, 40, 41, 42, 43, 44, 45, 46, 47, 48, 49, 50, 51, 52, 53] [] (EvJ H gf bf gg bg n k os) rfl (by repeat' first | exact Resp.retD | exact Resp1.valuesK | refine Resp.blockD ?_ | refine Resp.thenD ?_ ?_ | refine Resp.hcode ?_) ?_ ?_ | ((first | refine HReg.step ?_ | refine HCode.step ?_); first | refine hcutC (a := Code.seq (Code.region _ _ _) (Code.block _ _)) [11, 38, 39, 40, 41, 42, 43, 44, 45, 46, 47, 48, 49, 50, 51, 52, 53] [] (EvJ H gf bf gg bg n k os) rfl (by repeat' first | exact Resp.retD | exact Resp1.valuesK | refine Resp.blockD ?_ | refine Resp.thenD ?_ ?_ | refine Resp.hcode ?_) ?_ ?_ | ((first | refine HReg.step ?_ | refine HCode.step ?_); first | refine hcutC (a := Code.seq (Code.region _ _ _) (Code.block _ _)) [11, 38, 39, 40, 41, 42, 43, 44, 45, 46, 47, 48, 49, 50, 51, 52, 53] [] (EvJ H gf bf gg bg n k os) rfl (by repeat' first | exact Resp.retD | exact Resp1.valuesK | refine Resp.blockD ?_ | refine Resp.thenD ?_ ?_ | refine Resp.hcode ?_) ?_ ?_ | ((first | refine HReg.step ?_ | refine HCode.step ?_); first | refine hcutC (a := Code.seq (Code.region _ _ _) (Code.block _ _)) [11, 38, 39, 40, 41, 42, 43, 44, 45, 46, 47, 48, 49, 50, 51, 52, 53] [] (EvJ H gf bf gg bg n k os) rfl (by repeat' first | exact Resp.retD | exact Resp1.valuesK | refine Resp.blockD ?_ | refine Resp.thenD ?_ ?_ | refine Resp.hcode ?_) ?_ ?_ | ((first | refine HReg.step ?_ | refine HCode.step ?_); first | refine hcutC (a := Code.seq (Code.region _ _ _) (Code.block _ _)) [11, 38, 39, 40, 41, 42, 43, 44, 45, 46, 47, 48, 49, 50, 51, 52, 53] [] (EvJ H gf bf gg bg n k os) rfl (by repeat' first | exact Resp.retD | exact Resp1.valuesK | refine Resp.blockD ?_ | refine Resp.thenD ?_ ?_ | refine Resp.hcode ?_) ?_ ?_ | ((first | refine HReg.step ?_ | refine HCode.step ?_); first | refine hcutC (a := Code.seq (Code.region _ _ _) (Code.block _ _)) [11, 38, 39, 40, 41, 42, 43, 44, 45, 46, 47, 48, 49, 50, 51, 52, 53] [] (EvJ H gf bf gg bg n k os) rfl (by repeat' first | exact Resp.retD | exact Resp1.valuesK | refine Resp.blockD ?_ | refine Resp.thenD ?_ ?_ | refine Resp.hcode ?_) ?_ ?_ | ((first | refine HReg.step ?_ | refine HCode.step ?_); first | refine hcutC (a := Code.seq (Code.region _ _ _) (Code.block _ _)) [11, 38, 39, 40, 41, 42, 43, 44, 45, 46, 47, 48, 49, 50, 51, 52, 53] [] (EvJ H gf bf gg bg n k os) rfl (by repeat' first | exact Resp.retD | exact Resp1.valuesK | refine Resp.blockD ?_ | refine Resp.thenD ?_ ?_ | refine Resp.hcode ?_) ?_ ?_ | ((first | refine HReg.step ?_ | refine HCode.step ?_); first | refine hcutC (a := Code.seq (Code.region _ _ _) (Code.block _ _)) [11, 38, 39, 40, 41, 42, 43, 44, 45, 46, 47, 48, 49, 50, 51, 52, 53] [] (EvJ H gf bf gg bg n k os) rfl (by repeat' first | exact Resp.retD | exact Resp1.valuesK | refine Resp.blockD ?_ | refine Resp.thenD ?_ ?_ | refine Resp.hcode ?_) ?_ ?_ | ((first | refine HReg.step ?_ | refine HCode.step ?_); first | refine hcutC (a := Code.seq (Code.region _ _ _) (Code.block _ _)) [11, 38, 39, 40, 41, 42, 43, 44, 45, 46, 47, 48, 49, 50, 51, 52, 53] [] (EvJ H gf bf gg bg n k os) rfl (by repeat' first | exact Resp.retD | exact Resp1.valuesK | refine Resp.blockD ?_ | refine Resp.thenD ?_ ?_ | refine Resp.hcode ?_) ?_ ?_ | ((first | refine HReg.step ?_ | refine HCode.step ?_); first | refine hcutC (a := Code.seq (Code.region _ _ _) (Code.block _ _)) [11, 38, 39, 40, 41, 42, 43, 44, 45, 46, 47, 48, 49, 50, 51, 52, 53] [] (EvJ H gf bf gg bg n k os) rfl (by repeat' first | exact Resp.retD | exact Resp1.valuesK | refine Resp.blockD ?_ | refine Resp.thenD ?_ ?_ | refine Resp.hcode ?_) ?_ ?_ | ((first | refine HReg.step ?_ | refine HCode.step ?_); first | refine hcutC (a := Code.seq (Code.region _ _ _) (Code.block _ _)) [11, 38, 39, 40, 41, 42, 43, 44, 45, 46, 47, 48, 49, 50, 51, 52, 53] [] (EvJ H gf bf gg bg n k os) rfl (by repeat' first | exact Resp.retD | exact Resp1.valuesK | refine Resp.blockD ?_ | refine Resp.thenD ?_ ?_ | refine Resp.hcode ?_) ?_ ?_ | ((first | refine HReg.step ?_ | refine HCode.step ?_); first | refine hcutC (a := Code.seq (Code.region _ _ _) (Code.block _ _)) [11, 38, 39, 40, 41, 42, 43, 44, 45, 46, 47, 48, 49, 50, 51, 52, 53] [] (EvJ H gf bf gg bg n k os) rfl (by repeat' first | exact Resp.retD | exact Resp1.valuesK | refine Resp.blockD ?_ | refine Resp.thenD ?_ ?_ | refine Resp.hcode ?_) ?_ ?_ | ((first | refine HReg.step ?_ | refine HCode.step ?_); first | refine hcutC (a := Code.seq (Code.region _ _ _) (Code.block _ _)) [11, 38, 39, 40, 41, 42, 43, 44, 45, 46, 47, 48, 49, 50, 51, 52, 53] [] (EvJ H gf bf gg bg n k os) rfl (by repeat' first | exact Resp.retD | exact Resp1.valuesK | refine Resp.blockD ?_ | refine Resp.thenD ?_ ?_ | refine Resp.hcode ?_) ?_ ?_ | ((first | refine HReg.step ?_ | refine HCode.step ?_); first | refine hcutC (a := Code.seq (Code.region _ _ _) (Code.block _ _)) [11, 38, 39, 40, 41, 42, 43, 44, 45, 46, 47, 48, 49, 50, 51, 52, 53] [] (EvJ H gf bf gg bg n k os) rfl (by repeat' first | exact Resp.retD | exact Resp1.valuesK | refine Resp.blockD ?_ | refine Resp.thenD ?_ ?_ | refine Resp.hcode ?_) ?_ ?_ | ((first | refine HReg.step ?_ | refine HCode.step ?_); first | refine hcutC (a := Code.seq (Code.region _ _ _) (Code.block _ _)) [11, 38, 39, 40, 41, 42, 43, 44, 45, 46, 47, 48, 49, 50, 51, 52, 53] [] (EvJ H gf bf gg bg n k os) rfl (by repeat' first | exact Resp.retD | exact Resp1.valuesK | refine Resp.blockD ?_ | refine Resp.thenD ?_ ?_ | refine Resp.hcode ?_) ?_ ?_ | ((first | refine HReg.step ?_ | refine HCode.step ?_); first | refine hcutC (a := Code.seq (Code.region _ _ _) (Code.block _ _)) [11, 38, 39, 40, 41, 42, 43, 44, 45, 46, 47, 48, 49, 50, 51, 52, 53] [] (EvJ H gf bf gg bg n k os) rfl (by repeat' first | exact Resp.retD | exact Resp1.valuesK | refine Resp.blockD ?_ | refine Resp.thenD ?_ ?_ | refine Resp.hcode ?_) ?_ ?_ | ((first | refine HReg.step ?_ | refine HCode.step ?_); first | refine hcutC (a := Code.seq (Code.region _ _ _) (Code.block _ _)) [11, 38, 39, 40, 41, 42, 43, 44, 45, 46, 47, 48, 49, 50, 51, 52, 53] [] (EvJ H gf bf gg bg n k os) rfl (by repeat' first | exact Resp.retD | exact Resp1.valuesK | refine Resp.blockD ?_ | refine Resp.thenD ?_ ?_ | refine Resp.hcode ?_) ?_ ?_ | ((first | refine HReg.step ?_ | refine HCode.step ?_); first | refine hcutC (a := Code.seq (Code.region _ _ _) (Code.block _ _)) [11, 38, 39, 40, 41, 42, 43, 44, 45, 46, 47, 48, 49, 50, 51, 52, 53] [] (EvJ H gf bf gg bg n k os) rfl (by repeat' first | exact Resp.retD | exact Resp1.valuesK | refine Resp.blockD ?_ | refine Resp.thenD ?_ ?_ | refine Resp.hcode ?_) ?_ ?_ | ((first | refine HReg.step ?_ | refine HCode.step ?_); first | refine hcutC (a := Code.seq (Code.region _ _ _) (Code.block _ _)) [11, 38, 39, 40, 41, 42, 43, 44, 45, 46, 47, 48, 49, 50, 51, 52, 53] [] (EvJ H gf bf gg bg n k os) rfl (by repeat' first | exact Resp.retD | exact Resp1.valuesK | refine Resp.blockD ?_ | refine Resp.thenD ?_ ?_ | refine Resp.hcode ?_) ?_ ?_ | ((first | refine HReg.step ?_ | refine HCode.step ?_); first | refine hcutC (a := Code.seq (Code.region _ _ _) (Code.block _ _)) [11, 38, 39, 40, 41, 42, 43, 44, 45, 46, 47, 48, 49, 50, 51, 52, 53] [] (EvJ H gf bf gg bg n k os) rfl (by repeat' first | exact Resp.retD | exact Resp1.valuesK | refine Resp.blockD ?_ | refine Resp.thenD ?_ ?_ | refine Resp.hcode ?_) ?_ ?_ | ((first | refine HReg.step ?_ | refine HCode.step ?_); first | refine hcutC (a := Code.seq (Code.region _ _ _) (Code.block _ _)) [11, 38, 39, 40, 41, 42, 43, 44, 45, 46, 47, 48, 49, 50, 51, 52, 53] [] (EvJ H gf bf gg bg n k os) rfl (by repeat' first | exact Resp.retD | exact Resp1.valuesK | refine Resp.blockD ?_ | refine Resp.thenD ?_ ?_ | refine Resp.hcode ?_) ?_ ?_ | ((first | refine HReg.step ?_ | refine HCode.step ?_); first | refine hcutC (a := Code.seq (Code.region _ _ _) (Code.block _ _)) [11, 38, 39, 40, 41, 42, 43, 44, 45, 46, 47, 48, 49, 50, 51, 52, 53] [] (EvJ H gf bf gg bg n k os) rfl (by repeat' first | exact Resp.retD | exact Resp1.valuesK | refine Resp.blockD ?_ | refine Resp.thenD ?_ ?_ | refine Resp.hcode ?_) ?_ ?_ | ((first | refine HReg.step ?_ | refine HCode.step ?_); first | refine hcutC (a := Code.seq (Code.region _ _ _) (Code.block _ _)) [11, 38, 39, 40, 41, 42, 43, 44, 45, 46, 47, 48, 49, 50, 51, 52, 53] [] (EvJ H gf bf gg bg n k os) rfl (by repeat' first | exact Resp.retD | exact Resp1.valuesK | refine Resp.blockD ?_ | refine Resp.thenD ?_ ?_ | refine Resp.hcode ?_) ?_ ?_ | ((first | refine HReg.step ?_ | refine HCode.step ?_); first | refine hcutC (a := Code.seq (Code.region _ _ _) (Code.block _ _)) [11, 38, 39, 40, 41, 42, 43, 44, 45, 46, 47, 48, 49, 50, 51, 52, 53] [] (EvJ H gf bf gg bg n k os) rfl (by repeat' first | exact Resp.retD | exact Resp1.valuesK | refine Resp.blockD ?_ | refine Resp.thenD ?_ ?_ | refine Resp.hcode ?_) ?_ ?_ | ((first | refine HReg.step ?_ | refine HCode.step ?_); first | refine hcutC (a := Code.seq (Code.region _ _ _) (Code.block _ _)) [11, 38, 39, 40, 41, 42, 43, 44, 45, 46, 47, 48, 49, 50, 51, 52, 53] [] (EvJ H gf bf gg bg n k os) rfl (by repeat' first | exact Resp.retD | exact Resp1.valuesK | refine Resp.blockD ?_ | refine Resp.thenD ?_ ?_ | refine Resp.hcode ?_) ?_ ?_ | ((first | refine HReg.step ?_ | refine HCode.step ?_); first | refine hcutC (a := Code.seq (Code.region _ _ _) (Code.block _ _)) [11, 38, 39, 40, 41, 42, 43, 44, 45, 46, 47, 48, 49, 50, 51, 52, 53] [] (EvJ H gf bf gg bg n k os) rfl (by repeat' first | exact Resp.retD | exact Resp1.valuesK | refine Resp.blockD ?_ | refine Resp.thenD ?_ ?_ | refine Resp.hcode ?_) ?_ ?_ | ((first | refine HReg.step ?_ | refine HCode.step ?_); first | refine hcutC (a := Code.seq (Code.region _ _ _) (Code.block _ _)) [11, 38, 39, 40, 41, 42, 43, 44, 45, 46, 47, 48, 49, 50, 51, 52, 53] [] (EvJ H gf bf gg bg n k os) rfl (by repeat' first | exact Resp.retD | exact Resp1.valuesK | refine Resp.blockD ?_ | refine Resp.thenD ?_ ?_ | refine Resp.hcode ?_) ?_ ?_ | ((first | refine HReg.step ?_ | refine HCode.step ?_); first | refine hcutC (a := Code.seq (Code.region _ _ _) (Code.block _ _)) [11, 38, 39, 40, 41, 42, 43, 44, 45, 46, 47, 48, 49, 50, 51, 52, 53] [] (EvJ H gf bf gg bg n k os) rfl (by repeat' first | exact Resp.retD | exact Resp1.valuesK | refine Resp.blockD ?_ | refine Resp.thenD ?_ ?_ | refine Resp.hcode ?_) ?_ ?_ | ((first | refine HReg.step ?_ | refine HCode.step ?_); first | refine hcutC (a := Code.seq (Code.region _ _ _) (Code.block _ _)) [11, 38, 39, 40, 41, 42, 43, 44, 45, 46, 47, 48, 49, 50, 51, 52, 53] [] (EvJ H gf bf gg bg n k os) rfl (by repeat' first | exact Resp.retD | exact Resp1.valuesK | refine Resp.blockD ?_ | refine Resp.thenD ?_ ?_ | refine Resp.hcode ?_) ?_ ?_ | ((first | refine HReg.step ?_ | refine HCode.step ?_); first | refine hcutC (a := Code.seq (Code.region _ _ _) (Code.block _ _)) [11, 38, 39, 40, 41, 42, 43, 44, 45, 46, 47, 48, 49, 50, 51, 52, 53] [] (EvJ H gf bf gg bg n k os) rfl (by repeat' first | exact Resp.retD | exact Resp1.valuesK | refine Resp.blockD ?_ | refine Resp.thenD ?_ ?_ | refine Resp.hcode ?_) ?_ ?_ | ((first | refine HReg.step ?_ | refine HCode.step ?_); first | refine hcutC (a := Code.seq (Code.region _ _ _) (Code.block _ _)) [11, 38, 39, 40, 41, 42, 43, 44, 45, 46, 47, 48, 49, 50, 51, 52, 53] [] (EvJ H gf bf gg bg n k os) rfl (by repeat' first | exact Resp.retD | exact Resp1.valuesK | refine Resp.blockD ?_ | refine Resp.thenD ?_ ?_ | refine Resp.hcode ?_) ?_ ?_ | ((first | refine HReg.step ?_ | refine HCode.step ?_); first | refine hcutC (a := Code.seq (Code.region _ _ _) (Code.block _ _)) [11, 38, 39, 40, 41, 42, 43, 44, 45, 46, 47, 48, 49, 50, 51, 52, 53] [] (EvJ H gf bf gg bg n k os) rfl (by repeat' first | exact Resp.retD | exact Resp1.valuesK | refine Resp.blockD ?_ | refine Resp.thenD ?_ ?_ | refine Resp.hcode ?_) ?_ ?_ | ((first | refine HReg.step ?_ | refine HCode.step ?_); first | refine hcutC (a := Code.seq (Code.region _ _ _) (Code.block _ _)) [11, 38, 39, 40, 41, 42, 43, 44, 45, 46, 47, 48, 49, 50, 51, 52, 53] [] (EvJ H gf bf gg bg n k os) rfl (by repeat' first | exact Resp.retD | exact Resp1.valuesK | refine Resp.blockD ?_ | refine Resp.thenD ?_ ?_ | refine Resp.hcode ?_) ?_ ?_ | ((first | refine HReg.step ?_ | refine HCode.step ?_); first | refine hcutC (a := Code.seq (Code.region _ _ _) (Code.block _ _)) [11, 38, 39, 40, 41, 42, 43, 44, 45, 46, 47, 48, 49, 50, 51, 52, 53] [] (EvJ H gf bf gg bg n k os) rfl (by repeat' first | exact Resp.retD | exact Resp1.valuesK | refine Resp.blockD ?_ | refine Resp.thenD ?_ ?_ | refine Resp.hcode ?_) ?_ ?_ | ((first | refine HReg.step ?_ | refine HCode.step ?_); first | refine hcutC (a := Code.seq (Code.region _ _ _) (Code.block _ _)) [11, 38, 39, 40, 41, 42, 43, 44, 45, 46, 47, 48, 49, 50, 51, 52, 53] [] (EvJ H gf bf gg bg n k os) rfl (by repeat' first | exact Resp.retD | exact Resp1.valuesK | refine Resp.blockD ?_ | refine Resp.thenD ?_ ?_ | refine Resp.hcode ?_) ?_ ?_ | ((first | refine HReg.step ?_ | refine HCode.step ?_); first | refine hcutC (a := Code.seq (Code.region _ _ _) (Code.block _ _)) [11, 38, 39, 40, 41, 42, 43, 44, 45, 46, 47, 48, 49, 50, 51, 52, 53] [] (EvJ H gf bf gg bg n k os) rfl (by repeat' first | exact Resp.retD | exact Resp1.valuesK | refine Resp.blockD ?_ | refine Resp.thenD ?_ ?_ | refine Resp.hcode ?_) ?_ ?_ | ((first | refine HReg.step ?_ | refine HCode.step ?_); first | refine hcutC (a := Code.seq (Code.region _ _ _) (Code.block _ _)) [11, 38, 39, 40, 41, 42, 43, 44, 45, 46, 47, 48, 49, 50, 51, 52, 53] [] (EvJ H gf bf gg bg n k os) rfl (by repeat' first | exact Resp.retD | exact Resp1.valuesK | refine Resp.blockD ?_ | refine Resp.thenD ?_ ?_ | refine Resp.hcode ?_) ?_ ?_ | ((first | refine HReg.step ?_ | refine HCode.step ?_); first | refine hcutC (a := Code.seq (Code.region _ _ _) (Code.block _ _)) [11, 38, 39, 40, 41, 42, 43, 44, 45, 46, 47, 48, 49, 50, 51, 52, 53] [] (EvJ H gf bf gg bg n k os) rfl (by repeat' first | exact Resp.retD | exact Resp1.valuesK | refine Resp.blockD ?_ | refine Resp.thenD ?_ ?_ | refine Resp.hcode ?_) ?_ ?_ | ((first | refine HReg.step ?_ | refine HCode.step ?_); first | refine hcutC (a := Code.seq (Code.region _ _ _) (Code.block _ _)) [11, 38, 39, 40, 41, 42, 43, 44, 45, 46, 47, 48, 49, 50, 51, 52, 53] [] (EvJ H gf bf gg bg n k os) rfl (by repeat' first | exact Resp.retD | exact Resp1.valuesK | refine Resp.blockD ?_ | refine Resp.thenD ?_ ?_ | refine Resp.hcode ?_) ?_ ?_ | ((first | refine HReg.step ?_ | refine HCode.step ?_); first | refine hcutC (a := Code.seq (Code.region _ _ _) (Code.block _ _)) [11, 38, 39, 40, 41, 42, 43, 44, 45, 46, 47, 48, 49, 50, 51, 52, 53] [] (EvJ H gf bf gg bg n k os) rfl (by repeat' first | exact Resp.retD | exact Resp1.valuesK | refine Resp.blockD ?_ | refine Resp.thenD ?_ ?_ | refine Resp.hcode ?_) ?_ ?_ | ((first | refine HReg.step ?_ | refine HCode.step ?_); first | refine hcutC (a := Code.seq (Code.region _ _ _) (Code.block _ _)) [11, 38, 39, 40, 41, 42, 43, 44, 45, 46, 47, 48, 49, 50, 51, 52, 53] [] (EvJ H gf bf gg bg n k os) rfl (by repeat' first | exact Resp.retD | exact Resp1.valuesK | refine Resp.blockD ?_ | refine Resp.thenD ?_ ?_ | refine Resp.hcode ?_) ?_ ?_ | ((first | refine HReg.step ?_ | refine HCode.step ?_); first | refine hcutC (a := Code.seq (Code.region _ _ _) (Code.block _ _)) [11, 38, 39, 40, 41, 42, 43, 44, 45, 46, 47, 48, 49, 50, 51, 52, 53] [] (EvJ H gf bf gg bg n k os) rfl (by repeat' first | exact Resp.retD | exact Resp1.valuesK | refine Resp.blockD ?_ | refine Resp.thenD ?_ ?_ | refine Resp.hcode ?_) ?_ ?_ | ((first | refine HReg.step ?_ | refine HCode.step ?_); first | refine hcutC (a := Code.seq (Code.region _ _ _) (Code.block _ _)) [11, 38, 39, 40, 41, 42, 43, 44, 45, 46, 47, 48, 49, 50, 51, 52, 53] [] (EvJ H gf bf gg bg n k os) rfl (by repeat' first | exact Resp.retD | exact Resp1.valuesK | refine Resp.blockD ?_ | refine Resp.thenD ?_ ?_ | refine Resp.hcode ?_) ?_ ?_ | ((first | refine HReg.step ?_ | refine HCode.step ?_); first | refine hcutC (a := Code.seq (Code.region _ _ _) (Code.block _ _)) [11, 38, 39, 40, 41, 42, 43, 44, 45, 46, 47, 48, 49, 50, 51, 52, 53] [] (EvJ H gf bf gg bg n k os) rfl (by repeat' first | exact Resp.retD | exact Resp1.valuesK | refine Resp.blockD ?_ | refine Resp.thenD ?_ ?_ | refine Resp.hcode ?_) ?_ ?_ | ((first | refine HReg.step ?_ | refine HCode.step ?_); first | refine hcutC (a := Code.seq (Code.region _ _ _) (Code.block _ _)) [11, 38, 39, 40, 41, 42, 43, 44, 45, 46, 47, 48, 49, 50, 51, 52, 53] [] (EvJ H gf bf gg bg n k os) rfl (by repeat' first | exact Resp.retD | exact Resp1.valuesK | refine Resp.blockD ?_ | refine Resp.thenD ?_ ?_ | refine Resp.hcode ?_) ?_ ?_ | ((first | refine HReg.step ?_ | refine HCode.step ?_); first | refine hcutC (a := Code.seq (Code.region _ _ _) (Code.block _ _)) [11, 38, 39, 40, 41, 42, 43, 44, 45, 46, 47, 48, 49, 50, 51, 52, 53] [] (EvJ H gf bf gg bg n k os) rfl (by repeat' first | exact Resp.retD | exact Resp1.valuesK | refine Resp.blockD ?_ | refine Resp.thenD ?_ ?_ | refine Resp.hcode ?_) ?_ ?_ | ((first | refine HReg.step ?_ | refine HCode.step ?_); first | refine hcutC (a := Code.seq (Code.region _ _ _) (Code.block _ _)) [11, 38, 39, 40, 41, 42, 43, 44, 45, 46, 47, 48, 49, 50, 51, 52, 53] [] (EvJ H gf bf gg bg n k os) rfl (by repeat' first | exact Resp.retD | exact Resp1.valuesK | refine Resp.blockD ?_ | refine Resp.thenD ?_ ?_ | refine Resp.hcode ?_) ?_ ?_ | ((first | refine HReg.step ?_ | refine HCode.step ?_); first | refine hcutC (a := Code.seq (Code.region _ _ _) (Code.block _ _)) [11, 38, 39, 40, 41, 42, 43, 44, 45, 46, 47, 48, 49, 50, 51, 52, 53] [] (EvJ H gf bf gg bg n k os) rfl (by repeat' first | exact Resp.retD | exact Resp1.valuesK | refine Resp.blockD ?_ | refine Resp.thenD ?_ ?_ | refine Resp.hcode ?_) ?_ ?_ | ((first | refine HReg.step ?_ | refine HCode.step ?_); refine hcutC (a := Code.seq (Code.region _ _ _) (Code.block _ _)) [11, 38, 39, 40, 41, 42, 43, 44, 45, 46, 47, 48, 49, 50, 51, 52, 53] [] (EvJ H gf bf gg bg n k os) rfl (by repeat' first | exact Resp.retD | exact Resp1.valuesK | refine Resp.blockD ?_ | refine Resp.thenD ?_ ?_ | refine Resp.hcode ?_) ?_ ?_))))))))))))))))))))))))))))))))))))))))))))))))))))))))))))
  · (repeat first | refine HReg.step ?_ | refine HCode.step ?_)
    refine hloopC [11, 38, 39, 40, 41, 42, 43, 44, 45, 46, 47, 48, 49, 50, 51, 52, 53] [11] (EvI1 H gf bf gg bg n k os) rfl (by repeat' first | exact Resp.retD | exact Resp1.valuesK | refine Resp.blockD ?_ | refine Resp.thenD ?_ ?_ | refine Resp.hcode ?_) ?_ ?_
    · exact ⟨60, EvI1.mk ⟨0, rfl, rfl, Nat.zero_le _, F3.upd, F3.fil, G3.fil⟩⟩
    rintro m _ fe H4 ⟨i, rfl, hmi, hil, u4, F4, G4⟩
    (repeat first | refine HReg.step ?_ | refine HCode.step ?_)
    refine hif (fun h1 => ?_) (fun h1 => ?_)
    · have h1 := ltB_true.1 h1
      (repeat first | refine HReg.step ?_ | refine HCode.step ?_)
      refine hif (fun h2 => ?_) (fun h2 => ?_)
      · have h2 := ltB_true.1 h2
        have ro4 := ro.upd (S := []) u4 (.inr (Off.nil _))
        obtain ⟨s, hs⟩ : ∃ s, os[i]? = some s := ⟨os[i]'(by omega), by simp⟩
        obtain ⟨ba, bo', rfl, _⟩ := ro4 i _ (txts_get hs)
        (repeat first | refine HReg.step ?_ | refine HCode.step ?_)
        refine HReq.mk ⟨by omega, by omega⟩ ?_
        (repeat first | refine HReg.step ?_ | refine HCode.step ?_)
        refine HLoad.one (v := .string (bs s)) (by exact ro4.get (txts_get hs)) ?_
        (repeat first | refine HReg.step ?_ | refine HCode.step ?_)
        refine HCall.mk ⟨Try.f29, Try.func29, by rfl, by rfl⟩ ?_
        refine add_t (s := s) G4 (bo s (List.mem_of_getElem? hs)) fun H5 G5 u5 => ?_
        rw [← addTexts_take hs] at G5
        have w2 : wr .i64 ((i : Int) + 1) = ((i + 1 : Nat) : Int) := by rw [wr_i64 (by omega) (by omega)]; omega
        (repeat first | refine HReg.step ?_ | refine HCode.step ?_)
        rw [w2]
        exact ⟨m - 1, by omega, EvI1.mk ⟨i + 1, rfl, by omega, by omega, Upd.drop u4 u5 ng, F4.upd u5 (by simpa using hfg) (by simpa using hbb), G5⟩⟩
      · have h2 := ltB_false.1 h2
        (repeat first | refine HReg.step ?_ | refine HCode.step ?_)
        exact EvJ.mk ⟨i, rfl, fun q _ _ => by omega, u4, F4, G4⟩
    · have h1 := ltB_false.1 h1
      (repeat first | refine HReg.step ?_ | refine HCode.step ?_)
      exact EvJ.mk ⟨i, rfl, fun q _ _ => by omega, u4, F4, G4⟩
  rintro _ fe H6 ⟨J, rfl, hJ, u6, F6, G6⟩
  have hTh : ∀ (q : Nat) s, os[q]? = some s → q < 60 → hasAll (addTexts n k (zerosL n) (os.take J)) (placesL n k s) = true := fun q s hq h60 => by
    refine has_adds F3.fil.ok (List.mem_of_getElem? (i := q) ?_)
    have := (List.getElem?_eq_some_iff.1 hq).1
    rw [List.getElem?_take_of_lt (hJ q this h60), hq]
  have Tok := G6.ok
  generalize addTexts n k (zerosL n) (os.take J) = T at *
  (repeat first | refine HReg.step ?_ | refine HCode.step ?_)
  refine hloopC [8, 12, 13, 14, 15, 16, 17, 18, 19, 20, 21, 54, 55, 56, 57, 58, 59, 60, 61, 62, 63, 64, 65, 66, 67, 68, 69, 70, 71, 72, 73, 74, 75, 76, 77, 78, 79, 80, 81, 82, 83, 84, 85, 86, 87, 88, 89, 90, 91, 92, 93, 94, 95, 96, 97, 98, 99, 100, 101, 102, 103, 104, 105, 106, 107, 108, 109, 110, 111, 112, 113, 114, 115, 116, 117, 118, 119, 120, 121, 122, 123, 124, 125, 126, 127, 128, 129, 130, 131, 132, 133, 134, 135, 136, 137, 138, 139, 140, 141, 142, 143, 144, 145, 146, 147, 148, 149, 150, 151, 152, 153, 154, 155, 156, 157, 158, 159, 160, 161, 162, 163, 164, 165, 166, 167, 168, 169, 170, 171, 172, 173, 174, 175, 176, 177, 178, 179, 180, 181, 182, 183, 184, 185, 186, 187, 188, 189] [12] (EvI2 H gf bf gg bg n k ts T) rfl (by repeat' first | exact Resp.retD | exact Resp1.valuesK | refine Resp.blockD ?_ | refine Resp.thenD ?_ ?_ | refine Resp.hcode ?_) ?_ ?_
  · exact ⟨60, EvI2.mk ⟨0, rfl, rfl, Nat.zero_le _, u6, F6, G6⟩⟩
  rintro m _ fe H7 ⟨i, rfl, hmi, hil, u7, F7, G7⟩
  (repeat first | refine HReg.step ?_ | refine HCode.step ?_)
  refine hif (fun h1 => ?_) (fun h1 => ?_)
  rotate_left
  · (repeat first | refine HReg.step ?_ | refine HCode.step ?_)
    exact hk H7 u7
  have h1 := ltB_true.1 h1
  (repeat first | refine HReg.step ?_ | refine HCode.step ?_)
  refine hif (fun h2 => ?_) (fun h2 => ?_)
  rotate_left
  · (repeat first | refine HReg.step ?_ | refine HCode.step ?_)
    exact hk H7 u7
  have h2 := ltB_true.1 h2
  have rt7 := rt.upd (S := []) u7 (.inr (Off.nil _))
  obtain ⟨s, hs⟩ : ∃ s, ts[i]? = some s := ⟨ts[i]'(by omega), by simp⟩
  obtain ⟨ba, bo', rfl, _⟩ := rt7 i _ (txts_get hs)
  (repeat first | refine HReg.step ?_ | refine HCode.step ?_)
  refine HCall.mk ⟨Try.f24, Try.func24, by rfl, by rfl⟩ ?_
  refine ones_t F7 ?_
  (repeat first | refine HReg.step ?_ | refine HCode.step ?_)
  refine HReq.mk ⟨by omega, by omega⟩ ?_
  (repeat first | refine HReg.step ?_ | refine HCode.step ?_)
  refine HLoad.one (v := .string (bs s)) (by exact rt7.get (txts_get hs)) ?_
  (repeat first | refine HReg.step ?_ | refine HCode.step ?_)
  refine HCall.mk ⟨Try.f29, Try.func29, by rfl, by rfl⟩ ?_
  refine add_t (s := s) F7 (bt s (List.mem_of_getElem? hs)) fun H8 F8 u8 => ?_
  have hones := onesL_addAll (F7.ok.lt s)
  rw [placesL_length] at hones
  have hon := onesL_n F8.ok
  rw [← addTexts_take hs] at F8 hones hon
  have u8' := Upd.drop u7 u8 nf
  have G8 := G7.upd u8 (by simpa using hgf) (by simpa using Ne.symm hbb)
  have hasF : ∀ (q : Nat) t, ts[q]? = some t → q ≤ i → hasAll (addTexts n k (zerosL n) (ts.take (i + 1))) (placesL n k t) = true := fun q t hq hle => by
    refine has_adds F3.fil.ok (List.mem_of_getElem? (i := q) ?_)
    rw [List.getElem?_take_of_lt (by omega), hq]
  generalize hS0 : addTexts n k (zerosL n) (ts.take i) = S0 at *
  generalize hS1 : addTexts n k (zerosL n) (ts.take (i + 1)) = S1 at *
  (repeat first | refine HReg.step ?_ | refine HCode.step ?_)
  refine HCall.mk ⟨Try.f24, Try.func24, by rfl, by rfl⟩ ?_
  refine ones_t F8 ?_
  (repeat first | refine HReg.step ?_ | refine HCode.step ?_)
  refine hif (fun h3 => absurd (ltB_true.1 h3) (by omega)) (fun _ => ?_)
  (repeat first | refine HReg.step ?_ | refine HCode.step ?_)
  refine HCall.mk ⟨Try.f24, Try.func24, by rfl, by rfl⟩ ?_
  refine ones_t F8 ?_
  (repeat first | refine HReg.step ?_ | refine HCode.step ?_)
  refine HCall.mk ⟨Try.f15, Try.func15, by rfl, by rfl⟩ ?_
  refine hashes_t F8 ?_
  have w3 : wr .i64 ((onesL S0 : Int) + (k : Int)) = (onesL S0 : Int) + (k : Int) := wr_i64 (by omega) (by omega)
  (repeat first | refine HReg.step ?_ | refine HCode.step ?_)
  refine hif (fun h3 => absurd (ltB_true.1 h3) (by rw [w3]; omega)) (fun _ => ?_)
  (repeat first | refine HReg.step ?_ | refine HCode.step ?_)
  refine HCall.mk ⟨Try.f30, Try.func30, by rfl, by rfl⟩ ?_
  refine union_t F8 G8 (fun h => absurd ⟨rfl, rfl⟩ h) fun gu bu H9 _ _ FU => ?_
  have F9 := F8.upd0 FU.upd
  have G9 := G8.upd0 FU.upd
  (repeat first | refine HReg.step ?_ | refine HCode.step ?_)
  refine HCall.mk ⟨Try.f30, Try.func30, by rfl, by rfl⟩ ?_
  refine union_t G9 F9 (fun h => absurd ⟨rfl, rfl⟩ h) fun gv bv H10 _ _ FV => ?_
  have F10 := F9.upd0 FV.upd
  have G10 := G9.upd0 FV.upd
  (repeat first | refine HReg.step ?_ | refine HCode.step ?_)
  refine HCall.mk ⟨Try.f17, Try.func17, by rfl, by rfl⟩ ?_
  refine bytes_t F10 fun a11 c11 H11 m11 => ?_
  have hsh := shape_head S1 (n := n) (h := k) F8.ok.n2 F8.ok.h2
  have hlen := F8.ok.len
  (repeat first | refine HReg.step ?_ | refine HCode.step ?_)
  refine HCall.mk ⟨Try.f22, Try.func22, by rfl, by rfl⟩ ?_
  refine read_t m11.own.rows (by simp only [bytesOf, headOf, List.length_append, List.length_cons, List.length_nil]) m11.own.le (by omega) (fun _ h => absurd (bytes_ok F8.ok) h) fun gx bx H12 _ FX => ?_
  rw [hsh.1, hsh.2, show (bytesOf n k S1).drop 5 = S1 from rfl] at FX
  have FX := FX.back m11.upd
  have F12 := F10.upd0 FX.upd
  have G12 := G10.upd0 FX.upd
  have U12 := FU.upd0 (FV.upd.trans FX.upd)
  have V12 := FV.upd0 FX.upd
  have u12 : Upd [] H H12 := u8'.trans U12.upd
  have hl1 : S1.length = T.length := by rw [F8.ok.len, Tok.len]
  (repeat first | refine HReg.step ?_ | refine HCode.step ?_)
  refine hif (fun h => absurd rfl (not_eqB_true.1 h)) (fun _ => ?_)
  (repeat first | refine HReg.step ?_ | refine HCode.step ?_)
  refine hif (fun h => absurd rfl (not_eqB_true.1 h)) (fun _ => ?_)
  (repeat first | refine HReg.step ?_ | refine HCode.step ?_)
  refine hif (fun h => absurd rfl (not_eqB_true.1 h)) (fun _ => ?_)
  (repeat first | refine HReg.step ?_ | refine HCode.step ?_)
  refine hloopC [8, 20, 125, 126, 127, 128, 129, 130, 131, 132, 133, 134, 135, 136, 137, 138, 139, 140, 141, 142, 143, 144, 145, 146, 147, 148, 149, 150, 151, 152, 153, 154, 155, 156, 157, 158, 159, 160, 161, 162, 163] [20] (EvI3 H12 (i + 1)) rfl (by repeat' first | exact Resp.retD | exact Resp1.valuesK | refine Resp.blockD ?_ | refine Resp.thenD ?_ ?_ | refine Resp.hcode ?_) ?_ ?_
  · exact ⟨i + 1, EvI3.mk ⟨0, rfl, rfl, Upd.refl _ _⟩⟩
  rintro m3 _ fe3 H13 ⟨q, rfl, hmq, u13⟩
  (repeat first | refine HReg.step ?_ | refine HCode.step ?_)
  refine hif (fun h3 => ?_) (fun h3 => ?_)
  · have h3 := not_ltB_true.1 h3
    have rt13 := rt.upd (S := []) (u12.trans u13) (.inr (Off.nil _))
    obtain ⟨t, ht⟩ : ∃ t, ts[q]? = some t := ⟨ts[q]'(by omega), by simp⟩
    have hb := bt t (List.mem_of_getElem? ht)
    have hh := hasF q t ht (by omega)
    (repeat first | refine HReg.step ?_ | refine HCode.step ?_)
    refine HReq.mk ⟨by omega, by omega⟩ ?_
    (repeat first | refine HReg.step ?_ | refine HCode.step ?_)
    refine HLoad.one (v := .string (bs t)) (by exact rt13.get (txts_get ht)) ?_
    (repeat first | refine HReg.step ?_ | refine HCode.step ?_)
    refine HCall.mk ⟨Try.f26, Try.func26, by rfl, by rfl⟩ ?_
    refine has_t (s := t) (F12.upd0 u13) hb fun H14 u14 => ?_
    rw [hh]
    have u14' := u13.trans u14
    (repeat first | refine HReg.step ?_ | refine HCode.step ?_)
    refine HReq.mk ⟨by omega, by omega⟩ ?_
    (repeat first | refine HReg.step ?_ | refine HCode.step ?_)
    refine HLoad.one (v := .string (bs t)) (by exact (rt13.upd (S := []) u14 (.inr (Off.nil _))).get (txts_get ht)) ?_
    (repeat first | refine HReg.step ?_ | refine HCode.step ?_)
    refine HCall.mk ⟨Try.f26, Try.func26, by rfl, by rfl⟩ ?_
    refine has_t (s := t) (U12.fil.upd0 u14') hb fun H15 u15 => ?_
    rw [has_or1 hl1 hh]
    have u15' := u14'.trans u15
    (repeat first | refine HReg.step ?_ | refine HCode.step ?_)
    refine HReq.mk ⟨by omega, by omega⟩ ?_
    (repeat first | refine HReg.step ?_ | refine HCode.step ?_)
    refine HLoad.one (v := .string (bs t)) (by exact (rt13.upd (S := []) (u14.trans u15) (.inr (Off.nil _))).get (txts_get ht)) ?_
    (repeat first | refine HReg.step ?_ | refine HCode.step ?_)
    refine HCall.mk ⟨Try.f26, Try.func26, by rfl, by rfl⟩ ?_
    refine has_t (s := t) (V12.fil.upd0 u15') hb fun H16 u16 => ?_
    rw [has_or2 hl1.symm hh]
    have u16' := u15'.trans u16
    (repeat first | refine HReg.step ?_ | refine HCode.step ?_)
    refine HReq.mk ⟨by omega, by omega⟩ ?_
    (repeat first | refine HReg.step ?_ | refine HCode.step ?_)
    refine HLoad.one (v := .string (bs t)) (by exact (rt13.upd (S := []) ((u14.trans u15).trans u16) (.inr (Off.nil _))).get (txts_get ht)) ?_
    (repeat first | refine HReg.step ?_ | refine HCode.step ?_)
    refine HCall.mk ⟨Try.f26, Try.func26, by rfl, by rfl⟩ ?_
    refine has_t (s := t) (FX.fil.upd0 u16') hb fun H17 u17 => ?_
    rw [hh]
    have w2 : wr .i64 ((q : Int) + 1) = ((q + 1 : Nat) : Int) := by rw [wr_i64 (by omega) (by omega)]; omega
    (repeat first | refine HReg.step ?_ | refine HCode.step ?_)
    rw [w2]
    exact ⟨m3 - 1, by omega, EvI3.mk ⟨q + 1, rfl, by omega, u16'.trans u17⟩⟩
  have h3 := not_ltB_false.1 h3
  have u18 := u12.trans u13
  have w2 : wr .i64 ((i : Int) + 1) = ((i + 1 : Nat) : Int) := by rw [wr_i64 (by omega) (by omega)]; omega
  (repeat first | refine HReg.step ?_ | refine HCode.step ?_)
  refine hloopC [8, 21, 164, 165, 166, 167, 168, 169, 170, 171, 172, 173, 174, 175, 176, 177, 178, 179, 180, 181, 182, 183, 184, 185, 186, 187, 188, 189] [21] (EvI3 H13 60) rfl (by repeat' first | exact Resp.retD | exact Resp1.valuesK | refine Resp.blockD ?_ | refine Resp.thenD ?_ ?_ | refine Resp.hcode ?_) ?_ ?_
  · exact ⟨60, EvI3.mk ⟨0, rfl, rfl, Upd.refl _ _⟩⟩
  rintro m4 _ fe4 H19 ⟨j, rfl, hmj, u19⟩
  have fin : EvI2 H gf bf gg bg n k ts T (m - 1) [.int .i64 ((i + 1 : Nat) : Int)] H19 := EvI2.mk ⟨i + 1, rfl, by omega, by omega, u18.trans u19, by rw [hS1]; exact F12.upd0 (u13.trans u19), G12.upd0 (u13.trans u19)⟩
  (repeat first | refine HReg.step ?_ | refine HCode.step ?_)
  refine hif (fun h4 => ?_) (fun h4 => ?_)
  rotate_left
  · (repeat first | refine HReg.step ?_ | refine HCode.step ?_)
    rw [w2]
    exact ⟨m - 1, by omega, fin⟩
  have h4 := ltB_true.1 h4
  (repeat first | refine HReg.step ?_ | refine HCode.step ?_)
  refine hif (fun h5 => ?_) (fun h5 => ?_)
  rotate_left
  · (repeat first | refine HReg.step ?_ | refine HCode.step ?_)
    rw [w2]
    exact ⟨m - 1, by omega, fin⟩
  have h5 := ltB_true.1 h5
  have ro19 := ro.upd (S := []) (u18.trans u19) (.inr (Off.nil _))
  obtain ⟨t, ht⟩ : ∃ t, os[j]? = some t := ⟨os[j]'(by omega), by simp⟩
  obtain ⟨ba2, bo2, rfl, _⟩ := ro19 j _ (txts_get ht)
  have hb := bo t (List.mem_of_getElem? ht)
  have hh := hTh j t ht (by omega)
  (repeat first | refine HReg.step ?_ | refine HCode.step ?_)
  refine HReq.mk ⟨by omega, by omega⟩ ?_
  (repeat first | refine HReg.step ?_ | refine HCode.step ?_)
  refine HLoad.one (v := .string (bs t)) (by exact ro19.get (txts_get ht)) ?_
  (repeat first | refine HReg.step ?_ | refine HCode.step ?_)
  refine HCall.mk ⟨Try.f26, Try.func26, by rfl, by rfl⟩ ?_
  refine has_t (s := t) (U12.fil.upd0 (u13.trans u19)) hb fun H20 u20 => ?_
  rw [has_or2 hl1 hh]
  (repeat first | refine HReg.step ?_ | refine HCode.step ?_)
  refine HReq.mk ⟨by omega, by omega⟩ ?_
  (repeat first | refine HReg.step ?_ | refine HCode.step ?_)
  refine HLoad.one (v := .string (bs t)) (by exact (ro19.upd (S := []) u20 (.inr (Off.nil _))).get (txts_get ht)) ?_
  (repeat first | refine HReg.step ?_ | refine HCode.step ?_)
  refine HCall.mk ⟨Try.f26, Try.func26, by rfl, by rfl⟩ ?_
  refine has_t (s := t) (G12.upd0 ((u13.trans u19).trans u20)) hb fun H21 u21 => ?_
  rw [hh]
  have w4 : wr .i64 ((j : Int) + 1) = ((j + 1 : Nat) : Int) := by rw [wr_i64 (by omega) (by omega)]; omega
  (repeat first | refine HReg.step ?_ | refine HCode.step ?_)
  rw [w4]
  exact ⟨m4 - 1, by omega, EvI3.mk ⟨j + 1, rfl, by omega, (u19.trans u20).trans u21⟩⟩
end Go.Proofs.Ytaobgofbhommcaa
