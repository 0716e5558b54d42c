import Derived.Test.YtokfmkfobjkkpaaQ1
import Derived.Test.YtokfmkfobjkkpaaL2
namespace Go.Proofs.Ytokfmkfobjkkpaa
open Go Hv
set_option linter.unusedVariables false
set_option linter.unusedSimpArgs false
set_option maxRecDepth 10000
set_option maxHeartbeats 1000000
/-! alive -/
def rec0 : Rec := ⟨2, 65538, [], []⟩
theorem may0 : May rec0 := ⟨by decide, .inl ⟨rfl, rfl, rfl⟩⟩
theorem frame0 : ∃ x0 x1 x2 x3 : UInt8, frameR (pay rec0) = [0, 0, 0, 9, x0, x1, x2, x3, 2, 0, 0, 0, 0, 0, 1, 0, 2] := by
  have e : pay rec0 = [2, 0, 0, 0, 0, 0, 1, 0, 2] := by decide
  rw [e]
  unfold frameR
  generalize crcN [2, 0, 0, 0, 0, 0, 1, 0, 2] = c
  exact ⟨_, _, _, _, rfl⟩
theorem build_ok {r : Rec} (h : May r) (hp : (pay r).length ≤ 1048576) : buildR r = (frameR (pay r), 0) := by
  unfold buildR
  rw [if_neg (fun hh => hh h), if_neg (by omega)]
theorem build_no {r : Rec} (h : ¬ May r) : buildR r = ([], 1) := if_pos h
theorem rec0_in (H : Heap) : RecIn H rec0 none none := ⟨fun i v h => by simp [rec0, pairsV] at h, fun i v h => by simp [rec0, txts] at h, Nat.zero_le _, Nat.zero_le _⟩
section
variable {H : Heap} {K : Value → Heap → Prop}
theorem alive_t (hk : ∀ H', Upd [] H H' → K (.bool true) H') : HCalls Try.prog 10 [] H K := by
  refine hcalls (fn := Try.f10) [] mixed Try.func10 rfl rfl (by decide +kernel) ?_
  have hb := build_ok may0 (by decide)
  have hp := parse_rec [] may0 (by decide) (by decide)
  rw [List.append_nil] at hp
  obtain ⟨x0, x1, x2, x3, hf⟩ := frame0
  rw [hf] at hb hp
  (repeat first | refine HReg.step ?_ | refine HCode.step ?_)
  refine HCall.mk ⟨Try.f13, Try.func13, by rfl, by rfl⟩ ?_
  refine build_t (rec0_in H) (r := rec0) (cp := 0) (ck := 0) fun a c H1 m1 => ?_
  have e1 : (buildR rec0).1 = [0, 0, 0, 9, x0, x1, x2, x3, 2, 0, 0, 0, 0, 0, 1, 0, 2] := by rw [hb]
  have e2 : (buildR rec0).2 = 0 := by rw [hb]
  have e3 : (buildR rec0).1.length = 17 := by rw [e1]; rfl
  rw [e3, e1] at m1
  rw [e3, e2]
  obtain ⟨ba, bo, rfl, _⟩ := m1.own.rows 0 _ rfl
  have L : ∀ (i : Nat) v, (u8s [0, 0, 0, 9, x0, x1, x2, x3, 2, 0, 0, 0, 0, 0, 1, 0, 2])[i]? = some v → H1.cell? ⟨ba, bo + i, none⟩ = some v := fun i v h => m1.own.rows.get h
  (repeat first | refine HReg.step ?_ | refine HCode.step ?_)
  rw [show eqB (0 : Int) 0 = true from eqB_self 0]
  (repeat first | refine HReg.step ?_ | refine HCode.step ?_)
  rw [show eqB ((17 : Nat) : Int) 17 = true from eqB_self 17]
  (repeat first | refine HReg.step ?_ | refine HCode.step ?_)
  refine HReq.mk (by decide) ?_
  (repeat first | refine HReg.step ?_ | refine HCode.step ?_)
  refine HLoad.one (v := .int .u8 9) (by exact L 3 _ rfl) ?_
  (repeat first | refine HReg.step ?_ | refine HCode.step ?_)
  rw [eqB_self 9]
  (repeat first | refine HReg.step ?_ | refine HCode.step ?_)
  refine HReq.mk (by decide) ?_
  (repeat first | refine HReg.step ?_ | refine HCode.step ?_)
  refine HLoad.one (v := .int .u8 2) (by exact L 8 _ rfl) ?_
  (repeat first | refine HReg.step ?_ | refine HCode.step ?_)
  rw [eqB_self 2]
  (repeat first | refine HReg.step ?_ | refine HCode.step ?_)
  refine HReq.mk (by decide) ?_
  (repeat first | refine HReg.step ?_ | refine HCode.step ?_)
  refine HLoad.one (v := .int .u8 2) (by exact L 16 _ rfl) ?_
  (repeat first | refine HReg.step ?_ | refine HCode.step ?_)
  rw [eqB_self 2]
  (repeat first | refine HReg.step ?_ | refine HCode.step ?_)
  refine HCall.mk ⟨Try.f19, Try.func19, by rfl, by rfl⟩ ?_
  refine parse_t m1.own.rows rfl m1.own.le (by decide) fun ap cp ak ck H2 n2 u2 => ?_
  have p1 : (parseR [0, 0, 0, 9, x0, x1, x2, x3, 2, 0, 0, 0, 0, 0, 1, 0, 2]).1 = rec0 := by rw [hp]
  have p2 : (parseR [0, 0, 0, 9, x0, x1, x2, x3, 2, 0, 0, 0, 0, 0, 1, 0, 2]).2.1 = 17 := by rw [hp]; rfl
  have p3 : (parseR [0, 0, 0, 9, x0, x1, x2, x3, 2, 0, 0, 0, 0, 0, 1, 0, 2]).2.2 = 0 := by rw [hp]
  rw [p1, p2, p3]
  rw [p1] at n2
  (repeat first | refine HReg.step ?_ | refine HCode.step ?_)
  refine HNew.mk fun b4 hb4 => ?_
  (repeat first | refine HReg.step ?_ | refine HCode.step ?_)
  refine store_rec (x := rec0) (ap := ap) (cp := cp) (ak := ak) (ck := ck) (OwnRow.lit (upd_same _ _ _) rfl) rfl fun H4 o4 u4 => ?_
  have u4 : Upd [] H2 H4 := Upd.drop (Upd.new hb4 _) u4 (fun q hq => by rw [List.mem_singleton.1 hq]; exact hb4)
  (repeat first | refine HReg.step ?_ | refine HCode.step ?_)
  rw [eqB_self 0]
  (repeat first | refine HReg.step ?_ | refine HCode.step ?_)
  rw [show eqB ((17 : Nat) : Int) 17 = true from eqB_self 17]
  (repeat first | refine HReg.step ?_ | refine HCode.step ?_)
  refine HLoad.one (v := .int .i64 2) (by exact o4.rows.get (i := 0) rfl) ?_
  (repeat first | refine HReg.step ?_ | refine HCode.step ?_)
  rw [eqB_self 2]
  (repeat first | refine HReg.step ?_ | refine HCode.step ?_)
  refine HLoad.one (v := .int .u64 65538) (by exact o4.rows.get (i := 1) rfl) ?_
  (repeat first | refine HReg.step ?_ | refine HCode.step ?_)
  rw [eqB_self 65538]
  (repeat first | refine HReg.step ?_ | refine HCode.step ?_)
  exact hk H4 (m1.upd.trans (u2.trans u4))
end
end Go.Proofs.Ytokfmkfobjkkpaa
