import Derived.Test.YtaobgofbhommcaaB11
namespace Go.Proofs.Ytaobgofbhommcaa
open Go Hv
set_option linter.unusedVariables false
set_option linter.unusedSimpArgs false
set_option maxRecDepth 10000
set_option maxHeartbeats 1000000
/-! BloomPlaces -/
theorem bloomPlaces_t {s : List UInt8} {n h : Int} {H : Heap} {K : Value → Heap → Prop} (hlim : s.length ≤ 140737488351232) (hk : ∀ H', Upd [] H H' → K (.bool true) H') : HCalls Try.prog 4 [.string (bs s), .int .i64 n, .int .i64 h] H K := by
  refine hcalls (fn := Try.f4) [] mixed Try.func4 rfl rfl rfl ?_
  (repeat first | refine HReg.step ?_ | refine HCode.step ?_)
  refine HCall.mk ⟨Try.f19, Try.func19, by rfl, by rfl⟩ ?_
  refine PlacesP (s := s) (by omega) (fun H1 hm u1 => ?_) fun a c H1 hm m1 => ?_
  · (repeat first | refine HReg.step ?_ | refine HCode.step ?_)
    refine HCall.mk ⟨Try.f20, Try.func20, by rfl, by rfl⟩ ?_
    refine RPlaces (s := s) (by omega) (fun _ => ?_) fun a c H2 h => absurd h hm
    (repeat first | refine HReg.step ?_ | refine HCode.step ?_)
    refine HCall.mk ⟨Try.f10, Try.func10, by rfl, by rfl⟩ ?_
    refine known_t fun H3 u3 => ?_
    (repeat first | refine HReg.step ?_ | refine HCode.step ?_)
    refine hif (fun _ => ?_) (fun h => absurd rfl (eqB_false.1 h))
    (repeat first | refine HReg.step ?_ | refine HCode.step ?_)
    refine HCall.mk ⟨Try.f21, Try.func21, by rfl, by rfl⟩ ?_
    refine sameInts_t (x := []) (y := []) (RowAt.nil _ _) rfl (RowAt.nil _ _) rfl (by decide) ?_
    (repeat first | refine HReg.step ?_ | refine HCode.step ?_)
    exact hk H3 (u1.trans u3)
  · (repeat first | refine HReg.step ?_ | refine HCode.step ?_)
    refine HCall.mk ⟨Try.f20, Try.func20, by rfl, by rfl⟩ ?_
    refine RPlaces (s := s) (by omega) (fun h => absurd hm h) fun a2 c2 H2 _ m2 => ?_
    (repeat first | refine HReg.step ?_ | refine HCode.step ?_)
    refine HCall.mk ⟨Try.f10, Try.func10, by rfl, by rfl⟩ ?_
    refine known_t fun H3 u3 => ?_
    (repeat first | refine HReg.step ?_ | refine HCode.step ?_)
    refine hif (fun _ => ?_) (fun h => absurd rfl (eqB_false.1 h))
    (repeat first | refine HReg.step ?_ | refine HCode.step ?_)
    refine HCall.mk ⟨Try.f21, Try.func21, by rfl, by rfl⟩ ?_
    refine sameInts_t (m1.own.rows.upd (S := []) (m2.upd.trans u3) (.inr (Off.nil _))) (placesL_length _ _ _) (m2.own.rows.upd (S := []) u3 (.inr (Off.nil _))) (placesL_length _ _ _) (by have := hm.2.2.2; omega) ?_
    rw [decide_eq_true rfl]
    (repeat first | refine HReg.step ?_ | refine HCode.step ?_)
    exact hk H3 ((m1.upd.trans m2.upd).trans u3)
end Go.Proofs.Ytaobgofbhommcaa
