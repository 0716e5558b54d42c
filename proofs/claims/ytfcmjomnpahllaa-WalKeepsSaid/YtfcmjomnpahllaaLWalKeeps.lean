/- WalKeeps: what a log took is there whatever happens: crashes, refusals, an armed disk. -/
import Derived.Test.YtfcmjomnpahllaaRwA
import Derived.Test.YtfcmjomnpahllaaX2
import Derived.Test.YtfcmjomnpahllaaW12
namespace Go.Proofs.Ytfcmjomnpahllaa.walKeeps
open Go Go.ChangeShapes Go.WideShapes Go.ChangeAt Go.RowKit Hv
set_option linter.unusedVariables false
theorem own : ownKnob Try.prog.godebug = none := by kernel_rfl
theorem laidOut : laidOutB Try.prog = true := by kernel_rfl
set_option maxRecDepth 100000 in
theorem lifted (os : Os) (started : os.Started) (H : Type) (enc : TypeId × Value → H) :
    ReturnsInHanded {} Try.checked os 5 .any (Rows.walKeepsSpec.pre6 enc Try.prog Try.f5 Rows.walKeepsRow.domain false) (Rows.walKeepsSpec.post enc Try.prog Try.f5 false true false false) := by
  refine returnsInHanded_of_change_sized (C := Try.checked) own started (by kernel_rfl) Try.func5
    (ChangeSpec.witness6 (enc := enc) (C := Try.checked) false ⟨#[], #[.slice none 0 0], []⟩ 8 (by kernel_rfl) (by kernel_rfl) (by kernel_rfl) (by kernel_rfl)) ?_
  intro W base args ds gs before hval0 hW hcnd hsz _
  have hval : ∀ (j : Nat) t v, Try.f5.params[j]? = some t → args[j]? = some v → Value.okWide Try.prog W .any base t v := hval0
  have hW' := hW
  obtain ⟨p, q, hA0, hV, rfl, hfz, hnd⟩ := hW
  have hA : DataW.TrodAll enc Try.prog W 0 (fun _ => true) true Try.f5.params.toList args.toList ds p := hA0
  rw [Try.params5] at hA hval hsz
  obtain ⟨v0, vs0, d0, ds0, p0, pp0, hargs, rfl, rfl, h0, q0_⟩ := trodAll_cons hA
  obtain ⟨rfl, rfl, rfl⟩ := trodAll_nil q0_
  obtain rfl : args = #[v0] := by cases args; simp_all
  obtain ⟨rfl, rfl⟩ := trodVars_none hV
  have k0 := h0
  have lt0 : ∀ x ∈ p0, x.block < W.heap.size := by obtain ⟨m, hm⟩ := k0; exact DataW.trod_lt m _ _ _ hm
  obtain ⟨a0, len0, cap0, rfl⟩ := okWide_slice Try.underlying54 (hval 0 54 v0 rfl rfl)
  obtain ⟨f0, hf0⟩ := h0
  obtain ⟨qs0, r0, l0, c0, b0⟩ := open_opsw (j := 0) hsz rfl rfl hf0
  clear hA0
  refine (walKeeps_t r0 l0 (by omega) (c := cap0) (K := fun v H' => v = .bool true ∧ Upd [] (heapOf W) H') (fun H' u => ⟨rfl, u⟩) W (sat_heapOf W)).mono fun e W' ⟨v, H', he, ⟨hv, hu⟩, hs, hf⟩ => ?_
  subst he
  subst hv
  have bel := below_of hs hf hu
  exact ⟨_, rfl, _, _, _, [], _, [], hW', trodAll_mk1 (shut_bool Try.underlying4 _), (trodAll_cons_mk (Below.trod laidOut (by kernel_rfl) (of_decide_eq_true (by kernel_rfl)) k0 bel lt0) trodAll_mk0), rfl, bel.frame _, fun h => by cases h⟩
theorem proved : Rows.WalKeepsSaid :=
  OpenClaim.holds_of_wide 5 Try.f5 rfl rfl rfl rfl rfl rfl rfl ⟨rfl, rfl, rfl, rfl, rfl⟩ rfl rfl rfl rfl rfl (by kernel_rfl) Try.func5 (by kernel_rfl)
    (of_decide_eq_true (by kernel_rfl)) (by unfold Func.isWrapper; first | (rw [if_pos (by decide +kernel)]; kernel_rfl) | (rw [if_neg (by decide +kernel)]; exact ⟨rfl, rfl⟩))
    (fun os started H enc _ => lifted os started H enc)
end Go.Proofs.Ytfcmjomnpahllaa.walKeeps
namespace Go.Proofs.Ytfcmjomnpahllaa
/-- The row, under a short name, for the claim. -/
theorem walKeeps_holds : Rows.WalKeepsSaid := walKeeps.proved
#print axioms walKeeps_holds
end Go.Proofs.Ytfcmjomnpahllaa
