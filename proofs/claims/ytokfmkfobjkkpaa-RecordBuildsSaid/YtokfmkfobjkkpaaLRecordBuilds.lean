/- RecordBuilds: every May and Build as the document says; the record stays, its spare room too. -/
import Derived.Test.YtokfmkfobjkkpaaRwA
import Derived.Test.YtokfmkfobjkkpaaL4
import Derived.Test.YtokfmkfobjkkpaaX2
import Derived.Test.YtokfmkfobjkkpaaN6
namespace Go.Proofs.Ytokfmkfobjkkpaa.recordBuilds
open Go Go.ChangeShapes Go.WideShapes Go.ChangeAt Go.RowKit Hv
set_option linter.unusedVariables false
theorem own : ownKnob Try.prog.godebug = none := by kernel_rfl
theorem laidOut : laidOutB Try.prog = true := by kernel_rfl
set_option maxRecDepth 100000 in
theorem lifted (os : Os) (started : os.Started) (H : Type) (enc : TypeId × Value → H) :
    ReturnsInHanded {} Try.checked os 3 .any (Rows.recordBuildsSpec.pre6 enc Try.prog Try.f3 Rows.recordBuildsRow.domain false) (Rows.recordBuildsSpec.post enc Try.prog Try.f3 false true false false) := by
  refine returnsInHanded_of_change_sized (C := Try.checked) own started (by kernel_rfl) Try.func3
    (ChangeSpec.witness6 (enc := enc) (C := Try.checked) false ⟨#[], #[.agg #[.int .i64 0, .int .u64 0, .slice none 0 0, .slice none 0 0]], []⟩ 8 (by kernel_rfl) (by kernel_rfl) (by kernel_rfl) (by kernel_rfl)) ?_
  intro W base args ds gs before hval0 hW hcnd hsz _
  have hval : ∀ (j : Nat) t v, Try.f3.params[j]? = some t → args[j]? = some v → Value.okWide Try.prog W .any base t v := hval0
  have hW' := hW
  obtain ⟨p, q, hA0, hV, rfl, hfz, hnd⟩ := hW
  have hA : DataW.TrodAll enc Try.prog W 0 (fun _ => true) true Try.f3.params.toList args.toList ds p := hA0
  rw [Try.params3] at hA hval hsz
  obtain ⟨v0, vs0, d0, ds0, p0, pp0, hargs, rfl, rfl, h0, q0_⟩ := trodAll_cons hA
  obtain ⟨rfl, rfl, rfl⟩ := trodAll_nil q0_
  obtain rfl : args = #[v0] := by cases args; simp_all
  obtain ⟨rfl, rfl⟩ := trodVars_none hV
  have k0 := h0
  have lt0 : ∀ x ∈ p0, x.block < W.heap.size := by obtain ⟨m, hm⟩ := k0; exact DataW.trod_lt m _ _ _ hm
  obtain ⟨cs0, rfl, hcs0⟩ := okWide_struct Try.underlying27 (hval 0 27 v0 rfl rfl)
  obtain ⟨e0_0, e0_1, e0_2, e0_3, rfl⟩ := arr4 (Array.length_toList.trans (hcs0.trans (by kernel_rfl)))
  obtain ⟨f0, hf0⟩ := h0
  obtain ⟨parts0, hd0, fl0⟩ := trod_field Try.underlying27 hf0
  have hd0x : d0 = .agg parts0 := hd0
  have hz0 := sized_struct (j := 0) hsz rfl (by rw [hd0x]; rfl) Try.underlying27
  obtain ⟨n0_0, y0_0, pt0_0, tr0_0⟩ := fl0 0 _ e0_0 rfl (by kernel_rfl) rfl
  obtain ⟨z0_0, he0_0, hy0_0, w0_0⟩ := DataW.trod_int Try.underlying3 tr0_0
  cases he0_0
  obtain ⟨n0_1, y0_1, pt0_1, tr0_1⟩ := fl0 1 _ e0_1 rfl (by kernel_rfl) rfl
  obtain ⟨z0_1, he0_1, hy0_1, w0_1⟩ := DataW.trod_int Try.underlying23 tr0_1
  cases he0_1
  obtain ⟨uw0_1, uh0_1, rfl⟩ := u64_wf w0_1
  obtain ⟨n0_2, y0_2, pt0_2, tr0_2⟩ := fl0 2 _ e0_2 rfl (by kernel_rfl) rfl
  obtain ⟨a0_2, len0_2, cap0_2, rfl⟩ := trod_slice1 Try.underlying24 tr0_2
  obtain ⟨ps0_2, r0_2, l0_2, c0_2, m0_2⟩ := open_pairs (j := 2) hz0 rfl pt0_2 tr0_2
  subst l0_2
  obtain ⟨n0_3, y0_3, pt0_3, tr0_3⟩ := fl0 3 _ e0_3 rfl (by kernel_rfl) rfl
  obtain ⟨a0_3, len0_3, cap0_3, rfl⟩ := trod_slice1 Try.underlying25 tr0_3
  obtain ⟨ls0_3, r0_3, l0_3, c0_3, b0_3, m0_3⟩ := open_texts (j := 3) Try.underlying25 Try.underlying9 (by kernel_rfl) (by kernel_rfl) hz0 rfl pt0_3 tr0_3
  subst l0_3
  clear hA0
  refine (recordBuilds_t (r := ⟨z0_0, uw0_1, ps0_2, ls0_3⟩) (ap := a0_2) (ak := a0_3) (cp := cap0_2) (ck := cap0_3) ⟨r0_2, r0_3, m0_2, m0_3⟩ (K := fun v H' => v = .bool true ∧ Upd [] (heapOf W) H') (fun H' u => ⟨rfl, u⟩) W (sat_heapOf W)).mono fun e W' ⟨v, H', he, ⟨hv, hu⟩, hs, hf⟩ => ?_
  subst he
  subst hv
  have bel := below_of hs hf hu
  exact ⟨_, rfl, _, _, _, [], _, [], hW', trodAll_mk1 (shut_bool Try.underlying4 _), (trodAll_cons_mk (Below.trod laidOut (by kernel_rfl) (of_decide_eq_true (by kernel_rfl)) k0 bel lt0) trodAll_mk0), rfl, bel.frame _, fun h => by cases h⟩
theorem proved : Rows.RecordBuildsSaid :=
  OpenClaim.holds_of_wide 3 Try.f3 rfl rfl rfl rfl rfl rfl rfl ⟨rfl, rfl, rfl, rfl, rfl⟩ rfl rfl rfl rfl rfl (by kernel_rfl) Try.func3 (by kernel_rfl)
    (of_decide_eq_true (by kernel_rfl)) (by unfold Func.isWrapper; first | (rw [if_pos (by decide +kernel)]; kernel_rfl) | (rw [if_neg (by decide +kernel)]; exact ⟨rfl, rfl⟩))
    (fun os started H enc _ => lifted os started H enc)
end Go.Proofs.Ytokfmkfobjkkpaa.recordBuilds
namespace Go.Proofs.Ytokfmkfobjkkpaa
/-- The row, under a short name, for the claim. -/
theorem recordBuilds_holds : Rows.RecordBuildsSaid := recordBuilds.proved
#print axioms recordBuilds_holds
end Go.Proofs.Ytokfmkfobjkkpaa
