/- SumPlays: every call of the layer, at any arguments, answers as the document does; the bytes and their spare room stay. -/
import Derived.Test.YtmcadbaejedfnaaRw4
import Derived.Test.YtmcadbaejedfnaaRu
import Derived.Test.YtmcadbaejedfnaaT8
namespace Go.Proofs.Ytmcadbaejedfnaa.sumPlays
open Go Go.ChangeShapes Go.WideShapes Go.ChangeAt Go.RowKit Hv
set_option linter.unusedVariables false
theorem own : ownKnob Try.prog.godebug = none := by kernel_rfl
theorem laidOut : laidOutB Try.prog = true := by kernel_rfl
set_option maxRecDepth 100000 in
theorem lifted (os : Os) (started : os.Started) (H : Type) (enc : TypeId × Value → H) :
    ReturnsInHanded {} Try.checked os 3 .any (Rows.sumPlaysSpec.pre6 enc Try.prog Try.f3 Rows.sumPlaysRow.domain false) (Rows.sumPlaysSpec.post enc Try.prog Try.f3 false true false false) := by
  refine returnsInHanded_of_change_sized (C := Try.checked) own started (by kernel_rfl) Try.func3
    (ChangeSpec.witness6 (enc := enc) (C := Try.checked) false ⟨#[], #[.agg #[.slice none 0 0, .string ⟨#[]⟩, .int .u32 0, .int .u32 0, .int .u64 0, .int .i64 0]], []⟩ 8 (by kernel_rfl) (by kernel_rfl) (by kernel_rfl) (by kernel_rfl)) ?_
  intro W base args ds gs before hval0 hW hcnd hsz _
  have hval : ∀ (j : Nat) t v, Try.f3.params[j]? = some t → args[j]? = some v → Value.okWide Try.prog W .any base t v := hval0
  have hW' := hW
  obtain ⟨p, q, hA0, hV, rfl, hfz, hnd⟩ := hW
  have hA : DataW.TrodAll enc Try.prog W 0 (fun _ => true) true Try.f3.params.toList args.toList ds p := hA0
  rw [Try.params3] at hA hval hsz
  obtain ⟨v0, vs0, d0, ds0, p0, pp0, hargs, rfl, rfl, h0, q0_⟩ := trodAll_cons hA
  obtain ⟨rfl, rfl, rfl⟩ := trodAll_nil q0_
  obtain rfl : args = #[v0] := by cases args; simp_all
  obtain ⟨rfl, rfl⟩ := trodVars_none hV
  have k0 := h0
  have lt0 : ∀ x ∈ p0, x.block < W.heap.size := by obtain ⟨m, hm⟩ := k0; exact DataW.trod_lt m _ _ _ hm
  obtain ⟨cs0, rfl, hcs0⟩ := okWide_struct Try.underlying26 (hval 0 26 v0 rfl rfl)
  obtain ⟨e0_0, e0_1, e0_2, e0_3, e0_4, e0_5, rfl⟩ := arr6 (Array.length_toList.trans (hcs0.trans (by kernel_rfl)))
  obtain ⟨f0, hf0⟩ := h0
  obtain ⟨parts0, hd0, fl0⟩ := trod_field Try.underlying26 hf0
  have hd0x : d0 = .agg parts0 := hd0
  have hz0 := sized_struct (j := 0) hsz rfl (by rw [hd0x]; rfl) Try.underlying26
  obtain ⟨n0_0, y0_0, pt0_0, tr0_0⟩ := fl0 0 _ e0_0 rfl (by kernel_rfl) rfl
  obtain ⟨a0_0, len0_0, cap0_0, rfl⟩ := trod_slice1 Try.underlying22 tr0_0
  obtain ⟨ys0_0, r0_0, l0_0, c0_0, b0_0⟩ := open_sized (j := 0) Try.underlying22 Try.underlying5 (by kernel_rfl) (by kernel_rfl) hz0 rfl pt0_0 tr0_0
  obtain ⟨n0_1, y0_1, pt0_1, tr0_1⟩ := fl0 1 _ e0_1 rfl (by kernel_rfl) rfl
  obtain ⟨s0_1, rfl, b0_1⟩ := open_string (j := 1) Try.underlying9 hz0 rfl pt0_1 tr0_1
  obtain ⟨n0_2, y0_2, pt0_2, tr0_2⟩ := fl0 2 _ e0_2 rfl (by kernel_rfl) rfl
  obtain ⟨z0_2, he0_2, hy0_2, w0_2⟩ := DataW.trod_int Try.underlying23 tr0_2
  cases he0_2
  obtain ⟨uw0_2, rfl⟩ := u32_wf w0_2
  obtain ⟨n0_3, y0_3, pt0_3, tr0_3⟩ := fl0 3 _ e0_3 rfl (by kernel_rfl) rfl
  obtain ⟨z0_3, he0_3, hy0_3, w0_3⟩ := DataW.trod_int Try.underlying23 tr0_3
  cases he0_3
  obtain ⟨uw0_3, rfl⟩ := u32_wf w0_3
  obtain ⟨n0_4, y0_4, pt0_4, tr0_4⟩ := fl0 4 _ e0_4 rfl (by kernel_rfl) rfl
  obtain ⟨z0_4, he0_4, hy0_4, w0_4⟩ := DataW.trod_int Try.underlying24 tr0_4
  cases he0_4
  obtain ⟨n0_5, y0_5, pt0_5, tr0_5⟩ := fl0 5 _ e0_5 rfl (by kernel_rfl) rfl
  obtain ⟨z0_5, he0_5, hy0_5, w0_5⟩ := DataW.trod_int Try.underlying3 tr0_5
  cases he0_5
  clear hA0
  refine (sumPlays_t (S := uw0_2) (R := uw0_3) r0_0 l0_0 b0_0 (by omega) (int_wf w0_5).2 W (sat_heapOf W)).mono fun e W' ⟨v, H', he, ⟨hv, hu⟩, hs, hf⟩ => ?_
  subst he
  subst hv
  have bel := below_of hs hf hu
  exact ⟨_, rfl, _, _, _, [], _, [], hW', trodAll_mk1 (shut_bool Try.underlying4 _), (trodAll_cons_mk (Below.trod laidOut (by kernel_rfl) (of_decide_eq_true (by kernel_rfl)) k0 bel lt0) trodAll_mk0), rfl, bel.frame _, fun h => by cases h⟩
theorem proved : Rows.SumPlaysSaid :=
  OpenClaim.holds_of_wide 3 Try.f3 rfl rfl rfl rfl rfl rfl rfl ⟨rfl, rfl, rfl, rfl, rfl⟩ rfl rfl rfl rfl rfl (by kernel_rfl) Try.func3 (by kernel_rfl)
    (of_decide_eq_true (by kernel_rfl)) (by unfold Func.isWrapper; first | (rw [if_pos (by decide +kernel)]; kernel_rfl) | (rw [if_neg (by decide +kernel)]; exact ⟨rfl, rfl⟩))
    (fun os started H enc _ => lifted os started H enc)
end Go.Proofs.Ytmcadbaejedfnaa.sumPlays
namespace Go.Proofs.Ytmcadbaejedfnaa
/-- The row, under a short name, for the claim. -/
theorem sumPlays_holds : Rows.SumPlaysSaid := sumPlays.proved
#print axioms sumPlays_holds
end Go.Proofs.Ytmcadbaejedfnaa
