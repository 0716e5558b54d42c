/- RecordBack: there and back, whatever stands behind; what is read of any bytes has just these bytes. -/
import Derived.Test.YtokfmkfobjkkpaaRwA
import Derived.Test.YtokfmkfobjkkpaaL4
import Derived.Test.YtokfmkfobjkkpaaN4
namespace Go.Proofs.Ytokfmkfobjkkpaa.recordBack
open Go Go.ChangeShapes Go.WideShapes Go.ChangeAt Go.RowKit Hv
set_option linter.unusedVariables false
theorem own : ownKnob Try.prog.godebug = none := by kernel_rfl
theorem laidOut : laidOutB Try.prog = true := by kernel_rfl
set_option maxRecDepth 100000 in
theorem lifted (os : Os) (started : os.Started) (H : Type) (enc : TypeId × Value → H) :
    ReturnsInHanded {} Try.checked os 4 .any (Rows.recordBackSpec.pre6 enc Try.prog Try.f4 Rows.recordBackRow.domain false) (Rows.recordBackSpec.post enc Try.prog Try.f4 false true false false) := by
  refine returnsInHanded_of_change_sized (C := Try.checked) own started (by kernel_rfl) Try.func4
    (ChangeSpec.witness6 (enc := enc) (C := Try.checked) false ⟨#[], #[.agg #[.bool false, .int .u64 0, .slice none 0 0, .int .u64 0, .string ⟨#[]⟩], .slice none 0 0, .slice none 0 0], []⟩ 8 (by kernel_rfl) (by kernel_rfl) (by kernel_rfl) (by kernel_rfl)) ?_
  intro W base args ds gs before hval0 hW hcnd hsz _
  have hval : ∀ (j : Nat) t v, Try.f4.params[j]? = some t → args[j]? = some v → Value.okWide Try.prog W .any base t v := hval0
  have hW' := hW
  obtain ⟨p, q, hA0, hV, rfl, hfz, hnd⟩ := hW
  have hA : DataW.TrodAll enc Try.prog W 0 (fun _ => true) true Try.f4.params.toList args.toList ds p := hA0
  rw [Try.params4] at hA hval hsz
  obtain ⟨v0, vs0, d0, ds0, p0, pp0, hargs, rfl, rfl, h0, q0_⟩ := trodAll_cons hA
  obtain ⟨v1, vs1, d1, ds1, p1, pp1, rfl, rfl, rfl, h1, q1_⟩ := trodAll_cons q0_
  obtain ⟨v2, vs2, d2, ds2, p2, pp2, rfl, rfl, rfl, h2, q2_⟩ := trodAll_cons q1_
  obtain ⟨rfl, rfl, rfl⟩ := trodAll_nil q2_
  obtain rfl : args = #[v0, v1, v2] := by cases args; simp_all
  obtain ⟨rfl, rfl⟩ := trodVars_none hV
  have k0 := h0
  have lt0 : ∀ x ∈ p0, x.block < W.heap.size := by obtain ⟨m, hm⟩ := k0; exact DataW.trod_lt m _ _ _ hm
  obtain ⟨cs0, rfl, hcs0⟩ := okWide_struct Try.underlying40 (hval 0 40 v0 rfl rfl)
  obtain ⟨e0_0, e0_1, e0_2, e0_3, e0_4, rfl⟩ := arr5 (Array.length_toList.trans (hcs0.trans (by kernel_rfl)))
  obtain ⟨f0, hf0⟩ := h0
  obtain ⟨parts0, hd0, fl0⟩ := trod_field Try.underlying40 hf0
  have hd0x : d0 = .agg parts0 := hd0
  have hz0 := sized_struct (j := 0) hsz rfl (by rw [hd0x]; rfl) Try.underlying40
  obtain ⟨n0_0, y0_0, pt0_0, tr0_0⟩ := fl0 0 _ e0_0 rfl (by kernel_rfl) rfl
  obtain ⟨z0_0, he0_0, hy0_0⟩ := DataW.trod_bool Try.underlying4 tr0_0
  cases he0_0
  obtain ⟨n0_1, y0_1, pt0_1, tr0_1⟩ := fl0 1 _ e0_1 rfl (by kernel_rfl) rfl
  obtain ⟨z0_1, he0_1, hy0_1, w0_1⟩ := DataW.trod_int Try.underlying22 tr0_1
  cases he0_1
  obtain ⟨uw0_1, uh0_1, rfl⟩ := u64_wf w0_1
  obtain ⟨n0_2, y0_2, pt0_2, tr0_2⟩ := fl0 2 _ e0_2 rfl (by kernel_rfl) rfl
  obtain ⟨a0_2, len0_2, cap0_2, rfl⟩ := trod_slice1 Try.underlying25 tr0_2
  obtain ⟨ls0_2, r0_2, l0_2, c0_2, b0_2, m0_2⟩ := open_texts (j := 2) Try.underlying25 Try.underlying9 (by kernel_rfl) (by kernel_rfl) hz0 rfl pt0_2 tr0_2
  subst l0_2
  obtain ⟨n0_3, y0_3, pt0_3, tr0_3⟩ := fl0 3 _ e0_3 rfl (by kernel_rfl) rfl
  obtain ⟨z0_3, he0_3, hy0_3, w0_3⟩ := DataW.trod_int Try.underlying22 tr0_3
  cases he0_3
  obtain ⟨uw0_3, uh0_3, rfl⟩ := u64_wf w0_3
  obtain ⟨n0_4, y0_4, pt0_4, tr0_4⟩ := fl0 4 _ e0_4 rfl (by kernel_rfl) rfl
  obtain ⟨s0_4, rfl, b0_4⟩ := open_string (j := 4) Try.underlying9 hz0 rfl pt0_4 tr0_4
  have k1 := h1
  have lt1 : ∀ x ∈ p1, x.block < W.heap.size := by obtain ⟨m, hm⟩ := k1; exact DataW.trod_lt m _ _ _ hm
  obtain ⟨a1, len1, cap1, rfl⟩ := okWide_slice Try.underlying31 (hval 1 31 v1 rfl rfl)
  obtain ⟨f1, hf1⟩ := h1
  obtain ⟨ys1, r1, l1, c1, b1⟩ := open_sized (j := 1) Try.underlying31 Try.underlying5 (by kernel_rfl) (by kernel_rfl) hsz rfl rfl hf1
  subst l1
  have k2 := h2
  have lt2 : ∀ x ∈ p2, x.block < W.heap.size := by obtain ⟨m, hm⟩ := k2; exact DataW.trod_lt m _ _ _ hm
  obtain ⟨a2, len2, cap2, rfl⟩ := okWide_slice Try.underlying31 (hval 2 31 v2 rfl rfl)
  obtain ⟨f2, hf2⟩ := h2
  obtain ⟨ys2, r2, l2, c2, b2⟩ := open_sized (j := 2) Try.underlying31 Try.underlying5 (by kernel_rfl) (by kernel_rfl) hsz rfl rfl hf2
  subst l2
  clear hA0
  refine (recordBack_t (x := ⟨z0_0, uw0_1, ls0_2, uw0_3, s0_4⟩) (ak := a0_2) (ck := cap0_2) (c1 := cap1) (c2 := cap2) r0_2 (by show ls0_2.length ≤ _; omega) uh0_1 r1 (by omega) r2 (by omega) (by omega) (K := fun v H' => v = .bool true ∧ Upd [] (heapOf W) H') (fun H' u => ⟨rfl, u⟩) W (sat_heapOf W)).mono fun e W' ⟨v, H', he, ⟨hv, hu⟩, hs, hf⟩ => ?_
  subst he
  subst hv
  have bel := below_of hs hf hu
  exact ⟨_, rfl, _, _, _, [], _, [], hW', trodAll_mk1 (shut_bool Try.underlying4 _), (trodAll_cons_mk (Below.trod laidOut (by kernel_rfl) (of_decide_eq_true (by kernel_rfl)) k0 bel lt0) (trodAll_cons_mk (Below.trod laidOut (by kernel_rfl) (of_decide_eq_true (by kernel_rfl)) k1 bel lt1) (trodAll_cons_mk (Below.trod laidOut (by kernel_rfl) (of_decide_eq_true (by kernel_rfl)) k2 bel lt2) trodAll_mk0))), rfl, bel.frame _, fun h => by cases h⟩
theorem proved : Rows.RecordBackSaid :=
  OpenClaim.holds_of_wide 4 Try.f4 rfl rfl rfl rfl rfl rfl rfl ⟨rfl, rfl, rfl, rfl, rfl⟩ rfl rfl rfl rfl rfl (by kernel_rfl) Try.func4 (by kernel_rfl)
    (of_decide_eq_true (by kernel_rfl)) (by unfold Func.isWrapper; first | (rw [if_pos (by decide +kernel)]; kernel_rfl) | (rw [if_neg (by decide +kernel)]; exact ⟨rfl, rfl⟩))
    (fun os started H enc _ => lifted os started H enc)
end Go.Proofs.Ytokfmkfobjkkpaa.recordBack
namespace Go.Proofs.Ytokfmkfobjkkpaa
/-- The row, under a short name, for the claim. -/
theorem recordBack_holds : Rows.RecordBackSaid := recordBack.proved
#print axioms recordBack_holds
end Go.Proofs.Ytokfmkfobjkkpaa
