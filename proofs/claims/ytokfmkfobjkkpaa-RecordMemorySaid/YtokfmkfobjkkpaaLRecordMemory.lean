/- RecordMemory: what Build, Parse and Scan tell is new memory, each list by itself. -/
import Derived.Test.YtokfmkfobjkkpaaRwA
import Derived.Test.YtokfmkfobjkkpaaL6
import Derived.Test.YtokfmkfobjkkpaaR3
namespace Go.Proofs.Ytokfmkfobjkkpaa.recordMemory
open Go Go.ChangeShapes Go.WideShapes Go.ChangeAt Go.RowKit Hv
set_option linter.unusedVariables false
theorem own : ownKnob Try.prog.godebug = none := by kernel_rfl
theorem laidOut : laidOutB Try.prog = true := by kernel_rfl
set_option maxRecDepth 100000 in
theorem lifted (os : Os) (started : os.Started) (H : Type) (enc : TypeId × Value → H) :
    ReturnsInHanded {} Try.checked os 9 .any (Rows.recordMemorySpec.pre6 enc Try.prog Try.f9 Rows.recordMemoryRow.domain false) (Rows.recordMemorySpec.post enc Try.prog Try.f9 false true false false) := by
  refine returnsInHanded_of_change_sized (C := Try.checked) own started (by kernel_rfl) Try.func9
    (ChangeSpec.witness6 (enc := enc) (C := Try.checked) false ⟨#[], #[.agg #[.bool false, .int .u64 0, .slice none 0 0, .int .u64 0, .string ⟨#[]⟩], .agg #[.bool false, .int .u64 0, .slice none 0 0, .int .u64 0, .string ⟨#[]⟩]], []⟩ 8 (by kernel_rfl) (by kernel_rfl) (by kernel_rfl) (by kernel_rfl)) ?_
  intro W base args ds gs before hval0 hW hcnd hsz _
  have hval : ∀ (j : Nat) t v, Try.f9.params[j]? = some t → args[j]? = some v → Value.okWide Try.prog W .any base t v := hval0
  have hW' := hW
  obtain ⟨p, q, hA0, hV, rfl, hfz, hnd⟩ := hW
  have hA : DataW.TrodAll enc Try.prog W 0 (fun _ => true) true Try.f9.params.toList args.toList ds p := hA0
  rw [Try.params9] at hA hval hsz
  obtain ⟨v0, vs0, d0, ds0, p0, pp0, hargs, rfl, rfl, h0, q0_⟩ := trodAll_cons hA
  obtain ⟨v1, vs1, d1, ds1, p1, pp1, rfl, rfl, rfl, h1, q1_⟩ := trodAll_cons q0_
  obtain ⟨rfl, rfl, rfl⟩ := trodAll_nil q1_
  obtain rfl : args = #[v0, v1] := by cases args; simp_all
  obtain ⟨rfl, rfl⟩ := trodVars_none hV
  have k0 := h0
  have lt0 : ∀ x ∈ p0, x.block < W.heap.size := by obtain ⟨m, hm⟩ := k0; exact DataW.trod_lt m _ _ _ hm
  obtain ⟨cs0, rfl, hcs0⟩ := okWide_struct Try.underlying40 (hval 0 40 v0 rfl rfl)
  obtain ⟨e0_0, e0_1, e0_2, e0_3, e0_4, rfl⟩ := arr5 (Array.length_toList.trans (hcs0.trans (by kernel_rfl)))
  obtain ⟨f0, hf0⟩ := h0
  obtain ⟨parts0, hd0, fl0⟩ := trod_field Try.underlying40 hf0
  have hd0x : d0 = .agg parts0 := hd0
  have hz0 := sized_struct (j := 0) hsz rfl (by rw [hd0x]; rfl) Try.underlying40
  obtain ⟨n0_0, y0_0, pt0_0, tr0_0⟩ := fl0 0 _ e0_0 rfl (by kernel_rfl) rfl
  obtain ⟨z0_0, he0_0, hy0_0⟩ := DataW.trod_bool Try.underlying4 tr0_0
  cases he0_0
  obtain ⟨n0_1, y0_1, pt0_1, tr0_1⟩ := fl0 1 _ e0_1 rfl (by kernel_rfl) rfl
  obtain ⟨z0_1, he0_1, hy0_1, w0_1⟩ := DataW.trod_int Try.underlying22 tr0_1
  cases he0_1
  obtain ⟨uw0_1, uh0_1, rfl⟩ := u64_wf w0_1
  obtain ⟨n0_2, y0_2, pt0_2, tr0_2⟩ := fl0 2 _ e0_2 rfl (by kernel_rfl) rfl
  obtain ⟨a0_2, len0_2, cap0_2, rfl⟩ := trod_slice1 Try.underlying25 tr0_2
  obtain ⟨ls0_2, r0_2, l0_2, c0_2, b0_2, m0_2⟩ := open_texts (j := 2) Try.underlying25 Try.underlying9 (by kernel_rfl) (by kernel_rfl) hz0 rfl pt0_2 tr0_2
  subst l0_2
  obtain ⟨n0_3, y0_3, pt0_3, tr0_3⟩ := fl0 3 _ e0_3 rfl (by kernel_rfl) rfl
  obtain ⟨z0_3, he0_3, hy0_3, w0_3⟩ := DataW.trod_int Try.underlying22 tr0_3
  cases he0_3
  obtain ⟨uw0_3, uh0_3, rfl⟩ := u64_wf w0_3
  obtain ⟨n0_4, y0_4, pt0_4, tr0_4⟩ := fl0 4 _ e0_4 rfl (by kernel_rfl) rfl
  obtain ⟨s0_4, rfl, b0_4⟩ := open_string (j := 4) Try.underlying9 hz0 rfl pt0_4 tr0_4
  have k1 := h1
  have lt1 : ∀ x ∈ p1, x.block < W.heap.size := by obtain ⟨m, hm⟩ := k1; exact DataW.trod_lt m _ _ _ hm
  obtain ⟨cs1, rfl, hcs1⟩ := okWide_struct Try.underlying40 (hval 1 40 v1 rfl rfl)
  obtain ⟨e1_0, e1_1, e1_2, e1_3, e1_4, rfl⟩ := arr5 (Array.length_toList.trans (hcs1.trans (by kernel_rfl)))
  obtain ⟨f1, hf1⟩ := h1
  obtain ⟨parts1, hd1, fl1⟩ := trod_field Try.underlying40 hf1
  have hd1x : d1 = .agg parts1 := hd1
  have hz1 := sized_struct (j := 1) hsz rfl (by rw [hd1x]; rfl) Try.underlying40
  obtain ⟨n1_0, y1_0, pt1_0, tr1_0⟩ := fl1 0 _ e1_0 rfl (by kernel_rfl) rfl
  obtain ⟨z1_0, he1_0, hy1_0⟩ := DataW.trod_bool Try.underlying4 tr1_0
  cases he1_0
  obtain ⟨n1_1, y1_1, pt1_1, tr1_1⟩ := fl1 1 _ e1_1 rfl (by kernel_rfl) rfl
  obtain ⟨z1_1, he1_1, hy1_1, w1_1⟩ := DataW.trod_int Try.underlying22 tr1_1
  cases he1_1
  obtain ⟨uw1_1, uh1_1, rfl⟩ := u64_wf w1_1
  obtain ⟨n1_2, y1_2, pt1_2, tr1_2⟩ := fl1 2 _ e1_2 rfl (by kernel_rfl) rfl
  obtain ⟨a1_2, len1_2, cap1_2, rfl⟩ := trod_slice1 Try.underlying25 tr1_2
  obtain ⟨ls1_2, r1_2, l1_2, c1_2, b1_2, m1_2⟩ := open_texts (j := 2) Try.underlying25 Try.underlying9 (by kernel_rfl) (by kernel_rfl) hz1 rfl pt1_2 tr1_2
  subst l1_2
  obtain ⟨n1_3, y1_3, pt1_3, tr1_3⟩ := fl1 3 _ e1_3 rfl (by kernel_rfl) rfl
  obtain ⟨z1_3, he1_3, hy1_3, w1_3⟩ := DataW.trod_int Try.underlying22 tr1_3
  cases he1_3
  obtain ⟨uw1_3, uh1_3, rfl⟩ := u64_wf w1_3
  obtain ⟨n1_4, y1_4, pt1_4, tr1_4⟩ := fl1 4 _ e1_4 rfl (by kernel_rfl) rfl
  obtain ⟨s1_4, rfl, b1_4⟩ := open_string (j := 4) Try.underlying9 hz1 rfl pt1_4 tr1_4
  clear hA0
  refine (recordMemory_t (x := ⟨z0_0, uw0_1, ls0_2, uw0_3, s0_4⟩) (ak := a0_2) (ck := cap0_2) (y := ⟨z1_0, uw1_1, ls1_2, uw1_3, s1_4⟩) (bk := a1_2) (dk := cap1_2) r0_2 (by show ls0_2.length ≤ _; omega) uh0_1 r1_2 (by show ls1_2.length ≤ _; omega) uh1_1 (K := fun v H' => v = .bool true ∧ Upd [] (heapOf W) H') (fun H' u => ⟨rfl, u⟩) W (sat_heapOf W)).mono fun e W' ⟨v, H', he, ⟨hv, hu⟩, hs, hf⟩ => ?_
  subst he
  subst hv
  have bel := below_of hs hf hu
  exact ⟨_, rfl, _, _, _, [], _, [], hW', trodAll_mk1 (shut_bool Try.underlying4 _), (trodAll_cons_mk (Below.trod laidOut (by kernel_rfl) (of_decide_eq_true (by kernel_rfl)) k0 bel lt0) (trodAll_cons_mk (Below.trod laidOut (by kernel_rfl) (of_decide_eq_true (by kernel_rfl)) k1 bel lt1) trodAll_mk0)), rfl, bel.frame _, fun h => by cases h⟩
theorem proved : Rows.RecordMemorySaid :=
  OpenClaim.holds_of_wide 9 Try.f9 rfl rfl rfl rfl rfl rfl rfl ⟨rfl, rfl, rfl, rfl, rfl⟩ rfl rfl rfl rfl rfl (by kernel_rfl) Try.func9 (by kernel_rfl)
    (of_decide_eq_true (by kernel_rfl)) (by unfold Func.isWrapper; first | (rw [if_pos (by decide +kernel)]; kernel_rfl) | (rw [if_neg (by decide +kernel)]; exact ⟨rfl, rfl⟩))
    (fun os started H enc _ => lifted os started H enc)
end Go.Proofs.Ytokfmkfobjkkpaa.recordMemory
namespace Go.Proofs.Ytokfmkfobjkkpaa
/-- The row, under a short name, for the claim. -/
theorem recordMemory_holds : Rows.RecordMemorySaid := recordMemory.proved
#print axioms recordMemory_holds
end Go.Proofs.Ytokfmkfobjkkpaa
