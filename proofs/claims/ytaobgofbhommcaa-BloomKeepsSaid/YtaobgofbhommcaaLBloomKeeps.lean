/- BloomKeeps: for all numbers of bits and hashes and all lists of texts: bytes that are handed in stay, bytes and places that are told are the caller's own, and a union is a filter by itself. -/
import Derived.Test.YtaobgofbhommcaaRw4
import Derived.Test.YtaobgofbhommcaaRw6
import Derived.Test.YtaobgofbhommcaaB26
namespace Go.Proofs.Ytaobgofbhommcaa.bloomKeeps
open Go Go.ChangeShapes Go.WideShapes Go.ChangeAt Go.RowKit Hv
set_option linter.unusedVariables false
theorem own : ownKnob Try.prog.godebug = none := by kernel_rfl
theorem laidOut : laidOutB Try.prog = true := by kernel_rfl
set_option maxRecDepth 100000 in
theorem lifted (os : Os) (started : os.Started) (H : Type) (enc : TypeId × Value → H) :
    ReturnsInHanded {} Try.checked os 9 .any (Rows.bloomKeepsSpec.pre6 enc Try.prog Try.f9 Rows.bloomKeepsRow.domain false) (Rows.bloomKeepsSpec.post enc Try.prog Try.f9 false true false false) := by
  refine returnsInHanded_of_change_sized (C := Try.checked) own started (by kernel_rfl) Try.func9
    (ChangeSpec.witness6 (enc := enc) (C := Try.checked) false ⟨#[], #[.int .i64 0, .int .i64 0, .slice none 0 0], []⟩ 8 (by kernel_rfl) (by kernel_rfl) (by kernel_rfl) (by kernel_rfl)) ?_
  intro W base args ds gs before hval0 hW hcnd hsz _
  have hval : ∀ (j : Nat) t v, Try.f9.params[j]? = some t → args[j]? = some v → Value.okWide Try.prog W .any base t v := hval0
  have hW' := hW
  obtain ⟨p, q, hA0, hV, rfl, hfz, hnd⟩ := hW
  have hA : DataW.TrodAll enc Try.prog W 0 (fun _ => true) true Try.f9.params.toList args.toList ds p := hA0
  rw [Try.params9] at hA hval hsz
  obtain ⟨v0, vs0, d0, ds0, p0, pp0, hargs, rfl, rfl, h0, q0_⟩ := trodAll_cons hA
  obtain ⟨v1, vs1, d1, ds1, p1, pp1, rfl, rfl, rfl, h1, q1_⟩ := trodAll_cons q0_
  obtain ⟨v2, vs2, d2, ds2, p2, pp2, rfl, rfl, rfl, h2, q2_⟩ := trodAll_cons q1_
  obtain ⟨rfl, rfl, rfl⟩ := trodAll_nil q2_
  obtain rfl : args = #[v0, v1, v2] := by cases args; simp_all
  obtain ⟨rfl, rfl⟩ := trodVars_none hV
  have k0 := h0
  have lt0 : ∀ x ∈ p0, x.block < W.heap.size := by obtain ⟨m, hm⟩ := k0; exact DataW.trod_lt m _ _ _ hm
  obtain ⟨z0, rfl, m0⟩ := okWide_num Try.underlying3 (hval 0 3 v0 rfl rfl)
  have k1 := h1
  have lt1 : ∀ x ∈ p1, x.block < W.heap.size := by obtain ⟨m, hm⟩ := k1; exact DataW.trod_lt m _ _ _ hm
  obtain ⟨z1, rfl, m1⟩ := okWide_num Try.underlying3 (hval 1 3 v1 rfl rfl)
  have k2 := h2
  have lt2 : ∀ x ∈ p2, x.block < W.heap.size := by obtain ⟨m, hm⟩ := k2; exact DataW.trod_lt m _ _ _ hm
  obtain ⟨a2, len2, cap2, rfl⟩ := okWide_slice Try.underlying54 (hval 2 54 v2 rfl rfl)
  obtain ⟨f2, hf2⟩ := h2
  obtain ⟨ls2, r2, l2, c2, b2, n2⟩ := open_texts (j := 2) Try.underlying54 Try.underlying9 (by kernel_rfl) (by kernel_rfl) hsz rfl rfl hf2
  clear hA0
  refine (bloomKeeps_t r2 l2 b2 n2 (K := fun v H' => v = .bool true ∧ Upd [] (heapOf W) H') (fun H' u => ⟨rfl, u⟩) W (sat_heapOf W)).mono fun e W' ⟨v, H', he, ⟨hv, hu⟩, hs, hf⟩ => ?_
  subst he
  subst hv
  have bel := below_of hs hf hu
  exact ⟨_, rfl, _, _, _, [], _, [], hW', trodAll_mk1 (shut_bool Try.underlying4 _), (trodAll_cons_mk (Below.trod laidOut (by kernel_rfl) (of_decide_eq_true (by kernel_rfl)) k0 bel lt0) (trodAll_cons_mk (Below.trod laidOut (by kernel_rfl) (of_decide_eq_true (by kernel_rfl)) k1 bel lt1) (trodAll_cons_mk (Below.trod laidOut (by kernel_rfl) (of_decide_eq_true (by kernel_rfl)) k2 bel lt2) trodAll_mk0))), rfl, bel.frame _, fun h => by cases h⟩
theorem proved : Rows.BloomKeepsSaid :=
  OpenClaim.holds_of_wide 9 Try.f9 rfl rfl rfl rfl rfl rfl rfl ⟨rfl, rfl, rfl, rfl, rfl⟩ rfl rfl rfl rfl rfl (by kernel_rfl) Try.func9 (by kernel_rfl)
    (of_decide_eq_true (by kernel_rfl)) (by unfold Func.isWrapper; first | (rw [if_pos (by decide +kernel)]; kernel_rfl) | (rw [if_neg (by decide +kernel)]; exact ⟨rfl, rfl⟩))
    (fun os started H enc _ => lifted os started H enc)
end Go.Proofs.Ytaobgofbhommcaa.bloomKeeps
namespace Go.Proofs.Ytaobgofbhommcaa
/-- The row, under a short name, for the claim. -/
theorem bloomKeeps_holds : Rows.BloomKeepsSaid := bloomKeeps.proved
#print axioms bloomKeeps_holds
end Go.Proofs.Ytaobgofbhommcaa
