/- WalTorn: a torn record at the end of a log is dropped, what stood before it is read, and the log takes records again. -/
import Derived.Test.YtfcmjomnpahllaaRwA
import Derived.Test.YtfcmjomnpahllaaX1
import Derived.Test.YtfcmjomnpahllaaW8
namespace Go.Proofs.Ytfcmjomnpahllaa.walTorn
open Go Go.ChangeShapes Go.WideShapes Go.ChangeAt Go.RowKit Hv
set_option linter.unusedVariables false
theorem own : ownKnob Try.prog.godebug = none := by kernel_rfl
theorem laidOut : laidOutB Try.prog = true := by kernel_rfl
set_option maxRecDepth 100000 in
theorem lifted (os : Os) (started : os.Started) (H : Type) (enc : TypeId × Value → H) :
    ReturnsInHanded {} Try.checked os 3 .any (Rows.walTornSpec.pre6 enc Try.prog Try.f3 Rows.walTornRow.domain false) (Rows.walTornSpec.post enc Try.prog Try.f3 false true false false) := by
  refine returnsInHanded_of_change_sized (C := Try.checked) own started (by kernel_rfl) Try.func3
    (ChangeSpec.witness6 (enc := enc) (C := Try.checked) false ⟨#[], #[.slice none 0 0, .agg #[.int .i64 0, .int .u64 0, .slice none 0 0, .slice none 0 0], .int .i64 0], []⟩ 8 (by kernel_rfl) (by kernel_rfl) (by kernel_rfl) (by kernel_rfl)) ?_
  intro W base args ds gs before hval0 hW hcnd hsz _
  have hval : ∀ (j : Nat) t v, Try.f3.params[j]? = some t → args[j]? = some v → Value.okWide Try.prog W .any base t v := hval0
  have hW' := hW
  obtain ⟨p, q, hA0, hV, rfl, hfz, hnd⟩ := hW
  have hA : DataW.TrodAll enc Try.prog W 0 (fun _ => true) true Try.f3.params.toList args.toList ds p := hA0
  rw [Try.params3] at hA hval hsz
  obtain ⟨v0, vs0, d0, ds0, p0, pp0, hargs, rfl, rfl, h0, q0_⟩ := trodAll_cons hA
  obtain ⟨v1, vs1, d1, ds1, p1, pp1, rfl, rfl, rfl, h1, q1_⟩ := trodAll_cons q0_
  obtain ⟨v2, vs2, d2, ds2, p2, pp2, rfl, rfl, rfl, h2, q2_⟩ := trodAll_cons q1_
  obtain ⟨rfl, rfl, rfl⟩ := trodAll_nil q2_
  obtain rfl : args = #[v0, v1, v2] := by cases args; simp_all
  obtain ⟨rfl, rfl⟩ := trodVars_none hV
  have k0 := h0
  have lt0 : ∀ x ∈ p0, x.block < W.heap.size := by obtain ⟨m, hm⟩ := k0; exact DataW.trod_lt m _ _ _ hm
  obtain ⟨a0, len0, cap0, rfl⟩ := okWide_slice Try.underlying22 (hval 0 22 v0 rfl rfl)
  obtain ⟨f0, hf0⟩ := h0
  obtain ⟨qs0, r0, l0, c0, i0, b0⟩ := open_recs (j := 0) hsz rfl rfl hf0
  have k1 := h1
  have lt1 : ∀ x ∈ p1, x.block < W.heap.size := by obtain ⟨m, hm⟩ := k1; exact DataW.trod_lt m _ _ _ hm
  obtain ⟨cs1, rfl, hcs1⟩ := okWide_struct Try.underlying28 (hval 1 28 v1 rfl rfl)
  obtain ⟨f1, hf1⟩ := h1
  obtain ⟨x1, hx1, in1, id1⟩ := open_rec (j := 1) hsz rfl rfl (Array.length_toList.trans (hcs1.trans (by kernel_rfl))) hf1
  obtain rfl : cs1 = x1.cells.toArray := by rw [← hx1, Array.toArray_toList]
  have k2 := h2
  have lt2 : ∀ x ∈ p2, x.block < W.heap.size := by obtain ⟨m, hm⟩ := k2; exact DataW.trod_lt m _ _ _ hm
  obtain ⟨z2, rfl, m2⟩ := okWide_num Try.underlying3 (hval 2 3 v2 rfl rfl)
  clear hA0
  refine (walTorn_t r0 l0 (by omega) i0 in1 id1 m2.1 m2.2 (c := cap0) (K := fun v H' => v = .bool true ∧ Upd [] (heapOf W) H') (fun H' u => ⟨rfl, u⟩) W (sat_heapOf W)).mono fun e W' ⟨v, H', he, ⟨hv, hu⟩, hs, hf⟩ => ?_
  subst he
  subst hv
  have bel := below_of hs hf hu
  exact ⟨_, rfl, _, _, _, [], _, [], hW', trodAll_mk1 (shut_bool Try.underlying4 _), (trodAll_cons_mk (Below.trod laidOut (by kernel_rfl) (of_decide_eq_true (by kernel_rfl)) k0 bel lt0) (trodAll_cons_mk (Below.trod laidOut (by kernel_rfl) (of_decide_eq_true (by kernel_rfl)) k1 bel lt1) (trodAll_cons_mk (Below.trod laidOut (by kernel_rfl) (of_decide_eq_true (by kernel_rfl)) k2 bel lt2) trodAll_mk0))), rfl, bel.frame _, fun h => by cases h⟩
theorem proved : Rows.WalTornSaid :=
  OpenClaim.holds_of_wide 3 Try.f3 rfl rfl rfl rfl rfl rfl rfl ⟨rfl, rfl, rfl, rfl, rfl⟩ rfl rfl rfl rfl rfl (by kernel_rfl) Try.func3 (by kernel_rfl)
    (of_decide_eq_true (by kernel_rfl)) (by unfold Func.isWrapper; first | (rw [if_pos (by decide +kernel)]; kernel_rfl) | (rw [if_neg (by decide +kernel)]; exact ⟨rfl, rfl⟩))
    (fun os started H enc _ => lifted os started H enc)
end Go.Proofs.Ytfcmjomnpahllaa.walTorn
namespace Go.Proofs.Ytfcmjomnpahllaa
/-- The row, under a short name, for the claim. -/
theorem walTorn_holds : Rows.WalTornSaid := walTorn.proved
#print axioms walTorn_holds
end Go.Proofs.Ytfcmjomnpahllaa
