import Derived.Test.YtjnahdcolacldaaA18
namespace Go.Proofs.Ytjnahdcolacldaa
open Go Hv
set_option linter.unusedVariables false
set_option linter.unusedSimpArgs false
set_option maxRecDepth 10000
set_option maxHeartbeats 1000000
/-! What a call leaves -/
theorem lay_stay {w : W} {b : List UInt8} (h : (w.lay b).err ≠ 0) : (w.lay b).out = w.out := by
  unfold W.lay at h ⊢
  by_cases h1 : w.err ≠ 0
  · rw [if_pos h1]
  · rw [if_neg h1] at h ⊢
    by_cases h2 : b.length > w.lim - w.out.length
    · rw [if_pos h2]
    · rw [if_neg h2] at h; exact absurd h h1
theorem lay_grow {w : W} {b : List UInt8} : w.out.length ≤ (w.lay b).out.length := by
  unfold W.lay
  by_cases h1 : w.err ≠ 0
  · rw [if_pos h1]; exact Nat.le_refl _
  · rw [if_neg h1]
    by_cases h2 : b.length > w.lim - w.out.length
    · rw [if_pos h2]; exact Nat.le_refl _
    · rw [if_neg h2, List.length_append]; exact Nat.le_add_right _ _
structure Left (r r' : R) : Prop where
  stay : r'.err ≠ 0 → r'.rest = r.rest
  le : r'.rest.length ≤ r.rest.length
  keep : r.err ≠ 0 → r' = r
theorem Left.refl (r : R) : Left r r := ⟨fun _ => rfl, Nat.le_refl _, fun _ => rfl⟩
theorem number_left (r : R) (n : Nat) : Left r (r.number n).2 := by
  unfold R.number
  by_cases h1 : r.err ≠ 0
  · rw [if_pos h1]; exact Left.refl r
  rw [if_neg h1]
  by_cases h2 : r.rest.length < n
  · rw [if_pos h2]; exact ⟨fun _ => rfl, Nat.le_refl _, fun h => absurd h h1⟩
  · rw [if_neg h2]; exact ⟨fun h => absurd h h1, by show (r.rest.drop n).length ≤ _; rw [List.length_drop]; omega, fun h => absurd h h1⟩
theorem count_left (r : R) (m : Int) : Left r (r.count m).2 := by
  unfold R.count
  by_cases h1 : r.err ≠ 0
  · rw [if_pos h1]; exact Left.refl r
  rw [if_neg h1]
  by_cases h2 : r.rest.length < 4
  · rw [if_pos h2]; exact ⟨fun _ => rfl, Nat.le_refl _, fun h => absurd h h1⟩
  rw [if_neg h2]
  by_cases h3 : (val (r.rest.take 4) : Int) > max m 0
  · rw [if_pos h3]; exact ⟨fun _ => rfl, Nat.le_refl _, fun h => absurd h h1⟩
  · rw [if_neg h3]; exact ⟨fun h => absurd h h1, by show (r.rest.drop 4).length ≤ _; rw [List.length_drop]; omega, fun h => absurd h h1⟩
theorem text_left (r : R) (m : Int) : Left r (r.text m).2 := by
  unfold R.text
  by_cases h1 : r.err ≠ 0
  · rw [if_pos h1]; exact Left.refl r
  rw [if_neg h1]
  by_cases h2 : r.rest.length < 4
  · rw [if_pos h2]; exact ⟨fun _ => rfl, Nat.le_refl _, fun h => absurd h h1⟩
  rw [if_neg h2]
  by_cases h3 : (val (r.rest.take 4) : Int) > max m 0
  · rw [if_pos h3]; exact ⟨fun _ => rfl, Nat.le_refl _, fun h => absurd h h1⟩
  rw [if_neg h3]
  by_cases h4 : r.rest.length - 4 < val (r.rest.take 4)
  · rw [if_pos h4]; exact ⟨fun _ => rfl, Nat.le_refl _, fun h => absurd h h1⟩
  · rw [if_neg h4]; exact ⟨fun h => absurd h h1, by show (r.rest.drop _).length ≤ _; rw [List.length_drop]; omega, fun h => absurd h h1⟩
theorem many_le (each : Int) : ∀ (n : Nat) (r : R), (R.many each n r).2.rest.length ≤ r.rest.length
  | 0, r => Nat.le_refl _
  | n + 1, r => by
    have h1 := (text_left r each).le
    have h2 := many_le each n (r.text each).2
    unfold R.many
    split
    · exact h1
    · exact Nat.le_trans h2 h1
theorem texts_left (r : R) (m e : Int) : Left r (r.texts m e).2 := by
  by_cases h1 : r.err ≠ 0
  · rw [texts_err m e h1]; exact Left.refl r
  refine ⟨fun h => ?_, ?_, fun h => absurd h h1⟩
  · unfold R.texts at h ⊢
    by_cases h2 : (R.many e (r.count m).1 (r.count m).2).2.err ≠ 0
    · rw [if_pos h2]
    · rw [if_neg h2] at h; exact absurd h h2
  · have h3 := (count_left r m).le
    have h4 := many_le e (r.count m).1 (r.count m).2
    unfold R.texts
    split
    · exact Nat.le_refl _
    · exact Nat.le_trans h4 h3
theorem op_left (r : R) (o : Opk) : Left r (r.op o) := by
  unfold R.op
  by_cases h1 : o.kind = 1
  · rw [if_pos h1]; exact number_left r 1
  rw [if_neg h1]
  by_cases h2 : o.kind = 2
  · rw [if_pos h2]; exact number_left r 4
  rw [if_neg h2]
  by_cases h3 : o.kind = 3
  · rw [if_pos h3]; exact number_left r 8
  rw [if_neg h3]
  by_cases h4 : o.kind = 4
  · rw [if_pos h4]; exact text_left r _
  rw [if_neg h4]
  by_cases h5 : o.kind = 5
  · rw [if_pos h5]; exact texts_left r _ _
  rw [if_neg h5]
  by_cases h6 : o.kind = 6
  · rw [if_pos h6]; exact count_left r _
  rw [if_neg h6]; exact Left.refl r
section
variable {H0 H : Heap} {g : Nat} {S : List Nat} {r : R} {K : Value → Heap → Prop}
theorem calls_t {o : Opk} (d : RAt H0 H g S r) (ok : OpOk H0 o)
    (hk : ∀ H', RAt H0 H' g S (r.op o) → Upd [g] H H' → K (.tuple #[]) H') : HCalls Try.prog 32 [.pointer (some ⟨g, 0, none⟩), .agg (ocells o).toArray] H K := by
  refine hcalls (fn := Try.f32) [] mixed Try.func32 rfl rfl (by decide +kernel) ?_
  have hg : g ∈ S := by obtain ⟨a, c, rfl, _⟩ := d.ex; exact List.mem_cons_self
  (repeat first | refine HReg.step ?_ | refine HCode.step ?_)
  refine HNew.mk fun b hb => ?_
  have u : Upd [] H (H.upd b (.cells (ocells o).toArray 34)) := Upd.new hb _
  have rb : RowAt (H.upd b (.cells (ocells o).toArray 34)) (some ⟨b, 0, none⟩) (ocells o) := RowAt.of_cells (upd_same _ _ _)
  have d1 := d.upd0 u
  generalize hH1 : H.upd b (.cells (ocells o).toArray 34) = H2 at u rb d1
  have hH1' : H.upd b (.cells [Value.int .i64 o.kind, .int .u64 (o.v : Int), .string (bs o.s), .slice o.al o.nl o.cl, .int .i64 o.n, .int .i64 o.m].toArray 34) = H2 := hH1
  rw [hH1']
  have mvU : ∀ {H3}, Upd [g] H2 H3 → Upd [g] H H3 := fun {H3} v => (u.mono (by simp)).trans v
  (repeat first | refine HReg.step ?_ | refine HCode.step ?_)
  refine HLoad.one (v := .int .i64 o.kind) (by exact rb.get (i := 0) rfl) ?_
  (repeat first | refine HReg.step ?_ | refine HCode.step ?_)
  refine hif (fun k => ?_) (fun k1 => ?_)
  · have k := eqB_true.1 k
    have e0 : r.op o = (r.number 1).2 := by unfold R.op; rw [if_pos k]
    rw [e0] at hk
    (repeat first | refine HReg.step ?_ | refine HCode.step ?_)
    refine HCall.mk ⟨Try.f11, Try.func11, by rfl, by rfl⟩ ?_
    refine ru8_t d1 fun H3 d3 u3 => ?_
    (repeat first | refine HReg.step ?_ | refine HCode.step ?_)
    exact hk H3 d3 (mvU u3)
  have k1 := eqB_false.1 k1
  (repeat first | refine HReg.step ?_ | refine HCode.step ?_)
  refine hif (fun k => ?_) (fun k2 => ?_)
  · have k := eqB_true.1 k
    have e0 : r.op o = (r.number 4).2 := by unfold R.op; rw [if_neg k1, if_pos k]
    rw [e0] at hk
    (repeat first | refine HReg.step ?_ | refine HCode.step ?_)
    refine HCall.mk ⟨Try.f41, Try.func41, by rfl, by rfl⟩ ?_
    refine ru32_t d1 fun H3 d3 u3 => ?_
    (repeat first | refine HReg.step ?_ | refine HCode.step ?_)
    exact hk H3 d3 (mvU u3)
  have k2 := eqB_false.1 k2
  (repeat first | refine HReg.step ?_ | refine HCode.step ?_)
  refine hif (fun k => ?_) (fun k3 => ?_)
  · have k := eqB_true.1 k
    have e0 : r.op o = (r.number 8).2 := by unfold R.op; rw [if_neg k1, if_neg k2, if_pos k]
    rw [e0] at hk
    (repeat first | refine HReg.step ?_ | refine HCode.step ?_)
    refine HCall.mk ⟨Try.f34, Try.func34, by rfl, by rfl⟩ ?_
    refine ru64_t d1 fun H3 d3 u3 => ?_
    (repeat first | refine HReg.step ?_ | refine HCode.step ?_)
    exact hk H3 d3 (mvU u3)
  have k3 := eqB_false.1 k3
  (repeat first | refine HReg.step ?_ | refine HCode.step ?_)
  refine hif (fun k => ?_) (fun k4 => ?_)
  · have k := eqB_true.1 k
    have e0 : r.op o = (r.text o.n).2 := by unfold R.op; rw [if_neg k1, if_neg k2, if_neg k3, if_pos k]
    rw [e0] at hk
    (repeat first | refine HReg.step ?_ | refine HCode.step ?_)
    refine HLoad.one (v := .int .i64 o.n) (by exact rb.get (i := 4) rfl) ?_
    (repeat first | refine HReg.step ?_ | refine HCode.step ?_)
    refine HCall.mk ⟨Try.f35, Try.func35, by rfl, by rfl⟩ ?_
    refine rtext_t d1 ok.n fun H3 d3 u3 => ?_
    (repeat first | refine HReg.step ?_ | refine HCode.step ?_)
    exact hk H3 d3 (mvU u3)
  have k4 := eqB_false.1 k4
  (repeat first | refine HReg.step ?_ | refine HCode.step ?_)
  refine hif (fun k => ?_) (fun k5 => ?_)
  · have k := eqB_true.1 k
    have e0 : r.op o = (r.texts o.n o.m).2 := by unfold R.op; rw [if_neg k1, if_neg k2, if_neg k3, if_neg k4, if_pos k]
    rw [e0] at hk
    (repeat first | refine HReg.step ?_ | refine HCode.step ?_)
    refine HLoad.one (v := .int .i64 o.n) (by exact rb.get (i := 4) rfl) ?_
    (repeat first | refine HReg.step ?_ | refine HCode.step ?_)
    refine HLoad.one (v := .int .i64 o.m) (by exact rb.get (i := 5) rfl) ?_
    (repeat first | refine HReg.step ?_ | refine HCode.step ?_)
    refine HCall.mk ⟨Try.f36, Try.func36, by rfl, by rfl⟩ ?_
    refine rtexts_t d1 ok.n ok.m fun a3 c3 H3 d3 u3 o3 f3 => ?_
    (repeat first | refine HReg.step ?_ | refine HCode.step ?_)
    exact hk H3 d3 (mvU u3)
  have k5 := eqB_false.1 k5
  (repeat first | refine HReg.step ?_ | refine HCode.step ?_)
  refine hif (fun k => ?_) (fun k6 => ?_)
  · have k := eqB_true.1 k
    have e0 : r.op o = (r.count o.n).2 := by unfold R.op; rw [if_neg k1, if_neg k2, if_neg k3, if_neg k4, if_neg k5, if_pos k]
    rw [e0] at hk
    (repeat first | refine HReg.step ?_ | refine HCode.step ?_)
    refine HLoad.one (v := .int .i64 o.n) (by exact rb.get (i := 4) rfl) ?_
    (repeat first | refine HReg.step ?_ | refine HCode.step ?_)
    refine HCall.mk ⟨Try.f37, Try.func37, by rfl, by rfl⟩ ?_
    refine count_t d1 ok.n fun H3 d3 u3 => ?_
    (repeat first | refine HReg.step ?_ | refine HCode.step ?_)
    exact hk H3 d3 (mvU u3)
  have k6 := eqB_false.1 k6
  have e0 : r.op o = r := by unfold R.op; rw [if_neg k1, if_neg k2, if_neg k3, if_neg k4, if_neg k5, if_neg k6]
  rw [e0] at hk
  (repeat first | refine HReg.step ?_ | refine HCode.step ?_)
  exact hk H2 d1 (u.mono (by simp))
end
end Go.Proofs.Ytjnahdcolacldaa
