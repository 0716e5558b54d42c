import Derived.Test.YtocejipjnklieaaF5
namespace Go.Proofs.Ytocejipjnklieaa
open Go Hv
set_option linter.unusedVariables false
set_option linter.unusedSimpArgs false
set_option maxRecDepth 10000
set_option maxHeartbeats 4000000
/-! The document's disk: at. CUT2 -/
structure AtInv (H1 : Heap) (fs : List RFl) (t : Txt) (m : Nat) (vs : List Value) (H' : Heap) : Prop where
  ex : ∃ i : Nat, vs = [.int .i64 (i : Int)] ∧ m + i = fs.length ∧ H' = H1 ∧ ∀ (j : Nat) f, j < i → fs[j]? = some f → f.name < t
section
variable {H1 H : Heap} {g : Nat} {s : St} {K : Value → Heap → Prop}
theorem rat_t {fs : List RFl} {aF : Option Addr} {cF : Nat} {cl st : Int} {t : Txt} (r : RIn H1 H g s fs aF cF cl st) (hl : fs.length ≤ 1000)
    (hyes : ∀ i f, fs[i]? = some f → f.name = t → K (.int .i64 ((i : Nat) : Int)) H)
    (hno : ∀ i : Nat, i ≤ fs.length → (∀ (j : Nat) f, j < i → fs[j]? = some f → f.name < t) → (∀ (j : Nat) f, i ≤ j → fs[j]? = some f → t < f.name) → K (.int .i64 (-1 - (i : Int))) H) :
    HCalls Try.prog 59 [.pointer (some ⟨g, 0, none⟩), .string (bs t)] H K := by
  refine hcalls (fn := Try.f59) [] mixed Try.func59 rfl rfl (by decide +kernel) ?_
  (repeat first | refine HReg.step ?_ | refine HCode.step ?_)
  refine hloopC [4, 5, 6, 7, 8, 9, 10, 11, 12, 13, 14, 15, 16, 17, 18, 19, 20, 21, 22, 23, 24, 25, 26, 27, 28, 29, 30, 31, 32, 33, 34, 35, 36, 37] [5] (AtInv H fs t) rfl (by repeat' first | exact Resp.retD | exact Resp1.valuesK | refine Resp.blockD ?_ | refine Resp.thenD ?_ ?_ | refine Resp.hcode ?_) ?_ ?_
  · exact ⟨fs.length, AtInv.mk ⟨0, rfl, rfl, rfl, fun j f h => absurd h (Nat.not_lt_zero _)⟩⟩
  rintro m _ fe H2 ⟨i, rfl, hmi, hH, hlt⟩
  have hH := hH.symm
  subst hH
  have wi : wr .i64 ((i : Int) + 1) = ((i + 1 : Nat) : Int) := by rw [wr_i64 (by omega) (by omega)]; omega
  have wn : wr .i64 (-1 - (i : Int)) = -1 - (i : Int) := wr_i64 (by omega) (by omega)
  have ob := r.obj.rows.get (i := 0) rfl
  (repeat first | refine HReg.step ?_ | refine HCode.step ?_)
  refine HLoad.one (v := .slice aF fs.length cF) (by exact ob) ?_
  (repeat first | refine HReg.step ?_ | refine HCode.step ?_)
  refine hif (fun h1 => ?_) (fun h1 => ?_)
  · have h1 := ltB_true.1 h1
    obtain ⟨f, hf⟩ : ∃ f, fs[i]? = some f := ⟨fs[i]'(by omega), by simp⟩
    obtain ⟨bF, rfl⟩ := r.row.addr (by omega)
    have nm := r.row.rows.get (rfV_get hf 0 _ rfl)
    (repeat first | refine HReg.step ?_ | refine HCode.step ?_)
    refine HLoad.one (v := .slice (some ⟨bF, 0, none⟩) fs.length cF) (by exact ob) ?_
    (repeat first | refine HReg.step ?_ | refine HCode.step ?_)
    refine HReq.mk ⟨by omega, by omega⟩ ?_
    (repeat first | refine HReg.step ?_ | refine HCode.step ?_)
    refine HLoad.one (v := .string (bs f.name)) (by exact nm) ?_
    (repeat first | refine HReg.step ?_ | refine HCode.step ?_)
    rw [seqB_bs]
    by_cases h2 : f.name = t
    · rw [decide_eq_true h2]
      (repeat first | refine HReg.step ?_ | refine HCode.step ?_)
      exact hyes i f hf h2
    rw [decide_eq_false h2]
    (repeat first | refine HReg.step ?_ | refine HCode.step ?_)
    refine HLoad.one (v := .slice (some ⟨bF, 0, none⟩) fs.length cF) (by exact ob) ?_
    (repeat first | refine HReg.step ?_ | refine HCode.step ?_)
    refine HReq.mk ⟨by omega, by omega⟩ ?_
    (repeat first | refine HReg.step ?_ | refine HCode.step ?_)
    refine HLoad.one (v := .string (bs f.name)) (by exact nm) ?_
    (repeat first | refine HReg.step ?_ | refine HCode.step ?_)
    rw [sltB_bs, seqB_bs, decide_eq_false h2]
    by_cases h3 : t < f.name
    · rw [decide_eq_false (fun h : f.name < t => List.lt_irrefl t (List.lt_trans h3 h))]
      (repeat first | refine HReg.step ?_ | refine HCode.step ?_)
      rw [wn]
      refine hno i (by omega) hlt fun j f' hj hf' => ?_
      by_cases e : j = i
      · subst e; rw [hf] at hf'; cases hf'; exact h3
      · have hp := List.pairwise_iff_getElem.1 r.ri i j (by rw [List.length_map]; omega) (by rw [List.length_map]; exact (List.getElem?_eq_some_iff.1 hf').1) (by omega)
        rw [List.getElem_map, List.getElem_map] at hp
        obtain ⟨q1, q2⟩ := List.getElem?_eq_some_iff.1 hf
        obtain ⟨q3, q4⟩ := List.getElem?_eq_some_iff.1 hf'
        rw [q2, q4] at hp
        exact List.lt_trans h3 hp
    rw [decide_eq_true (lt_of_le (List.not_lt.1 h3) h2)]
    (repeat first | refine HReg.step ?_ | refine HCode.step ?_)
    rw [wi]
    refine ⟨m - 1, by omega, AtInv.mk ⟨i + 1, rfl, by omega, rfl, fun j f' hj hf' => ?_⟩⟩
    by_cases e : j = i
    · subst e; rw [hf] at hf'; cases hf'
      exact lt_of_le (List.not_lt.1 h3) h2
    · exact hlt j f' (by omega) hf'
  · have h1 := ltB_false.1 h1
    obtain rfl : i = fs.length := by omega
    (repeat first | refine HReg.step ?_ | refine HCode.step ?_)
    refine HLoad.one (v := .slice aF fs.length cF) (by exact ob) ?_
    (repeat first | refine HReg.step ?_ | refine HCode.step ?_)
    rw [wn]
    exact hno fs.length (Nat.le_refl _) hlt fun j f' hj hf' => absurd (List.getElem?_eq_some_iff.1 hf').1 (by omega)
end
end Go.Proofs.Ytocejipjnklieaa
