import Derived.Test.YtaobgofbhommcaaB11
namespace Go.Proofs.Ytaobgofbhommcaa
open Go Hv
set_option linter.unusedVariables false
set_option linter.unusedSimpArgs false
set_option maxRecDepth 10000
set_option maxHeartbeats 1000000
/-! Texts added; how many bits -/
def txts (ls : List (List UInt8)) : List Value := ls.map fun l => Value.string (bs l)
theorem txts_get {ls : List (List UInt8)} {i : Nat} {l : List UInt8} (h : ls[i]? = some l) : (txts ls)[i]? = some (.string (bs l)) := by simp [txts, h]
theorem txts_length (ls : List (List UInt8)) : (txts ls).length = ls.length := by simp [txts]
noncomputable def addTexts (n h : Nat) (S : List UInt8) (ts : List (List UInt8)) : List UInt8 := ts.foldl (fun S t => addAll S (placesL n h t)) S
theorem addTexts_take {n h i : Nat} {S : List UInt8} {ts : List (List UInt8)} {t : List UInt8} (ht : ts[i]? = some t) : addTexts n h S (ts.take (i + 1)) = addAll (addTexts n h S (ts.take i)) (placesL n h t) := by
  unfold addTexts
  rw [List.take_add_one, ht, List.foldl_append]; rfl
theorem addTexts_snoc (n h : Nat) (S : List UInt8) (ts : List (List UInt8)) (t : List UInt8) : addTexts n h S (ts ++ [t]) = addAll (addTexts n h S ts) (placesL n h t) := by
  unfold addTexts
  rw [List.foldl_append]; rfl
theorem FOk.lt {n h : Nat} {S : List UInt8} (f : FOk n h S) (t : List UInt8) : ∀ p ∈ placesL n h t, p < 8 * S.length := fun p hp => by
  have h1 := placesL_lt (n := n) (h := h) (s := t) (by have := f.n1; omega) p hp
  have := f.len; omega
theorem FOk.add {n h : Nat} {S : List UInt8} (f : FOk n h S) (t : List UInt8) : FOk n h (addAll S (placesL n h t)) := addAll_ok f (placesL_lt (by have := f.n1; omega))
theorem FOk.adds {n h : Nat} (ts : List (List UInt8)) : ∀ {S : List UInt8}, FOk n h S → FOk n h (addTexts n h S ts) := by
  induction ts with
  | nil => intro S f; exact f
  | cons t ts ih => intro S f; exact ih (f.add t)
theorem FOk.bit {n h i : Nat} {S : List UInt8} (f : FOk n h S) (t : List UInt8) : bitAt (addAll S (placesL n h t)) i = (bitAt S i || decide (i ∈ placesL n h t)) := addAll_bit (f.lt t)
theorem FOk.bits {n h i : Nat} (ts : List (List UInt8)) : ∀ {S : List UInt8}, FOk n h S → bitAt (addTexts n h S ts) i = (bitAt S i || ts.any fun t => decide (i ∈ placesL n h t)) := by
  induction ts with
  | nil => intro S f; simp [addTexts]
  | cons t ts ih =>
    intro S f
    show bitAt (addTexts n h (addAll S (placesL n h t)) ts) i = _
    rw [ih (f.add t), f.bit t, List.any_cons, Bool.or_assoc]
theorem hasAll_iff {S : List UInt8} {ps : List Nat} : hasAll S ps = true ↔ ∀ p ∈ ps, bitAt S p = true := by unfold hasAll; rw [List.all_eq_true]
theorem has_adds {n h : Nat} {S : List UInt8} {ts : List (List UInt8)} {t : List UInt8} (f : FOk n h S) (ht : t ∈ ts) : hasAll (addTexts n h S ts) (placesL n h t) = true := by
  rw [hasAll_iff]
  intro p hp
  rw [f.bits ts]
  have : (ts.any fun t => decide (p ∈ placesL n h t)) = true := List.any_eq_true.2 ⟨t, ht, by simpa using hp⟩
  rw [this, Bool.or_true]
theorem has_or1 {S T : List UInt8} {ps : List Nat} (hl : S.length = T.length) (hs : hasAll S ps = true) : hasAll (orSets S T) ps = true := by
  rw [hasAll_iff] at hs ⊢
  intro p hp
  rw [orSets_bit hl, hs p hp]; rfl
theorem has_or2 {S T : List UInt8} {ps : List Nat} (hl : S.length = T.length) (hs : hasAll T ps = true) : hasAll (orSets S T) ps = true := by
  rw [hasAll_iff] at hs ⊢
  intro p hp
  rw [orSets_bit hl, hs p hp, Bool.or_true]
theorem countB_or (f : Nat → Bool) (p : Nat) : ∀ n, countB (fun i => f i || decide (i = p)) n = countB f n + (if p < n ∧ f p = false then 1 else 0)
  | 0 => by simp [countB]
  | n + 1 => by
    rw [countB, countB, countB_or f p n]
    by_cases e : n = p
    · subst e
      cases hf : f n <;> simp [hf]
    · have e2 : (p < n + 1 ∧ f p = false) ↔ (p < n ∧ f p = false) := by constructor <;> rintro ⟨a, b⟩ <;> exact ⟨by omega, b⟩
      simp only [e, decide_false, Bool.or_false]
      by_cases hc : p < n ∧ f p = false
      · rw [if_pos hc, if_pos (e2.2 hc)]; omega
      · rw [if_neg hc, if_neg (fun h => hc (e2.1 h))]; omega
theorem onesL_or {S : List UInt8} {p : Nat} (hp : p < 8 * S.length) : onesL S ≤ onesL (orBit S p) ∧ onesL (orBit S p) ≤ onesL S + 1 := by
  rw [onesL_count, onesL_count, orBit_length, countB_congr _ (fun i _ => orBit_bit hp), countB_or]
  split <;> omega
theorem onesL_addAll {ps : List Nat} : ∀ {S : List UInt8}, (∀ p ∈ ps, p < 8 * S.length) → onesL S ≤ onesL (addAll S ps) ∧ onesL (addAll S ps) ≤ onesL S + ps.length := by
  induction ps with
  | nil => intro S _; exact ⟨Nat.le_refl _, Nat.le_refl _⟩
  | cons p ps ih =>
    intro S h
    have h1 := onesL_or (h p List.mem_cons_self)
    have h2 := ih (S := orBit S p) (fun q hq => by rw [orBit_length]; exact h q (List.mem_cons_of_mem _ hq))
    show onesL S ≤ onesL (addAll (orBit S p) ps) ∧ onesL (addAll (orBit S p) ps) ≤ _
    rw [List.length_cons]; omega
theorem onesL_n {n h : Nat} {S : List UInt8} (f : FOk n h S) : onesL S ≤ n := by
  rw [onesL_count, countB_zero n _ f.spare (by have := f.len; omega)]
  have : ∀ (f : Nat → Bool) n, countB f n ≤ n := fun f n => by
    induction n with
    | zero => exact Nat.le_refl _
    | succ n ih => rw [countB]; split <;> omega
  exact this _ _
/-! rest, fresh -/
def restN (n : Int) (most : Nat) : Nat := (n % ((most : Int) + 1)).toNat
theorem restN_le (n : Int) (most : Nat) : restN n most ≤ most := by
  unfold restN
  have := Int.emod_lt_of_pos n (show (0 : Int) < (most : Int) + 1 by omega)
  omega
theorem restN_eq (n : Int) (most : Nat) : (restN n most : Int) = n % ((most : Int) + 1) := by
  unfold restN
  have := Int.emod_nonneg n (show ((most : Int) + 1) ≠ 0 by omega)
  omega
theorem rest_t {n : Int} {most : Nat} {H : Heap} {K : Value → Heap → Prop} (hm : most ≤ 9223372036854775806) (hk : K (.int .i64 (restN n most : Int)) H) : HCalls Try.prog 31 [.int .i64 n, .int .i64 (most : Int)] H K := by
  refine hcalls (fn := Try.f31) [] mixed Try.func31 rfl rfl rfl ?_
  have w : wr .i64 ((most : Int) + 1) = (most : Int) + 1 := wr_i64 (by omega) (by omega)
  have h0 := Int.emod_nonneg n (show ((most : Int) + 1) ≠ 0 by omega)
  have h1 := Int.emod_lt_of_pos n (show (0 : Int) < (most : Int) + 1 by omega)
  have ht : Int.tmod n ((most : Int) + 1) = n % ((most : Int) + 1) ∧ 0 ≤ Int.tmod n ((most : Int) + 1) ∨ Int.tmod n ((most : Int) + 1) + ((most : Int) + 1) = n % ((most : Int) + 1) ∧ Int.tmod n ((most : Int) + 1) < 0 := by
    rw [Int.tmod_eq_emod]
    split
    · rename_i h; exact .inl ⟨by omega, by omega⟩
    · rename_i h; exact .inr ⟨by omega, by omega⟩
  rw [← w] at ht
  (repeat first | refine HReg.step ?_ | refine HCode.step ?_)
  refine HReq.mk (by rw [w]; omega) ?_
  (repeat first | refine HReg.step ?_ | refine HCode.step ?_)
  refine hif (fun h2 => ?_) (fun h2 => ?_)
  · have h2 := ltB_true.1 h2
    have hq : Int.tmod n (wr .i64 ((most : Int) + 1)) + (wr .i64 ((most : Int) + 1)) = n % (wr .i64 ((most : Int) + 1)) := by
      rcases ht with ⟨a, b⟩ | ⟨a, b⟩
      · omega
      · exact a
    have e : wr .i64 (wr .i64 (Int.tmod n (wr .i64 ((most : Int) + 1)) + (most : Int)) + 1) = (restN n most : Int) := by
      rw [restN_eq]
      rw [w] at hq h2 ⊢
      rw [wr_i64 (n := Int.tmod n ((most : Int) + 1) + (most : Int)) (by omega) (by omega), wr_i64 (by omega) (by omega)]
      omega
    (repeat first | refine HReg.step ?_ | refine HCode.step ?_)
    exact (show K (.int .i64 (wr .i64 (wr .i64 (Int.tmod n (wr .i64 ((most : Int) + 1)) + (most : Int)) + 1))) H from by rw [e]; exact hk)
  · have h2 := ltB_false.1 h2
    have e : Int.tmod n (wr .i64 ((most : Int) + 1)) = (restN n most : Int) := by
      rw [restN_eq]
      rcases ht with ⟨a, b⟩ | ⟨a, b⟩
      · rw [a, w]
      · omega
    (repeat first | refine HReg.step ?_ | refine HCode.step ?_)
    exact (show K (.int .i64 (Int.tmod n (wr .i64 ((most : Int) + 1)))) H from by rw [e]; exact hk)
noncomputable def shN (bits : Int) : Nat := 1 + restN (wr .i64 (bits - 1)) 65535
noncomputable def shH (hashes : Int) : Nat := 1 + restN (wr .i64 (hashes - 1)) 15
theorem sh_may (b h : Int) : mayP (shN b) (shH h) := by
  have h1 := restN_le (wr .i64 (b - 1)) 65535
  have h2 := restN_le (wr .i64 (h - 1)) 15
  unfold shN shH mayP; omega
theorem fresh_t {b h : Int} {H : Heap} {K : Value → Heap → Prop} (hk : ∀ g q H', FilNew H H' g q (shN b) (shH h) (zerosL (shN b)) → K (.pointer (some ⟨g, 0, none⟩)) H') : HCalls Try.prog 28 [.int .i64 b, .int .i64 h] H K := by
  refine hcalls (fn := Try.f28) [] mixed Try.func28 rfl rfl rfl ?_
  have h1 := restN_le (wr .i64 (b - 1)) 65535
  have h2 := restN_le (wr .i64 (h - 1)) 15
  have w1 : wr .i64 (1 + (restN (wr .i64 (b - 1)) 65535 : Int)) = (shN b : Int) := by rw [wr_i64 (by omega) (by omega)]; unfold shN; omega
  have w2 : wr .i64 (1 + (restN (wr .i64 (h - 1)) 15 : Int)) = (shH h : Int) := by rw [wr_i64 (by omega) (by omega)]; unfold shH; omega
  (repeat first | refine HReg.step ?_ | refine HCode.step ?_)
  refine HCall.mk ⟨Try.f31, Try.func31, by rfl, by rfl⟩ ?_
  refine rest_t (most := 65535) (by decide) ?_
  (repeat first | refine HReg.step ?_ | refine HCode.step ?_)
  refine HCall.mk ⟨Try.f31, Try.func31, by rfl, by rfl⟩ ?_
  refine rest_t (most := 15) (by decide) ?_
  (repeat first | refine HReg.step ?_ | refine HCode.step ?_)
  rw [w1, w2]
  refine HCall.mk ⟨Try.f11, Try.func11, by rfl, by rfl⟩ ?_
  refine new_t (fun _ h => absurd (sh_may _ _) h) fun g q H2 _ F2 => ?_
  rw [Int.toNat_natCast, Int.toNat_natCast] at F2
  (repeat first | refine HReg.step ?_ | refine HCode.step ?_)
  refine hif (fun h => absurd rfl (not_eqB_true.1 h)) (fun _ => ?_)
  (repeat first | refine HReg.step ?_ | refine HCode.step ?_)
  exact hk g q H2 F2
end Go.Proofs.Ytaobgofbhommcaa
