import Derived.Test.YtindnfcioibdnaaS9
namespace Go.Proofs.Ytindnfcioibdnaa
open Go Hv
set_option linter.unusedVariables false
set_option maxRecDepth 10000
/-- The frames of some bodies, one behind the other. -/
def frames : List (List UInt8) → List UInt8
  | [] => []
  | b :: bs => hd b.length ++ (b ++ frames bs)
theorem frames_append : ∀ (a b : List (List UInt8)), frames (a ++ b) = frames a ++ frames b
  | [], b => rfl
  | x :: a, b => by simp [frames, frames_append a b]
theorem splitA_frames : ∀ (bs out : List (List UInt8)), (∀ b ∈ bs, b.length ≤ 1048576) → splitA out (frames bs) = some (out ++ bs, [])
  | [], out, _ => by rw [frames, splitA_short (by decide), List.append_nil]
  | b :: bs, out, h => by
    rw [frames, splitA_frame out b (frames bs) (h b List.mem_cons_self), splitA_frames bs _ fun c hc => h c (List.mem_cons_of_mem _ hc), List.append_assoc]; rfl
theorem hd_num {r : List UInt8} (h : 4 ≤ r.length) : hd (num r) = r.take 4 := by
  match r, h with
  | x :: y :: z :: w :: t, _ =>
    have hx := x.toNat_lt; have hy := y.toNat_lt; have hz := z.toNat_lt; have hw := w.toNat_lt
    have hn : num (x :: y :: z :: w :: t) = x.toNat * 16777216 + y.toNat * 65536 + z.toNat * 256 + w.toNat := by
      simp only [num, List.getD_cons_zero, List.getD_cons_succ]
    have e : ∀ (n : Nat) (u : UInt8), n % 256 = u.toNat → UInt8.ofNat n = u := fun n u hu => UInt8.toNat_inj.1 (by rw [UInt8.toNat_ofNat']; exact hu)
    rw [hn]
    unfold hd
    rw [e _ x (by omega), e _ y (by omega), e _ z (by omega), e _ w (by omega)]
    rfl
theorem splitA_back (k : Nat) : ∀ (out o : List (List UInt8)) (r q : List UInt8), r.length ≤ k → splitA out r = some (o, q) → ∃ bs, o = out ++ bs ∧ frames bs ++ q = r ∧ ∀ b ∈ bs, b.length ≤ 1048576 := by
  induction k with
  | zero =>
    intro out o r q h hs
    rw [splitA_short (by omega)] at hs; cases hs
    exact ⟨[], by simp, rfl, fun b hb => by cases hb⟩
  | succ k ih =>
    intro out o r q h hs
    by_cases h4 : 4 ≤ r.length
    · by_cases h1 : 1048576 < num r
      · rw [splitA_long h4 h1] at hs; cases hs
      · by_cases h2 : r.length - 4 < num r
        · rw [splitA_part h4 (by omega) h2] at hs; cases hs
          exact ⟨[], by simp, rfl, fun b hb => by cases hb⟩
        · rw [splitA_next h4 (by omega) (by omega)] at hs
          obtain ⟨bs, ho, hf, hb⟩ := ih _ _ _ _ (by rw [List.length_drop]; omega) hs
          have hl : ((r.drop 4).take (num r)).length = num r := by rw [List.length_take, List.length_drop]; omega
          refine ⟨(r.drop 4).take (num r) :: bs, by rw [ho, List.append_assoc]; rfl, ?_, ?_⟩
          · rw [frames, hl, hd_num h4, List.append_assoc, List.append_assoc, hf, ← List.drop_drop, List.take_append_drop, List.take_append_drop]
          · intro b hb'
            rcases List.mem_cons.1 hb' with rfl | hb'
            · omega
            · exact hb b hb'
    · rw [splitA_short (by omega)] at hs; cases hs
      exact ⟨[], by simp, rfl, fun b hb => by cases hb⟩
end Go.Proofs.Ytindnfcioibdnaa
