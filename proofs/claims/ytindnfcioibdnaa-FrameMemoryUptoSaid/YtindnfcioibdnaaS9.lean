import Derived.Test.YtindnfcioibdnaaS7
namespace Go.Proofs.Ytindnfcioibdnaa
open Go Hv
set_option linter.unusedVariables false
set_option maxRecDepth 10000
def longL (n : Nat) : List UInt8 := ((List.replicate n 0).set 0 1).set (n - 1) 2
theorem longL_length (n : Nat) : (longL n).length = n := by simp [longL]
theorem repL_one : ∀ (n : Nat) (v : Value), repL n [v] = List.replicate n v
  | 0, v => rfl
  | n + 1, v => by unfold repL; rw [repL_one n v]; rfl
theorem store_own {H : Heap} {b i : Nat} {cur : Array Value} {e : TypeId} {v : Value} {K : Heap → Prop} (hv : Value.plain v = true) (hi : i < cur.size) (hk : K (H.upd b (.cells (cur.setIfInBounds i v) e (0, 0)))) : HStore (H.upd b (.cells cur e (0, 0))) ⟨b, i, none⟩ v K := by
  refine HStore.mk hv ⟨cur[i], ?_⟩ ?_ ?_
  · rw [cell_of (upd_same _ _ _)]; simp [hi]
  · unfold Heap.frozen?; rw [upd_same]; simp
  · rw [setCell_own (upd_same _ _ _), upd_upd]; exact hk
theorem long_t {n : Nat} {H : Heap} {K : Value → Heap → Prop} (h0 : 0 < n) (h1 : n ≤ 140737488351232)
    (hk : ∀ a cap H', Made H H' 5 1 a n cap (u8s (longL n)) → K (.slice a n cap) H') : HCalls Try.prog 16 [.int .i64 (n : Int)] H K := by
  refine hcalls (fn := Try.f16) [] mixed Try.func16 rfl rfl (by decide +kernel) ?_
  (repeat first | refine HReg.step ?_ | refine HCode.step ?_)
  refine HReq.mk ⟨by omega, by omega, ?_, ?_⟩ ?_
  · show ((1 : Nat) : Int) * (n : Int) ≤ cap48; unfold cap48; omega
  · show (n : Int) < cap63; unfold cap63; omega
  refine HNew.mk fun b hb => ?_
  (repeat first | refine HReg.step ?_ | refine HCode.step ?_)
  refine hif (fun h => ?_) (fun h => absurd (ltB_false.1 h) (by omega))
  (repeat first | refine HReg.step ?_ | refine HCode.step ?_)
  refine HReq.mk ⟨by omega, by omega⟩ ?_
  (repeat first | refine HReg.step ?_ | refine HCode.step ?_)
  have hlen : (repL (n : Int).toNat [Value.int .u8 0]).toArray.size = n := by rw [List.size_toArray, repL_length]; simp
  refine store_own rfl (by show 0 < (repL (n : Int).toNat [Value.int .u8 0]).toArray.size; rw [hlen]; exact h0) ?_
  (repeat first | refine HReg.step ?_ | refine HCode.step ?_)
  have hw : wr .i64 ((n : Int) - 1) = ((n - 1 : Nat) : Int) := by rw [wr_i64 (by omega) (by omega)]; omega
  refine HReq.mk ⟨by rw [hw]; omega, by rw [hw]; omega⟩ ?_
  (repeat first | refine HReg.step ?_ | refine HCode.step ?_)
  rw [hw]
  refine store_own rfl (by show 0 + (n - 1) + 0 < ((repL (n : Int).toNat [Value.int .u8 0]).toArray.setIfInBounds 0 (.int .u8 1)).size; rw [Array.size_setIfInBounds, hlen]; omega) ?_
  (repeat first | refine HReg.step ?_ | refine HCode.step ?_)
  refine hk (some ⟨b, 0, none⟩) n _ ⟨OwnRow.made (upd_same _ _ _) ?_ (Nat.le_refl _) ?_ ?_, Upd.new hb _, fun p hp => by cases hp; exact hb⟩
  · show (((repL (n : Int).toNat [Value.int .u8 0]).toArray.setIfInBounds 0 (.int .u8 1)).setIfInBounds (0 + (n - 1) + 0) (.int .u8 2)).size = n * 1
    rw [Array.size_setIfInBounds, Array.size_setIfInBounds, hlen, Nat.mul_one]
  · rw [u8s_length, longL_length, Nat.mul_one]
  · intro i v hi
    have e : ((repL (n : Int).toNat [Value.int .u8 0]).toArray.setIfInBounds 0 (.int .u8 1)).setIfInBounds (n - 1) (.int .u8 2) = (u8s (longL n)).toArray := by
      rw [repL_one]
      apply Array.toList_inj.1
      rw [Array.toList_setIfInBounds, Array.toList_setIfInBounds]
      show ((List.replicate n (u8 0)).set 0 (u8 1)).set (n - 1) (u8 2) = u8s (longL n)
      unfold u8s longL
      rw [List.map_set, List.map_set, List.map_replicate]
    have e' : ((repL (n : Int).toNat [Value.int .u8 0]).toArray.setIfInBounds 0 (.int .u8 1)).setIfInBounds (0 + (n - 1) + 0) (.int .u8 2) = (u8s (longL n)).toArray := by
      rw [← e]; congr 1; omega
    show (((repL (n : Int).toNat [Value.int .u8 0]).toArray.setIfInBounds 0 (.int .u8 1)).setIfInBounds (0 + (n - 1) + 0) (.int .u8 2))[i]? = some v
    rw [e']
    simpa using hi
theorem hd_length (n : Nat) : (hd n).length = 4 := rfl
theorem num_hd (n : Nat) (h : n < 4294967296) (t : List UInt8) : num (hd n ++ t) = n := by
  simp only [num, hd, List.cons_append, List.nil_append, List.getD_cons_zero, List.getD_cons_succ, UInt8.toNat_ofNat']
  omega
/-- A frame, and what follows. -/
theorem splitA_frame (out : List (List UInt8)) (b t : List UInt8) (h : b.length ≤ 1048576) : splitA out (hd b.length ++ (b ++ t)) = splitA (out ++ [b]) t := by
  have h4 : 4 ≤ (hd b.length ++ (b ++ t)).length := by rw [List.length_append, hd_length]; omega
  have hn := num_hd b.length (by omega) (b ++ t)
  rw [splitA_next h4 (by rw [hn]; exact h) (by rw [hn]; simp only [List.length_append, hd_length]; omega), hn]
  have e1 : (hd b.length ++ (b ++ t)).drop 4 = b ++ t := rfl
  have e2 : (hd b.length ++ (b ++ t)).drop (4 + b.length) = t := by
    rw [← List.drop_drop, e1, List.drop_left]
  rw [e1, e2, List.take_left]
theorem append_own {a b : Option Addr} {n cap m c : Nat} {xs ys : List UInt8} {H : Heap} {K : Value → Heap → Prop} (ho : OwnRow H 5 1 a n cap (u8s xs)) (hy : RowAt H b (u8s ys)) (hm : ys.length = m) (hlim : n + m ≤ 140737488355328)
    (hk : ∀ a' cap' H', OwnRow H' 5 1 a' (n + m) cap' (u8s (xs ++ ys)) → Upd (blk a) H H' → (∀ p, a' = some p → a = some p ∨ H p.block = none) → K (.slice a' (n + m) cap') H') :
    HSem Try.prog (Builtin.append_ #[22, 22] 22 [.slice a n cap, .slice b m c].toArray) H K := by
  refine append_rows (ie := Try.t5) (z := .int .u8 0) (ys := u8s ys) (xs := u8s xs) Try.underlying22 rfl rfl rfl (by decide) ho hy ?_ (plain_u8s _) ?_ ?_ ?_
  · rw [u8s_length, hm]; exact (Nat.mul_one _).symm
  · show (n + m) * 1 ≤ _; omega
  · omega
  · intro a' cap' H' h1 h2 h3
    rw [← u8s_append] at h1
    exact hk a' cap' H' h1 h2 h3
end Go.Proofs.Ytindnfcioibdnaa
