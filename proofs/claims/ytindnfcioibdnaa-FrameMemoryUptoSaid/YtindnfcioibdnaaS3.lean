import Derived.Test.YtindnfcioibdnaaS2
namespace Go.Proofs.Ytindnfcioibdnaa
open Go Hv
set_option linter.unusedVariables false
set_option maxRecDepth 10000
theorem u8s_at {l : List UInt8} {k i : Nat} {v : UInt8} (h : (l.drop k)[i]? = some v) : (u8s l)[k + i]? = some (u8 v) := by
  rw [List.getElem?_drop] at h; exact u8s_get h
structure SrInv (ys : List UInt8) (n : Nat) (H : Heap) (m : Nat) (vs : List Value) (H' : Heap) : Prop where
  ex : ∃ out at_ hs ao no co, vs = [.slice ao no co, .int .i64 (at_ : Nat)] ∧ splitA [] ys = splitA out (ys.drop at_) ∧ m + at_ = n ∧ 4 * no ≤ at_ ∧ OwnRow H' 22 1 ao no co hs ∧ All2 (Slo H') hs out ∧ Upd [] H H' ∧ (∀ p, ao = some p → H p.block = none)

theorem rsplit_t {a : Option Addr} {n c : Nat} {ys : List UInt8} {H : Heap} (hy : RowAt H a (u8s ys)) (hn : ys.length = n) (hc : n ≤ c) (hlim : n ≤ 1073741824) : HCalls Try.prog 13 [.slice a n c] H (SplitPost H ys) := by
  refine hcalls (fn := Try.f13) [(4, [(0, 0), (1, 0), (2, 0), (3, 0), (4, 0), (5, 0), (6, 0), (7, 0), (8, 0), (9, 0), (10, 0), (11, 0), (12, 0), (13, 0), (14, 0), (15, 0), (16, 0), (17, 0), (18, 0), (19, 0), (20, 0), (21, 0), (22, 0), (23, 0), (24, 0), (25, 0), (26, 0), (27, 0), (28, 0), (29, 0)])] mixed Try.func13 rfl rfl (by decide +kernel) ?_
  (repeat first | refine HReg.step ?_ | refine HCode.step ?_)
  refine hloopC [2, 3, 4, 5, 6, 7, 8, 9, 10, 11, 12, 13, 14, 15, 16, 17, 18, 19, 20, 21, 22, 23, 24, 25, 26, 27, 28, 29, 30, 31, 32, 33, 34, 35, 36, 37, 38, 39, 40, 41, 42, 43, 44, 45, 46, 47, 48, 49, 50, 51, 52, 53, 54, 55, 56, 57, 58, 59, 60, 61, 62, 63, 64, 65, 66, 67] [5, 6]
    (SrInv ys n H) rfl (.blockD (.thenD (Resp.hcode .retD) .retD)) ?_ ?_
  · refine ⟨n, ?_⟩
    refine SrInv.mk ⟨[], 0, [], none, 0, 0, rfl, rfl, rfl, by omega, OwnRow.nil _ _ _, trivial, Upd.refl _ _, fun p hp => by cases hp⟩
  · rintro m vs f H' ⟨out, k, hs, ao, no, co, rfl, hsp, hm, hno, ho, hl, hu, hf⟩
    (repeat first | refine HReg.step ?_ | refine HCode.step ?_)
    have hw0 : wr .i64 ((n : Int) - (k : Int)) = (m : Int) := by rw [wr_i64 (by omega) (by omega)]; omega
    have hrlen : (ys.drop k).length = m := by rw [List.length_drop]; omega
    have hyH := hy.upd hu (.inr (Off.nil _))
    (repeat first | refine HReg.step ?_ | refine HCode.step ?_)
    refine hif (fun h => ?_) (fun h => ?_)
    · rw [hw0] at h
      have h := not_ltB_true.1 h
      have h4 : 4 ≤ (ys.drop k).length := by omega
      obtain ⟨x, y, z, w, t, hr⟩ : ∃ x y z w t, ys.drop k = x :: y :: z :: w :: t := by
        match hq : ys.drop k, h4 with
        | x :: y :: z :: w :: t, _ => exact ⟨x, y, z, w, t, rfl⟩
      obtain ⟨b, off, rfl⟩ : ∃ b off, a = some ⟨b, off, none⟩ := by
        have : ys ≠ [] := by rintro rfl; simp at hr
        obtain ⟨q, qs, rfl⟩ := List.exists_cons_of_ne_nil this
        obtain ⟨b, off, hh, _⟩ := hy 0 _ rfl
        exact ⟨b, off, hh⟩
      have hw1 : wr .i64 ((k : Int) + 1) = ((k + 1 : Nat) : Int) := by rw [wr_i64 (by omega) (by omega)]; omega
      have hw2 : wr .i64 ((k : Int) + 2) = ((k + 2 : Nat) : Int) := by rw [wr_i64 (by omega) (by omega)]; omega
      have hw3 : wr .i64 ((k : Int) + 3) = ((k + 3 : Nat) : Int) := by rw [wr_i64 (by omega) (by omega)]; omega
      have hw4 : wr .i64 ((k : Int) + 4) = ((k + 4 : Nat) : Int) := by rw [wr_i64 (by omega) (by omega)]; omega
      have gx : (u8s ys)[k + 0]? = some (u8 x) := u8s_at (by rw [hr]; rfl)
      have gy : (u8s ys)[k + 1]? = some (u8 y) := u8s_at (by rw [hr]; rfl)
      have gz : (u8s ys)[k + 2]? = some (u8 z) := u8s_at (by rw [hr]; rfl)
      have gw : (u8s ys)[k + 3]? = some (u8 w) := u8s_at (by rw [hr]; rfl)
      (repeat first | refine HReg.step ?_ | refine HCode.step ?_)
      refine HReq.mk ⟨by omega, by omega⟩ ?_
      (repeat first | refine HReg.step ?_ | refine HCode.step ?_)
      refine HLoad.one (v := u8 x) (by exact hyH.get gx) ?_
      (repeat first | refine HReg.step ?_ | refine HCode.step ?_)
      refine HReq.mk ⟨by rw [hw1]; omega, by rw [hw1]; omega⟩ ?_
      (repeat first | refine HReg.step ?_ | refine HCode.step ?_)
      refine HLoad.one (v := u8 y) (by rw [hw1]; exact hyH.get gy) ?_
      (repeat first | refine HReg.step ?_ | refine HCode.step ?_)
      refine HReq.mk ⟨by rw [hw2]; omega, by rw [hw2]; omega⟩ ?_
      (repeat first | refine HReg.step ?_ | refine HCode.step ?_)
      refine HLoad.one (v := u8 z) (by rw [hw2]; exact hyH.get gz) ?_
      (repeat first | refine HReg.step ?_ | refine HCode.step ?_)
      refine HReq.mk ⟨by rw [hw3]; omega, by rw [hw3]; omega⟩ ?_
      (repeat first | refine HReg.step ?_ | refine HCode.step ?_)
      refine HLoad.one (v := u8 w) (by rw [hw3]; exact hyH.get gw) ?_
      (repeat first | refine HReg.step ?_ | refine HCode.step ?_)
      have hnum : num (ys.drop k) = x.toNat * 16777216 + y.toNat * 65536 + z.toNat * 256 + w.toNat := by
        rw [hr]; simp only [num, List.getD_cons_zero, List.getD_cons_succ]
      (repeat first | refine HReg.step ?_ | refine HCode.step ?_)
      refine hif (fun h1 => ?_) (fun h1 => ?_)
      · rw [num_add, ← hnum] at h1
        have h1 := ltB_true.1 h1
        (repeat first | refine HReg.step ?_ | refine HCode.step ?_)
        refine ⟨hu, ?_⟩
        rw [hsp, splitA_long h4 (by omega)]
        rfl
      · rw [num_add, ← hnum] at h1 ⊢
        have h1 := ltB_false.1 h1
        generalize hN : num (ys.drop k) = N at h1 ⊢
        (repeat first | refine HReg.step ?_ | refine HCode.step ?_)
        have hw5 : wr .i64 ((m : Int) - 4) = (m : Int) - 4 := wr_i64 (by omega) (by omega)
        (repeat first | refine HReg.step ?_ | refine HCode.step ?_)
        refine hif (fun h2 => ?_) (fun h2 => ?_)
        · rw [hw0, hw5] at h2
          have h2 := ltB_true.1 h2
          have hsh : splitA out (ys.drop k) = some (out, ys.drop k) := splitA_part h4 (by omega) (by omega)
          (repeat first | refine HReg.step ?_ | refine HCode.step ?_)
          refine HReq.mk (by decide) ?_
          (repeat first | refine HReg.step ?_ | refine HCode.step ?_)
          refine HNew.mk fun b hb => ?_
          (repeat first | refine HReg.step ?_ | refine HCode.step ?_)
          refine HReq.mk ⟨by omega, by omega⟩ ?_
          (repeat first | refine HReg.step ?_ | refine HCode.step ?_)
          refine copy_sem (ys := ys.drop k) hb ?_ ?_ ?_ fun a' cap' H'' hm' => ?_
          · rw [u8s_drop]
            have := hyH.sl (l := k) (cap := c) (size := 1) (by rw [u8s_length]; omega)
            rw [Nat.mul_one] at this; exact this
          · rw [List.length_drop, hn]; rfl
          · show n - k ≤ _; omega
          · (repeat first | refine HReg.step ?_ | refine HCode.step ?_)
            refine ⟨hu.trans hm'.upd, ?_⟩
            rw [hsp, hsh]
            have e : n - Int.toNat (k : Int) = (ys.drop k).length := by rw [List.length_drop, hn]; rfl
            rw [e] at hm' ⊢
            refine SplitOk.mk ⟨H', ao, no, co, a', cap', hs, rfl, hu, ho, hl, hm', hf, by omega⟩
        · rw [hw0, hw5] at h2
          have h2 := ltB_false.1 h2
          have hnext := splitA_next (out := out) h4 (by omega) (by omega)
          rw [hN] at hnext
          have hw6 : wr .i64 (wr .i64 ((k : Int) + 4) + (N : Int)) = ((k + 4 + N : Nat) : Int) := by rw [hw4, wr_i64 (by omega) (by omega)]; omega
          (repeat first | refine HReg.step ?_ | refine HCode.step ?_)
          refine HReq.mk (by decide) ?_
          (repeat first | refine HReg.step ?_ | refine HCode.step ?_)
          refine HNew.mk fun b1 hb1 => ?_
          (repeat first | refine HReg.step ?_ | refine HCode.step ?_)
          refine HReq.mk ⟨by rw [hw6]; omega, by rw [hw6]; omega⟩ ?_
          (repeat first | refine HReg.step ?_ | refine HCode.step ?_)
          refine HReq.mk ⟨by rw [hw4]; omega, by rw [hw6, hw4]; omega⟩ ?_
          have hlen : ((ys.drop (k + 4)).take N).length = (wr .i64 (wr .i64 ((k : Int) + 4) + (N : Int))).toNat - (wr .i64 ((k : Int) + 4)).toNat := by
            rw [hw6, hw4, List.length_take, List.length_drop]; omega
          (repeat first | refine HReg.step ?_ | refine HCode.step ?_)
          refine copy_sem (ys := (ys.drop (k + 4)).take N) hb1 ?_ hlen ?_ fun a' cap' H1 hm' => ?_
          · rw [u8s_take, u8s_drop, hw4]
            have := (hyH.sl (l := k + 4) (cap := c) (size := 1) (by rw [u8s_length]; omega)).take N
            rw [Nat.mul_one] at this; exact this
          · rw [hw6, hw4]; omega
          · (repeat first | refine HReg.step ?_ | refine HCode.step ?_)
            refine HReq.mk (by decide) ?_
            (repeat first | refine HReg.step ?_ | refine HCode.step ?_)
            refine HNew.mk fun b2 hb2 => ?_
            rw [← hlen] at hm' ⊢
            have ho1 := ho.upd hm'.upd (Off.nil _)
            generalize hv : Value.slice a' ((ys.drop (k + 4)).take N).length cap' = v
            have hu2 : Upd [] H1 (H1.upd b2 (.cells [v].toArray 22)) := Upd.new hb2 _
            (repeat first | refine HReg.step ?_ | refine HCode.step ?_)
            refine append_rows (ie := Try.t22) (z := .slice none 0 0) (xs := hs) (ys := [v]) Try.underlying28 rfl rfl rfl (by decide) (ho1.upd hu2 (Off.nil _)) ?_ ?_ ?_ ?_ ?_ ?_
            · exact RowAt.of_cells (upd_same _ _ _)
            · rfl
            · intro u hu'; rw [List.mem_singleton.1 hu', ← hv]; rfl
            · show (no + 1) * 24 ≤ _; omega
            · omega
            · intro a3 cap3 H3 ho3 hu3 hf3
              (repeat first | refine HReg.step ?_ | refine HCode.step ?_)
              refine Exists.intro (m - (4 + N)) ?_
              refine And.intro (by omega) ?_
              rw [hw6]
              have huo : ∀ b ∈ blk ao, ∀ c f, (H1.upd b2 (.cells [v].toArray 22)) b ≠ some (.cells c 5 f) := row22 (ho1.upd hu2 (Off.nil _))
              have hsl : Slo (H1.upd b2 (.cells [v].toArray 22)) v ((ys.drop (k + 4)).take N) := ⟨a', cap', hv.symm, hm'.own.upd hu2 (Off.nil _)⟩
              refine SrInv.mk ⟨out ++ [(ys.drop (k + 4)).take N], k + 4 + N, hs ++ [v], a3, no + 1, cap3, rfl, ?_, ?_, ?_, ?_, ?_, ?_, ?_⟩
              · rw [hsp, hnext, List.drop_drop, List.drop_drop, Nat.add_assoc]
              · omega
              · omega
              · exact ho3
              · exact (All2.append (hl.mono fun x y hxy => (hxy.upd (hm'.upd.trans hu2) (by simp)).upd hu3 huo) ⟨hsl.upd hu3 huo, trivial⟩)
              · refine Upd.drop (hu.trans (hm'.upd.trans hu2)) hu3 fun b hb => ?_
                obtain ⟨p, hp, rfl⟩ := blk_of hb
                exact hf p hp
              · intro p hp
                rcases hf3 p hp with h | h
                · exact hf p h
                · exact Upd.none (S := []) (hu.trans (hm'.upd.trans hu2)) (by simp) h
    · rw [hw0] at h
      have h := not_ltB_false.1 h
      have hsh : splitA out (ys.drop k) = some (out, ys.drop k) := splitA_short (by omega)
      (repeat first | refine HReg.step ?_ | refine HCode.step ?_)
      refine HReq.mk (by decide) ?_
      (repeat first | refine HReg.step ?_ | refine HCode.step ?_)
      refine HNew.mk fun b hb => ?_
      (repeat first | refine HReg.step ?_ | refine HCode.step ?_)
      refine HReq.mk ⟨by omega, by omega⟩ ?_
      (repeat first | refine HReg.step ?_ | refine HCode.step ?_)
      refine copy_sem (ys := ys.drop k) hb ?_ ?_ ?_ fun a' cap' H'' hm' => ?_
      · rw [u8s_drop]
        have := hyH.sl (l := k) (cap := c) (size := 1) (by rw [u8s_length]; omega)
        rw [Nat.mul_one] at this; exact this
      · rw [List.length_drop, hn]; rfl
      · show n - k ≤ _; omega
      · (repeat first | refine HReg.step ?_ | refine HCode.step ?_)
        refine ⟨hu.trans hm'.upd, ?_⟩
        rw [hsp, hsh]
        have e : n - Int.toNat (k : Int) = (ys.drop k).length := by rw [List.length_drop, hn]; rfl
        rw [e] at hm' ⊢
        refine SplitOk.mk ⟨H', ao, no, co, a', cap', hs, rfl, hu, ho, hl, hm', hf, by omega⟩
end Go.Proofs.Ytindnfcioibdnaa
