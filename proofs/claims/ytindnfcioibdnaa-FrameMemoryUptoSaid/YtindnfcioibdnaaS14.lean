import Derived.Test.YtindnfcioibdnaaHv12
import Derived.Test.YtindnfcioibdnaaS10
namespace Go.Proofs.Ytindnfcioibdnaa
open Go Hv
set_option linter.unusedVariables false
set_option maxRecDepth 10000
/-- What Split tells, each slice with a block of its own. -/
structure SplitGrp (H : Heap) (out : List (List UInt8)) (rest : List UInt8) (v : Value) (H' : Heap) : Prop where
  ex : ∃ ao no co ar cr hs, v = .tuple #[.slice ao no co, .slice ar rest.length cr, .int .i64 0] ∧ OwnRow H' 22 1 ao no co hs ∧ Grp 5 H' (hs ++ [.slice ar rest.length cr]) (out ++ [rest]) ∧ (∀ v ∈ hs ++ [Value.slice ar rest.length cr], ∀ b ∈ vblk v, H b = none) ∧ (∀ p, ao = some p → H p.block = none) ∧ no ≤ 1073741824
structure SgInv (ys : List UInt8) (n : Nat) (H : Heap) (m : Nat) (vs : List Value) (H' : Heap) : Prop where
  ex : ∃ out r hs ao no co ar cr, vs = [.slice ao no co, .slice ar m cr] ∧ splitA [] ys = splitA out r ∧ r.length = m ∧ m ≤ cr ∧ m + 4 * no ≤ n ∧ RowAt H ar (u8s r) ∧ OwnRow H' 22 1 ao no co hs ∧ Grp 5 H' hs out ∧ (∀ v ∈ hs, ∀ b ∈ vblk v, H b = none) ∧ Upd [] H H' ∧ (∀ p, ao = some p → H p.block = none)
theorem SplitGrp.of {H H1 H' : Heap} {out : List (List UInt8)} {rest : List UInt8} {ao ar : Option Addr} {no co cr : Nat} {hs : List Value} (hu : Upd [] H H1) (ho : OwnRow H1 22 1 ao no co hs) (hg : Grp 5 H1 hs out) (hn : ∀ v ∈ hs, ∀ b ∈ vblk v, H b = none) (hm : Made H1 H' 5 1 ar rest.length cr (u8s rest)) (hf : ∀ p, ao = some p → H p.block = none) (hl : no ≤ 1073741824) :
    SplitGrp H out rest (.tuple #[.slice ao no co, .slice ar rest.length cr, .int .i64 0]) H' := by
  refine SplitGrp.mk ⟨ao, no, co, ar, cr, hs, rfl, ho.upd hm.upd (Off.nil _), ?_, ?_, hf, hl⟩
  · refine hg.add hm.upd ⟨ar, cr, rfl, hm.own⟩ fun b hb => ?_
    rw [vblk_slice] at hb
    obtain ⟨p, hp, rfl⟩ := blk_of hb
    exact hm.new p hp
  · intro v hv b hb
    rcases List.mem_append.1 hv with h | h
    · exact hn v h b hb
    · rw [List.mem_singleton.1 h, vblk_slice] at hb
      obtain ⟨p, hp, rfl⟩ := blk_of hb
      exact Upd.none (S := []) hu (by simp) (hm.new p hp)
theorem splitg_t {a : Option Addr} {n c : Nat} {ys : List UInt8} {H : Heap} (hy : RowAt H a (u8s ys)) (hn : ys.length = n) (hc : n ≤ c) (hlim : n ≤ 1073741824) : HCalls Try.prog 12 [.slice a n c] H (fun v H' => Upd [] H H' ∧ ∀ out rest, splitA [] ys = some (out, rest) → SplitGrp H out rest v H') := by
  refine hcalls (fn := Try.f12) [(4, [(0, 0), (1, 0), (2, 0), (3, 0), (4, 0), (5, 0), (6, 0), (7, 0), (8, 0), (9, 0), (10, 0), (11, 0), (12, 0), (13, 0), (14, 0), (15, 0), (16, 0), (17, 0), (18, 0), (19, 0), (20, 0), (21, 0), (22, 0)])] mixed Try.func12 rfl rfl (by decide +kernel) ?_
  (repeat first | refine HReg.step ?_ | refine HCode.step ?_)
  refine hloopC [2, 3, 4, 5, 6, 7, 9, 10, 11, 12, 13, 14, 15, 16, 17, 18, 19, 20, 21, 22, 23, 24, 25, 26, 27, 28, 29, 30, 31, 32, 33, 34, 35, 36, 37, 38, 39, 40, 41, 42, 43, 44, 45, 46, 47, 48, 49, 50, 51, 52] [5, 6]
    (SgInv ys n H) rfl (.blockD (.thenD (Resp.hcode .retD) .retD)) ?_ ?_
  · refine ⟨n, ?_⟩
    refine SgInv.mk ⟨[], ys, [], none, 0, 0, a, c, rfl, rfl, hn, hc, by omega, hy, OwnRow.nil _ _ _, Grp.nil _ _, fun v hv => by simp at hv, Upd.refl _ _, fun p hp => by cases hp⟩
  · rintro m vs f H' ⟨out, r, hs, ao, no, co, ar, cr, rfl, hsp, hr, hcr, hno, hra, ho, hl, hnw, hu, hf⟩
    (repeat first | refine HReg.step ?_ | refine HCode.step ?_)
    refine hif (fun h => ?_) (fun h => ?_)
    · have h := not_ltB_true.1 h
      have h4 : 4 ≤ r.length := by omega
      obtain ⟨x, y, z, w, t, rfl⟩ : ∃ x y z w t, r = x :: y :: z :: w :: t := by
        match r, h4 with
        | x :: y :: z :: w :: t, _ => exact ⟨x, y, z, w, t, rfl⟩
      obtain ⟨b, off, rfl⟩ : ∃ b off, ar = some ⟨b, off, none⟩ := by
        obtain ⟨b, off, hh, _⟩ := hra 0 _ rfl
        exact ⟨b, off, hh⟩
      have hrb := hra.upd hu (.inr (Off.nil _))
      (repeat first | refine HReg.step ?_ | refine HCode.step ?_)
      refine HReq.mk ⟨by decide, by omega⟩ ?_
      (repeat first | refine HReg.step ?_ | refine HCode.step ?_)
      refine HLoad.one (hrb.get (i := 0) (v := u8 x) rfl) ?_
      (repeat first | refine HReg.step ?_ | refine HCode.step ?_)
      refine HReq.mk (by decide) ?_
      (repeat first | refine HReg.step ?_ | refine HCode.step ?_)
      refine HReq.mk ⟨by decide, by omega⟩ ?_
      (repeat first | refine HReg.step ?_ | refine HCode.step ?_)
      refine HLoad.one (hrb.get (i := 1) (v := u8 y) rfl) ?_
      (repeat first | refine HReg.step ?_ | refine HCode.step ?_)
      refine HReq.mk (by decide) ?_
      (repeat first | refine HReg.step ?_ | refine HCode.step ?_)
      refine HReq.mk ⟨by decide, by omega⟩ ?_
      (repeat first | refine HReg.step ?_ | refine HCode.step ?_)
      refine HLoad.one (hrb.get (i := 2) (v := u8 z) rfl) ?_
      (repeat first | refine HReg.step ?_ | refine HCode.step ?_)
      refine HReq.mk (by decide) ?_
      (repeat first | refine HReg.step ?_ | refine HCode.step ?_)
      refine HReq.mk ⟨by decide, by omega⟩ ?_
      (repeat first | refine HReg.step ?_ | refine HCode.step ?_)
      refine HLoad.one (hrb.get (i := 3) (v := u8 w) rfl) ?_
      (repeat first | refine HReg.step ?_ | refine HCode.step ?_)
      refine hif (fun h1 => ?_) (fun h1 => ?_)
      · rw [num_or] at h1
        (repeat first | refine HReg.step ?_ | refine HCode.step ?_)
        refine ⟨hu, fun o q hoq => ?_⟩
        have hlg : splitA out (x :: y :: z :: w :: t) = none := splitA_long h4 (by have := ltB_true.1 h1; simp only [num, List.getD_cons_zero, List.getD_cons_succ]; omega)
        rw [hsp, hlg] at hoq; cases hoq
      · rw [num_or] at h1 ⊢
        have h1 := ltB_false.1 h1
        have hnum : num (x :: y :: z :: w :: t) = x.toNat * 16777216 + y.toNat * 65536 + z.toNat * 256 + w.toNat := by
          simp only [num, List.getD_cons_zero, List.getD_cons_succ]
        rw [← hnum] at h1 ⊢
        generalize hN : num (x :: y :: z :: w :: t) = N at h1 ⊢
        (repeat first | refine HReg.step ?_ | refine HCode.step ?_)
        refine hif (fun h2 => ?_) (fun h2 => ?_)
        · have hw : wr .i64 ((m : Int) - 4) = (m : Int) - 4 := wr_i64 (by omega) (by omega)
          rw [hw] at h2
          have h2 := ltB_true.1 h2
          (repeat first | refine HReg.step ?_ | refine HCode.step ?_)
          refine HCall.mk ⟨Try.f17, Try.func17, by rfl, by rfl⟩ ?_
          refine clone_t hrb hr (by omega) fun a' cap' H'' hm => ?_
          (repeat first | refine HReg.step ?_ | refine HCode.step ?_)
          refine ⟨hu.trans hm.upd, fun o q hoq => ?_⟩
          have hsh : splitA out (x :: y :: z :: w :: t) = some (out, (x :: y :: z :: w :: t)) := splitA_part h4 (by omega) (by omega)
          rw [hsp, hsh] at hoq
          cases hoq
          subst hr
          exact SplitGrp.of hu ho hl hnw hm hf (by omega)
        · have hw : wr .i64 ((m : Int) - 4) = (m : Int) - 4 := wr_i64 (by omega) (by omega)
          rw [hw] at h2
          have h2 := ltB_false.1 h2
          have hw4 : wr .i64 (4 + (N : Int)) = ((4 + N : Nat) : Int) := by rw [wr_i64 (by omega) (by omega)]; omega
          (repeat first | refine HReg.step ?_ | refine HCode.step ?_)
          refine HReq.mk ⟨by rw [hw4]; omega, by rw [hw4]; omega⟩ ?_
          (repeat first | refine HReg.step ?_ | refine HCode.step ?_)
          refine HReq.mk ⟨by decide, by rw [hw4]; omega⟩ ?_
          (repeat first | refine HReg.step ?_ | refine HCode.step ?_)
          refine HCall.mk ⟨Try.f17, Try.func17, by rfl, by rfl⟩ ?_
          have hnext := splitA_next (out := out) h4 (by omega) (by omega)
          refine clone_t (ys := ((x :: y :: z :: w :: t).drop 4).take N) ?_ ?_ ?_ fun a' cap' H1 hm => ?_
          · rw [u8s_take, u8s_drop]
            exact (hrb.sl (l := 4) (cap := cr) (size := 1) (by rw [u8s_length]; omega)).take N
          · rw [hw4, List.length_take, List.length_drop]
            omega
          · rw [hw4]; omega
          · (repeat first | refine HReg.step ?_ | refine HCode.step ?_)
            refine HReq.mk (by decide) ?_
            (repeat first | refine HReg.step ?_ | refine HCode.step ?_)
            refine HNew.mk fun b2 hb2 => ?_
            have hlen : (((x :: y :: z :: w :: t).drop 4).take N).length = (wr .i64 (4 + (N : Int))).toNat - 4 := by
              rw [hw4, List.length_take, List.length_drop]; omega
            have ho1 := ho.upd hm.upd (Off.nil _)
            have hu2 : Upd [] H1 (H1.upd b2 (.cells [Value.slice a' ((wr .i64 (4 + (N : Int))).toNat - 4) cap'].toArray 22)) := Upd.new hb2 _
            (repeat first | refine HReg.step ?_ | refine HCode.step ?_)
            refine append_rows (ie := Try.t22) (z := .slice none 0 0) (xs := hs) (ys := [.slice a' ((wr .i64 (4 + (N : Int))).toNat - 4) cap']) Try.underlying28 rfl rfl rfl (by decide) (ho1.upd hu2 (Off.nil _)) ?_ ?_ ?_ ?_ ?_ ?_
            · exact RowAt.of_cells (upd_same _ _ _)
            · rfl
            · intro v hv; rw [List.mem_singleton.1 hv]; rfl
            · show (no + 1) * 24 ≤ _; omega
            · omega
            · intro a3 cap3 H3 ho3 hu3 hf3
              (repeat first | refine HReg.step ?_ | refine HCode.step ?_)
              refine HReq.mk ⟨by rw [hw4]; omega, by rw [hw4]; omega⟩ ?_
              (repeat first | refine HReg.step ?_ | refine HCode.step ?_)
              refine Exists.intro (m - (wr .i64 (4 + (N : Int))).toNat) ?_
              refine And.intro (by rw [hw4]; omega) ?_
              have huo : ∀ b ∈ blk ao, ∀ c f, (H1.upd b2 (.cells [Value.slice a' ((wr .i64 (4 + (N : Int))).toNat - 4) cap'].toArray 22)) b ≠ some (.cells c 5 f) := row22 (ho1.upd hu2 (Off.nil _))
              have hsl : Sle 5 (H1.upd b2 (.cells [Value.slice a' ((wr .i64 (4 + (N : Int))).toNat - 4) cap'].toArray 22)) (.slice a' ((wr .i64 (4 + (N : Int))).toNat - 4) cap') (((x :: y :: z :: w :: t).drop 4).take N) := by
                have hm' : Made H' H1 5 1 a' (((x :: y :: z :: w :: t).drop 4).take N).length cap' (u8s (((x :: y :: z :: w :: t).drop 4).take N)) := by
                  rw [hlen]; exact hm
                rw [← hlen]
                exact ⟨a', cap', rfl, hm'.own.upd (Upd.new hb2 _) (Off.nil _)⟩
              refine SgInv.mk ⟨out ++ [((x :: y :: z :: w :: t).drop 4).take N], (x :: y :: z :: w :: t).drop (4 + N), hs ++ [.slice a' ((wr .i64 (4 + (N : Int))).toNat - 4) cap'], a3, no + 1, cap3, _, _, rfl, ?_, ?_, ?_, ?_, ?_, ?_, ?_, ?_, ?_, ?_⟩
              · rw [hsp, hnext, hN]
              · rw [hw4, List.length_drop, hr]; rfl
              · omega
              · rw [hw4]; show m - (4 + N) + 4 * (no + 1) ≤ n; omega
              · rw [hw4, u8s_drop]
                have := (hra.sl (l := 4 + N) (cap := cr) (size := 1) (by rw [u8s_length]; omega))
                rw [Nat.mul_one] at this
                exact this
              · exact ho3
              · refine (hl.add (hm.upd.trans hu2) hsl fun b hb => ?_).upd hu3 huo
                rw [vblk_slice] at hb
                obtain ⟨p, hp, rfl⟩ := blk_of hb
                exact hm.new p hp
              · intro v hv b hb
                rcases List.mem_append.1 hv with h | h
                · exact hnw v h b hb
                · rw [List.mem_singleton.1 h, vblk_slice] at hb
                  obtain ⟨p, hp, rfl⟩ := blk_of hb
                  exact Upd.none (S := []) hu (by simp) (hm.new p hp)
              · refine Upd.drop (hu.trans (hm.upd.trans hu2)) hu3 fun b hb => ?_
                obtain ⟨p, hp, rfl⟩ := blk_of hb
                exact hf p hp
              · intro p hp
                rcases hf3 p hp with h | h
                · exact hf p h
                · exact Upd.none (S := []) (hu.trans (hm.upd.trans hu2)) (by simp) h
    · have h := not_ltB_false.1 h
      (repeat first | refine HReg.step ?_ | refine HCode.step ?_)
      refine HCall.mk ⟨Try.f17, Try.func17, by rfl, by rfl⟩ ?_
      refine clone_t (ys := r) ?_ hr (by omega) fun a' cap' H'' hm => ?_
      · exact hra.upd hu (.inr (Off.nil _))
      · (repeat first | refine HReg.step ?_ | refine HCode.step ?_)
        refine ⟨hu.trans hm.upd, fun o q hoq => ?_⟩
        have hsh : splitA out r = some (out, r) := splitA_short (by omega)
        rw [hsp, hsh] at hoq
        cases hoq
        subst hr
        exact SplitGrp.of hu ho hl hnw hm hf (by omega)
end Go.Proofs.Ytindnfcioibdnaa
