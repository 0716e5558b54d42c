import Derived.Test.YtocejipjnklieaaE12
namespace Go.Proofs.Ytocejipjnklieaa
open Go Hv
set_option linter.unusedVariables false
set_option linter.unusedSimpArgs false
set_option maxRecDepth 10000
set_option maxHeartbeats 4000000
/-! marks, walked. CUT2 -/
theorem rep_all {l : List UInt8} {x : UInt8} {k : Nat} {b : UInt8} (h : l = List.replicate l.length x) (hb : l[k]? = some b) : b = x := by
  rw [h, List.getElem?_replicate] at hb
  split at hb
  · cases hb; rfl
  · cases hb
section
variable {H1 H : Heap} {K : Value → Heap → Prop}
theorem marks_t {aL : Option Addr} {cL : Nat} {vs0 : List Value} {ls0 : List (List UInt8)} (G : GrpM 5 H1 H vs0 ls0) (oL : OwnRow H 22 1 aL vs0.length cL vs0) (hn : vs0.length ≤ 100) (hb : ∀ l ∈ ls0, l.length ≤ 140737488351232)
    (hk : ∀ H', Upd [] H1 H' → K (.bool true) H') : HCalls Try.prog 23 [.slice aL vs0.length cL] H K := by
  refine hcalls (fn := Try.f23) [] mixed Try.func23 rfl rfl (by decide +kernel) ?_
  generalize hns : ls0.map List.length = ns
  have hbn : ∀ n ∈ ns, n ≤ 140737488351232 := by
    intro n h; rw [← hns] at h; obtain ⟨l, hl, rfl⟩ := List.mem_map.1 h; exact hb l hl
  have hlen : ∀ {ls : List (List UInt8)}, ls.map List.length = ns → ∀ {i : Nat} {l : List UInt8}, ls[i]? = some l → l.length ≤ 140737488351232 := fun h i l hl => hbn _ (by rw [← h]; exact List.mem_map_of_mem (List.mem_of_getElem? hl))
  ((repeat refine HReg.step ?_); first | (show HCode _ _ _ (Code.seq (Code.seq (Code.region _ _ _) (Code.block _ _)) _) _ _ _; refine hcutC (a := Code.seq (Code.region _ _ _) (Code.block _ _)) [3, 4, 11, 12, 13, 14, 15, 16, 17, 18, 19, 20, 21, 22, 23, 24, 25, 26, 27, 28, 29, 30, 31, 32, 33, 34] [] (MaJ H1 aL cL vs0 ns) rfl (by repeat' first | exact Resp.retD | exact Resp1.valuesK | refine Resp.blockD ?_ | refine Resp.thenD ?_ ?_ | refine Resp.hcode ?_) ?_ ?_) | (refine HCode.step ?_; (repeat refine HReg.step ?_); first | (show HCode _ _ _ (Code.seq (Code.seq (Code.region _ _ _) (Code.block _ _)) _) _ _ _; refine hcutC (a := Code.seq (Code.region _ _ _) (Code.block _ _)) [3, 4, 11, 12, 13, 14, 15, 16, 17, 18, 19, 20, 21, 22, 23, 24, 25, 26, 27, 28, 29, 30, 31, 32, 33, 34] [] (MaJ H1 aL cL vs0 ns) rfl (by repeat' first | exact Resp.retD | exact Resp1.valuesK | refine Resp.blockD ?_ | refine Resp.thenD ?_ ?_ | refine Resp.hcode ?_) ?_ ?_) | (refine HCode.step ?_; (repeat refine HReg.step ?_); first | (show HCode _ _ _ (Code.seq (Code.seq (Code.region _ _ _) (Code.block _ _)) _) _ _ _; refine hcutC (a := Code.seq (Code.region _ _ _) (Code.block _ _)) [3, 4, 11, 12, 13, 14, 15, 16, 17, 18, 19, 20, 21, 22, 23, 24, 25, 26, 27, 28, 29, 30, 31, 32, 33, 34] [] (MaJ H1 aL cL vs0 ns) rfl (by repeat' first | exact Resp.retD | exact Resp1.valuesK | refine Resp.blockD ?_ | refine Resp.thenD ?_ ?_ | refine Resp.hcode ?_) ?_ ?_) | (refine HCode.step ?_; (repeat refine HReg.step ?_); first | (show HCode _ _ _ (Code.seq (Code.seq (Code.region _ _ _) (Code.block _ _)) _) _ _ _; refine hcutC (a := Code.seq (Code.region _ _ _) (Code.block _ _)) [3, 4, 11, 12, 13, 14, 15, 16, 17, 18, 19, 20, 21, 22, 23, 24, 25, 26, 27, 28, 29, 30, 31, 32, 33, 34] [] (MaJ H1 aL cL vs0 ns) rfl (by repeat' first | exact Resp.retD | exact Resp1.valuesK | refine Resp.blockD ?_ | refine Resp.thenD ?_ ?_ | refine Resp.hcode ?_) ?_ ?_) | (refine HCode.step ?_; (repeat refine HReg.step ?_); first | (show HCode _ _ _ (Code.seq (Code.seq (Code.region _ _ _) (Code.block _ _)) _) _ _ _; refine hcutC (a := Code.seq (Code.region _ _ _) (Code.block _ _)) [3, 4, 11, 12, 13, 14, 15, 16, 17, 18, 19, 20, 21, 22, 23, 24, 25, 26, 27, 28, 29, 30, 31, 32, 33, 34] [] (MaJ H1 aL cL vs0 ns) rfl (by repeat' first | exact Resp.retD | exact Resp1.valuesK | refine Resp.blockD ?_ | refine Resp.thenD ?_ ?_ | refine Resp.hcode ?_) ?_ ?_) | (refine HCode.step ?_; (repeat refine HReg.step ?_); first | (show HCode _ _ _ (Code.seq (Code.seq (Code.region _ _ _) (Code.block _ _)) _) _ _ _; refine hcutC (a := Code.seq (Code.region _ _ _) (Code.block _ _)) [3, 4, 11, 12, 13, 14, 15, 16, 17, 18, 19, 20, 21, 22, 23, 24, 25, 26, 27, 28, 29, 30, 31, 32, 33, 34] [] (MaJ H1 aL cL vs0 ns) rfl (by repeat' first | exact Resp.retD | exact Resp1.valuesK | refine Resp.blockD ?_ | refine Resp.thenD ?_ ?_ | refine Resp.hcode ?_) ?_ ?_) | (refine HCode.step ?_; (repeat refine HReg.step ?_); first | (show HCode _ _ _ (Code.seq (Code.seq (Code.region _ _ _) (Code.block _ _)) _) _ _ _; refine hcutC (a := Code.seq (Code.region _ _ _) (Code.block _ _)) [3, 4, 11, 12, 13, 14, 15, 16, 17, 18, 19, 20, 21, 22, 23, 24, 25, 26, 27, 28, 29, 30, 31, 32, 33, 34] [] (MaJ H1 aL cL vs0 ns) rfl (by repeat' first | exact Resp.retD | exact Resp1.valuesK | refine Resp.blockD ?_ | refine Resp.thenD ?_ ?_ | refine Resp.hcode ?_) ?_ ?_) | (refine HCode.step ?_; (repeat refine HReg.step ?_); first | (show HCode _ _ _ (Code.seq (Code.seq (Code.region _ _ _) (Code.block _ _)) _) _ _ _; refine hcutC (a := Code.seq (Code.region _ _ _) (Code.block _ _)) [3, 4, 11, 12, 13, 14, 15, 16, 17, 18, 19, 20, 21, 22, 23, 24, 25, 26, 27, 28, 29, 30, 31, 32, 33, 34] [] (MaJ H1 aL cL vs0 ns) rfl (by repeat' first | exact Resp.retD | exact Resp1.valuesK | refine Resp.blockD ?_ | refine Resp.thenD ?_ ?_ | refine Resp.hcode ?_) ?_ ?_) | (refine HCode.step ?_; (repeat refine HReg.step ?_); first | (show HCode _ _ _ (Code.seq (Code.seq (Code.region _ _ _) (Code.block _ _)) _) _ _ _; refine hcutC (a := Code.seq (Code.region _ _ _) (Code.block _ _)) [3, 4, 11, 12, 13, 14, 15, 16, 17, 18, 19, 20, 21, 22, 23, 24, 25, 26, 27, 28, 29, 30, 31, 32, 33, 34] [] (MaJ H1 aL cL vs0 ns) rfl (by repeat' first | exact Resp.retD | exact Resp1.valuesK | refine Resp.blockD ?_ | refine Resp.thenD ?_ ?_ | refine Resp.hcode ?_) ?_ ?_) | (refine HCode.step ?_; (repeat refine HReg.step ?_); first | (show HCode _ _ _ (Code.seq (Code.seq (Code.region _ _ _) (Code.block _ _)) _) _ _ _; refine hcutC (a := Code.seq (Code.region _ _ _) (Code.block _ _)) [3, 4, 11, 12, 13, 14, 15, 16, 17, 18, 19, 20, 21, 22, 23, 24, 25, 26, 27, 28, 29, 30, 31, 32, 33, 34] [] (MaJ H1 aL cL vs0 ns) rfl (by repeat' first | exact Resp.retD | exact Resp1.valuesK | refine Resp.blockD ?_ | refine Resp.thenD ?_ ?_ | refine Resp.hcode ?_) ?_ ?_) | (refine HCode.step ?_; (repeat refine HReg.step ?_); first | (show HCode _ _ _ (Code.seq (Code.seq (Code.region _ _ _) (Code.block _ _)) _) _ _ _; refine hcutC (a := Code.seq (Code.region _ _ _) (Code.block _ _)) [3, 4, 11, 12, 13, 14, 15, 16, 17, 18, 19, 20, 21, 22, 23, 24, 25, 26, 27, 28, 29, 30, 31, 32, 33, 34] [] (MaJ H1 aL cL vs0 ns) rfl (by repeat' first | exact Resp.retD | exact Resp1.valuesK | refine Resp.blockD ?_ | refine Resp.thenD ?_ ?_ | refine Resp.hcode ?_) ?_ ?_) | (refine HCode.step ?_; (repeat refine HReg.step ?_); first | (show HCode _ _ _ (Code.seq (Code.seq (Code.region _ _ _) (Code.block _ _)) _) _ _ _; refine hcutC (a := Code.seq (Code.region _ _ _) (Code.block _ _)) [3, 4, 11, 12, 13, 14, 15, 16, 17, 18, 19, 20, 21, 22, 23, 24, 25, 26, 27, 28, 29, 30, 31, 32, 33, 34] [] (MaJ H1 aL cL vs0 ns) rfl (by repeat' first | exact Resp.retD | exact Resp1.valuesK | refine Resp.blockD ?_ | refine Resp.thenD ?_ ?_ | refine Resp.hcode ?_) ?_ ?_) | (refine HCode.step ?_; (repeat refine HReg.step ?_); first | (show HCode _ _ _ (Code.seq (Code.seq (Code.region _ _ _) (Code.block _ _)) _) _ _ _; refine hcutC (a := Code.seq (Code.region _ _ _) (Code.block _ _)) [3, 4, 11, 12, 13, 14, 15, 16, 17, 18, 19, 20, 21, 22, 23, 24, 25, 26, 27, 28, 29, 30, 31, 32, 33, 34] [] (MaJ H1 aL cL vs0 ns) rfl (by repeat' first | exact Resp.retD | exact Resp1.valuesK | refine Resp.blockD ?_ | refine Resp.thenD ?_ ?_ | refine Resp.hcode ?_) ?_ ?_) | (refine HCode.step ?_; (repeat refine HReg.step ?_); first | (show HCode _ _ _ (Code.seq (Code.seq (Code.region _ _ _) (Code.block _ _)) _) _ _ _; refine hcutC (a := Code.seq (Code.region _ _ _) (Code.block _ _)) [3, 4, 11, 12, 13, 14, 15, 16, 17, 18, 19, 20, 21, 22, 23, 24, 25, 26, 27, 28, 29, 30, 31, 32, 33, 34] [] (MaJ H1 aL cL vs0 ns) rfl (by repeat' first | exact Resp.retD | exact Resp1.valuesK | refine Resp.blockD ?_ | refine Resp.thenD ?_ ?_ | refine Resp.hcode ?_) ?_ ?_) | (refine HCode.step ?_; (repeat refine HReg.step ?_); first | (show HCode _ _ _ (Code.seq (Code.seq (Code.region _ _ _) (Code.block _ _)) _) _ _ _; refine hcutC (a := Code.seq (Code.region _ _ _) (Code.block _ _)) [3, 4, 11, 12, 13, 14, 15, 16, 17, 18, 19, 20, 21, 22, 23, 24, 25, 26, 27, 28, 29, 30, 31, 32, 33, 34] [] (MaJ H1 aL cL vs0 ns) rfl (by repeat' first | exact Resp.retD | exact Resp1.valuesK | refine Resp.blockD ?_ | refine Resp.thenD ?_ ?_ | refine Resp.hcode ?_) ?_ ?_) | (refine HCode.step ?_; (repeat refine HReg.step ?_); first | (show HCode _ _ _ (Code.seq (Code.seq (Code.region _ _ _) (Code.block _ _)) _) _ _ _; refine hcutC (a := Code.seq (Code.region _ _ _) (Code.block _ _)) [3, 4, 11, 12, 13, 14, 15, 16, 17, 18, 19, 20, 21, 22, 23, 24, 25, 26, 27, 28, 29, 30, 31, 32, 33, 34] [] (MaJ H1 aL cL vs0 ns) rfl (by repeat' first | exact Resp.retD | exact Resp1.valuesK | refine Resp.blockD ?_ | refine Resp.thenD ?_ ?_ | refine Resp.hcode ?_) ?_ ?_) | (refine HCode.step ?_; (repeat refine HReg.step ?_); first | (show HCode _ _ _ (Code.seq (Code.seq (Code.region _ _ _) (Code.block _ _)) _) _ _ _; refine hcutC (a := Code.seq (Code.region _ _ _) (Code.block _ _)) [3, 4, 11, 12, 13, 14, 15, 16, 17, 18, 19, 20, 21, 22, 23, 24, 25, 26, 27, 28, 29, 30, 31, 32, 33, 34] [] (MaJ H1 aL cL vs0 ns) rfl (by repeat' first | exact Resp.retD | exact Resp1.valuesK | refine Resp.blockD ?_ | refine Resp.thenD ?_ ?_ | refine Resp.hcode ?_) ?_ ?_) | (refine HCode.step ?_; (repeat refine HReg.step ?_); first | (show HCode _ _ _ (Code.seq (Code.seq (Code.region _ _ _) (Code.block _ _)) _) _ _ _; refine hcutC (a := Code.seq (Code.region _ _ _) (Code.block _ _)) [3, 4, 11, 12, 13, 14, 15, 16, 17, 18, 19, 20, 21, 22, 23, 24, 25, 26, 27, 28, 29, 30, 31, 32, 33, 34] [] (MaJ H1 aL cL vs0 ns) rfl (by repeat' first | exact Resp.retD | exact Resp1.valuesK | refine Resp.blockD ?_ | refine Resp.thenD ?_ ?_ | refine Resp.hcode ?_) ?_ ?_) | (refine HCode.step ?_; (repeat refine HReg.step ?_); first | (show HCode _ _ _ (Code.seq (Code.seq (Code.region _ _ _) (Code.block _ _)) _) _ _ _; refine hcutC (a := Code.seq (Code.region _ _ _) (Code.block _ _)) [3, 4, 11, 12, 13, 14, 15, 16, 17, 18, 19, 20, 21, 22, 23, 24, 25, 26, 27, 28, 29, 30, 31, 32, 33, 34] [] (MaJ H1 aL cL vs0 ns) rfl (by repeat' first | exact Resp.retD | exact Resp1.valuesK | refine Resp.blockD ?_ | refine Resp.thenD ?_ ?_ | refine Resp.hcode ?_) ?_ ?_) | (refine HCode.step ?_; (repeat refine HReg.step ?_); first | (show HCode _ _ _ (Code.seq (Code.seq (Code.region _ _ _) (Code.block _ _)) _) _ _ _; refine hcutC (a := Code.seq (Code.region _ _ _) (Code.block _ _)) [3, 4, 11, 12, 13, 14, 15, 16, 17, 18, 19, 20, 21, 22, 23, 24, 25, 26, 27, 28, 29, 30, 31, 32, 33, 34] [] (MaJ H1 aL cL vs0 ns) rfl (by repeat' first | exact Resp.retD | exact Resp1.valuesK | refine Resp.blockD ?_ | refine Resp.thenD ?_ ?_ | refine Resp.hcode ?_) ?_ ?_) | (refine HCode.step ?_; (repeat refine HReg.step ?_); (show HCode _ _ _ (Code.seq (Code.seq (Code.region _ _ _) (Code.block _ _)) _) _ _ _; refine hcutC (a := Code.seq (Code.region _ _ _) (Code.block _ _)) [3, 4, 11, 12, 13, 14, 15, 16, 17, 18, 19, 20, 21, 22, 23, 24, 25, 26, 27, 28, 29, 30, 31, 32, 33, 34] [] (MaJ H1 aL cL vs0 ns) rfl (by repeat' first | exact Resp.retD | exact Resp1.valuesK | refine Resp.blockD ?_ | refine Resp.thenD ?_ ?_ | refine Resp.hcode ?_) ?_ ?_))))))))))))))))))))))
  · (repeat first | refine HReg.step ?_ | refine HCode.step ?_)
    refine hloopC [3, 4, 11, 12, 13, 14, 15, 16, 17, 18, 19, 20, 21, 22, 23, 24, 25, 26, 27, 28, 29, 30, 31, 32, 33, 34] [3] (MaInv H1 aL cL vs0 ns) rfl (by repeat' first | exact Resp.retD | exact Resp1.valuesK | refine Resp.blockD ?_ | refine Resp.thenD ?_ ?_ | refine Resp.hcode ?_) ?_ ?_
    · exact ⟨vs0.length, MaInv.mk ⟨0, ls0, rfl, rfl, G, hns, fun j l h => absurd h (Nat.not_lt_zero _), oL⟩⟩
    rintro m _ fe H2 ⟨i, ls, rfl, hmi, G, hls, al, oL⟩
    have hL2 : ls.length = vs0.length := G.grp.len.symm
    have wi : wr .i64 ((i : Int) + 1) = ((i + 1 : Nat) : Int) := by rw [wr_i64 (by omega) (by omega)]; omega
    (repeat first | refine HReg.step ?_ | refine HCode.step ?_)
    refine hif (fun h1 => ?_) (fun h1 => ?_)
    · have h1 := ltB_true.1 h1
      obtain ⟨l, hli⟩ : ∃ l, ls[i]? = some l := ⟨ls[i]'(by omega), by simp⟩
      obtain ⟨v, hv, av, cv, rfl, ov⟩ := G.grp.get hli
      obtain ⟨gL, rfl⟩ := oL.addr (by omega)
      have hl := hlen hls hli
      (repeat first | refine HReg.step ?_ | refine HCode.step ?_)
      refine hloopC [4, 17, 18, 19, 20, 21, 22, 23, 24, 25, 26, 27, 28, 29, 30, 31, 32, 33, 34] [4] (MbInv H1 (some ⟨gL, 0, none⟩) cL vs0 ls i l) rfl (by repeat' first | exact Resp.retD | exact Resp1.valuesK | refine Resp.blockD ?_ | refine Resp.thenD ?_ ?_ | refine Resp.hcode ?_) ?_ ?_
      · exact ⟨l.length, MbInv.mk ⟨0, rfl, rfl, by rw [List.replicate_zero, List.nil_append, List.drop_zero, set_slf hli]; exact G, oL⟩⟩
      rintro m2 _ fe H3 ⟨k, rfl, hmk, G3, o3⟩
      have wk : wr .i64 ((k : Int) + 1) = ((k + 1 : Nat) : Int) := by rw [wr_i64 (by omega) (by omega)]; omega
      (repeat first | refine HReg.step ?_ | refine HCode.step ?_)
      refine HReq.mk ⟨by omega, by omega⟩ ?_
      (repeat first | refine HReg.step ?_ | refine HCode.step ?_)
      refine HLoad.one (v := .slice av l.length cv) (by exact o3.rows.get hv) ?_
      (repeat first | refine HReg.step ?_ | refine HCode.step ?_)
      refine hif (fun h2 => ?_) (fun h2 => ?_)
      · have h2 := ltB_true.1 h2
        obtain ⟨gv, rfl⟩ := ov.addr (by omega)
        have hbv := G3.grp.live hv (b := gv) (by rw [vblk_slice]; simp [blk])
        (repeat first | refine HReg.step ?_ | refine HCode.step ?_)
        refine HReq.mk ⟨by omega, by omega⟩ ?_
        (repeat first | refine HReg.step ?_ | refine HCode.step ?_)
        refine HLoad.one (v := .slice (some ⟨gv, 0, none⟩) l.length cv) (by exact o3.rows.get hv) ?_
        (repeat first | refine HReg.step ?_ | refine HCode.step ?_)
        refine HReq.mk ⟨by omega, by omega⟩ ?_
        (repeat first | refine HReg.step ?_ | refine HCode.step ?_)
        rw [mk6_val (by omega)]
        refine G3.store (i := i) (k := k) (l := List.replicate k (mk6 i) ++ l.drop k) hv (by rw [List.getElem?_set_self (by omega)]) (by rw [List.length_append, List.length_replicate, List.length_drop]; omega) (Nat.zero_add k) fun H4 G4 u4 => ?_
        rw [List.set_set, set_rep (show k < l.length by omega)] at G4
        have o4 := o3.upd u4 (off_notin fun b hb hm => by
          rw [List.mem_singleton.1 hm] at hb
          obtain ⟨c0, f0, e⟩ := hbv
          exact o3.notT (by decide) gv hb _ _ e)
        (repeat first | refine HReg.step ?_ | refine HCode.step ?_)
        rw [wk]
        exact ⟨m2 - 1, by omega, MbInv.mk ⟨k + 1, rfl, by omega, G4, o4⟩⟩
      · have h2 := ltB_false.1 h2
        obtain rfl : k = l.length := by omega
        rw [List.drop_length, List.append_nil] at G3
        (repeat first | refine HReg.step ?_ | refine HCode.step ?_)
        rw [wi]
        refine ⟨m - 1, by omega, MaInv.mk ⟨i + 1, _, rfl, by omega, G3, ?_, fun j x hj hx => ?_, o3⟩⟩
        · rw [List.map_set, List.length_replicate, set_slf (by rw [List.getElem?_map, hli]; rfl)]; exact hls
        · rw [List.getElem?_set] at hx
          split at hx
          · rename_i e1; subst e1
            rw [if_pos (by omega)] at hx
            cases hx
            rw [List.length_replicate]
          · exact al j x (by omega) hx
    · have h1 := ltB_false.1 h1
      (repeat first | refine HReg.step ?_ | refine HCode.step ?_)
      obtain rfl : i = vs0.length := by omega
      exact MaJ.mk ⟨ls, rfl, G, hls, al, oL⟩
  rintro _ fe1 H2 ⟨ls, rfl, G, hls, al, oL⟩
  clear hb
  have hL2 : ls.length = vs0.length := G.grp.len.symm
  ((repeat refine HReg.step ?_); first | (show HCode _ _ _ (Code.seq (Code.seq (Code.region _ _ _) (Code.block _ _)) _) _ _ _; refine hcutC (a := Code.seq (Code.region _ _ _) (Code.block _ _)) [5, 6, 7, 8, 35, 36, 37, 38, 39, 40, 41, 42, 43, 44, 45, 46, 47, 48, 49, 50, 51, 52, 53, 54, 55] [5] (McJ H1 aL cL vs0 ls) rfl (by repeat' first | exact Resp.retD | exact Resp1.valuesK | refine Resp.blockD ?_ | refine Resp.thenD ?_ ?_ | refine Resp.hcode ?_) ?_ ?_) | (refine HCode.step ?_; (repeat refine HReg.step ?_); first | (show HCode _ _ _ (Code.seq (Code.seq (Code.region _ _ _) (Code.block _ _)) _) _ _ _; refine hcutC (a := Code.seq (Code.region _ _ _) (Code.block _ _)) [5, 6, 7, 8, 35, 36, 37, 38, 39, 40, 41, 42, 43, 44, 45, 46, 47, 48, 49, 50, 51, 52, 53, 54, 55] [5] (McJ H1 aL cL vs0 ls) rfl (by repeat' first | exact Resp.retD | exact Resp1.valuesK | refine Resp.blockD ?_ | refine Resp.thenD ?_ ?_ | refine Resp.hcode ?_) ?_ ?_) | (refine HCode.step ?_; (repeat refine HReg.step ?_); first | (show HCode _ _ _ (Code.seq (Code.seq (Code.region _ _ _) (Code.block _ _)) _) _ _ _; refine hcutC (a := Code.seq (Code.region _ _ _) (Code.block _ _)) [5, 6, 7, 8, 35, 36, 37, 38, 39, 40, 41, 42, 43, 44, 45, 46, 47, 48, 49, 50, 51, 52, 53, 54, 55] [5] (McJ H1 aL cL vs0 ls) rfl (by repeat' first | exact Resp.retD | exact Resp1.valuesK | refine Resp.blockD ?_ | refine Resp.thenD ?_ ?_ | refine Resp.hcode ?_) ?_ ?_) | (refine HCode.step ?_; (repeat refine HReg.step ?_); first | (show HCode _ _ _ (Code.seq (Code.seq (Code.region _ _ _) (Code.block _ _)) _) _ _ _; refine hcutC (a := Code.seq (Code.region _ _ _) (Code.block _ _)) [5, 6, 7, 8, 35, 36, 37, 38, 39, 40, 41, 42, 43, 44, 45, 46, 47, 48, 49, 50, 51, 52, 53, 54, 55] [5] (McJ H1 aL cL vs0 ls) rfl (by repeat' first | exact Resp.retD | exact Resp1.valuesK | refine Resp.blockD ?_ | refine Resp.thenD ?_ ?_ | refine Resp.hcode ?_) ?_ ?_) | (refine HCode.step ?_; (repeat refine HReg.step ?_); first | (show HCode _ _ _ (Code.seq (Code.seq (Code.region _ _ _) (Code.block _ _)) _) _ _ _; refine hcutC (a := Code.seq (Code.region _ _ _) (Code.block _ _)) [5, 6, 7, 8, 35, 36, 37, 38, 39, 40, 41, 42, 43, 44, 45, 46, 47, 48, 49, 50, 51, 52, 53, 54, 55] [5] (McJ H1 aL cL vs0 ls) rfl (by repeat' first | exact Resp.retD | exact Resp1.valuesK | refine Resp.blockD ?_ | refine Resp.thenD ?_ ?_ | refine Resp.hcode ?_) ?_ ?_) | (refine HCode.step ?_; (repeat refine HReg.step ?_); first | (show HCode _ _ _ (Code.seq (Code.seq (Code.region _ _ _) (Code.block _ _)) _) _ _ _; refine hcutC (a := Code.seq (Code.region _ _ _) (Code.block _ _)) [5, 6, 7, 8, 35, 36, 37, 38, 39, 40, 41, 42, 43, 44, 45, 46, 47, 48, 49, 50, 51, 52, 53, 54, 55] [5] (McJ H1 aL cL vs0 ls) rfl (by repeat' first | exact Resp.retD | exact Resp1.valuesK | refine Resp.blockD ?_ | refine Resp.thenD ?_ ?_ | refine Resp.hcode ?_) ?_ ?_) | (refine HCode.step ?_; (repeat refine HReg.step ?_); first | (show HCode _ _ _ (Code.seq (Code.seq (Code.region _ _ _) (Code.block _ _)) _) _ _ _; refine hcutC (a := Code.seq (Code.region _ _ _) (Code.block _ _)) [5, 6, 7, 8, 35, 36, 37, 38, 39, 40, 41, 42, 43, 44, 45, 46, 47, 48, 49, 50, 51, 52, 53, 54, 55] [5] (McJ H1 aL cL vs0 ls) rfl (by repeat' first | exact Resp.retD | exact Resp1.valuesK | refine Resp.blockD ?_ | refine Resp.thenD ?_ ?_ | refine Resp.hcode ?_) ?_ ?_) | (refine HCode.step ?_; (repeat refine HReg.step ?_); first | (show HCode _ _ _ (Code.seq (Code.seq (Code.region _ _ _) (Code.block _ _)) _) _ _ _; refine hcutC (a := Code.seq (Code.region _ _ _) (Code.block _ _)) [5, 6, 7, 8, 35, 36, 37, 38, 39, 40, 41, 42, 43, 44, 45, 46, 47, 48, 49, 50, 51, 52, 53, 54, 55] [5] (McJ H1 aL cL vs0 ls) rfl (by repeat' first | exact Resp.retD | exact Resp1.valuesK | refine Resp.blockD ?_ | refine Resp.thenD ?_ ?_ | refine Resp.hcode ?_) ?_ ?_) | (refine HCode.step ?_; (repeat refine HReg.step ?_); first | (show HCode _ _ _ (Code.seq (Code.seq (Code.region _ _ _) (Code.block _ _)) _) _ _ _; refine hcutC (a := Code.seq (Code.region _ _ _) (Code.block _ _)) [5, 6, 7, 8, 35, 36, 37, 38, 39, 40, 41, 42, 43, 44, 45, 46, 47, 48, 49, 50, 51, 52, 53, 54, 55] [5] (McJ H1 aL cL vs0 ls) rfl (by repeat' first | exact Resp.retD | exact Resp1.valuesK | refine Resp.blockD ?_ | refine Resp.thenD ?_ ?_ | refine Resp.hcode ?_) ?_ ?_) | (refine HCode.step ?_; (repeat refine HReg.step ?_); first | (show HCode _ _ _ (Code.seq (Code.seq (Code.region _ _ _) (Code.block _ _)) _) _ _ _; refine hcutC (a := Code.seq (Code.region _ _ _) (Code.block _ _)) [5, 6, 7, 8, 35, 36, 37, 38, 39, 40, 41, 42, 43, 44, 45, 46, 47, 48, 49, 50, 51, 52, 53, 54, 55] [5] (McJ H1 aL cL vs0 ls) rfl (by repeat' first | exact Resp.retD | exact Resp1.valuesK | refine Resp.blockD ?_ | refine Resp.thenD ?_ ?_ | refine Resp.hcode ?_) ?_ ?_) | (refine HCode.step ?_; (repeat refine HReg.step ?_); first | (show HCode _ _ _ (Code.seq (Code.seq (Code.region _ _ _) (Code.block _ _)) _) _ _ _; refine hcutC (a := Code.seq (Code.region _ _ _) (Code.block _ _)) [5, 6, 7, 8, 35, 36, 37, 38, 39, 40, 41, 42, 43, 44, 45, 46, 47, 48, 49, 50, 51, 52, 53, 54, 55] [5] (McJ H1 aL cL vs0 ls) rfl (by repeat' first | exact Resp.retD | exact Resp1.valuesK | refine Resp.blockD ?_ | refine Resp.thenD ?_ ?_ | refine Resp.hcode ?_) ?_ ?_) | (refine HCode.step ?_; (repeat refine HReg.step ?_); first | (show HCode _ _ _ (Code.seq (Code.seq (Code.region _ _ _) (Code.block _ _)) _) _ _ _; refine hcutC (a := Code.seq (Code.region _ _ _) (Code.block _ _)) [5, 6, 7, 8, 35, 36, 37, 38, 39, 40, 41, 42, 43, 44, 45, 46, 47, 48, 49, 50, 51, 52, 53, 54, 55] [5] (McJ H1 aL cL vs0 ls) rfl (by repeat' first | exact Resp.retD | exact Resp1.valuesK | refine Resp.blockD ?_ | refine Resp.thenD ?_ ?_ | refine Resp.hcode ?_) ?_ ?_) | (refine HCode.step ?_; (repeat refine HReg.step ?_); first | (show HCode _ _ _ (Code.seq (Code.seq (Code.region _ _ _) (Code.block _ _)) _) _ _ _; refine hcutC (a := Code.seq (Code.region _ _ _) (Code.block _ _)) [5, 6, 7, 8, 35, 36, 37, 38, 39, 40, 41, 42, 43, 44, 45, 46, 47, 48, 49, 50, 51, 52, 53, 54, 55] [5] (McJ H1 aL cL vs0 ls) rfl (by repeat' first | exact Resp.retD | exact Resp1.valuesK | refine Resp.blockD ?_ | refine Resp.thenD ?_ ?_ | refine Resp.hcode ?_) ?_ ?_) | (refine HCode.step ?_; (repeat refine HReg.step ?_); first | (show HCode _ _ _ (Code.seq (Code.seq (Code.region _ _ _) (Code.block _ _)) _) _ _ _; refine hcutC (a := Code.seq (Code.region _ _ _) (Code.block _ _)) [5, 6, 7, 8, 35, 36, 37, 38, 39, 40, 41, 42, 43, 44, 45, 46, 47, 48, 49, 50, 51, 52, 53, 54, 55] [5] (McJ H1 aL cL vs0 ls) rfl (by repeat' first | exact Resp.retD | exact Resp1.valuesK | refine Resp.blockD ?_ | refine Resp.thenD ?_ ?_ | refine Resp.hcode ?_) ?_ ?_) | (refine HCode.step ?_; (repeat refine HReg.step ?_); first | (show HCode _ _ _ (Code.seq (Code.seq (Code.region _ _ _) (Code.block _ _)) _) _ _ _; refine hcutC (a := Code.seq (Code.region _ _ _) (Code.block _ _)) [5, 6, 7, 8, 35, 36, 37, 38, 39, 40, 41, 42, 43, 44, 45, 46, 47, 48, 49, 50, 51, 52, 53, 54, 55] [5] (McJ H1 aL cL vs0 ls) rfl (by repeat' first | exact Resp.retD | exact Resp1.valuesK | refine Resp.blockD ?_ | refine Resp.thenD ?_ ?_ | refine Resp.hcode ?_) ?_ ?_) | (refine HCode.step ?_; (repeat refine HReg.step ?_); first | (show HCode _ _ _ (Code.seq (Code.seq (Code.region _ _ _) (Code.block _ _)) _) _ _ _; refine hcutC (a := Code.seq (Code.region _ _ _) (Code.block _ _)) [5, 6, 7, 8, 35, 36, 37, 38, 39, 40, 41, 42, 43, 44, 45, 46, 47, 48, 49, 50, 51, 52, 53, 54, 55] [5] (McJ H1 aL cL vs0 ls) rfl (by repeat' first | exact Resp.retD | exact Resp1.valuesK | refine Resp.blockD ?_ | refine Resp.thenD ?_ ?_ | refine Resp.hcode ?_) ?_ ?_) | (refine HCode.step ?_; (repeat refine HReg.step ?_); first | (show HCode _ _ _ (Code.seq (Code.seq (Code.region _ _ _) (Code.block _ _)) _) _ _ _; refine hcutC (a := Code.seq (Code.region _ _ _) (Code.block _ _)) [5, 6, 7, 8, 35, 36, 37, 38, 39, 40, 41, 42, 43, 44, 45, 46, 47, 48, 49, 50, 51, 52, 53, 54, 55] [5] (McJ H1 aL cL vs0 ls) rfl (by repeat' first | exact Resp.retD | exact Resp1.valuesK | refine Resp.blockD ?_ | refine Resp.thenD ?_ ?_ | refine Resp.hcode ?_) ?_ ?_) | (refine HCode.step ?_; (repeat refine HReg.step ?_); first | (show HCode _ _ _ (Code.seq (Code.seq (Code.region _ _ _) (Code.block _ _)) _) _ _ _; refine hcutC (a := Code.seq (Code.region _ _ _) (Code.block _ _)) [5, 6, 7, 8, 35, 36, 37, 38, 39, 40, 41, 42, 43, 44, 45, 46, 47, 48, 49, 50, 51, 52, 53, 54, 55] [5] (McJ H1 aL cL vs0 ls) rfl (by repeat' first | exact Resp.retD | exact Resp1.valuesK | refine Resp.blockD ?_ | refine Resp.thenD ?_ ?_ | refine Resp.hcode ?_) ?_ ?_) | (refine HCode.step ?_; (repeat refine HReg.step ?_); first | (show HCode _ _ _ (Code.seq (Code.seq (Code.region _ _ _) (Code.block _ _)) _) _ _ _; refine hcutC (a := Code.seq (Code.region _ _ _) (Code.block _ _)) [5, 6, 7, 8, 35, 36, 37, 38, 39, 40, 41, 42, 43, 44, 45, 46, 47, 48, 49, 50, 51, 52, 53, 54, 55] [5] (McJ H1 aL cL vs0 ls) rfl (by repeat' first | exact Resp.retD | exact Resp1.valuesK | refine Resp.blockD ?_ | refine Resp.thenD ?_ ?_ | refine Resp.hcode ?_) ?_ ?_) | (refine HCode.step ?_; (repeat refine HReg.step ?_); first | (show HCode _ _ _ (Code.seq (Code.seq (Code.region _ _ _) (Code.block _ _)) _) _ _ _; refine hcutC (a := Code.seq (Code.region _ _ _) (Code.block _ _)) [5, 6, 7, 8, 35, 36, 37, 38, 39, 40, 41, 42, 43, 44, 45, 46, 47, 48, 49, 50, 51, 52, 53, 54, 55] [5] (McJ H1 aL cL vs0 ls) rfl (by repeat' first | exact Resp.retD | exact Resp1.valuesK | refine Resp.blockD ?_ | refine Resp.thenD ?_ ?_ | refine Resp.hcode ?_) ?_ ?_) | (refine HCode.step ?_; (repeat refine HReg.step ?_); (show HCode _ _ _ (Code.seq (Code.seq (Code.region _ _ _) (Code.block _ _)) _) _ _ _; refine hcutC (a := Code.seq (Code.region _ _ _) (Code.block _ _)) [5, 6, 7, 8, 35, 36, 37, 38, 39, 40, 41, 42, 43, 44, 45, 46, 47, 48, 49, 50, 51, 52, 53, 54, 55] [5] (McJ H1 aL cL vs0 ls) rfl (by repeat' first | exact Resp.retD | exact Resp1.valuesK | refine Resp.blockD ?_ | refine Resp.thenD ?_ ?_ | refine Resp.hcode ?_) ?_ ?_))))))))))))))))))))))
  · (repeat first | refine HReg.step ?_ | refine HCode.step ?_)
    refine hloopC [5, 6, 7, 8, 35, 36, 37, 38, 39, 40, 41, 42, 43, 44, 45, 46, 47, 48, 49, 50, 51, 52, 53, 54, 55] [5, 6] (McInv H1 aL cL vs0 ls) rfl (by repeat' first | exact Resp.retD | exact Resp1.valuesK | refine Resp.blockD ?_ | refine Resp.thenD ?_ ?_ | refine Resp.hcode ?_) ?_ ?_
    · exact ⟨vs0.length, McInv.mk ⟨0, none, 0, [], rfl, rfl, ⟨G, oL, OwnRow.nil _ _ _, fun b _ hm => by simp [blk] at hm, fun b hm => by simp [blk] at hm, fun j w h => by simp at h⟩⟩⟩
    rintro m _ fe H3 ⟨i, aM, cM, ws, rfl, hmi, S⟩
    have wi : wr .i64 ((i : Int) + 1) = ((i + 1 : Nat) : Int) := by rw [wr_i64 (by omega) (by omega)]; omega
    (repeat first | refine HReg.step ?_ | refine HCode.step ?_)
    refine hif (fun h1 => ?_) (fun h1 => ?_)
    · have h1 := ltB_true.1 h1
      obtain ⟨l, hli⟩ : ∃ l, ls[i]? = some l := ⟨ls[i]'(by omega), by simp⟩
      obtain ⟨v, hv, av, cv, rfl, ov⟩ := S.G.grp.get hli
      obtain ⟨gL, rfl⟩ := oL.addr (by omega)
      have hl := hlen hls hli
      have hwl : ws.length = i := by have := S.M.len; omega
      (repeat first | refine HReg.step ?_ | refine HCode.step ?_)
      refine HReq.mk ⟨by omega, by omega⟩ ?_
      (repeat first | refine HReg.step ?_ | refine HCode.step ?_)
      refine HLoad.one (v := .slice av l.length cv) (by exact S.L.rows.get hv) ?_
      ((repeat refine HReg.step ?_); first | (show HCode _ _ _ (Code.seq (Code.seq (Code.region _ _ _) (Code.block _ _)) _) _ _ _; refine hcutC (a := Code.seq (Code.region _ _ _) (Code.block _ _)) [7, 8, 45, 46, 47, 48, 49, 50, 51] [7] (MdJ H1 (some ⟨gL, 0, none⟩) cL vs0 ls i aM cM ws av cv l) rfl (by repeat' first | exact Resp.retD | exact Resp1.valuesK | refine Resp.blockD ?_ | refine Resp.thenD ?_ ?_ | refine Resp.hcode ?_) ?_ ?_) | (refine HCode.step ?_; (repeat refine HReg.step ?_); first | (show HCode _ _ _ (Code.seq (Code.seq (Code.region _ _ _) (Code.block _ _)) _) _ _ _; refine hcutC (a := Code.seq (Code.region _ _ _) (Code.block _ _)) [7, 8, 45, 46, 47, 48, 49, 50, 51] [7] (MdJ H1 (some ⟨gL, 0, none⟩) cL vs0 ls i aM cM ws av cv l) rfl (by repeat' first | exact Resp.retD | exact Resp1.valuesK | refine Resp.blockD ?_ | refine Resp.thenD ?_ ?_ | refine Resp.hcode ?_) ?_ ?_) | (refine HCode.step ?_; (repeat refine HReg.step ?_); first | (show HCode _ _ _ (Code.seq (Code.seq (Code.region _ _ _) (Code.block _ _)) _) _ _ _; refine hcutC (a := Code.seq (Code.region _ _ _) (Code.block _ _)) [7, 8, 45, 46, 47, 48, 49, 50, 51] [7] (MdJ H1 (some ⟨gL, 0, none⟩) cL vs0 ls i aM cM ws av cv l) rfl (by repeat' first | exact Resp.retD | exact Resp1.valuesK | refine Resp.blockD ?_ | refine Resp.thenD ?_ ?_ | refine Resp.hcode ?_) ?_ ?_) | (refine HCode.step ?_; (repeat refine HReg.step ?_); first | (show HCode _ _ _ (Code.seq (Code.seq (Code.region _ _ _) (Code.block _ _)) _) _ _ _; refine hcutC (a := Code.seq (Code.region _ _ _) (Code.block _ _)) [7, 8, 45, 46, 47, 48, 49, 50, 51] [7] (MdJ H1 (some ⟨gL, 0, none⟩) cL vs0 ls i aM cM ws av cv l) rfl (by repeat' first | exact Resp.retD | exact Resp1.valuesK | refine Resp.blockD ?_ | refine Resp.thenD ?_ ?_ | refine Resp.hcode ?_) ?_ ?_) | (refine HCode.step ?_; (repeat refine HReg.step ?_); first | (show HCode _ _ _ (Code.seq (Code.seq (Code.region _ _ _) (Code.block _ _)) _) _ _ _; refine hcutC (a := Code.seq (Code.region _ _ _) (Code.block _ _)) [7, 8, 45, 46, 47, 48, 49, 50, 51] [7] (MdJ H1 (some ⟨gL, 0, none⟩) cL vs0 ls i aM cM ws av cv l) rfl (by repeat' first | exact Resp.retD | exact Resp1.valuesK | refine Resp.blockD ?_ | refine Resp.thenD ?_ ?_ | refine Resp.hcode ?_) ?_ ?_) | (refine HCode.step ?_; (repeat refine HReg.step ?_); first | (show HCode _ _ _ (Code.seq (Code.seq (Code.region _ _ _) (Code.block _ _)) _) _ _ _; refine hcutC (a := Code.seq (Code.region _ _ _) (Code.block _ _)) [7, 8, 45, 46, 47, 48, 49, 50, 51] [7] (MdJ H1 (some ⟨gL, 0, none⟩) cL vs0 ls i aM cM ws av cv l) rfl (by repeat' first | exact Resp.retD | exact Resp1.valuesK | refine Resp.blockD ?_ | refine Resp.thenD ?_ ?_ | refine Resp.hcode ?_) ?_ ?_) | (refine HCode.step ?_; (repeat refine HReg.step ?_); first | (show HCode _ _ _ (Code.seq (Code.seq (Code.region _ _ _) (Code.block _ _)) _) _ _ _; refine hcutC (a := Code.seq (Code.region _ _ _) (Code.block _ _)) [7, 8, 45, 46, 47, 48, 49, 50, 51] [7] (MdJ H1 (some ⟨gL, 0, none⟩) cL vs0 ls i aM cM ws av cv l) rfl (by repeat' first | exact Resp.retD | exact Resp1.valuesK | refine Resp.blockD ?_ | refine Resp.thenD ?_ ?_ | refine Resp.hcode ?_) ?_ ?_) | (refine HCode.step ?_; (repeat refine HReg.step ?_); first | (show HCode _ _ _ (Code.seq (Code.seq (Code.region _ _ _) (Code.block _ _)) _) _ _ _; refine hcutC (a := Code.seq (Code.region _ _ _) (Code.block _ _)) [7, 8, 45, 46, 47, 48, 49, 50, 51] [7] (MdJ H1 (some ⟨gL, 0, none⟩) cL vs0 ls i aM cM ws av cv l) rfl (by repeat' first | exact Resp.retD | exact Resp1.valuesK | refine Resp.blockD ?_ | refine Resp.thenD ?_ ?_ | refine Resp.hcode ?_) ?_ ?_) | (refine HCode.step ?_; (repeat refine HReg.step ?_); first | (show HCode _ _ _ (Code.seq (Code.seq (Code.region _ _ _) (Code.block _ _)) _) _ _ _; refine hcutC (a := Code.seq (Code.region _ _ _) (Code.block _ _)) [7, 8, 45, 46, 47, 48, 49, 50, 51] [7] (MdJ H1 (some ⟨gL, 0, none⟩) cL vs0 ls i aM cM ws av cv l) rfl (by repeat' first | exact Resp.retD | exact Resp1.valuesK | refine Resp.blockD ?_ | refine Resp.thenD ?_ ?_ | refine Resp.hcode ?_) ?_ ?_) | (refine HCode.step ?_; (repeat refine HReg.step ?_); first | (show HCode _ _ _ (Code.seq (Code.seq (Code.region _ _ _) (Code.block _ _)) _) _ _ _; refine hcutC (a := Code.seq (Code.region _ _ _) (Code.block _ _)) [7, 8, 45, 46, 47, 48, 49, 50, 51] [7] (MdJ H1 (some ⟨gL, 0, none⟩) cL vs0 ls i aM cM ws av cv l) rfl (by repeat' first | exact Resp.retD | exact Resp1.valuesK | refine Resp.blockD ?_ | refine Resp.thenD ?_ ?_ | refine Resp.hcode ?_) ?_ ?_) | (refine HCode.step ?_; (repeat refine HReg.step ?_); first | (show HCode _ _ _ (Code.seq (Code.seq (Code.region _ _ _) (Code.block _ _)) _) _ _ _; refine hcutC (a := Code.seq (Code.region _ _ _) (Code.block _ _)) [7, 8, 45, 46, 47, 48, 49, 50, 51] [7] (MdJ H1 (some ⟨gL, 0, none⟩) cL vs0 ls i aM cM ws av cv l) rfl (by repeat' first | exact Resp.retD | exact Resp1.valuesK | refine Resp.blockD ?_ | refine Resp.thenD ?_ ?_ | refine Resp.hcode ?_) ?_ ?_) | (refine HCode.step ?_; (repeat refine HReg.step ?_); first | (show HCode _ _ _ (Code.seq (Code.seq (Code.region _ _ _) (Code.block _ _)) _) _ _ _; refine hcutC (a := Code.seq (Code.region _ _ _) (Code.block _ _)) [7, 8, 45, 46, 47, 48, 49, 50, 51] [7] (MdJ H1 (some ⟨gL, 0, none⟩) cL vs0 ls i aM cM ws av cv l) rfl (by repeat' first | exact Resp.retD | exact Resp1.valuesK | refine Resp.blockD ?_ | refine Resp.thenD ?_ ?_ | refine Resp.hcode ?_) ?_ ?_) | (refine HCode.step ?_; (repeat refine HReg.step ?_); first | (show HCode _ _ _ (Code.seq (Code.seq (Code.region _ _ _) (Code.block _ _)) _) _ _ _; refine hcutC (a := Code.seq (Code.region _ _ _) (Code.block _ _)) [7, 8, 45, 46, 47, 48, 49, 50, 51] [7] (MdJ H1 (some ⟨gL, 0, none⟩) cL vs0 ls i aM cM ws av cv l) rfl (by repeat' first | exact Resp.retD | exact Resp1.valuesK | refine Resp.blockD ?_ | refine Resp.thenD ?_ ?_ | refine Resp.hcode ?_) ?_ ?_) | (refine HCode.step ?_; (repeat refine HReg.step ?_); first | (show HCode _ _ _ (Code.seq (Code.seq (Code.region _ _ _) (Code.block _ _)) _) _ _ _; refine hcutC (a := Code.seq (Code.region _ _ _) (Code.block _ _)) [7, 8, 45, 46, 47, 48, 49, 50, 51] [7] (MdJ H1 (some ⟨gL, 0, none⟩) cL vs0 ls i aM cM ws av cv l) rfl (by repeat' first | exact Resp.retD | exact Resp1.valuesK | refine Resp.blockD ?_ | refine Resp.thenD ?_ ?_ | refine Resp.hcode ?_) ?_ ?_) | (refine HCode.step ?_; (repeat refine HReg.step ?_); first | (show HCode _ _ _ (Code.seq (Code.seq (Code.region _ _ _) (Code.block _ _)) _) _ _ _; refine hcutC (a := Code.seq (Code.region _ _ _) (Code.block _ _)) [7, 8, 45, 46, 47, 48, 49, 50, 51] [7] (MdJ H1 (some ⟨gL, 0, none⟩) cL vs0 ls i aM cM ws av cv l) rfl (by repeat' first | exact Resp.retD | exact Resp1.valuesK | refine Resp.blockD ?_ | refine Resp.thenD ?_ ?_ | refine Resp.hcode ?_) ?_ ?_) | (refine HCode.step ?_; (repeat refine HReg.step ?_); first | (show HCode _ _ _ (Code.seq (Code.seq (Code.region _ _ _) (Code.block _ _)) _) _ _ _; refine hcutC (a := Code.seq (Code.region _ _ _) (Code.block _ _)) [7, 8, 45, 46, 47, 48, 49, 50, 51] [7] (MdJ H1 (some ⟨gL, 0, none⟩) cL vs0 ls i aM cM ws av cv l) rfl (by repeat' first | exact Resp.retD | exact Resp1.valuesK | refine Resp.blockD ?_ | refine Resp.thenD ?_ ?_ | refine Resp.hcode ?_) ?_ ?_) | (refine HCode.step ?_; (repeat refine HReg.step ?_); first | (show HCode _ _ _ (Code.seq (Code.seq (Code.region _ _ _) (Code.block _ _)) _) _ _ _; refine hcutC (a := Code.seq (Code.region _ _ _) (Code.block _ _)) [7, 8, 45, 46, 47, 48, 49, 50, 51] [7] (MdJ H1 (some ⟨gL, 0, none⟩) cL vs0 ls i aM cM ws av cv l) rfl (by repeat' first | exact Resp.retD | exact Resp1.valuesK | refine Resp.blockD ?_ | refine Resp.thenD ?_ ?_ | refine Resp.hcode ?_) ?_ ?_) | (refine HCode.step ?_; (repeat refine HReg.step ?_); first | (show HCode _ _ _ (Code.seq (Code.seq (Code.region _ _ _) (Code.block _ _)) _) _ _ _; refine hcutC (a := Code.seq (Code.region _ _ _) (Code.block _ _)) [7, 8, 45, 46, 47, 48, 49, 50, 51] [7] (MdJ H1 (some ⟨gL, 0, none⟩) cL vs0 ls i aM cM ws av cv l) rfl (by repeat' first | exact Resp.retD | exact Resp1.valuesK | refine Resp.blockD ?_ | refine Resp.thenD ?_ ?_ | refine Resp.hcode ?_) ?_ ?_) | (refine HCode.step ?_; (repeat refine HReg.step ?_); first | (show HCode _ _ _ (Code.seq (Code.seq (Code.region _ _ _) (Code.block _ _)) _) _ _ _; refine hcutC (a := Code.seq (Code.region _ _ _) (Code.block _ _)) [7, 8, 45, 46, 47, 48, 49, 50, 51] [7] (MdJ H1 (some ⟨gL, 0, none⟩) cL vs0 ls i aM cM ws av cv l) rfl (by repeat' first | exact Resp.retD | exact Resp1.valuesK | refine Resp.blockD ?_ | refine Resp.thenD ?_ ?_ | refine Resp.hcode ?_) ?_ ?_) | (refine HCode.step ?_; (repeat refine HReg.step ?_); first | (show HCode _ _ _ (Code.seq (Code.seq (Code.region _ _ _) (Code.block _ _)) _) _ _ _; refine hcutC (a := Code.seq (Code.region _ _ _) (Code.block _ _)) [7, 8, 45, 46, 47, 48, 49, 50, 51] [7] (MdJ H1 (some ⟨gL, 0, none⟩) cL vs0 ls i aM cM ws av cv l) rfl (by repeat' first | exact Resp.retD | exact Resp1.valuesK | refine Resp.blockD ?_ | refine Resp.thenD ?_ ?_ | refine Resp.hcode ?_) ?_ ?_) | (refine HCode.step ?_; (repeat refine HReg.step ?_); (show HCode _ _ _ (Code.seq (Code.seq (Code.region _ _ _) (Code.block _ _)) _) _ _ _; refine hcutC (a := Code.seq (Code.region _ _ _) (Code.block _ _)) [7, 8, 45, 46, 47, 48, 49, 50, 51] [7] (MdJ H1 (some ⟨gL, 0, none⟩) cL vs0 ls i aM cM ws av cv l) rfl (by repeat' first | exact Resp.retD | exact Resp1.valuesK | refine Resp.blockD ?_ | refine Resp.thenD ?_ ?_ | refine Resp.hcode ?_) ?_ ?_))))))))))))))))))))))
      · (repeat first | refine HReg.step ?_ | refine HCode.step ?_)
        refine hloopC [7, 8, 45, 46, 47, 48, 49, 50, 51] [7, 8] (MdInv H1 (some ⟨gL, 0, none⟩) cL vs0 ls i aM cM ws av cv l) rfl (by repeat' first | exact Resp.retD | exact Resp1.valuesK | refine Resp.blockD ?_ | refine Resp.thenD ?_ ?_ | refine Resp.hcode ?_) ?_ ?_
        · refine ⟨80, MdInv.mk ⟨0, av, cv, rfl, rfl, S, ⟨by rw [List.replicate_zero, List.append_nil]; exact ov, fun b hb => S.G.new _ (List.mem_of_getElem? hv) b (by rw [vblk_slice]; exact hb), .inl ⟨rfl, rfl⟩⟩, fun j w hw b hb hm => ?_⟩⟩
          obtain ⟨a, n, c, l', rfl, _, _, _, _, h5⟩ := S.sd j w hw
          have hj : j < ws.length := (List.getElem?_eq_some_iff.1 hw).1
          exact h5 i _ (by omega) hv b (by rw [vblk_slice] at hb; exact hb) (by rw [vblk_slice]; exact hm)
        rintro m2 _ fe H4 ⟨x, a', c', rfl, hmx, S, E, off⟩
        have wx : wr .i64 ((x : Int) + 1) = ((x + 1 : Nat) : Int) := by rw [wr_i64 (by omega) (by omega)]; omega
        (repeat first | refine HReg.step ?_ | refine HCode.step ?_)
        refine hif (fun h2 => ?_) (fun h2 => ?_)
        · have h2 := ltB_true.1 h2
          (repeat first | refine HReg.step ?_ | refine HCode.step ?_)
          refine HReq.mk (by decide) ?_
          (repeat first | refine HReg.step ?_ | refine HCode.step ?_)
          refine HNew.mk fun b9 hb9 => ?_
          have u9 : Upd [] H4 (H4.upd b9 (.cells [Value.int .u8 251].toArray 5)) := Upd.new hb9 _
          have r9 : RowAt (H4.upd b9 (.cells [Value.int .u8 251].toArray 5)) (some ⟨b9, 0, none⟩) (u8s [251]) := RowAt.of_cells (upd_same _ _ _)
          generalize H4.upd b9 (.cells [Value.int .u8 251].toArray 5) = H5 at u9 r9 ⊢
          have S : MmS H1 (some ⟨gL, 0, none⟩) cL vs0 ls i aM cM ws H5 := ⟨S.G.step0 u9, S.L.upd u9 (Off.nil _), S.M.upd u9 (Off.nil _), S.ML, S.Mn, fun j w hw => (S.sd j w hw).upd u9 (fun b hb => by simp)⟩
          have E : ExG H1 H5 vs0 av cv a' (l.length + x) c' (l ++ List.replicate x 251) := ⟨E.own.upd u9 (Off.nil _), E.new, E.at_⟩
          (repeat first | refine HReg.step ?_ | refine HCode.step ?_)
          refine exg_app S.G hv hli E (List.length_replicate) r9 (by omega) fun a2 c2 H6 G6 E6 u6 sub => ?_
          rw [← List.replicate_succ'] at E6
          have S6 : MmS H1 (some ⟨gL, 0, none⟩) cL vs0 ls i aM cM ws H6 := ⟨G6, S.L.upd u6 (E.own.offT S.L (by decide)), S.M.upd u6 (E.own.offT S.M (by decide)), S.ML, S.Mn, fun j w hw => (S.sd j w hw).upd u6 (off j w hw)⟩
          (repeat first | refine HReg.step ?_ | refine HCode.step ?_)
          rw [wx]
          refine ⟨m2 - 1, by omega, MdInv.mk ⟨x + 1, a2, c2, rfl, by omega, S6, E6, fun j w hw b hb hm => ?_⟩⟩
          rcases sub b hm with h | h
          · exact off j w hw b hb h
          · obtain ⟨a, n, c, l', rfl, _, _, _, h4, _⟩ := S.sd j w hw
            obtain ⟨c0, f0, e⟩ := h4 b (by rw [vblk_slice] at hb; exact hb)
            rw [h] at e; cases e
        · have h2 := ltB_false.1 h2
          (repeat first | refine HReg.step ?_ | refine HCode.step ?_)
          obtain rfl : x = 80 := by omega
          exact MdJ.mk ⟨a', c', rfl, S, E⟩
      rintro _ fe2 H4 ⟨a', c', rfl, S, E⟩
      (repeat first | refine HReg.step ?_ | refine HCode.step ?_)
      refine HReq.mk (by decide) ?_
      (repeat first | refine HReg.step ?_ | refine HCode.step ?_)
      refine HNew.as (o' := .cells [Value.slice a' (l.length + 80) c'].toArray 22) rfl fun b9 hb9 => ?_
      have u9 : Upd [] H4 (H4.upd b9 (.cells [Value.slice a' (l.length + 80) c'].toArray 22)) := Upd.new hb9 _
      have r9 : RowAt (H4.upd b9 (.cells [Value.slice a' (l.length + 80) c'].toArray 22)) (some ⟨b9, 0, none⟩) [.slice a' (l.length + 80) c'] := RowAt.of_cells (upd_same _ _ _)
      generalize H4.upd b9 (.cells [Value.slice a' (l.length + 80) c'].toArray 22) = H5 at u9 r9 ⊢
      have S : MmS H1 (some ⟨gL, 0, none⟩) cL vs0 ls i aM cM ws H5 := ⟨S.G.step0 u9, S.L.upd u9 (Off.nil _), S.M.upd u9 (Off.nil _), S.ML, S.Mn, fun j w hw => (S.sd j w hw).upd u9 (fun b hb => by simp)⟩
      have E : ExG H1 H5 vs0 av cv a' (l.length + 80) c' (l ++ List.replicate 80 251) := ⟨E.own.upd u9 (Off.nil _), E.new, E.at_⟩
      (repeat first | refine HReg.step ?_ | refine HCode.step ?_)
      refine append_rows (ie := Try.t22) (z := .slice none 0 0) (xs := ws) (ys := [.slice a' (l.length + 80) c']) Try.underlying41 rfl rfl rfl (by decide) S.M r9 rfl (by intro v hv; rw [List.mem_singleton.1 hv]; rfl) (by show (i + 1) * 24 ≤ _; omega) (by omega) fun aM' cM' H6 o6 u6 f6 => ?_
      have sub : ∀ b ∈ blk aM', b ∈ blk aM ∨ H5 b = none := fun b hb => by
        obtain ⟨p, hp, rfl⟩ := blk_of hb
        rcases f6 p hp with h | h
        · exact .inl (by rw [h]; simp [blk])
        · exact .inr h
      have S6 : MmS H1 (some ⟨gL, 0, none⟩) cL vs0 ls (i + 1) aM' cM' (ws ++ [.slice a' (l.length + 80) c']) H6 := by
        refine ⟨S.G.step u6 (fun b hb => S.M.notT (by decide) b hb) S.Mn, S.L.upd u6 (off_notin S.ML), o6, fun b hb hm => ?_, fun b hb => ?_, fun j w hw => ?_⟩
        · rcases sub b hm with h | h
          · exact S.ML b hb h
          · obtain ⟨p, hp, rfl⟩ := blk_of hb
            exact S.L.there hp h
        · rcases sub b hb with h | h
          · exact S.Mn b h
          · exact Upd.none (S := []) S.G.upd (by simp) h
        · rw [List.getElem?_append] at hw
          split at hw
          · have sd := S.sd j w hw
            exact sd.upd u6 (sd.off fun b hb => S.M.notT (by decide) b hb)
          · rename_i hj
            have hj0 : j - ws.length = 0 := by
              have := (List.getElem?_eq_some_iff.1 hw).1
              simp only [List.length_singleton] at this
              omega
            rw [hj0] at hw
            cases hw
            have hji : j = i := by omega
            subst hji
            have hr := E.own.rows.take l.length
            rw [← u8s_take, List.take_left] at hr
            refine ⟨a', l.length + 80, c', l, rfl, hli, by omega, hr.upd u6 (.inr (S.M.offT E.own (by decide))), fun b hb => ?_, fun k v hk hvk b hb hm => ?_⟩
            · have eo := E.own.upd u6 (S.M.offT E.own (by decide))
              obtain ⟨p, hp, rfl⟩ := blk_of hb
              rcases eo.ok with ⟨ha, _⟩ | ⟨g', cur, ha, hg, _⟩
              · rw [ha] at hp; cases hp
              · rw [ha] at hp; cases hp; exact ⟨_, _, hg⟩
            · rcases E.at_ with ⟨rfl, rfl⟩ | off
              · exact S.G.grp.apart j k _ _ (fun e => hk e.symm) hv hvk b (by rw [vblk_slice]; exact hb) hm
              · exact off v (List.mem_of_getElem? hvk) b hm hb
      (repeat first | refine HReg.step ?_ | refine HCode.step ?_)
      rw [wi]
      exact ⟨m - 1, by omega, McInv.mk ⟨i + 1, aM', cM', _, rfl, by omega, S6⟩⟩
    · have h1 := ltB_false.1 h1
      (repeat first | refine HReg.step ?_ | refine HCode.step ?_)
      obtain rfl : i = vs0.length := by omega
      exact McJ.mk ⟨aM, cM, ws, rfl, S⟩
  rintro _ fe2 H3 ⟨aM, cM, ws, rfl, S⟩
  have hMl : ws.length = vs0.length := by have := S.M.len; omega
  (repeat first | refine HReg.step ?_ | refine HCode.step ?_)
  refine hloopC [2, 9, 10, 56, 57, 58, 59, 60, 61, 62, 63, 64, 65, 66, 67, 68, 69, 70, 71, 72, 73, 74, 75, 76, 77, 78, 79, 80, 81, 82, 83, 84, 85, 86, 87, 88, 89, 90, 91, 92, 93, 94] [9] (MeInv H3 vs0.length) rfl (by repeat' first | exact Resp.retD | exact Resp1.valuesK | refine Resp.blockD ?_ | refine Resp.thenD ?_ ?_ | refine Resp.hcode ?_) ?_ ?_
  · exact ⟨vs0.length, MeInv.mk ⟨0, rfl, rfl, rfl⟩⟩
  rintro m _ fe H4 ⟨i, rfl, hmi, hH⟩
  have hH := hH.symm
  subst hH
  have wi : wr .i64 ((i : Int) + 1) = ((i + 1 : Nat) : Int) := by rw [wr_i64 (by omega) (by omega)]; omega
  (repeat first | refine HReg.step ?_ | refine HCode.step ?_)
  refine hif (fun h1 => ?_) (fun h1 => ?_)
  · have h1 := ltB_true.1 h1
    obtain ⟨l, hli⟩ : ∃ l, ls[i]? = some l := ⟨ls[i]'(by omega), by simp⟩
    obtain ⟨v, hv, av, cv, rfl, ov⟩ := S.G.grp.get hli
    obtain ⟨w, hw⟩ : ∃ w, ws[i]? = some w := ⟨ws[i]'(by omega), by simp⟩
    obtain ⟨a, n, c, l', rfl, hl', hln, rw', _, _⟩ := S.sd i w hw
    have e1 : l' = l := by rw [hli] at hl'; cases hl'; rfl
    subst e1
    obtain ⟨gL, rfl⟩ := oL.addr (by omega)
    obtain ⟨gM, rfl⟩ := S.M.addr (by omega)
    have hl := hlen hls hli
    have hall := al i l' (by omega) hli
    have hmk : wr .u8 (wr .i64 ((i : Int) + 1)) = ((mk6 i).toNat : Int) := by
      have := mk6_val (i := i) (by omega)
      unfold u8 at this
      injection this
    (repeat first | refine HReg.step ?_ | refine HCode.step ?_)
    refine hloopC [2, 10, 62, 63, 64, 65, 66, 67, 68, 69, 70, 71, 72, 73, 74, 75, 76, 77, 78, 79, 80, 81, 82, 83, 84, 85, 86, 87, 88, 89, 90, 91, 92, 93, 94] [10] (MeInv H3 l'.length) rfl (by repeat' first | exact Resp.retD | exact Resp1.valuesK | refine Resp.blockD ?_ | refine Resp.thenD ?_ ?_ | refine Resp.hcode ?_) ?_ ?_
    · exact ⟨l'.length, MeInv.mk ⟨0, rfl, rfl, rfl⟩⟩
    rintro m2 _ fe H4 ⟨k, rfl, hmk2, hH⟩
    have hH := hH.symm
    subst hH
    have wk : wr .i64 ((k : Int) + 1) = ((k + 1 : Nat) : Int) := by rw [wr_i64 (by omega) (by omega)]; omega
    (repeat first | refine HReg.step ?_ | refine HCode.step ?_)
    refine HReq.mk ⟨by omega, by omega⟩ ?_
    (repeat first | refine HReg.step ?_ | refine HCode.step ?_)
    refine HLoad.one (v := .slice av l'.length cv) (by exact S.L.rows.get hv) ?_
    (repeat first | refine HReg.step ?_ | refine HCode.step ?_)
    refine hif (fun h2 => ?_) (fun h2 => ?_)
    · have h2 := ltB_true.1 h2
      obtain ⟨x, hx⟩ : ∃ x, l'[k]? = some x := ⟨l'[k]'(by omega), by simp⟩
      have ex := rep_all hall hx
      obtain ⟨gv, rfl⟩ := ov.addr (by omega)
      obtain ⟨ga, oa, rfl, _⟩ := rw' k _ (u8s_get hx)
      (repeat first | refine HReg.step ?_ | refine HCode.step ?_)
      refine HReq.mk ⟨by omega, by omega⟩ ?_
      (repeat first | refine HReg.step ?_ | refine HCode.step ?_)
      refine HLoad.one (v := .slice (some ⟨gv, 0, none⟩) l'.length cv) (by exact S.L.rows.get hv) ?_
      (repeat first | refine HReg.step ?_ | refine HCode.step ?_)
      refine HReq.mk ⟨by omega, by omega⟩ ?_
      (repeat first | refine HReg.step ?_ | refine HCode.step ?_)
      refine HLoad.one (by exact ov.rows.get (u8s_get hx)) ?_
      (repeat first | refine HReg.step ?_ | refine HCode.step ?_)
      rw [hmk, ex, eqB_self]
      (repeat first | refine HReg.step ?_ | refine HCode.step ?_)
      refine HReq.mk ⟨by omega, by omega⟩ ?_
      (repeat first | refine HReg.step ?_ | refine HCode.step ?_)
      refine HLoad.one (v := .slice (some ⟨ga, oa, none⟩) n c) (by exact S.M.rows.get hw) ?_
      (repeat first | refine HReg.step ?_ | refine HCode.step ?_)
      refine HReq.mk ⟨by omega, by omega⟩ ?_
      (repeat first | refine HReg.step ?_ | refine HCode.step ?_)
      refine HLoad.one (by exact rw'.get (u8s_get hx)) ?_
      (repeat first | refine HReg.step ?_ | refine HCode.step ?_)
      rw [hmk, ex, eqB_self]
      (repeat first | refine HReg.step ?_ | refine HCode.step ?_)
      rw [wk]
      exact ⟨m2 - 1, by omega, MeInv.mk ⟨k + 1, rfl, by omega, rfl⟩⟩
    · (repeat first | refine HReg.step ?_ | refine HCode.step ?_)
      rw [wi]
      exact ⟨m - 1, by omega, MeInv.mk ⟨i + 1, rfl, by omega, rfl⟩⟩
  · (repeat first | refine HReg.step ?_ | refine HCode.step ?_)
    exact hk H3 S.G.upd
end
end Go.Proofs.Ytocejipjnklieaa
