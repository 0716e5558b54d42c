import Derived.Test.YtindnfcioibdnaaS12
namespace Go.Proofs.Ytindnfcioibdnaa
open Go Hv
set_option linter.unusedVariables false
set_option maxRecDepth 10000
structure Fb2Inv (o : List (List UInt8)) (H0 : Heap) (m : Nat) (vs : List Value) (H' : Heap) : Prop where
  ex : ∃ (i : Nat) (aa : Option Addr) (ca : Nat), vs = [.slice aa (frames (o.take i)).length ca, .int .i64 (i : Int)] ∧ m + i = o.length ∧ i ≤ o.length ∧ OwnRow H' 5 1 aa (frames (o.take i)).length ca (u8s (frames (o.take i))) ∧
    Upd [] H0 H' ∧ (∀ p, aa = some p → H0 p.block = none)
theorem frameBack_t {a0 a1 : Option Addr} {n0 c0 n1 c1 : Nat} {vs0 : List Value} {ls : List (List UInt8)} {ys : List UInt8} {H : Heap} (h0 : RowAt H a0 vs0) (l0 : vs0.length = n0) (hl : All2 (Slr H) vs0 ls) (b0 : (ls.map List.length).sum + n0 ≤ 1048576) (h1 : RowAt H a1 (u8s ys)) (l1 : ys.length = n1) (d1 : n1 ≤ c1) (b1 : n1 ≤ 1048576) :
    HCalls Try.prog 5 [.slice a0 n0 c0, .slice a1 n1 c1] H (fun v H' => v = .bool true ∧ Upd [] H H') := by
  have ll := hl.length
  refine hcalls (fn := Try.f5) [] mixed Try.func5 rfl rfl (by decide +kernel) ?_
  (repeat first | refine HReg.step ?_ | refine HCode.step ?_)
  refine HCall.mk ⟨Try.f8, Try.func8, by rfl, by rfl⟩ ?_
  refine alive_t fun H1 u1 => ?_
  (repeat first | refine HReg.step ?_ | refine HCode.step ?_)
  refine hloopC [4, 6, 7, 8, 9, 10, 21, 22, 23, 24, 25, 26, 27, 28, 29, 30, 31, 32, 33, 34, 35, 36, 37, 38, 39, 40, 41, 42, 43, 44, 45, 46, 47, 48, 49, 50, 51, 52, 53, 54, 55, 56, 57, 58, 59, 60, 61, 62, 63, 64, 65, 66, 67, 68, 69, 70, 71] [6, 7, 8]
    (FbInv vs0 ls H1) rfl (by repeat' first | exact Resp.retD | exact Resp1.valuesK | refine Resp.blockD ?_ | refine Resp.thenD ?_ ?_ | refine Resp.hcode ?_) ?_ ?_
  · refine Exists.intro n0 ?_
    refine FbInv.mk ⟨0, none, 0, none, 0, rfl, by omega, by omega, OwnRow.nil _ _ _, OwnRow.nil _ _ _, Upd.refl _ _, fun p hp => (by cases hp), fun p hp => (by cases hp)⟩
  · rintro m vs f H' ⟨i, aa, ca, aw, cw, rfl, hmi, hi, oa, ow, u2, fa, fw⟩
    (repeat first | refine HReg.step ?_ | refine HCode.step ?_)
    refine hif (fun h => ?_) (fun h => ?_)
    · have h := ltB_true.1 h
      obtain ⟨b, gb⟩ := ex_get (l := ls) (i := i) (by omega)
      obtain ⟨v, gv, ab, cb, rfl, rb⟩ := hl.get gb
      have hbl := sum_get_le ls i b gb
      have rows' := h0.upd (u1.trans u2) (.inr (Off.nil _))
      have rb' := rb.upd (u1.trans u2) (.inr (Off.nil _))
      obtain ⟨g, o, rfl, hc⟩ := rows' i _ gv
      (repeat first | refine HReg.step ?_ | refine HCode.step ?_)
      refine HReq.mk ⟨by omega, by omega⟩ ?_
      (repeat first | refine HReg.step ?_ | refine HCode.step ?_)
      refine HLoad.one (v := .slice ab b.length cb) (by exact hc) ?_
      (repeat first | refine HReg.step ?_ | refine HCode.step ?_)
      refine HCall.mk ⟨Try.f10, Try.func10, by rfl, by rfl⟩ ?_
      refine own_t rb' rfl (by omega) fun a3 c3 H3 m3 => ?_
      (repeat first | refine HReg.step ?_ | refine HCode.step ?_)
      refine HCall.mk ⟨Try.f9, Try.func9, by rfl, by rfl⟩ ?_
      refine build_t m3.own.rows rfl (by omega) (fun h => absurd h (by omega)) fun _ a4 c4 H4 m4 => ?_
      have u24 := m3.upd.trans m4.upd
      have rows4 := rows'.upd u24 (.inr (Off.nil _))
      obtain ⟨_, _, e4, hc4⟩ := rows4 i _ gv
      cases e4
      (repeat first | refine HReg.step ?_ | refine HCode.step ?_)
      refine HReq.mk ⟨by omega, by omega⟩ ?_
      (repeat first | refine HReg.step ?_ | refine HCode.step ?_)
      refine HLoad.one (v := .slice ab b.length cb) (by exact hc4) ?_
      (repeat first | refine HReg.step ?_ | refine HCode.step ?_)
      refine hif (fun h => absurd (ltB_true.1 h) (by omega)) (fun _ => ?_)
      (repeat first | refine HReg.step ?_ | refine HCode.step ?_)
      refine hif (fun h => absurd rfl (not_eqB_true.1 h)) (fun _ => ?_)
      (repeat first | refine HReg.step ?_ | refine HCode.step ?_)
      refine HReq.mk ⟨by omega, by omega⟩ ?_
      (repeat first | refine HReg.step ?_ | refine HCode.step ?_)
      refine HLoad.one (v := .slice ab b.length cb) (by exact hc4) ?_
      (repeat first | refine HReg.step ?_ | refine HCode.step ?_)
      have hw4 : wr .i64 ((b.length : Int) + 4) = ((4 + b.length : Nat) : Int) := by rw [wr_i64 (by omega) (by omega)]; omega
      refine hif (fun h => absurd hw4.symm (not_eqB_true.1 h)) (fun _ => ?_)
      (repeat first | refine HReg.step ?_ | refine HCode.step ?_)
      have lfr := frames_length (ls.take i)
      have lsum := sum_take_le ls i
      rw [List.length_take] at lfr
      have lb4 : (hd b.length ++ b).length = 4 + b.length := by rw [List.length_append]; rfl
      have oa4 := oa.upd u24 (Off.nil _)
      have ow4 := ow.upd u24 (Off.nil _)
      refine append_own oa4 m4.own.rows lb4 (by omega) fun a5 c5 H5 o5 u5 f5 => ?_
      have u15 : Upd [] H1 H5 := Upd.drop (u2.trans u24) u5 fun k hk => by
        obtain ⟨p, hp, rfl⟩ := blk_of hk
        exact fa p hp
      have ow5 := ow4.upd u5 (off22 ow4 oa4).2
      (repeat first | refine HReg.step ?_ | refine HCode.step ?_)
      obtain ⟨_, _, e5, hc5⟩ := (h0.upd (u1.trans u15) (.inr (Off.nil _))) i _ gv
      cases e5
      refine HReq.mk ⟨by omega, by omega⟩ ?_
      (repeat first | refine HReg.step ?_ | refine HCode.step ?_)
      refine HLoad.one (v := .slice ab b.length cb) (by exact hc5) ?_
      (repeat first | refine HReg.step ?_ | refine HCode.step ?_)
      refine HReq.mk (by decide) ?_
      (repeat first | refine HReg.step ?_ | refine HCode.step ?_)
      refine HNew.mk fun b6 hb6 => ?_
      (repeat first | refine HReg.step ?_ | refine HCode.step ?_)
      have u6 : Upd [] H5 (H5.upd b6 (.cells [Value.slice ab b.length cb].toArray 22)) := Upd.new hb6 _
      refine append_rows (ie := Try.t22) (z := .slice none 0 0) (xs := vs0.take i) (ys := [.slice ab b.length cb]) Try.underlying28 rfl rfl rfl (by decide) (ow5.upd u6 (Off.nil _)) (RowAt.of_cells (upd_same _ _ _)) rfl ?_ ?_ ?_ ?_
      · intro u hu'; rw [List.mem_singleton.1 hu']; rfl
      · show (i + 1) * 24 ≤ _; omega
      · omega
      · intro a7 c7 H7 o7 u7 f7
        (repeat first | refine HReg.step ?_ | refine HCode.step ?_)
        have hw : wr .i64 ((i : Int) + 1) = ((i + 1 : Nat) : Int) := by rw [wr_i64 (by omega) (by omega)]; omega
        rw [hw]
        refine Exists.intro (m - 1) ?_
        refine And.intro (by omega) ?_
        have et : ls.take (i + 1) = ls.take i ++ [b] := by rw [List.take_add_one, gb]; rfl
        have ev : vs0.take (i + 1) = vs0.take i ++ [Value.slice ab b.length cb] := by rw [List.take_add_one, gv]; rfl
        have ef : frames (ls.take (i + 1)) = frames (ls.take i) ++ (hd b.length ++ b) := by rw [et, frames_append]; simp [frames]
        have el : (frames (ls.take i)).length + (4 + b.length) = (frames (ls.take (i + 1))).length := by rw [ef, List.length_append, lb4]
        have o5' := o5.upd (u6) (Off.nil _)
        rw [el] at o5' ⊢
        rw [← ef] at o5'
        rw [← ev] at o7
        have ow6 := ow5.upd u6 (Off.nil _)
        refine FbInv.mk ⟨i + 1, a5, c5, a7, c7, rfl, by omega, by omega, o5'.upd u7 (off22 ow6 o5').1, o7, ?_, ?_, ?_⟩
        · exact Upd.drop (u15.trans u6) u7 fun k hk => by
            obtain ⟨p, hp, rfl⟩ := blk_of hk
            exact fw p hp
        · intro p hp
          rcases f5 p hp with h | h
          · exact fa p h
          · exact Upd.none (S := []) (u2.trans u24) (by simp) h
        · intro p hp
          rcases f7 p hp with h | h
          · exact fw p h
          · exact Upd.none (S := []) (u15.trans u6) (by simp) h
    · have h := ltB_false.1 h
      have hin : i = ls.length := by omega
      subst hin
      rw [List.take_length] at oa
      have evs : vs0.take ls.length = vs0 := by rw [← ll, List.take_length]
      rw [evs] at ow
      have lfr := frames_length ls
      (repeat first | refine HReg.step ?_ | refine HCode.step ?_)
      rw [List.take_length]
      refine HCall.mk ⟨Try.f10, Try.func10, by rfl, by rfl⟩ ?_
      refine own_t oa.rows rfl (by omega) fun a3 c3 H3 m3 => ?_
      (repeat first | refine HReg.step ?_ | refine HCode.step ?_)
      refine HCall.mk ⟨Try.f12, Try.func12, by rfl, by rfl⟩ ?_
      refine (split_t m3.own.rows rfl m3.own.le (by omega)).mono fun v4 H4 p4 => ?_
      obtain ⟨u4, p4⟩ := p4
      have hs4 : splitA [] (frames ls) = some (ls, []) := splitA_frames ls [] fun b hb => by
        obtain ⟨j, hj⟩ := List.getElem?_of_mem hb
        have := sum_get_le ls j b hj
        omega
      rw [hs4] at p4
      obtain ⟨ao, no, co, ar, cr, ks, rfl, ho, hlo, hr, hno⟩ := p4.now
      have u14 : Upd [] H1 H4 := u2.trans (m3.upd.trans u4)
      (repeat first | refine HReg.step ?_ | refine HCode.step ?_)
      refine hif (fun h => absurd rfl (not_eqB_true.1 h)) (fun _ => ?_)
      (repeat first | refine HReg.step ?_ | refine HCode.step ?_)
      refine HCall.mk ⟨Try.f15, Try.func15, by rfl, by rfl⟩ ?_
      have lo := ho.len
      have lo2 := hlo.length
      refine sameLists_t (xs := ls) (ys := ls) ho.rows (by omega) (hlo.mono fun x y h => h.slr) (ow.rows.upd (m3.upd.trans u4) (.inr (Off.nil _))) ll (hl.mono fun x y h => slr_upd (S := []) h (u1.trans u14)) (by omega) ?_
      rw [decide_eq_true rfl]
      (repeat first | refine HReg.step ?_ | refine HCode.step ?_)
      refine hif (fun h => absurd (ltB_true.1 h) (by decide)) (fun _ => ?_)
      (repeat first | refine HReg.step ?_ | refine HCode.step ?_)
      have r5 := h1.upd (u1.trans u14) (.inr (Off.nil _))
      refine HCall.mk ⟨Try.f10, Try.func10, by rfl, by rfl⟩ ?_
      refine own_t r5 l1 (by omega) fun a5 c5 H5 m5 => ?_
      (repeat first | refine HReg.step ?_ | refine HCode.step ?_)
      refine HCall.mk ⟨Try.f12, Try.func12, by rfl, by rfl⟩ ?_
      refine (split_t m5.own.rows l1 m5.own.le (by omega)).mono fun v6 H6 p6 => ?_
      obtain ⟨u6, p6⟩ := p6
      have u16 : Upd [] H1 H6 := u14.trans (m5.upd.trans u6)
      cases hs6 : splitA [] ys with
      | none =>
        rw [hs6] at p6
        subst p6
        (repeat first | refine HReg.step ?_ | refine HCode.step ?_)
        refine hif (fun _ => ?_) (fun h => absurd (not_eqB_false.1 h) (by decide))
        (repeat first | refine HReg.step ?_ | refine HCode.step ?_)
        refine hif (fun _ => ?_) (fun h => absurd h (by simp [eqB_false]))
        (repeat first | refine HReg.step ?_ | refine HCode.step ?_)
        refine hif (fun _ => ?_) (fun h => absurd h (by simp [eqB_false]))
        (repeat first | refine HReg.step ?_ | refine HCode.step ?_)
        exact ⟨congrArg Value.bool (eqB_true.2 rfl), u1.trans u16⟩
      | some r =>
        obtain ⟨o, q⟩ := r
        rw [hs6] at p6
        obtain ⟨bs, hbs, hfr, hsm⟩ := splitA_back _ _ _ _ _ (Nat.le_refl _) hs6
        rw [List.nil_append] at hbs
        subst hbs
        obtain ⟨a7, n7, c7, a8, c8, ws, rfl, ho7, hl7, hr7, hn7⟩ := p6.now
        have l7 := ho7.len
        have l7' := hl7.length
        have lfr7 := frames_length o
        (repeat first | refine HReg.step ?_ | refine HCode.step ?_)
        refine hif (fun h => absurd rfl (not_eqB_true.1 h)) (fun _ => ?_)
        (repeat first | refine HReg.step ?_ | refine HCode.step ?_)
        refine hloopC [4, 14, 15, 16, 17, 113, 114, 115, 116, 117, 118, 119, 120, 121, 122, 123, 124, 125, 126, 127, 128, 129, 130, 131] [14, 15]
          (Fb2Inv o H6) rfl (by repeat' first | exact Resp.retD | exact Resp1.valuesK | refine Resp.blockD ?_ | refine Resp.thenD ?_ ?_ | refine Resp.hcode ?_) ?_ ?_
        · refine Exists.intro n7 ?_
          refine Fb2Inv.mk ⟨0, none, 0, rfl, by omega, by omega, OwnRow.nil _ _ _, Upd.refl _ _, fun p hp => (by cases hp)⟩
        · rintro m2 vs2 f2 H8 ⟨j, ag, cg, rfl, hmj, hj, og, u8, fg⟩
          (repeat first | refine HReg.step ?_ | refine HCode.step ?_)
          refine hif (fun h => ?_) (fun h => ?_)
          · have h := ltB_true.1 h
            obtain ⟨b, gb⟩ := ex_get (l := o) (i := j) (by omega)
            obtain ⟨v, gv, ab, cb, rfl, ob⟩ := hl7.get gb
            have hbl := sum_get_le o j b gb
            have rows8 := ho7.rows.upd u8 (.inr (Off.nil _))
            obtain ⟨g, off, e8, hc⟩ := rows8 j _ gv
            subst e8
            have hfl : (frames o).length + q.length = ys.length := by rw [← List.length_append, hfr]
            (repeat first | refine HReg.step ?_ | refine HCode.step ?_)
            refine HReq.mk ⟨by omega, by omega⟩ ?_
            (repeat first | refine HReg.step ?_ | refine HCode.step ?_)
            refine HLoad.one (v := .slice ab b.length cb) (by exact hc) ?_
            (repeat first | refine HReg.step ?_ | refine HCode.step ?_)
            refine HCall.mk ⟨Try.f9, Try.func9, by rfl, by rfl⟩ ?_
            refine build_t (ob.rows.upd u8 (.inr (Off.nil _))) rfl (by omega) (fun h => absurd h (by omega)) fun _ a9 c9 H9 m9 => ?_
            (repeat first | refine HReg.step ?_ | refine HCode.step ?_)
            refine hif (fun h => absurd rfl (not_eqB_true.1 h)) (fun _ => ?_)
            (repeat first | refine HReg.step ?_ | refine HCode.step ?_)
            have lfr := frames_length (o.take j)
            have lsum := sum_take_le o j
            rw [List.length_take] at lfr
            have lb4 : (hd b.length ++ b).length = 4 + b.length := by rw [List.length_append]; rfl
            refine append_own (og.upd m9.upd (Off.nil _)) m9.own.rows lb4 (by omega) fun a10 c10 H10 o10 u10 f10 => ?_
            (repeat first | refine HReg.step ?_ | refine HCode.step ?_)
            have hw : wr .i64 ((j : Int) + 1) = ((j + 1 : Nat) : Int) := by rw [wr_i64 (by omega) (by omega)]; omega
            rw [hw]
            refine Exists.intro (m2 - 1) ?_
            refine And.intro (by omega) ?_
            have et : o.take (j + 1) = o.take j ++ [b] := by rw [List.take_add_one, gb]; rfl
            have ef : frames (o.take (j + 1)) = frames (o.take j) ++ (hd b.length ++ b) := by rw [et, frames_append]; simp [frames]
            have el : (frames (o.take j)).length + (4 + b.length) = (frames (o.take (j + 1))).length := by rw [ef, List.length_append, lb4]
            rw [el] at o10 ⊢
            rw [← ef] at o10
            refine Fb2Inv.mk ⟨j + 1, a10, c10, rfl, by omega, by omega, o10, ?_, ?_⟩
            · exact Upd.drop (u8.trans m9.upd) u10 fun k hk => by
                obtain ⟨p, hp, rfl⟩ := blk_of hk
                exact fg p hp
            · intro p hp
              rcases f10 p hp with h | h
              · exact fg p h
              · exact Upd.none (S := []) (u8.trans m9.upd) (by simp) h
          · have h := ltB_false.1 h
            have hjo : j = o.length := by omega
            subst hjo
            rw [List.take_length] at og
            (repeat first | refine HReg.step ?_ | refine HCode.step ?_)
            rw [List.take_length]
            have hfl : (frames o).length + q.length = ys.length := by rw [← List.length_append, hfr]
            refine append_own og (hr7.rows.upd u8 (.inr (Off.nil _))) rfl (by omega) fun a9 c9 H9 o9 u9 f9 => ?_
            have u19 : Upd [] H6 H9 := Upd.drop u8 u9 fun k hk => by
              obtain ⟨p, hp, rfl⟩ := blk_of hk
              exact fg p hp
            rw [hfr] at o9
            (repeat first | refine HReg.step ?_ | refine HCode.step ?_)
            refine HCall.mk ⟨Try.f14, Try.func14, by rfl, by rfl⟩ ?_
            refine same_eq (x := ys) (y := ys) o9.rows hfl.symm (h1.upd (u1.trans (u16.trans u19)) (.inr (Off.nil _))) l1 rfl ?_
            (repeat first | refine HReg.step ?_ | refine HCode.step ?_)
            exact ⟨rfl, u1.trans (u16.trans u19)⟩
end Go.Proofs.Ytindnfcioibdnaa
