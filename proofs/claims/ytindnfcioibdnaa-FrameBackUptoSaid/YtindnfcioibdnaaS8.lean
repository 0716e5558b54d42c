import Derived.Test.YtindnfcioibdnaaS7
namespace Go.Proofs.Ytindnfcioibdnaa
open Go Hv
set_option linter.unusedVariables false
set_option maxRecDepth 10000

/-- Rows of bytes stand as they did. -/
def Keep5 (H H' : Heap) : Prop := ∀ k c f, H k = some (.cells c 5 f) → H' k = some (.cells c 5 f)
theorem Keep5.of_upd {S : List Nat} {H H' : Heap} (h : Upd S H H') (hS : ∀ b ∈ S, ∀ c f, H b ≠ some (.cells c 5 f)) : Keep5 H H' := fun k c f hk => by
  rw [h k (fun hm => hS k hm c f hk) (by rw [hk]; simp)]; exact hk
theorem Keep5.trans {H H1 H2 : Heap} (h : Keep5 H H1) (k : Keep5 H1 H2) : Keep5 H H2 := fun b c f hb => k b c f (h b c f hb)
theorem slo_keep {H H' : Heap} {v : Value} {l : List UInt8} (h : Slo H v l) (hk : Keep5 H H') : Slo H' v l := by
  obtain ⟨a, c, rfl, ho⟩ := h
  refine ⟨a, c, rfl, ⟨ho.len, ?_⟩⟩
  rcases ho.ok with h | ⟨g, cur, ha, hg, h1, h2, h3⟩
  · exact .inl h
  · exact .inr ⟨g, cur, ha, hk _ _ _ hg, h1, h2, h3⟩
theorem off22 {H : Heap} {a b : Option Addr} {n cap m cbp : Nat} {xs ys : List Value} (ha : OwnRow H 22 1 a n cap xs) (hb : OwnRow H 5 1 b m cbp ys) : Off (blk a) b ∧ Off (blk b) a := by
  have key : ∀ p q, a = some p → b = some q → p.block ≠ q.block := by
    intro p q hp hq e
    rcases ha.ok with ⟨h, _⟩ | ⟨g, cur, h, hg, _⟩
    · rw [h] at hp; cases hp
    rcases hb.ok with ⟨h', _⟩ | ⟨g', cur', h', hg', _⟩
    · rw [h'] at hq; cases hq
    rw [h] at hp; rw [h'] at hq; cases hp; cases hq
    simp only at e; subst e
    rw [hg] at hg'; cases hg'
  refine ⟨fun q hq hm => ?_, fun p hp hm => ?_⟩
  · obtain ⟨p, hp, e⟩ := blk_of hm
    exact key p q hp hq e
  · obtain ⟨q, hq, e⟩ := blk_of hm
    exact key p q hp hq e.symm
structure PcInv (ys : List UInt8) (nc : Nat) (H0 : Heap) (m : Nat) (vs : List Value) (H' : Heap) : Prop where
  ex : ∃ o q at_ i H1 hs ao no co al cl, vs = [.slice ao no co, .slice al (List.length q) cl, .int .i64 ((at_ : Nat) : Int), .int .i64 ((i : Nat) : Int)] ∧ splitA [] (ys.take at_) = some (o, q) ∧ at_ ≤ ys.length ∧ m + i = nc + 1 ∧ (i = nc + 1 → at_ = ys.length) ∧
    Upd [] H0 H1 ∧ Upd [] H0 H' ∧ Keep5 H1 H' ∧ OwnRow H' 22 1 ao no co hs ∧ All2 (Slo H1) hs o ∧ (∀ p, ao = some p → H0 p.block = none) ∧ OwnRow H' 5 1 al (List.length q) cl (u8s q) ∧ (∀ p, al = some p → H1 p.block = none)
theorem all2_plain {H : Heap} : ∀ {ls : List Value} {o : List (List UInt8)}, All2 (Slo H) ls o → ∀ v ∈ ls, Value.plain v = true
  | [], [], _, v, hv => by cases hv
  | l :: ls, x :: o, h, v, hv => by
    cases hv with
    | head => obtain ⟨a, c, rfl, _⟩ := h.1; rfl
    | tail _ hv => exact all2_plain h.2 v hv
structure PcTo (at_ n i nc : Nat) (H0 : Heap) (vs : List Value) (H' : Heap) : Prop where
  ex : ∃ to : Nat, vs = [.int .i64 (to : Int)] ∧ at_ ≤ to ∧ to ≤ n ∧ (i = nc → to = n) ∧ H' = H0

theorem framePieces_t {a0 a1 : Option Addr} {n0 c0 n1 c1 : Nat} {ys : List UInt8} {cuts : List Int} {H : Heap} (h0 : RowAt H a0 (u8s ys)) (l0 : ys.length = n0) (d0 : n0 ≤ c0) (b0 : n0 ≤ 1048576) (h1 : RowAt H a1 (i64s cuts)) (l1 : cuts.length = n1) (b1 : n1 ≤ 1048576) :
    HCalls Try.prog 6 [.slice a0 n0 c0, .slice a1 n1 c1] H (fun v H' => v = .bool true ∧ Upd [] H H') := by
  refine hcalls (fn := Try.f6) [] mixed Try.func6 rfl rfl (by decide +kernel) ?_
  (repeat first | refine HReg.step ?_ | refine HCode.step ?_)
  refine HCall.mk ⟨Try.f8, Try.func8, by rfl, by rfl⟩ ?_
  refine alive_t fun H1 u1 => ?_
  (repeat first | refine HReg.step ?_ | refine HCode.step ?_)
  refine HCall.mk ⟨Try.f10, Try.func10, by rfl, by rfl⟩ ?_
  refine own_t (h0.upd u1 (.inr (Off.nil _))) l0 (by omega) fun a2 k2 H2 m2 => ?_
  have u2 := u1.trans m2.upd
  (repeat first | refine HReg.step ?_ | refine HCode.step ?_)
  refine HCall.mk ⟨Try.f12, Try.func12, by rfl, by rfl⟩ ?_
  refine (split_t m2.own.rows l0 m2.own.le (by omega)).mono fun v3 H3 p3 => ?_
  obtain ⟨u3', p3⟩ := p3
  have u3 := u2.trans u3'
  obtain ⟨ao, no, co, ar, nr, cr, e, rfl, hcase⟩ : ∃ ao no co ar nr cr, ∃ e : Int, v3 = .tuple #[.slice ao no co, .slice ar nr cr, .int .i64 e] ∧ ((splitA [] ys = none ∧ e = 3) ∨
      ∃ out rest ls, splitA [] ys = some (out, rest) ∧ e = 0 ∧ nr = List.length rest ∧ OwnRow H3 22 1 ao no co ls ∧ All2 (Slo H3) ls out ∧ OwnRow H3 5 1 ar nr cr (u8s rest) ∧ no ≤ 1073741824) := by
    cases hs : splitA [] ys with
    | none => rw [hs] at p3; exact ⟨_, _, _, _, _, _, _, p3, .inl ⟨rfl, rfl⟩⟩
    | some r =>
      obtain ⟨out, rest⟩ := r
      rw [hs] at p3
      obtain ⟨ao, no, co, ar, cr, ls, hv, ho, hl, hr, hno⟩ := p3.now
      exact ⟨_, _, _, _, _, _, _, hv, .inr ⟨out, rest, ls, rfl, rfl, rfl, ho, hl, hr, hno⟩⟩
  (repeat first | refine HReg.step ?_ | refine HCode.step ?_)
  refine hloopC [4, 9, 10, 11, 12, 13, 14, 15, 16, 27, 28, 29, 30, 31, 32, 33, 34, 35, 36, 37, 38, 39, 40, 41, 42, 43, 44, 45, 46, 47, 48, 49, 50, 51, 52, 53, 54, 55, 56, 57, 58, 59, 60, 61, 62, 63, 64, 65, 66, 67, 68, 69, 70, 71, 72, 73, 74, 75, 76, 77] [9, 10, 11, 12]
    (PcInv ys n1 H3) rfl (by repeat' first | exact Resp.retD | exact Resp1.valuesK | refine Resp.blockD ?_ | refine Resp.thenD ?_ ?_ | refine Resp.hcode ?_) ?_ ?_
  · refine Exists.intro (n1 + 1) ?_
    refine PcInv.mk ⟨[], [], 0, 0, H3, [], none, 0, 0, none, 0, rfl, rfl, by omega, rfl, fun h => absurd h (by omega), Upd.refl _ _, Upd.refl _ _, fun _ _ _ h => h, OwnRow.nil _ _ _, trivial, fun p hp => (by cases hp), OwnRow.nil _ _ _, fun p hp => (by cases hp)⟩
  · rintro m vs f H' ⟨o, q, at_, i, H5, hs5, ao5, no5, co5, al, cl, rfl, hsp, hat, hmi, hfin, u5, u5', k5, ho5, hl5, hf5, hq5, hn5⟩
    (repeat first | refine HReg.step ?_ | refine HCode.step ?_)
    refine hif (fun h => ?_) (fun h => ?_)
    · have h := not_ltB_true.1 h
      refine HCode.step ?_
      refine HCode.step ?_
      refine HCode.step ?_
      refine HCode.step ?_
      refine HCode.step ?_
      repeat refine HReg.step ?_
      refine hcutC [13, 35, 36, 37, 38, 39, 40, 41, 42, 43, 44, 45, 46, 47, 48, 49, 50, 51, 52, 53] [13] (PcTo at_ n0 i n1 H') rfl (by repeat' first | exact Resp.retD | exact Resp1.valuesK | refine Resp.blockD ?_ | refine Resp.thenD ?_ ?_ | refine Resp.hcode ?_) ?_ ?_
      · (repeat first | refine HReg.step ?_ | refine HCode.step ?_)
        refine hif (fun h2 => ?_) (fun h2 => ?_)
        · have h2 := ltB_true.1 h2
          obtain ⟨z, gz⟩ := ex_get (l := cuts) (i := i) (by omega)
          obtain ⟨bc, oc, rfl, hcc⟩ := (h1.upd (u3.trans u5') (.inr (Off.nil _))) i _ (i64s_get gz)
          have hd1 : wr .i64 ((n0 : Int) - (at_ : Int)) = ((n0 - at_ : Nat) : Int) := by rw [wr_i64 (by omega) (by omega)]; omega
          have hd2 : wr .i64 (((n0 - at_ : Nat) : Int) + 1) = ((n0 - at_ + 1 : Nat) : Int) := by rw [wr_i64 (by omega) (by omega)]; omega
          have hd3 : wr .u64 ((n0 - at_ + 1 : Nat) : Int) = ((n0 - at_ + 1 : Nat) : Int) := by rw [wr_u64]; omega
          have hz : ∃ k : Nat, wr .u64 z = (k : Int) := by rw [wr_u64]; exact ⟨(z % 18446744073709551616).toNat, by omega⟩
          obtain ⟨k, hz⟩ := hz
          have hlt : k % (n0 - at_ + 1) < n0 - at_ + 1 := Nat.mod_lt _ (by omega)
          generalize hj : k % (n0 - at_ + 1) = j at hlt
          have hm : (wr .u64 z).tmod (wr .u64 (wr .i64 (wr .i64 ((n0 : Int) - (at_ : Int)) + 1))) = (j : Int) := by
            rw [hd1, hd2, hd3, hz, ← hj]; rfl
          have hw : wr .i64 ((at_ : Int) + wr .i64 (j : Int)) = ((at_ + j : Nat) : Int) := by rw [wr_i64n j (by omega), wr_i64 (by omega) (by omega)]; omega
          (repeat first | refine HReg.step ?_ | refine HCode.step ?_)
          refine HReq.mk ⟨by omega, by omega⟩ ?_
          (repeat first | refine HReg.step ?_ | refine HCode.step ?_)
          refine HLoad.one (v := .int .i64 z) (by exact hcc) ?_
          (repeat first | refine HReg.step ?_ | refine HCode.step ?_)
          refine HReq.mk (by rw [hd1, hd2, hd3]; omega) ?_
          (repeat first | refine HReg.step ?_ | refine HCode.step ?_)
          rw [hm, hw]
          exact PcTo.mk ⟨at_ + j, rfl, by omega, by omega, fun h => absurd h (by omega), rfl⟩
        · have h2 := ltB_false.1 h2
          (repeat first | refine HReg.step ?_ | refine HCode.step ?_)
          exact PcTo.mk ⟨n0, rfl, by omega, by omega, fun _ => rfl, rfl⟩
      · rintro vs f2 H6 ⟨to, rfl, t1, t2, t3, e6⟩
        cases e6
        (repeat first | refine HReg.step ?_ | refine HCode.step ?_)
        refine HReq.mk ⟨by omega, by omega⟩ ?_
        (repeat first | refine HReg.step ?_ | refine HCode.step ?_)
        refine HReq.mk ⟨by omega, by omega⟩ ?_
        (repeat first | refine HReg.step ?_ | refine HCode.step ?_)
        generalize hpc : (ys.drop at_).take (to - at_) = piece
        have lpc : piece.length = to - at_ := by rw [← hpc, List.length_take, List.length_drop]; omega
        have htk : ys.take at_ ++ piece = ys.take to := by
          rw [← hpc]
          have : to = at_ + (to - at_) := by omega
          rw [this, List.take_add]; congr 2; omega
        have hrow := ((h0.upd (u3.trans u5') (.inr (Off.nil _))).sl (l := at_) (cap := c0) (size := 1) (by rw [u8s_length]; omega)).take (to - at_)
        rw [Nat.mul_one, ← u8s_drop, ← u8s_take, hpc] at hrow
        have hcnt := splitA_count hsp
        rw [List.length_take] at hcnt
        simp only [List.length_nil] at hcnt
        refine append_rows (ie := Try.t5) (z := .int .u8 0) (xs := u8s q) (ys := u8s piece) Try.underlying22 rfl rfl rfl (by decide) hq5 hrow ?_ (plain_u8s _) ?_ ?_ ?_
        · rw [u8s_length, lpc]; exact (Nat.mul_one _).symm
        · show (q.length + (to - at_)) * 1 ≤ _; omega
        · show q.length + (to - at_) ≤ _; omega
        · intro a7 cap7 H7 o7 u7 f7
          rw [← u8s_append] at o7
          have k7 : Keep5 H5 H7 := fun b c f hb => by
            have h' := k5 b c f hb
            rw [u7 b (fun hm => by obtain ⟨p, hp, e⟩ := blk_of hm; rw [← e, hn5 p hp] at hb; cases hb) (by rw [h']; simp)]
            exact h'
          have u37 : Upd [] H3 H7 := Upd.drop u5' u7 fun b hb => by
            obtain ⟨p, hp, rfl⟩ := blk_of hb
            exact Upd.none (S := []) u5 (by simp) (hn5 p hp)
          have ho7 : OwnRow H7 22 1 ao5 no5 co5 hs5 := ho5.upd u7 (off22 ho5 hq5).2
          have hto : splitA [] (ys.take to) = (splitA [] (q ++ piece)).map fun x => (o ++ x.1, x.2) := by
            rw [← htk, splitA_some hsp, splitA_pre]
          have ll5 := ho5.len
          have le5 := hl5.length
          (repeat first | refine HReg.step ?_ | refine HCode.step ?_)
          refine HCall.mk ⟨Try.f12, Try.func12, by rfl, by rfl⟩ ?_
          refine (split_t (ys := q ++ piece) o7.rows (by rw [List.length_append, lpc]; rfl) o7.le (by show q.length + (to - at_) ≤ _; omega)).mono fun v8 H8 p8 => ?_
          obtain ⟨u8', p8⟩ := p8
          cases h8 : splitA [] (q ++ piece) with
          | none =>
            rw [h8] at p8
            subst p8
            have hno : splitA [] ys = none := by
              rw [h8] at hto
              rw [← List.take_append_drop to ys]
              exact splitA_none hto _
            have he : e = 3 := by
              rcases hcase with ⟨_, h⟩ | ⟨_, _, _, h, _⟩
              · exact h
              · rw [hno] at h; cases h
            (repeat first | refine HReg.step ?_ | refine HCode.step ?_)
            refine hif (fun _ => ?_) (fun h => absurd (not_eqB_false.1 h) (by decide))
            (repeat first | refine HReg.step ?_ | refine HCode.step ?_)
            refine hif (fun _ => ?_) (fun h => absurd h (by simp [eqB_false]))
            (repeat first | refine HReg.step ?_ | refine HCode.step ?_)
            exact ⟨congrArg Value.bool (eqB_true.2 he), u3.trans (u37.trans u8')⟩
          | some r8 =>
            obtain ⟨o8, q8⟩ := r8
            rw [h8] at p8 hto
            have hcnt8 := splitA_count h8
            rw [List.length_append, lpc] at hcnt8
            simp only [List.length_nil] at hcnt8
            obtain ⟨H9, a9, n9, c9, ar8, cr8, ls8, rfl, u9, ho9, hl9, hm9, hf9, hn9⟩ := p8
            have ll9 := ho9.len
            have le9 := hl9.length
            have ho8 : OwnRow H8 22 1 ao5 no5 co5 hs5 := ho7.upd (u9.trans hm9.upd) (Off.nil _)
            (repeat first | refine HReg.step ?_ | refine HCode.step ?_)
            refine hif (fun h => absurd rfl (not_eqB_true.1 h)) (fun _ => ?_)
            (repeat first | refine HReg.step ?_ | refine HCode.step ?_)
            refine append_rows (ie := Try.t22) (z := .slice none 0 0) (xs := hs5) (ys := ls8) Try.underlying28 rfl rfl rfl (by decide) ho8 (ho9.upd hm9.upd (Off.nil _)).rows ll9 (all2_plain hl9) ?_ ?_ ?_
            · show (no5 + n9) * 24 ≤ _; omega
            · omega
            · intro a10 cap10 H10 o10 u10 f10
              (repeat first | refine HReg.step ?_ | refine HCode.step ?_)
              refine Exists.intro (m - 1) ?_
              refine And.intro (by omega) ?_
              have hw : wr .i64 ((i : Int) + 1) = ((i + 1 : Nat) : Int) := by rw [wr_i64 (by omega) (by omega)]; omega
              rw [hw]
              refine PcInv.mk ⟨o ++ o8, q8, to, i + 1, H9, hs5 ++ ls8, a10, no5 + n9, cap10, ar8, cr8, rfl, hto, by omega, by omega, fun h => by rw [t3 (by omega), l0], u37.trans u9, ?_, ?_, ?_, ?_, ?_, ?_, hm9.new⟩
              · exact Upd.drop (u37.trans (u9.trans hm9.upd)) u10 fun b hb => by
                  obtain ⟨p, hp, rfl⟩ := blk_of hb
                  exact hf5 p hp
              · exact (Keep5.of_upd hm9.upd (by simp)).trans (Keep5.of_upd u10 (row22 ho8))
              · exact o10
              · exact (hl5.mono fun x y h => slo_keep h (k7.trans (Keep5.of_upd u9 (by simp)))).append hl9
              · intro p hp
                rcases f10 p hp with h | h
                · exact hf5 p h
                · exact Upd.none (S := []) (u37.trans (u9.trans hm9.upd)) (by simp) h
              · exact hm9.own.upd u10 (off22 ho8 hm9.own).1
    · have h := not_ltB_false.1 h
      have hi : i = n1 + 1 := by omega
      have hat' := hfin hi
      rw [hat', List.take_length] at hsp
      rcases hcase with ⟨hs, _⟩ | ⟨out, rest, ls, hs, rfl, rfl, ho, hl, hr, hno⟩
      · rw [hs] at hsp; cases hsp
      rw [hs] at hsp
      cases hsp
      (repeat first | refine HReg.step ?_ | refine HCode.step ?_)
      refine hif (fun _ => ?_) (fun h => absurd h (by simp [eqB_false]))
      (repeat first | refine HReg.step ?_ | refine HCode.step ?_)
      refine HCall.mk ⟨Try.f15, Try.func15, by rfl, by rfl⟩ ?_
      have ll := ho5.len
      have le1 := hl5.length
      have ll3 := ho.len
      have le3 := hl.length
      refine sameLists_t (xs := o) (ys := o) ho5.rows (by omega) (hl5.mono fun x y h => (slo_keep h k5).slr) (ho.rows.upd u5' (.inr (Off.nil _))) (by omega) (hl.mono fun x y h => (h.upd u5' (by simp)).slr) ?_ ?_
      · omega
      rw [decide_eq_true rfl]
      (repeat first | refine HReg.step ?_ | refine HCode.step ?_)
      refine HCall.mk ⟨Try.f14, Try.func14, by rfl, by rfl⟩ ?_
      refine same_eq (x := q) (y := q) hq5.rows rfl (hr.rows.upd u5' (.inr (Off.nil _))) rfl rfl ?_
      (repeat first | refine HReg.step ?_ | refine HCode.step ?_)
      exact ⟨rfl, u3.trans u5'⟩
end Go.Proofs.Ytindnfcioibdnaa
