import Derived.Test.YtlgncabjphokjaaGreatB1
namespace Go.Proofs.YtlgncabjphokjaaGreat
open Go Hv
set_option linter.unusedVariables false
set_option linter.unusedSimpArgs false
set_option maxRecDepth 10000
set_option maxHeartbeats 1000000
/-! Counts and texts of the document's reader -/
section
variable {H0 H : Heap} {g : Nat} {S : List Nat} {r : R} {K : Value → Heap → Prop}
theorem r0 {r : R} (h : r.err = 0) : r = ⟨r.rest, 0⟩ := by cases r; cases h; rfl
theorem dcount_t {most : Int} (d : UAt H0 H g S r) (hm : most ≤ 9223372036854775807)
    (hk : ∀ H', UAt H0 H' g S (r.count most).2 → Upd [g] H H' → K (.int .i64 ((r.count most).1 : Int)) H') : HCalls Tryz.prog 28 [.pointer (some ⟨g, 0, none⟩), .int .i64 most] H K := by
  refine hcalls (fn := Tryz.f28) [] mixed Tryz.func28 rfl rfl (by decide +kernel) ?_
  rw [count_bnd] at hk
  obtain ⟨a, c, rfl, o, w, hc, hl⟩ := d.ex
  have hlim := d.lim
  (repeat first | refine HReg.step ?_ | refine HCode.step ?_)
  refine HLoad.one (v := .int .i64 r.err) (by exact o.rows.get (i := 1) rfl) ?_
  (repeat first | refine HReg.step ?_ | refine HCode.step ?_)
  refine hif (fun h1 => ?_) (fun h1 => ?_)
  · have h1 := not_eqB_true.1 h1
    have e : r.bnd most = (none, r) := by unfold R.bnd; rw [if_pos h1]
    rw [e] at hk
    (repeat first | refine HReg.step ?_ | refine HCode.step ?_)
    exact hk H d (Upd.refl _ _)
  have h1 := not_eqB_false.1 h1
  (repeat first | refine HReg.step ?_ | refine HCode.step ?_)
  refine HLoad.one (v := .slice a r.rest.length c) (by exact o.rows.get (i := 0) rfl) ?_
  (repeat first | refine HReg.step ?_ | refine HCode.step ?_)
  refine HCall.mk ⟨Tryz.f47, Tryz.func47, by rfl, by rfl⟩ ?_
  rw [r0 h1] at hk
  refine dcount0_t w rfl hlim hm (fun k e => ?_) fun e he h34 hb => ?_
  · rw [e] at hk
    obtain ⟨_, _, h2, _, _⟩ := bnd_some e
    have h2 : 4 ≤ r.rest.length := h2
    (repeat first | refine HReg.step ?_ | refine HCode.step ?_)
    refine hif (fun h => absurd rfl (not_eqB_true.1 h)) (fun _ => ?_)
    (repeat first | refine HReg.step ?_ | refine HCode.step ?_)
    refine HLoad.one (v := .slice a r.rest.length c) (by exact o.rows.get (i := 0) rfl) ?_
    (repeat first | refine HReg.step ?_ | refine HCode.step ?_)
    refine HReq.mk ⟨by omega, by omega⟩ ?_
    (repeat first | refine HReg.step ?_ | refine HCode.step ?_)
    refine store_row o (v := .slice (slAddr a 4 c 1) (r.rest.length - 4) (c - 4)) rfl (i := 0) (by decide) (by rfl) fun H2 o2 u2 => ?_
    obtain ⟨d2, f2⟩ := d.adv (n := 4) o w hc hl (by omega) o2 u2
    rw [h1] at d2
    (repeat first | refine HReg.step ?_ | refine HCode.step ?_)
    exact hk H2 d2 f2
  · rw [hb] at hk
    (repeat first | refine HReg.step ?_ | refine HCode.step ?_)
    refine hif (fun _ => ?_) (fun h => absurd (not_eqB_false.1 h) he)
    (repeat first | refine HReg.step ?_ | refine HCode.step ?_)
    refine store_row o (v := .int .i64 e) rfl (i := 1) (by decide) (by rfl) fun H2 o2 u2 => ?_
    have o2 : OwnRow H2 84 1 (some ⟨g, 0, none⟩) 2 2 [.slice a r.rest.length c, .int .i64 e] := o2
    obtain ⟨d2, f2⟩ := d.set (r' := ⟨r.rest, e⟩) o hl (.inr h34) (Nat.le_refl _) o2 u2 rfl w hc
    (repeat first | refine HReg.step ?_ | refine HCode.step ?_)
    exact hk H2 d2 f2
theorem dtext_r {most : Int} (d : UAt H0 H g S r) (hm : most ≤ 9223372036854775807)
    (hk : ∀ H', UAt H0 H' g S (r.text most).2 → Upd [g] H H' → K (.string (bs (r.text most).1)) H') : HCalls Tryz.prog 29 [.pointer (some ⟨g, 0, none⟩), .int .i64 most] H K := by
  refine hcalls (fn := Tryz.f29) [] mixed Tryz.func29 rfl rfl (by decide +kernel) ?_
  obtain ⟨a, c, rfl, o, w, hc, hl⟩ := d.ex
  have hlim := d.lim
  (repeat first | refine HReg.step ?_ | refine HCode.step ?_)
  refine HLoad.one (v := .int .i64 r.err) (by exact o.rows.get (i := 1) rfl) ?_
  (repeat first | refine HReg.step ?_ | refine HCode.step ?_)
  refine hif (fun h1 => ?_) (fun h1 => ?_)
  · have h1 := not_eqB_true.1 h1
    have e : r.text most = ([], r) := by unfold R.text; rw [if_pos h1]
    rw [e] at hk
    (repeat first | refine HReg.step ?_ | refine HCode.step ?_)
    exact hk H d (Upd.refl _ _)
  have h1 := not_eqB_false.1 h1
  (repeat first | refine HReg.step ?_ | refine HCode.step ?_)
  refine HLoad.one (v := .slice a r.rest.length c) (by exact o.rows.get (i := 0) rfl) ?_
  (repeat first | refine HReg.step ?_ | refine HCode.step ?_)
  refine HCall.mk ⟨Tryz.f48, Tryz.func48, by rfl, by rfl⟩ ?_
  rw [r0 h1] at hk
  refine dtext0_t w rfl hc hlim hm (fun k s hks e => ?_) fun e he h34 hb => ?_
  · rw [e] at hk
    (repeat first | refine HReg.step ?_ | refine HCode.step ?_)
    refine hif (fun h => absurd rfl (not_eqB_true.1 h)) (fun _ => ?_)
    (repeat first | refine HReg.step ?_ | refine HCode.step ?_)
    refine store_row o (v := .slice (slAddr a (4 + k) c 1) (r.rest.length - (4 + k)) (c - (4 + k))) rfl (i := 0) (by decide) (by rfl) fun H2 o2 u2 => ?_
    obtain ⟨d2, f2⟩ := d.adv (n := 4 + k) o w hc hl (by omega) o2 u2
    rw [h1] at d2
    (repeat first | refine HReg.step ?_ | refine HCode.step ?_)
    exact hk H2 d2 f2
  · rw [hb] at hk
    (repeat first | refine HReg.step ?_ | refine HCode.step ?_)
    refine hif (fun _ => ?_) (fun h => absurd (not_eqB_false.1 h) he)
    (repeat first | refine HReg.step ?_ | refine HCode.step ?_)
    refine store_row o (v := .int .i64 e) rfl (i := 1) (by decide) (by rfl) fun H2 o2 u2 => ?_
    have o2 : OwnRow H2 84 1 (some ⟨g, 0, none⟩) 2 2 [.slice a r.rest.length c, .int .i64 e] := o2
    obtain ⟨d2, f2⟩ := d.set (r' := ⟨r.rest, e⟩) o hl (.inr h34) (Nat.le_refl _) o2 u2 rfl w hc
    (repeat first | refine HReg.step ?_ | refine HCode.step ?_)
    exact hk H2 d2 f2
structure DxInv (H : Heap) (a : Option Addr) (each : Int) (n : Nat) (r0 : R) (lim : Nat) (m : Nat) (vs : List Value) (H' : Heap) : Prop where
  ex : ∃ (i : Nat) (a9 : Option Addr) (n9 c9 : Nat) (l9 : List UInt8) (a10 : Option Addr) (c10 : Nat) (ts : List (List UInt8)), vs = [.slice a9 n9 c9, .slice a10 i c10, .int .i64 (i : Int)] ∧ m + i = n ∧ RowAt H' a9 (u8s l9) ∧ l9.length = n9 ∧ n9 ≤ c9 ∧ n9 ≤ lim ∧ blk a9 = blk a ∧ Made H H' 9 1 a10 i c10 (txts ts) ∧ R.many each n r0 = (ts ++ (R.many each m ⟨l9, 0⟩).1, (R.many each m ⟨l9, 0⟩).2)
theorem dtexts_r {most each : Int} (d : UAt H0 H g S r) (hm : most ≤ 9223372036854775807) (he : each ≤ 9223372036854775807)
    (hk : ∀ a c H', UAt H0 H' g S (r.texts most each).2 → Upd [g] H H' → OwnRow H' 9 1 a (r.texts most each).1.length c (txts (r.texts most each).1) → (∀ p, a = some p → H p.block = none) → K (.slice a (r.texts most each).1.length c) H') :
    HCalls Tryz.prog 27 [.pointer (some ⟨g, 0, none⟩), .int .i64 most, .int .i64 each] H K := by
  refine hcalls (fn := Tryz.f27) [] mixed Tryz.func27 rfl rfl (by decide +kernel) ?_
  obtain ⟨a, c, rfl, o, w, hc, hl⟩ := d.ex
  have hlim := d.lim
  (repeat first | refine HReg.step ?_ | refine HCode.step ?_)
  refine HLoad.one (v := .int .i64 r.err) (by exact o.rows.get (i := 1) rfl) ?_
  (repeat first | refine HReg.step ?_ | refine HCode.step ?_)
  refine hif (fun h1 => ?_) (fun h1 => ?_)
  · have h1 := not_eqB_true.1 h1
    have e : r.texts most each = ([], r) := by
      have e1 : r.count most = (0, r) := by unfold R.count; rw [if_pos h1]
      unfold R.texts; rw [e1]
      show (if r.err ≠ 0 then _ else _) = _
      rw [if_pos h1]; rfl
    rw [e] at hk
    (repeat first | refine HReg.step ?_ | refine HCode.step ?_)
    exact hk none 0 H d (Upd.refl _ _) (OwnRow.nil _ _ _) (fun p hp => by cases hp)
  have h1 := not_eqB_false.1 h1
  have hcb := count_bnd r most
  rw [r0 h1] at hcb
  (repeat first | refine HReg.step ?_ | refine HCode.step ?_)
  refine HLoad.one (v := .slice a r.rest.length c) (by exact o.rows.get (i := 0) rfl) ?_
  (repeat first | refine HReg.step ?_ | refine HCode.step ?_)
  refine HCall.mk ⟨Tryz.f47, Tryz.func47, by rfl, by rfl⟩ ?_
  refine dcount0_t w rfl hlim hm (fun k e => ?_) fun e he0 h34 hb => ?_
  rotate_left
  · rw [hb] at hcb
    have e2 : r.texts most each = ([], ⟨r.rest, e⟩) := by
      unfold R.texts; rw [r0 h1, hcb]
      show (if e ≠ 0 then _ else _) = _
      rw [if_pos he0]; rfl
    rw [e2] at hk
    (repeat first | refine HReg.step ?_ | refine HCode.step ?_)
    refine hif (fun _ => ?_) (fun h => absurd (not_eqB_false.1 h) he0)
    (repeat first | refine HReg.step ?_ | refine HCode.step ?_)
    refine store_row o (v := .int .i64 e) rfl (i := 1) (by decide) (by rfl) fun H2 o2 u2 => ?_
    have o2 : OwnRow H2 84 1 (some ⟨g, 0, none⟩) 2 2 [.slice a r.rest.length c, .int .i64 e] := o2
    obtain ⟨d2, f2⟩ := d.set (r' := ⟨r.rest, e⟩) o hl (.inr h34) (Nat.le_refl _) o2 u2 rfl w hc
    (repeat first | refine HReg.step ?_ | refine HCode.step ?_)
    exact hk none 0 H2 d2 f2 (OwnRow.nil _ _ _) (fun p hp => by cases hp)
  rw [e] at hcb
  obtain ⟨_, _, h2, hk32, _⟩ := bnd_some e
  have h2 : 4 ≤ r.rest.length := h2
  have htx : r.texts most each = if (R.many each k ⟨r.rest.drop 4, 0⟩).2.err ≠ 0 then ([], ⟨r.rest, (R.many each k ⟨r.rest.drop 4, 0⟩).2.err⟩) else R.many each k ⟨r.rest.drop 4, 0⟩ := by
    unfold R.texts; rw [r0 h1, hcb]
  have w4 : RowAt H (slAddr a 4 c 1) (u8s (r.rest.drop 4)) := by
    have := w.sl (l := 4) (cap := c) (size := 1) (by rw [u8s_length]; omega)
    rw [Nat.mul_one] at this
    unfold u8s at this ⊢
    rw [List.map_drop]; exact this
  (repeat first | refine HReg.step ?_ | refine HCode.step ?_)
  refine hif (fun h => absurd rfl (not_eqB_true.1 h)) (fun _ => ?_)
  (repeat first | refine HReg.step ?_ | refine HCode.step ?_)
  refine HLoad.one (v := .slice a r.rest.length c) (by exact o.rows.get (i := 0) rfl) ?_
  (repeat first | refine HReg.step ?_ | refine HCode.step ?_)
  refine HReq.mk ⟨by omega, by omega⟩ ?_
  (repeat first | refine HReg.step ?_ | refine HCode.step ?_)
  refine hloopC [6, 9, 10, 11, 12, 13, 14, 40, 41, 42, 43, 44, 45, 46, 47, 48, 49, 50, 51, 52, 53, 54, 55, 56, 57, 58, 59, 60, 61, 62] [9, 10, 11] (DxInv H a each k ⟨r.rest.drop 4, 0⟩ r.rest.length) rfl (by repeat' first | exact Resp.retD | exact Resp1.valuesK | refine Resp.blockD ?_ | refine Resp.thenD ?_ ?_ | refine Resp.hcode ?_) ?_ ?_
  · exact ⟨k, DxInv.mk ⟨0, slAddr a 4 c 1, r.rest.length - 4, c - 4, r.rest.drop 4, none, 0, [], rfl, rfl, w4, by simp, by omega, by omega, blk_sl _ _ _ _, ⟨OwnRow.nil _ _ _, Upd.refl _ _, fun p hp => (by cases hp)⟩, rfl⟩⟩
  rintro m _ fe H2 ⟨i, a9, n9, c9, l9, a10, c10, ts, rfl, hmi, w9, hl9, hc9, hlim9, hb9, m10, hmany⟩
  (repeat first | refine HReg.step ?_ | refine HCode.step ?_)
  refine hif (fun h3 => ?_) (fun h3 => ?_)
  · have h3 := ltB_true.1 h3
    obtain ⟨m, rfl⟩ : ∃ j, m = j + 1 := ⟨m - 1, by omega⟩
    (repeat first | refine HReg.step ?_ | refine HCode.step ?_)
    refine HCall.mk ⟨Tryz.f48, Tryz.func48, by rfl, by rfl⟩ ?_
    refine dtext0_t w9 hl9 hc9 (by omega) he (fun q s hks e => ?_) fun e he0 h34 hb => ?_
    rotate_left
    · have hst : (⟨l9, 0⟩ : R).text each = ([], ⟨l9, e⟩) := hb
      rw [many_stop each m ⟨l9, 0⟩ (by rw [hst]; exact he0), hst] at hmany
      rw [hmany] at htx
      rw [if_pos he0] at htx
      rw [htx] at hk
      (repeat first | refine HReg.step ?_ | refine HCode.step ?_)
      refine hif (fun _ => ?_) (fun h => absurd (not_eqB_false.1 h) he0)
      have o' := o.upd m10.upd (Off.nil _)
      have d' := d.upd0 m10.upd
      obtain ⟨_, _, _, _, _, _, hl'⟩ := d'.ex
      have hl2 : ∀ b ∈ blk a, ∃ cu z, H2 b = some (.cells cu 5 z) := fun b hb => by
        obtain ⟨cu, z, h⟩ := hl b hb
        exact ⟨cu, z, by rw [m10.upd b (by simp) (by rw [h]; simp), h]⟩
      (repeat first | refine HReg.step ?_ | refine HCode.step ?_)
      refine store_row o' (v := .int .i64 e) rfl (i := 1) (by decide) (by rfl) fun H3 o3 u3 => ?_
      have o3 : OwnRow H3 84 1 (some ⟨g, 0, none⟩) 2 2 [.slice a r.rest.length c, .int .i64 e] := o3
      obtain ⟨d3, f3⟩ := d'.set (r' := ⟨r.rest, e⟩) o' hl2 (.inr h34) (Nat.le_refl _) o3 u3 rfl (w.upd (S := []) m10.upd (.inr (Off.nil _))) hc
      (repeat first | refine HReg.step ?_ | refine HCode.step ?_)
      exact hk none 0 H3 d3 (Upd.trans (m10.upd.mono (by simp)) f3) (OwnRow.nil _ _ _) (fun p hp => by cases hp)
    have hst : (⟨l9, 0⟩ : R).text each = (s, ⟨l9.drop (4 + q), 0⟩) := e
    rw [many_step each m ⟨l9, 0⟩ (by rw [hst]), hst] at hmany
    have w10 : wr .i64 ((i : Int) + 1) = ((i + 1 : Nat) : Int) := by rw [wr_i64 (by omega) (by omega)]; omega
    (repeat first | refine HReg.step ?_ | refine HCode.step ?_)
    refine hif (fun h => absurd rfl (not_eqB_true.1 h)) (fun _ => ?_)
    (repeat first | refine HReg.step ?_ | refine HCode.step ?_)
    refine HReq.mk (by decide) ?_
    (repeat first | refine HReg.step ?_ | refine HCode.step ?_)
    refine HNew.mk fun b hb => ?_
    have ub : Upd [] H2 (H2.upd b (.cells [Value.string (bs s)].toArray 9)) := Upd.new hb _
    have rb : RowAt (H2.upd b (.cells [Value.string (bs s)].toArray 9)) (some ⟨b, 0, none⟩) (txts [s]) := RowAt.of_cells (upd_same _ _ _)
    (repeat first | refine HReg.step ?_ | refine HCode.step ?_)
    refine app_txts (m10.step ub) rb rfl (by omega) fun a4 c4 H4 m4 u4 => ?_
    (repeat first | refine HReg.step ?_ | refine HCode.step ?_)
    rw [w10]
    have w94 : RowAt H4 (slAddr a9 (4 + q) c9 1) (u8s (l9.drop (4 + q))) := by
      have w95 : RowAt H4 a9 (u8s l9) := by
        refine (w9.upd (S := []) ub (.inr (Off.nil _))).upd u4 (.inr (off_notin fun b' hb' hm => ?_))
        obtain ⟨p, hp, rfl⟩ := blk_of hm
        rw [hb9] at hb'
        obtain ⟨cu, z, h⟩ := hl _ hb'
        rw [m10.new p hp] at h; cases h
      have := w95.sl (l := 4 + q) (cap := c9) (size := 1) (by rw [u8s_length]; omega)
      rw [Nat.mul_one] at this
      unfold u8s at this ⊢
      rw [List.map_drop]; exact this
    exact ⟨m, by omega, DxInv.mk ⟨i + 1, _, _, _, l9.drop (4 + q), a4, c4, ts ++ [s], rfl, by omega, w94, by rw [List.length_drop, hl9], by omega, by omega, by rw [blk_sl]; exact hb9, m4, by rw [hmany]; simp⟩⟩
  · have h3 := ltB_false.1 h3
    obtain rfl : m = 0 := by omega
    have hmany' : R.many each k ⟨r.rest.drop 4, 0⟩ = (ts, ⟨l9, 0⟩) := by rw [hmany]; show (ts ++ [], (⟨l9, 0⟩ : R)) = _; rw [List.append_nil]
    rw [hmany', if_neg (by simp)] at htx
    rw [htx] at hk
    have o' := o.upd m10.upd (Off.nil _)
    have d' := d.upd0 m10.upd
    have hl2 : ∀ b ∈ blk a, ∃ cu z, H2 b = some (.cells cu 5 z) := fun b hb => by
      obtain ⟨cu, z, h⟩ := hl b hb
      exact ⟨cu, z, by rw [m10.upd b (by simp) (by rw [h]; simp), h]⟩
    have hga : g ∉ blk a := UAt.notin o hl
    subst hl9
    have htl : ts.length = i := by
      have := m10.own.len
      rw [txts_length, Nat.mul_one] at this; exact this
    subst htl
    (repeat first | refine HReg.step ?_ | refine HCode.step ?_)
    refine store_row o' (v := .slice a9 l9.length c9) rfl (i := 0) (by decide) (by rfl) fun H3 o3 u3 => ?_
    have o3 : OwnRow H3 84 1 (some ⟨g, 0, none⟩) 2 2 [.slice a9 l9.length c9, .int .i64 0] := by rw [← h1]; exact o3
    obtain ⟨d3, f3⟩ := d'.set (r' := ⟨l9, 0⟩) o' hl2 (.inl rfl) hlim9 o3 u3 hb9 w9 hc9
    have off10 : Off [g] a10 := off_notin fun b' hb' hm => by
      obtain ⟨p, hp, rfl⟩ := blk_of hb'
      have := m10.new p hp
      rw [List.mem_singleton.1 hm] at this
      exact d.live g List.mem_cons_self this
    (repeat first | refine HReg.step ?_ | refine HCode.step ?_)
    exact hk a10 c10 H3 d3 (Upd.trans (m10.upd.mono (by simp)) f3) (m10.own.upd u3 off10) m10.new
end
end Go.Proofs.YtlgncabjphokjaaGreat
