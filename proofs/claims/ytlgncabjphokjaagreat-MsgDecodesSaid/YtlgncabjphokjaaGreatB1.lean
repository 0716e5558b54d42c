import Derived.Test.YtlgncabjphokjaaGreatJ4
namespace Go.Proofs.YtlgncabjphokjaaGreat
open Go Hv
set_option linter.unusedVariables false
set_option linter.unusedSimpArgs false
set_option maxRecDepth 10000
set_option maxHeartbeats 1000000
/-! The document's reader -/
structure UAt (H0 H : Heap) (g : Nat) (S : List Nat) (r : R) : Prop where
  lim : r.rest.length ≤ 140737488355328
  er : r.err = 0 ∨ r.err = 3 ∨ r.err = 4
  base : Upd [] H0 H
  new : ∀ b ∈ S, H0 b = none
  ex : ∃ a c, S = g :: blk a ∧ OwnRow H 84 1 (some ⟨g, 0, none⟩) 2 2 [.slice a r.rest.length c, .int .i64 r.err] ∧ RowAt H a (u8s r.rest) ∧ r.rest.length ≤ c ∧ (∀ b ∈ blk a, ∃ cu z, H b = some (.cells cu 5 z))
theorem UAt.upd {H0 H H' : Heap} {T : List Nat} {g : Nat} {S : List Nat} {r : R} (d : UAt H0 H g S r) (u : Upd T H H') (hT : ∀ b ∈ S, b ∉ T) (hn : ∀ b ∈ T, H0 b = none) : UAt H0 H' g S r := by
  obtain ⟨a, c, rfl, o, w, hc, hl⟩ := d.ex
  refine ⟨d.lim, d.er, Upd.drop d.base u hn, d.new, a, c, rfl, o.upd u (fun p hp => by cases hp; exact hT g List.mem_cons_self), w.upd u (.inr (off_notin fun b hb => hT b (List.mem_cons_of_mem _ hb))), hc, fun b hb => ?_⟩
  obtain ⟨cu, z, h⟩ := hl b hb
  exact ⟨cu, z, by rw [u b (hT b (List.mem_cons_of_mem _ hb)) (by rw [h]; simp), h]⟩
theorem UAt.upd0 {H0 H H' : Heap} {g : Nat} {S : List Nat} {r : R} (d : UAt H0 H g S r) (u : Upd [] H H') : UAt H0 H' g S r := d.upd u (by simp) (by simp)
theorem UAt.live {H0 H : Heap} {g : Nat} {S : List Nat} {r : R} (d : UAt H0 H g S r) : ∀ b ∈ S, H b ≠ none := by
  obtain ⟨a, c, rfl, o, w, hc, hl⟩ := d.ex
  intro b hb
  rcases List.mem_cons.1 hb with rfl | h
  · exact o.there rfl
  · obtain ⟨cu, z, h⟩ := hl b h; rw [h]; simp
section
variable {H0 H : Heap} {g : Nat} {S : List Nat} {r : R} {K : Value → Heap → Prop}
theorem UAt.notin {a : Option Addr} {c : Nat} (o : OwnRow H 84 1 (some ⟨g, 0, none⟩) 2 2 [.slice a r.rest.length c, .int .i64 r.err]) (hl : ∀ b ∈ blk a, ∃ cu z, H b = some (.cells cu 5 z)) : g ∉ blk a := fun hb => by
  obtain ⟨cu, z, h⟩ := hl g hb
  obtain ⟨c', z', h'⟩ := own_cells o
  rw [h] at h'; cases h'
/-- The reader's own two fields change; the bytes stay. -/
theorem UAt.set {H' : Heap} {a a' : Option Addr} {c c' : Nat} {r' : R} (d : UAt H0 H g (g :: blk a) r) (o : OwnRow H 84 1 (some ⟨g, 0, none⟩) 2 2 [.slice a r.rest.length c, .int .i64 r.err]) (hl : ∀ b ∈ blk a, ∃ cu z, H b = some (.cells cu 5 z)) (he : r'.err = 0 ∨ r'.err = 3 ∨ r'.err = 4) (hle : r'.rest.length ≤ r.rest.length)
    (o' : OwnRow H' 84 1 (some ⟨g, 0, none⟩) 2 2 [.slice a' r'.rest.length c', .int .i64 r'.err]) (u : Upd [g] H H') (hb : blk a' = blk a) (hw : RowAt H a' (u8s r'.rest)) (hc : r'.rest.length ≤ c') : UAt H0 H' g (g :: blk a) r' ∧ Upd [g] H H' := by
  have hg := UAt.notin o hl
  have off : ∀ b ∈ blk a, b ∉ [g] := fun b hb hm => hg (by rw [← List.mem_singleton.1 hm]; exact hb)
  refine ⟨⟨Nat.le_trans hle d.lim, he, Upd.drop d.base u (fun b hb => by rw [List.mem_singleton.1 hb]; exact d.new g List.mem_cons_self), d.new, a', c', by rw [hb], o', hw.upd u (.inr (off_notin (by rw [hb]; exact off))), hc, fun b hb' => ?_⟩, u⟩
  rw [hb] at hb'
  obtain ⟨cu, z, h⟩ := hl b hb'
  exact ⟨cu, z, by rw [u b (off b hb') (by rw [h]; simp), h]⟩
/-- The first bytes are read. -/
theorem UAt.adv {H' : Heap} {a : Option Addr} {c n : Nat} (d : UAt H0 H g (g :: blk a) r) (o : OwnRow H 84 1 (some ⟨g, 0, none⟩) 2 2 [.slice a r.rest.length c, .int .i64 r.err]) (w : RowAt H a (u8s r.rest)) (hc : r.rest.length ≤ c) (hl : ∀ b ∈ blk a, ∃ cu z, H b = some (.cells cu 5 z)) (hn : n ≤ r.rest.length)
    (o' : OwnRow H' 84 1 (some ⟨g, 0, none⟩) 2 2 [.slice (slAddr a n c 1) (r.rest.length - n) (c - n), .int .i64 r.err]) (u : Upd [g] H H') : UAt H0 H' g (g :: blk a) { r with rest := r.rest.drop n } ∧ Upd [g] H H' := by
  refine d.set (r' := { r with rest := r.rest.drop n }) (a' := slAddr a n c 1) (c' := c - n) o hl d.er (by simp) ?_ u (blk_sl _ _ _ _) ?_ (by simp; omega)
  · show OwnRow H' 84 1 _ 2 2 [.slice (slAddr a n c 1) (r.rest.drop n).length (c - n), _]
    rw [List.length_drop]; exact o'
  · have := w.sl (l := n) (cap := c) (size := 1) (by rw [u8s_length]; omega)
    rw [Nat.mul_one] at this
    show RowAt H _ (u8s (r.rest.drop n))
    unfold u8s at this ⊢
    rw [List.map_drop]; exact this
theorem dend_t (d : UAt H0 H g S r) (hk : K (.int .i64 r.fin) H) : HCalls Tryz.prog 30 [.pointer (some ⟨g, 0, none⟩)] H K := by
  refine hcalls (fn := Tryz.f30) [] mixed Tryz.func30 rfl rfl rfl ?_
  obtain ⟨a, c, rfl, o, w, hc, hl⟩ := d.ex
  (repeat first | refine HReg.step ?_ | refine HCode.step ?_)
  refine HLoad.one (v := .int .i64 r.err) (by exact o.rows.get (i := 1) rfl) ?_
  (repeat first | refine HReg.step ?_ | refine HCode.step ?_)
  refine hif (fun h1 => ?_) (fun h1 => ?_)
  · have h1 := eqB_true.1 h1
    (repeat first | refine HReg.step ?_ | refine HCode.step ?_)
    refine HLoad.one (v := .slice a r.rest.length c) (by exact o.rows.get (i := 0) rfl) ?_
    (repeat first | refine HReg.step ?_ | refine HCode.step ?_)
    refine hif (fun h2 => ?_) (fun h2 => ?_)
    · have h2 := ltB_true.1 h2
      have e : r.fin = 5 := by unfold R.fin; rw [if_pos ⟨h1, by omega⟩]
      rw [e] at hk
      (repeat first | refine HReg.step ?_ | refine HCode.step ?_)
      exact hk
    · have h2 := ltB_false.1 h2
      have e : r.fin = r.err := by unfold R.fin; rw [if_neg (by omega)]
      rw [e] at hk
      (repeat first | refine HReg.step ?_ | refine HCode.step ?_)
      refine HLoad.one (v := .int .i64 r.err) (by exact o.rows.get (i := 1) rfl) ?_
      (repeat first | refine HReg.step ?_ | refine HCode.step ?_)
      exact hk
  · have h1 := eqB_false.1 h1
    have e : r.fin = r.err := by unfold R.fin; rw [if_neg (fun h => h1 h.1)]
    rw [e] at hk
    (repeat first | refine HReg.step ?_ | refine HCode.step ?_)
    refine HLoad.one (v := .int .i64 r.err) (by exact o.rows.get (i := 1) rfl) ?_
    (repeat first | refine HReg.step ?_ | refine HCode.step ?_)
    exact hk

theorem dnewR_t {a : Option Addr} {n c : Nat} {l : List UInt8} {H : Heap} {K : Value → Heap → Prop} (hr : RowAt H a (u8s l)) (hl : l.length = n) (hlim : n ≤ 140737488355328) (hk : ∀ g S H', UAt H H' g S ⟨l, 0⟩ → K (.pointer (some ⟨g, 0, none⟩)) H') : HCalls Tryz.prog 24 [.slice a n c] H K := by
  refine hcalls (fn := Tryz.f24) [] mixed Tryz.func24 rfl rfl rfl ?_
  (repeat first | refine HReg.step ?_ | refine HCode.step ?_)
  refine append_own (xs := []) (OwnRow.nil _ _ _) hr hl (by omega) fun a1 c1 H1 o1 u1 f1 => ?_
  have m1 : Made H H1 5 1 a1 n c1 (u8s l) := by
    rw [Nat.zero_add] at o1
    exact ⟨o1, u1, fun p hp => by
      rcases f1 p hp with h | h
      · cases h
      · exact h⟩
  (repeat first | refine HReg.step ?_ | refine HCode.step ?_)
  refine HNew.mk fun g hg => ?_
  have hz : (0 + n) = n := Nat.zero_add n
  have ug : Upd [] H1 (H1.upd g (.cells [Value.slice a1 (0 + n) c1, .int .i64 0].toArray 84)) := Upd.new hg _
  subst hl
  (repeat first | refine HReg.step ?_ | refine HCode.step ?_)
  refine hk g (g :: blk a1) _ ⟨hlim, .inl rfl, m1.upd.trans ug, fun b hb => ?_, a1, c1, rfl, ?_, m1.own.rows.upd (S := []) ug (.inr (Off.nil _)), m1.own.le, fun b hb => ?_⟩
  · rcases List.mem_cons.1 hb with rfl | h
    · exact Upd.none (S := []) m1.upd (by simp) hg
    · obtain ⟨p, hp, rfl⟩ := blk_of h
      exact m1.new p hp
  · have := OwnRow.lit (H := (H1.upd g (.cells [Value.slice a1 (0 + l.length) c1, .int .i64 0].toArray 84))) (b := g) (l := [Value.slice a1 (0 + l.length) c1, .int .i64 0]) (e := 84) (size := 1) (cap := 2) (upd_same _ _ _) rfl
    rw [hz] at this ⊢; exact this
  · obtain ⟨p, hp, rfl⟩ := blk_of hb
    rcases m1.own.ok with ⟨ha, _⟩ | ⟨g', cur, ha, hg', _⟩
    · rw [ha] at hp; cases hp
    · rw [ha] at hp; cases hp
      exact ⟨cur, _, by rw [ug g' (by simp) (by rw [hg']; simp), hg']⟩
theorem value_t {a : Option Addr} {n c k : Nat} {l : List UInt8} (w : RowAt H a (u8s l)) (hl : l.length = n) (hk8 : k ≤ 8) (hkn : k ≤ n) (hlim : n ≤ 140737488355328) (hk : K (.int .u64 (val (l.take k) : Int)) H) : HCalls Tryz.prog 66 [.slice a n c, .int .i64 (k : Int)] H K := by
  refine hcalls (fn := Tryz.f66) [] mixed Tryz.func66 rfl rfl (by decide +kernel) ?_
  (repeat first | refine HReg.step ?_ | refine HCode.step ?_)
  refine hloopC [5, 6, 7, 8, 9, 10, 11, 12, 13, 14, 15, 16, 17, 18, 19] [5, 6] (PkInv l k H) rfl (by repeat' first | exact Resp.retD | exact Resp1.valuesK | refine Resp.blockD ?_ | refine Resp.thenD ?_ ?_ | refine Resp.hcode ?_) ?_ ?_
  · exact ⟨k, PkInv.mk ⟨0, by rw [List.take_zero]; rfl, rfl, rfl⟩⟩
  rintro m _ fe H' ⟨i, rfl, hmi, rfl⟩
  (repeat first | refine HReg.step ?_ | refine HCode.step ?_)
  refine hif (fun h3 => ?_) (fun h3 => ?_)
  · have h3 := ltB_true.1 h3
    obtain ⟨x, hx⟩ : ∃ x, l[i]? = some x := ⟨l[i]'(by omega), by simp⟩
    obtain ⟨ba, bo, rfl, _⟩ := w i _ (u8s_get hx)
    have hv : val (l.take i) < 72057594037927936 := by
      have h4 := val_lt (l.take i)
      have h5 : (l.take i).length = i := by rw [List.length_take]; omega
      have h6 : 256 ^ i ≤ 256 ^ 7 := Nat.pow_le_pow_right (by decide) (by omega)
      rw [h5] at h4; omega
    have e := or8 (val (l.take i)) x hv
    rw [← val_take hx] at e
    have w2 : wr .i64 ((i : Int) + 1) = ((i + 1 : Nat) : Int) := by rw [wr_i64 (by omega) (by omega)]; omega
    (repeat first | refine HReg.step ?_ | refine HCode.step ?_)
    refine HReq.mk (by decide) ?_
    (repeat first | refine HReg.step ?_ | refine HCode.step ?_)
    refine HReq.mk ⟨by omega, by omega⟩ ?_
    (repeat first | refine HReg.step ?_ | refine HCode.step ?_)
    refine HLoad.one (v := u8 x) (by exact w.get (u8s_get hx)) ?_
    (repeat first | refine HReg.step ?_ | refine HCode.step ?_)
    rw [e, w2]
    exact ⟨m - 1, by omega, PkInv.mk ⟨i + 1, rfl, by omega, rfl⟩⟩
  · have h3 := ltB_false.1 h3
    have : i = k := by omega
    subst this
    (repeat first | refine HReg.step ?_ | refine HCode.step ?_)
    exact hk
theorem dnumber_t {n : Nat} (d : UAt H0 H g S r) (hn : n ≤ 8)
    (hk : ∀ H', UAt H0 H' g S (r.number n).2 → Upd [g] H H' → K (.int .u64 ((r.number n).1 : Int)) H') : HCalls Tryz.prog 46 [.pointer (some ⟨g, 0, none⟩), .int .i64 (n : Int)] H K := by
  refine hcalls (fn := Tryz.f46) [] mixed Tryz.func46 rfl rfl (by decide +kernel) ?_
  obtain ⟨a, c, rfl, o, w, hc, hl⟩ := d.ex
  have hlim := d.lim
  (repeat first | refine HReg.step ?_ | refine HCode.step ?_)
  refine HLoad.one (v := .int .i64 r.err) (by exact o.rows.get (i := 1) rfl) ?_
  (repeat first | refine HReg.step ?_ | refine HCode.step ?_)
  refine hif (fun h1 => ?_) (fun h1 => ?_)
  · have h1 := not_eqB_true.1 h1
    rw [number_no (fun h => h1 h.1), if_neg h1] at hk
    (repeat first | refine HReg.step ?_ | refine HCode.step ?_)
    exact hk H d (Upd.refl _ _)
  have h1 := not_eqB_false.1 h1
  (repeat first | refine HReg.step ?_ | refine HCode.step ?_)
  refine HLoad.one (v := .slice a r.rest.length c) (by exact o.rows.get (i := 0) rfl) ?_
  (repeat first | refine HReg.step ?_ | refine HCode.step ?_)
  refine hif (fun h2 => ?_) (fun h2 => ?_)
  · have h2 := ltB_true.1 h2
    rw [number_no (fun h => by omega), if_pos h1] at hk
    (repeat first | refine HReg.step ?_ | refine HCode.step ?_)
    refine store_row o (v := .int .i64 4) rfl (i := 1) (by decide) (by rfl) fun H2 o2 u2 => ?_
    have o2 : OwnRow H2 84 1 (some ⟨g, 0, none⟩) 2 2 [.slice a r.rest.length c, .int .i64 4] := o2
    obtain ⟨d2, f2⟩ := d.set (r' := { r with err := 4 }) o hl (.inr (.inr rfl)) (Nat.le_refl _) o2 u2 rfl w hc
    (repeat first | refine HReg.step ?_ | refine HCode.step ?_)
    exact hk H2 d2 f2
  have h2 := ltB_false.1 h2
  rw [number_yes h1 (by omega)] at hk
  (repeat first | refine HReg.step ?_ | refine HCode.step ?_)
  refine HLoad.one (v := .slice a r.rest.length c) (by exact o.rows.get (i := 0) rfl) ?_
  (repeat first | refine HReg.step ?_ | refine HCode.step ?_)
  refine HCall.mk ⟨Tryz.f66, Tryz.func66, by rfl, by rfl⟩ ?_
  refine value_t w rfl hn (by omega) hlim ?_
  (repeat first | refine HReg.step ?_ | refine HCode.step ?_)
  refine HLoad.one (v := .slice a r.rest.length c) (by exact o.rows.get (i := 0) rfl) ?_
  (repeat first | refine HReg.step ?_ | refine HCode.step ?_)
  refine HReq.mk ⟨by omega, by omega⟩ ?_
  (repeat first | refine HReg.step ?_ | refine HCode.step ?_)
  refine store_row o (v := .slice (slAddr a n c 1) (r.rest.length - n) (c - n)) rfl (i := 0) (by decide) (by rfl) fun H2 o2 u2 => ?_
  obtain ⟨d2, f2⟩ := d.adv (n := n) o w hc hl (by omega) o2 u2
  (repeat first | refine HReg.step ?_ | refine HCode.step ?_)
  exact hk H2 d2 f2
theorem dru8_t (d : UAt H0 H g S r) (hk : ∀ H', UAt H0 H' g S (r.number 1).2 → Upd [g] H H' → K (.int .u8 ((r.number 1).1 : Int)) H') : HCalls Tryz.prog 25 [.pointer (some ⟨g, 0, none⟩)] H K := by
  refine hcalls (fn := Tryz.f25) [] mixed Tryz.func25 rfl rfl rfl ?_
  (repeat first | refine HReg.step ?_ | refine HCode.step ?_)
  refine HCall.mk ⟨Tryz.f46, Tryz.func46, by rfl, by rfl⟩ ?_
  refine dnumber_t (n := 1) d (by decide) fun H2 d2 f2 => ?_
  have := number_lt (r := r) 1
  have e : wr .u8 ((r.number 1).1 : Int) = ((r.number 1).1 : Int) := by rw [wr_u8]; omega
  (repeat first | refine HReg.step ?_ | refine HCode.step ?_)
  refine (show K (.int .u8 (wr .u8 ((r.number 1).1 : Int))) H2 from ?_)
  rw [e]
  exact hk H2 d2 f2
theorem dru64_t (d : UAt H0 H g S r) (hk : ∀ H', UAt H0 H' g S (r.number 8).2 → Upd [g] H H' → K (.int .u64 ((r.number 8).1 : Int)) H') : HCalls Tryz.prog 26 [.pointer (some ⟨g, 0, none⟩)] H K := by
  refine hcalls (fn := Tryz.f26) [] mixed Tryz.func26 rfl rfl rfl ?_
  (repeat first | refine HReg.step ?_ | refine HCode.step ?_)
  refine HCall.mk ⟨Tryz.f46, Tryz.func46, by rfl, by rfl⟩ ?_
  refine dnumber_t (n := 8) d (by decide) fun H2 d2 f2 => ?_
  (repeat first | refine HReg.step ?_ | refine HCode.step ?_)
  exact hk H2 d2 f2
theorem dcount0_t {a : Option Addr} {n c : Nat} {l : List UInt8} {most : Int} (w : RowAt H a (u8s l)) (hl : l.length = n) (hlim : n ≤ 140737488355328) (hm : most ≤ 9223372036854775807)
    (hyes : ∀ k : Nat, (⟨l, 0⟩ : R).bnd most = (some k, ⟨l, 0⟩) → K (.tuple #[.int .i64 (k : Int), .int .i64 0]) H)
    (hno : ∀ e : Int, e ≠ 0 → (e = 3 ∨ e = 4) → (⟨l, 0⟩ : R).bnd most = (none, ⟨l, e⟩) → K (.tuple #[.int .i64 0, .int .i64 e]) H) : HCalls Tryz.prog 47 [.slice a n c, .int .i64 most] H K := by
  refine hcalls (fn := Tryz.f47) [] mixed Tryz.func47 rfl rfl (by decide +kernel) ?_
  (repeat first | refine HReg.step ?_ | refine HCode.step ?_)
  refine hif (fun h1 => ?_) (fun h1 => ?_)
  · have h1 := ltB_true.1 h1
    have e : (⟨l, 0⟩ : R).bnd most = (none, ⟨l, 4⟩) := by unfold R.bnd; rw [if_neg (by simp), if_pos (by show l.length < 4; omega)]
    (repeat first | refine HReg.step ?_ | refine HCode.step ?_)
    exact hno 4 (by decide) (.inr rfl) e
  have h1 := ltB_false.1 h1
  have hv : val (l.take 4) < 4294967296 := by
    have h4 := val_lt (l.take 4)
    have h5 : (l.take 4).length = 4 := by rw [List.length_take]; omega
    rw [h5] at h4; omega
  have w2 : wr .i64 (val (l.take 4) : Int) = (val (l.take 4) : Int) := wr_i64 (by omega) (by omega)
  (repeat first | refine HReg.step ?_ | refine HCode.step ?_)
  refine HCall.mk ⟨Tryz.f66, Tryz.func66, by rfl, by rfl⟩ ?_
  refine value_t (k := 4) w hl (by decide) (by omega) hlim ?_
  (repeat first | refine HReg.step ?_ | refine HCode.step ?_)
  rw [ite_mx, ite_max, w2]
  refine hif (fun h3 => ?_) (fun h3 => ?_)
  · have h3 := ltB_true.1 h3
    have e : (⟨l, 0⟩ : R).bnd most = (none, ⟨l, 3⟩) := by unfold R.bnd; rw [if_neg (by simp), if_neg (by show ¬ l.length < 4; omega), if_pos (by show (val (l.take 4) : Int) > _; omega)]
    (repeat first | refine HReg.step ?_ | refine HCode.step ?_)
    exact hno 3 (by decide) (.inl rfl) e
  · have h3 := ltB_false.1 h3
    have e : (⟨l, 0⟩ : R).bnd most = (some (val (l.take 4)), ⟨l, 0⟩) := by unfold R.bnd; rw [if_neg (by simp), if_neg (by show ¬ l.length < 4; omega), if_neg (by show ¬ (val (l.take 4) : Int) > _; omega)]
    have := hyes _ e
    (repeat first | refine HReg.step ?_ | refine HCode.step ?_)
    exact this
theorem dtext0_t {a : Option Addr} {n c : Nat} {l : List UInt8} {most : Int} (w : RowAt H a (u8s l)) (hl : l.length = n) (hc : n ≤ c) (hlim : n ≤ 140737488355328) (hm : most ≤ 9223372036854775807)
    (hyes : ∀ (k : Nat) s, 4 + k ≤ n → (⟨l, 0⟩ : R).text most = (s, ⟨l.drop (4 + k), 0⟩) → K (.tuple #[.string (bs s), .slice (slAddr a (4 + k) c 1) (n - (4 + k)) (c - (4 + k)), .int .i64 0]) H)
    (hno : ∀ e : Int, e ≠ 0 → (e = 3 ∨ e = 4) → (⟨l, 0⟩ : R).text most = ([], ⟨l, e⟩) → K (.tuple #[.string (bs []), .slice a n c, .int .i64 e]) H) : HCalls Tryz.prog 48 [.slice a n c, .int .i64 most] H K := by
  refine hcalls (fn := Tryz.f48) [(6, [(0, 0), (1, 0), (2, 0), (3, 0), (4, 0), (5, 0), (6, 0), (7, 0), (8, 0), (9, 0), (10, 0), (11, 0)])] mixed Tryz.func48 rfl rfl (by decide +kernel) ?_
  have ht := text_bnd (⟨l, 0⟩ : R) most
  (repeat first | refine HReg.step ?_ | refine HCode.step ?_)
  refine HCall.mk ⟨Tryz.f47, Tryz.func47, by rfl, by rfl⟩ ?_
  refine dcount0_t w hl hlim hm (fun k e => ?_) fun e he h34 hb => ?_
  rotate_left
  · rw [hb] at ht
    (repeat first | refine HReg.step ?_ | refine HCode.step ?_)
    refine hif (fun _ => ?_) (fun h => absurd (not_eqB_false.1 h) he)
    (repeat first | refine HReg.step ?_ | refine HCode.step ?_)
    exact hno e he h34 ht
  rw [e] at ht
  obtain ⟨_, _, h2, h3, h4⟩ := bnd_some e
  have h2 : 4 ≤ l.length := h2
  have w1 : wr .i64 ((n : Int) - 4) = (n : Int) - 4 := wr_i64 (by omega) (by omega)
  have w2 : wr .i64 (4 + (k : Int)) = ((4 + k : Nat) : Int) := by rw [wr_i64 (by omega) (by omega)]; omega
  dsimp only at ht
  (repeat first | refine HReg.step ?_ | refine HCode.step ?_)
  refine hif (fun h => absurd rfl (not_eqB_true.1 h)) (fun _ => ?_)
  (repeat first | refine HReg.step ?_ | refine HCode.step ?_)
  rw [w1]
  refine hif (fun h5 => ?_) (fun h5 => ?_)
  · have h5 := ltB_true.1 h5
    rw [if_pos (by omega)] at ht
    (repeat first | refine HReg.step ?_ | refine HCode.step ?_)
    exact hno 4 (by decide) (.inr rfl) ht
  · have h5 := ltB_false.1 h5
    rw [if_neg (by omega)] at ht
    have hrow : RowAt H (slAddr a 4 c 1) (u8s ((l.drop 4).take k)) := by
      have := (w.sl (l := 4) (cap := c) (size := 1) (by rw [u8s_length]; omega)).take k
      rw [Nat.mul_one] at this
      unfold u8s at this ⊢
      rw [List.map_take, List.map_drop]; exact this
    (repeat first | refine HReg.step ?_ | refine HCode.step ?_)
    rw [w2]
    refine HReq.mk ⟨by omega, by omega⟩ ?_
    (repeat first | refine HReg.step ?_ | refine HCode.step ?_)
    refine HReq.mk ⟨by omega, by omega⟩ ?_
    (repeat first | refine HReg.step ?_ | refine HCode.step ?_)
    refine HBytes.row ((l.drop 4).take k) (by rw [List.length_take, List.length_drop]; omega) (fun Hx hx => by rw [List.mem_singleton.1 hx]; exact hrow) ?_ (by simp)
    (repeat first | refine HReg.step ?_ | refine HCode.step ?_)
    rw [w2]
    refine HReq.mk ⟨by omega, by omega⟩ ?_
    (repeat first | refine HReg.step ?_ | refine HCode.step ?_)
    exact hyes k ((l.drop 4).take k) (by omega) ht
end
end Go.Proofs.YtlgncabjphokjaaGreat
