import Derived.Test.YtfcmjomnpahllaaA4
namespace Go.Proofs.Ytfcmjomnpahllaa
open Go Hv
set_option linter.unusedVariables false
set_option linter.unusedSimpArgs false
set_option maxRecDepth 10000
set_option maxHeartbeats 1000000
/-! The functions of readers -/
theorem or8 (v : Nat) (x : UInt8) (hv : v < 72057594037927936) : bitsS .or .u64 (shlS .u64 (v : Int) 8) (wr .u64 (x.toNat : Int)) = ((v * 256 + x.toNat : Nat) : Int) := by
  have hx := x.toNat_lt
  have w : wr .u64 (x.toNat : Int) = (x.toNat : Int) := by rw [wr_u64]; omega
  have s : shlS .u64 (v : Int) 8 = ((v * 256 : Nat) : Int) := by
    have e8 : min ((8 : Int).toNat) IntKind.u64.bits = 8 := by decide
    have e2 : (v : Int) * (2 : Int) ^ 8 = ((v * 256 : Nat) : Int) := by push_cast; rfl
    rw [shlS_eq, e8, e2]
    have := wr_u64 ((v * 256 : Nat) : Int)
    rw [wr_eq] at this
    rw [this]; omega
  rw [w, s, bitsS_eq, bits_or_u64_nat _ _ (by omega) (by omega)]
  congr 1
  have := Nat.two_pow_add_eq_or_of_lt (i := 8) (b := x.toNat) (by omega) v
  rw [Nat.mul_comm v 256]
  exact this.symm
theorem val_take {l : List UInt8} {i : Nat} {x : UInt8} (h : l[i]? = some x) : val (l.take (i + 1)) = val (l.take i) * 256 + x.toNat := by
  rw [take_get h, val_snoc]
section
variable {H0 H : Heap} {g : Nat} {S : List Nat} {r : R} {K : Value → Heap → Prop}
structure PkInv (l : List UInt8) (n : Nat) (H0 : Heap) (m : Nat) (vs : List Value) (H' : Heap) : Prop where
  ex : ∃ i : Nat, vs = [.int .u64 (val (l.take i) : Int), .int .i64 (i : Int)] ∧ m + i = n ∧ H0 = H'
theorem peek_t {n : Nat} (d : RAt H0 H g S r) (hn : n ≤ 8)
    (hyes : r.err = 0 → n ≤ r.rest.length → K (.tuple #[.int .u64 (val (r.rest.take n) : Int), .bool true]) H)
    (hno : ∀ H', ¬ (r.err = 0 ∧ n ≤ r.rest.length) → RAt H0 H' g S (if r.err = 0 then { r with err := 4 } else r) → Upd [g] H H' → K (.tuple #[.int .u64 0, .bool false]) H') :
    HCalls Try.prog 94 [.pointer (some ⟨g, 0, none⟩), .int .i64 (n : Int)] H K := by
  refine hcalls (fn := Try.f94) [] mixed Try.func94 rfl rfl (by decide +kernel) ?_
  obtain ⟨a, c, rfl, o, w, hc, hl⟩ := d.ex
  have hlim := d.lim
  (repeat first | refine HReg.step ?_ | refine HCode.step ?_)
  refine HLoad.one (v := .int .i64 r.err) (by exact o.rows.get (i := 1) rfl) ?_
  (repeat first | refine HReg.step ?_ | refine HCode.step ?_)
  refine hif (fun h1 => ?_) (fun h1 => ?_)
  rotate_left
  · have h1 := eqB_false.1 h1
    (repeat first | refine HReg.step ?_ | refine HCode.step ?_)
    refine HLoad.one (v := .int .i64 r.err) (by exact o.rows.get (i := 1) rfl) ?_
    (repeat first | refine HReg.step ?_ | refine HCode.step ?_)
    refine hif (fun _ => ?_) (fun h => absurd (not_eqB_false.1 h) h1)
    (repeat first | refine HReg.step ?_ | refine HCode.step ?_)
    exact hno H (fun h => h1 h.1) (by rw [if_neg h1]; exact d) (Upd.refl _ _)
  have h1 := eqB_true.1 h1
  (repeat first | refine HReg.step ?_ | refine HCode.step ?_)
  refine HLoad.one (v := .slice a r.rest.length c) (by exact o.rows.get (i := 0) rfl) ?_
  (repeat first | refine HReg.step ?_ | refine HCode.step ?_)
  refine hif (fun h2 => ?_) (fun h2 => ?_)
  · have h2 := ltB_true.1 h2
    (repeat first | refine HReg.step ?_ | refine HCode.step ?_)
    refine store_row o (v := .int .i64 4) rfl (i := 1) (by decide) (by rfl) fun H2 o2 u2 => ?_
    have o2 : OwnRow H2 126 1 (some ⟨g, 0, none⟩) 2 2 [.slice a r.rest.length c, .int .i64 4] := o2
    obtain ⟨d2, f2⟩ := d.set (r' := { r with err := 4 }) o hl (.inr (.inr rfl)) (Nat.le_refl _) o2 u2 rfl w hc
    (repeat first | refine HReg.step ?_ | refine HCode.step ?_)
    refine HLoad.one (v := .int .i64 4) (by exact o2.rows.get (i := 1) rfl) ?_
    (repeat first | refine HReg.step ?_ | refine HCode.step ?_)
    refine hif (fun _ => ?_) (fun h => absurd (not_eqB_false.1 h) (by decide))
    (repeat first | refine HReg.step ?_ | refine HCode.step ?_)
    exact hno H2 (fun h => by omega) (by rw [if_pos h1]; exact d2) f2
  have h2 := ltB_false.1 h2
  (repeat first | refine HReg.step ?_ | refine HCode.step ?_)
  refine HLoad.one (v := .int .i64 r.err) (by exact o.rows.get (i := 1) rfl) ?_
  (repeat first | refine HReg.step ?_ | refine HCode.step ?_)
  refine hif (fun h => absurd h1 (not_eqB_true.1 h)) (fun _ => ?_)
  (repeat first | refine HReg.step ?_ | refine HCode.step ?_)
  refine HLoad.one (v := .slice a r.rest.length c) (by exact o.rows.get (i := 0) rfl) ?_
  (repeat first | refine HReg.step ?_ | refine HCode.step ?_)
  refine HReq.mk ⟨by omega, by omega⟩ ?_
  (repeat first | refine HReg.step ?_ | refine HCode.step ?_)
  refine hloopC [6, 8, 38, 39, 40, 41, 42, 43, 44, 45, 46, 47] [6, 38] (PkInv r.rest n H) rfl (by repeat' first | exact Resp.retD | exact Resp1.valuesK | refine Resp.blockD ?_ | refine Resp.thenD ?_ ?_ | refine Resp.hcode ?_) ?_ ?_
  · exact ⟨n, PkInv.mk ⟨0, by rw [List.take_zero]; rfl, rfl, rfl⟩⟩
  rintro m _ fe H' ⟨i, rfl, hmi, rfl⟩
  (repeat first | refine HReg.step ?_ | refine HCode.step ?_)
  refine hif (fun h3 => ?_) (fun h3 => ?_)
  · have h3 := ltB_true.1 h3
    obtain ⟨x, hx⟩ : ∃ x, r.rest[i]? = some x := ⟨r.rest[i]'(by omega), by simp⟩
    obtain ⟨ba, bo, rfl, _⟩ := w i _ (u8s_get hx)
    have hv : val (r.rest.take i) < 72057594037927936 := by
      have h4 := val_lt (r.rest.take i)
      have h5 : (r.rest.take i).length = i := by rw [List.length_take]; omega
      have h6 : 256 ^ i ≤ 256 ^ 7 := Nat.pow_le_pow_right (by decide) (by omega)
      rw [h5] at h4; omega
    have e := or8 (val (r.rest.take i)) x hv
    rw [← val_take hx] at e
    have w2 : wr .i64 ((i : Int) + 1) = ((i + 1 : Nat) : Int) := by rw [wr_i64 (by omega) (by omega)]; omega
    (repeat first | refine HReg.step ?_ | refine HCode.step ?_)
    refine HReq.mk ⟨by omega, by omega⟩ ?_
    (repeat first | refine HReg.step ?_ | refine HCode.step ?_)
    refine HLoad.one (v := u8 x) (by exact w.get (u8s_get hx)) ?_
    (repeat first | refine HReg.step ?_ | refine HCode.step ?_)
    refine HReq.mk (by decide) ?_
    (repeat first | refine HReg.step ?_ | refine HCode.step ?_)
    rw [e, w2]
    exact ⟨m - 1, by omega, PkInv.mk ⟨i + 1, rfl, by omega, rfl⟩⟩
  · have h3 := ltB_false.1 h3
    have : i = n := by omega
    subst this
    (repeat first | refine HReg.step ?_ | refine HCode.step ?_)
    exact hyes h1 (by omega)
theorem number_yes {n : Nat} (h1 : r.err = 0) (h2 : n ≤ r.rest.length) : r.number n = (val (r.rest.take n), { r with rest := r.rest.drop n }) := by
  unfold R.number; rw [if_neg (by rw [h1]; simp), if_neg (by omega)]
theorem number_no {n : Nat} (h : ¬ (r.err = 0 ∧ n ≤ r.rest.length)) : r.number n = (0, if r.err = 0 then { r with err := 4 } else r) := by
  unfold R.number
  by_cases h1 : r.err = 0
  · rw [if_neg (by rw [h1]; simp), if_pos (by omega), if_pos h1]
  · rw [if_pos h1, if_neg h1]
/-- The first bytes are read. -/
theorem RAt.adv {H' : Heap} {a : Option Addr} {c n : Nat} (d : RAt H0 H g (g :: blk a) r) (o : OwnRow H 126 1 (some ⟨g, 0, none⟩) 2 2 [.slice a r.rest.length c, .int .i64 r.err]) (w : RowAt H a (u8s r.rest)) (hc : r.rest.length ≤ c) (hl : ∀ b ∈ blk a, ∃ cu z, H b = some (.cells cu 5 z)) (hn : n ≤ r.rest.length)
    (o' : OwnRow H' 126 1 (some ⟨g, 0, none⟩) 2 2 [.slice (slAddr a n c 1) (r.rest.length - n) (c - n), .int .i64 r.err]) (u : Upd [g] H H') : RAt H0 H' g (g :: blk a) { r with rest := r.rest.drop n } ∧ Upd [g] H H' := by
  refine d.set (r' := { r with rest := r.rest.drop n }) (a' := slAddr a n c 1) (c' := c - n) o hl d.er (by simp) ?_ u (blk_sl _ _ _ _) ?_ (by simp; omega)
  · show OwnRow H' 126 1 _ 2 2 [.slice (slAddr a n c 1) (r.rest.drop n).length (c - n), _]
    rw [List.length_drop]; exact o'
  · have := w.sl (l := n) (cap := c) (size := 1) (by rw [u8s_length]; omega)
    rw [Nat.mul_one] at this
    show RowAt H _ (u8s (r.rest.drop n))
    unfold u8s at this ⊢
    rw [List.map_drop]; exact this
theorem rnumber_t {n : Nat} (d : RAt H0 H g S r) (hn : n ≤ 8)
    (hk : ∀ H', RAt H0 H' g S (r.number n).2 → Upd [g] H H' → K (.int .u64 ((r.number n).1 : Int)) H') : HCalls Try.prog 73 [.pointer (some ⟨g, 0, none⟩), .int .i64 (n : Int)] H K := by
  refine hcalls (fn := Try.f73) [] mixed Try.func73 rfl rfl (by decide +kernel) ?_
  (repeat first | refine HReg.step ?_ | refine HCode.step ?_)
  refine HCall.mk ⟨Try.f94, Try.func94, by rfl, by rfl⟩ ?_
  refine peek_t d hn (fun h1 h2 => ?_) fun H2 hno d2 f2 => ?_
  · rw [number_yes h1 h2] at hk
    obtain ⟨a, c, rfl, o, w, hc, hl⟩ := d.ex
    have hlim := d.lim
    (repeat first | refine HReg.step ?_ | refine HCode.step ?_)
    refine HLoad.one (v := .slice a r.rest.length c) (by exact o.rows.get (i := 0) rfl) ?_
    (repeat first | refine HReg.step ?_ | refine HCode.step ?_)
    refine HReq.mk ⟨by omega, by omega⟩ ?_
    (repeat first | refine HReg.step ?_ | refine HCode.step ?_)
    refine store_row o (v := .slice (slAddr a n c 1) (r.rest.length - n) (c - n)) rfl (i := 0) (by decide) (by rfl) fun H2 o2 u2 => ?_
    obtain ⟨d2, f2⟩ := d.adv (n := n) o w hc hl h2 o2 u2
    (repeat first | refine HReg.step ?_ | refine HCode.step ?_)
    exact hk H2 d2 f2
  · rw [number_no hno] at hk
    (repeat first | refine HReg.step ?_ | refine HCode.step ?_)
    exact hk H2 d2 f2
theorem number_lt (n : Nat) : (r.number n).1 < 256 ^ n := by
  unfold R.number
  have : 0 < 256 ^ n := Nat.pos_of_ne_zero (by intro h; have := Nat.pow_eq_zero.1 h; omega)
  split
  · exact this
  · split
    · exact this
    · have h := val_lt (r.rest.take n)
      rename_i h2
      have e : (r.rest.take n).length = n := by rw [List.length_take]; omega
      rwa [e] at h
theorem ru8_t (d : RAt H0 H g S r) (hk : ∀ H', RAt H0 H' g S (r.number 1).2 → Upd [g] H H' → K (.int .u8 ((r.number 1).1 : Int)) H') : HCalls Try.prog 74 [.pointer (some ⟨g, 0, none⟩)] H K := by
  refine hcalls (fn := Try.f74) [] mixed Try.func74 rfl rfl rfl ?_
  (repeat first | refine HReg.step ?_ | refine HCode.step ?_)
  refine HCall.mk ⟨Try.f73, Try.func73, by rfl, by rfl⟩ ?_
  refine rnumber_t (n := 1) d (by decide) fun H2 d2 f2 => ?_
  have := number_lt (r := r) 1
  have e : wr .u8 ((r.number 1).1 : Int) = ((r.number 1).1 : Int) := by rw [wr_u8]; omega
  (repeat first | refine HReg.step ?_ | refine HCode.step ?_)
  refine (show K (.int .u8 (wr .u8 ((r.number 1).1 : Int))) H2 from ?_)
  rw [e]
  exact hk H2 d2 f2
theorem ru32_t (d : RAt H0 H g S r) (hk : ∀ H', RAt H0 H' g S (r.number 4).2 → Upd [g] H H' → K (.int .u32 ((r.number 4).1 : Int)) H') : HCalls Try.prog 65 [.pointer (some ⟨g, 0, none⟩)] H K := by
  refine hcalls (fn := Try.f65) [] mixed Try.func65 rfl rfl rfl ?_
  (repeat first | refine HReg.step ?_ | refine HCode.step ?_)
  refine HCall.mk ⟨Try.f73, Try.func73, by rfl, by rfl⟩ ?_
  refine rnumber_t (n := 4) d (by decide) fun H2 d2 f2 => ?_
  have := number_lt (r := r) 4
  have e : wr .u32 ((r.number 4).1 : Int) = ((r.number 4).1 : Int) := by
    have h : IntKind.u32.wrap ((r.number 4).1 : Int) = ((r.number 4).1 : Int) % 4294967296 := rfl
    rw [wr_eq, h]; omega
  (repeat first | refine HReg.step ?_ | refine HCode.step ?_)
  refine (show K (.int .u32 (wr .u32 ((r.number 4).1 : Int))) H2 from ?_)
  rw [e]
  exact hk H2 d2 f2
theorem ru64_t (d : RAt H0 H g S r) (hk : ∀ H', RAt H0 H' g S (r.number 8).2 → Upd [g] H H' → K (.int .u64 ((r.number 8).1 : Int)) H') : HCalls Try.prog 75 [.pointer (some ⟨g, 0, none⟩)] H K := by
  refine hcalls (fn := Try.f75) [] mixed Try.func75 rfl rfl rfl ?_
  (repeat first | refine HReg.step ?_ | refine HCode.step ?_)
  refine HCall.mk ⟨Try.f73, Try.func73, by rfl, by rfl⟩ ?_
  refine rnumber_t (n := 8) d (by decide) fun H2 d2 f2 => ?_
  (repeat first | refine HReg.step ?_ | refine HCode.step ?_)
  exact hk H2 d2 f2
theorem err_t (d : RAt H0 H g S r) (hk : K (.int .i64 r.err) H) : HCalls Try.prog 77 [.pointer (some ⟨g, 0, none⟩)] H K := by
  refine hcalls (fn := Try.f77) [] mixed Try.func77 rfl rfl rfl ?_
  obtain ⟨a, c, rfl, o, w, hc, hl⟩ := d.ex
  (repeat first | refine HReg.step ?_ | refine HCode.step ?_)
  refine HLoad.one (v := .int .i64 r.err) (by exact o.rows.get (i := 1) rfl) ?_
  (repeat first | refine HReg.step ?_ | refine HCode.step ?_)
  exact hk
theorem end_t (d : RAt H0 H g S r) (hk : K (.int .i64 r.fin) H) : HCalls Try.prog 80 [.pointer (some ⟨g, 0, none⟩)] H K := by
  refine hcalls (fn := Try.f80) [] mixed Try.func80 rfl rfl rfl ?_
  obtain ⟨a, c, rfl, o, w, hc, hl⟩ := d.ex
  (repeat first | refine HReg.step ?_ | refine HCode.step ?_)
  refine HLoad.one (v := .int .i64 r.err) (by exact o.rows.get (i := 1) rfl) ?_
  (repeat first | refine HReg.step ?_ | refine HCode.step ?_)
  refine hif (fun h1 => ?_) (fun h1 => ?_)
  · have h1 := eqB_true.1 h1
    (repeat first | refine HReg.step ?_ | refine HCode.step ?_)
    refine HLoad.one (v := .slice a r.rest.length c) (by exact o.rows.get (i := 0) rfl) ?_
    (repeat first | refine HReg.step ?_ | refine HCode.step ?_)
    refine hif (fun h2 => ?_) (fun h2 => ?_)
    · have h2 := ltB_true.1 h2
      have e : r.fin = 5 := by unfold R.fin; rw [if_pos ⟨h1, by omega⟩]
      rw [e] at hk
      (repeat first | refine HReg.step ?_ | refine HCode.step ?_)
      exact hk
    · have h2 := ltB_false.1 h2
      have e : r.fin = r.err := by unfold R.fin; rw [if_neg (by omega)]
      rw [e] at hk
      (repeat first | refine HReg.step ?_ | refine HCode.step ?_)
      refine HLoad.one (v := .int .i64 r.err) (by exact o.rows.get (i := 1) rfl) ?_
      (repeat first | refine HReg.step ?_ | refine HCode.step ?_)
      exact hk
  · have h1 := eqB_false.1 h1
    have e : r.fin = r.err := by unfold R.fin; rw [if_neg (fun h => h1 h.1)]
    rw [e] at hk
    (repeat first | refine HReg.step ?_ | refine HCode.step ?_)
    refine HLoad.one (v := .int .i64 r.err) (by exact o.rows.get (i := 1) rfl) ?_
    (repeat first | refine HReg.step ?_ | refine HCode.step ?_)
    exact hk
end
end Go.Proofs.Ytfcmjomnpahllaa
