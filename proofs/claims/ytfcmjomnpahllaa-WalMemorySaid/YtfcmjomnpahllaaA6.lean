import Derived.Test.YtfcmjomnpahllaaA5
namespace Go.Proofs.Ytfcmjomnpahllaa
open Go Hv
set_option linter.unusedVariables false
set_option linter.unusedSimpArgs false
set_option maxRecDepth 10000
set_option maxHeartbeats 1000000
/-! Counts and texts of readers -/
def R.bnd (r : R) (most : Int) : Option Nat × R :=
  if r.err ≠ 0 then (none, r) else if r.rest.length < 4 then (none, { r with err := 4 }) else if (val (r.rest.take 4) : Int) > max most 0 then (none, { r with err := 3 }) else (some (val (r.rest.take 4)), r)
theorem count_bnd (r : R) (most : Int) : r.count most = match r.bnd most with
    | (none, r') => (0, r')
    | (some n, r') => (n, { r' with rest := r'.rest.drop 4 }) := by
  unfold R.count R.bnd
  split
  · rfl
  · split
    · rfl
    · split <;> rfl
theorem text_bnd (r : R) (most : Int) : r.text most = match r.bnd most with
    | (none, r') => ([], r')
    | (some n, r') => if r'.rest.length - 4 < n then ([], { r' with err := 4 }) else ((r'.rest.drop 4).take n, { r' with rest := r'.rest.drop (4 + n) }) := by
  unfold R.text R.bnd
  split
  · rfl
  · split
    · rfl
    · split <;> rfl
theorem bnd_some {r r' : R} {most : Int} {n : Nat} (h : r.bnd most = (some n, r')) : r' = r ∧ r.err = 0 ∧ 4 ≤ r.rest.length ∧ n < 4294967296 ∧ (n : Int) ≤ max most 0 := by
  unfold R.bnd at h
  split at h
  · cases h
  · rename_i h1
    split at h
    · cases h
    · rename_i h2
      split at h
      · cases h
      · rename_i h3
        obtain ⟨e1, e2⟩ := Prod.mk.inj h
        cases e1
        have h4 := val_lt (r.rest.take 4)
        rw [List.length_take] at h4
        have h5 : 256 ^ (min 4 r.rest.length) ≤ 256 ^ 4 := Nat.pow_le_pow_right (by decide) (by omega)
        exact ⟨e2.symm, by simpa using h1, by omega, by omega, by omega⟩
theorem bnd_none {r r' : R} {most : Int} (h : r.bnd most = (none, r')) : r'.err ≠ 0 ∧ r'.rest = r.rest := by
  unfold R.bnd at h
  split at h
  · rename_i h1; cases h; exact ⟨h1, rfl⟩
  · split at h
    · cases h; exact ⟨by show (4 : Int) ≠ 0; decide, rfl⟩
    · split at h
      · cases h; exact ⟨by show (3 : Int) ≠ 0; decide, rfl⟩
      · cases h
section
variable {H0 H : Heap} {g : Nat} {S : List Nat} {r : R} {K : Value → Heap → Prop}
theorem bounded_t {most : Int} (d : RAt H0 H g S r) (hm : most ≤ 9223372036854775807)
    (hyes : ∀ n : Nat, r.bnd most = (some n, r) → K (.tuple #[.int .i64 (n : Int), .bool true]) H)
    (hno : ∀ r' H', r.bnd most = (none, r') → RAt H0 H' g S r' → Upd [g] H H' → K (.tuple #[.int .i64 0, .bool false]) H') :
    HCalls Try.prog 95 [.pointer (some ⟨g, 0, none⟩), .int .i64 most] H K := by
  refine hcalls (fn := Try.f95) [] mixed Try.func95 rfl rfl (by decide +kernel) ?_
  (repeat first | refine HReg.step ?_ | refine HCode.step ?_)
  refine HCall.mk ⟨Try.f94, Try.func94, by rfl, by rfl⟩ ?_
  refine peek_t (n := 4) d (by decide) (fun h1 h2 => ?_) fun H2 hn d2 f2 => ?_
  · have hv : val (r.rest.take 4) < 4294967296 := by
      have h4 := val_lt (r.rest.take 4)
      have h5 : (r.rest.take 4).length = 4 := by rw [List.length_take]; omega
      rw [h5] at h4; omega
    have w : wr .u64 (max most 0) = max most 0 := by rw [wr_u64]; omega
    have w2 : wr .i64 (val (r.rest.take 4) : Int) = (val (r.rest.take 4) : Int) := wr_i64 (by omega) (by omega)
    (repeat first | refine HReg.step ?_ | refine HCode.step ?_)
    rw [ite_mx, ite_max, w]
    refine hif (fun h3 => ?_) (fun h3 => ?_)
    · have h3 := ltB_true.1 h3
      have e : r.bnd most = (none, { r with err := 3 }) := by unfold R.bnd; rw [if_neg (by rw [h1]; simp), if_neg (by omega), if_pos (by omega)]
      obtain ⟨a, c, rfl, o, wd, hc, hl⟩ := d.ex
      (repeat first | refine HReg.step ?_ | refine HCode.step ?_)
      refine store_row o (v := .int .i64 3) rfl (i := 1) (by decide) (by rfl) fun H2 o2 u2 => ?_
      have o2 : OwnRow H2 126 1 (some ⟨g, 0, none⟩) 2 2 [.slice a r.rest.length c, .int .i64 3] := o2
      obtain ⟨d2, f2⟩ := d.set (r' := { r with err := 3 }) o hl (.inr (.inl rfl)) (Nat.le_refl _) o2 u2 rfl wd hc
      (repeat first | refine HReg.step ?_ | refine HCode.step ?_)
      exact hno _ H2 e d2 f2
    · have h3 := ltB_false.1 h3
      have e : r.bnd most = (some (val (r.rest.take 4)), r) := by unfold R.bnd; rw [if_neg (by rw [h1]; simp), if_neg (by omega), if_neg (by omega)]
      have := hyes _ e
      (repeat first | refine HReg.step ?_ | refine HCode.step ?_)
      refine (show K (.tuple #[.int .i64 (wr .i64 (val (r.rest.take 4) : Int)), .bool true]) H from ?_)
      rw [w2]; exact this
  · have e : r.bnd most = (none, if r.err = 0 then { r with err := 4 } else r) := by
      unfold R.bnd
      by_cases h1 : r.err = 0
      · rw [if_neg (by rw [h1]; simp), if_pos (by omega), if_pos h1]
      · rw [if_pos h1, if_neg h1]
    have w0 : wr .i64 0 = 0 := wr_i64 (by decide) (by decide)
    have := hno _ H2 e d2 f2
    (repeat first | refine HReg.step ?_ | refine HCode.step ?_)
    refine (show K (.tuple #[.int .i64 (wr .i64 0), .bool false]) H2 from ?_)
    rw [w0]; exact this
theorem count_t {most : Int} (d : RAt H0 H g S r) (hm : most ≤ 9223372036854775807)
    (hk : ∀ H', RAt H0 H' g S (r.count most).2 → Upd [g] H H' → K (.int .i64 ((r.count most).1 : Int)) H') : HCalls Try.prog 76 [.pointer (some ⟨g, 0, none⟩), .int .i64 most] H K := by
  refine hcalls (fn := Try.f76) [] mixed Try.func76 rfl rfl (by decide +kernel) ?_
  rw [count_bnd] at hk
  (repeat first | refine HReg.step ?_ | refine HCode.step ?_)
  refine HCall.mk ⟨Try.f95, Try.func95, by rfl, by rfl⟩ ?_
  refine bounded_t d hm (fun n e => ?_) fun r' H2 e d2 f2 => ?_
  · rw [e] at hk
    obtain ⟨_, h1, h2, h3, h4⟩ := bnd_some e
    obtain ⟨a, c, rfl, o, w, hc, hl⟩ := d.ex
    (repeat first | refine HReg.step ?_ | refine HCode.step ?_)
    refine HLoad.one (v := .slice a r.rest.length c) (by exact o.rows.get (i := 0) rfl) ?_
    (repeat first | refine HReg.step ?_ | refine HCode.step ?_)
    refine HReq.mk ⟨by omega, by omega⟩ ?_
    (repeat first | refine HReg.step ?_ | refine HCode.step ?_)
    refine store_row o (v := .slice (slAddr a 4 c 1) (r.rest.length - 4) (c - 4)) rfl (i := 0) (by decide) (by rfl) fun H2 o2 u2 => ?_
    obtain ⟨d2, f2⟩ := d.adv (n := 4) o w hc hl h2 o2 u2
    (repeat first | refine HReg.step ?_ | refine HCode.step ?_)
    exact hk H2 d2 f2
  · rw [e] at hk
    (repeat first | refine HReg.step ?_ | refine HCode.step ?_)
    exact hk H2 d2 f2
theorem rtext_t {most : Int} (d : RAt H0 H g S r) (hm : most ≤ 9223372036854775807)
    (hk : ∀ H', RAt H0 H' g S (r.text most).2 → Upd [g] H H' → K (.string (bs (r.text most).1)) H') : HCalls Try.prog 78 [.pointer (some ⟨g, 0, none⟩), .int .i64 most] H K := by
  refine hcalls (fn := Try.f78) [] mixed Try.func78 rfl rfl (by decide +kernel) ?_
  rw [text_bnd] at hk
  (repeat first | refine HReg.step ?_ | refine HCode.step ?_)
  refine HCall.mk ⟨Try.f95, Try.func95, by rfl, by rfl⟩ ?_
  refine bounded_t d hm (fun n e => ?_) fun r' H2 e d2 f2 => ?_
  rotate_left
  · rw [e] at hk
    (repeat first | refine HReg.step ?_ | refine HCode.step ?_)
    exact hk H2 d2 f2
  rw [e] at hk
  obtain ⟨_, h1, h2, h3, h4⟩ := bnd_some e
  obtain ⟨a, c, rfl, o, w, hc, hl⟩ := d.ex
  have hlim := d.lim
  have w1 : wr .i64 ((r.rest.length : Int) - 4) = (r.rest.length : Int) - 4 := wr_i64 (by omega) (by omega)
  have w2 : wr .i64 (4 + (n : Int)) = ((4 + n : Nat) : Int) := by rw [wr_i64 (by omega) (by omega)]; omega
  dsimp only at hk
  (repeat first | refine HReg.step ?_ | refine HCode.step ?_)
  refine HLoad.one (v := .slice a r.rest.length c) (by exact o.rows.get (i := 0) rfl) ?_
  (repeat first | refine HReg.step ?_ | refine HCode.step ?_)
  rw [w1]
  refine hif (fun h5 => ?_) (fun h5 => ?_)
  · have h5 := ltB_true.1 h5
    rw [if_pos (by omega)] at hk
    (repeat first | refine HReg.step ?_ | refine HCode.step ?_)
    refine store_row o (v := .int .i64 4) rfl (i := 1) (by decide) (by rfl) fun H2 o2 u2 => ?_
    have o2 : OwnRow H2 126 1 (some ⟨g, 0, none⟩) 2 2 [.slice a r.rest.length c, .int .i64 4] := o2
    obtain ⟨d2, f2⟩ := d.set (r' := { r with err := 4 }) o hl (.inr (.inr rfl)) (Nat.le_refl _) o2 u2 rfl w hc
    (repeat first | refine HReg.step ?_ | refine HCode.step ?_)
    exact hk H2 d2 f2
  · have h5 := ltB_false.1 h5
    rw [if_neg (by omega)] at hk
    (repeat first | refine HReg.step ?_ | refine HCode.step ?_)
    refine HLoad.one (v := .slice a r.rest.length c) (by exact o.rows.get (i := 0) rfl) ?_
    (repeat first | refine HReg.step ?_ | refine HCode.step ?_)
    rw [w2]
    refine HReq.mk ⟨by omega, by omega⟩ ?_
    (repeat first | refine HReg.step ?_ | refine HCode.step ?_)
    refine HReq.mk ⟨by omega, by omega⟩ ?_
    have hrow : RowAt H (slAddr a 4 c 1) (u8s ((r.rest.drop 4).take n)) := by
      have := (w.sl (l := 4) (cap := c) (size := 1) (by rw [u8s_length]; omega)).take n
      rw [Nat.mul_one] at this
      unfold u8s at this ⊢
      rw [List.map_take, List.map_drop]; exact this
    (repeat first | refine HReg.step ?_ | refine HCode.step ?_)
    refine HBytes.row ((r.rest.drop 4).take n) (by rw [List.length_take, List.length_drop]; omega) (fun Hx hx => by rw [List.mem_singleton.1 hx]; exact hrow) ?_ (by simp)
    (repeat first | refine HReg.step ?_ | refine HCode.step ?_)
    refine HLoad.one (v := .slice a r.rest.length c) (by exact o.rows.get (i := 0) rfl) ?_
    (repeat first | refine HReg.step ?_ | refine HCode.step ?_)
    rw [w2]
    refine HReq.mk ⟨by omega, by omega⟩ ?_
    (repeat first | refine HReg.step ?_ | refine HCode.step ?_)
    refine store_row o (v := .slice (slAddr a (4 + n) c 1) (r.rest.length - (4 + n)) (c - (4 + n))) rfl (i := 0) (by decide) (by rfl) fun H2 o2 u2 => ?_
    obtain ⟨d2, f2⟩ := d.adv (n := 4 + n) o w hc hl (by omega) o2 u2
    (repeat first | refine HReg.step ?_ | refine HCode.step ?_)
    exact hk H2 d2 f2
end
end Go.Proofs.Ytfcmjomnpahllaa
