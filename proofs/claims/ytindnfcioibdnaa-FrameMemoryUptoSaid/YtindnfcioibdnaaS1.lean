import Derived.Test.YtindnfcioibdnaaProg
import Derived.Test.YtindnfcioibdnaaHv11
namespace Go.Proofs.Ytindnfcioibdnaa
open Go Hv
set_option linter.unusedVariables false
set_option maxRecDepth 10000
theorem mixed : Try.prog.follows .mixedOrders = true := by kernel_rfl

theorem same_t {a b : Option Addr} {n m c d : Nat} {x y : List UInt8} {H : Heap} {K : Value → Heap → Prop} (hx : RowAt H a (u8s x)) (hn : x.length = n) (hy : RowAt H b (u8s y)) (hm : y.length = m)
    (hk : K (.bool (decide (x = y))) H) : HCalls Try.prog 14 [.slice a n c, .slice b m d] H K := by
  refine hcalls (fn := Try.f14) [] mixed Try.func14 rfl rfl rfl ?_
  (repeat first | refine HReg.step ?_ | refine HCode.step ?_)
  refine HBytes.row x hn (by simpa using hx) ?_ (by simp)
  (repeat first | refine HReg.step ?_ | refine HCode.step ?_)
  refine HBytes.row y hm (by simpa using hy) ?_ (by simp)
  rw [← seqB_bs] at hk
  (repeat first | refine HReg.step ?_ | refine HCode.step ?_)
  exact hk

/-- A copy by append: onto a new row without cells. -/
theorem copy_sem {a : Option Addr} {b n c : Nat} {ys : List UInt8} {H : Heap} {K : Value → Heap → Prop} (hb : H b = none) (hy : RowAt H a (u8s ys)) (hn : ys.length = n) (hlim : n ≤ 140737488355328)
    (hk : ∀ a' cap' H', Made H H' 5 1 a' n cap' (u8s ys) → K (.slice a' n cap') H') :
    HSem Try.prog (Builtin.append_ #[22, 22] 22 [.slice (some ⟨b, 0, none⟩) 0 0, .slice a n c].toArray) (H.upd b (.cells [].toArray 5)) K := by
  (repeat first | refine HReg.step ?_ | refine HCode.step ?_)
  refine append_rows (ie := Try.t5) (z := .int .u8 0) (ys := u8s ys) (xs := []) Try.underlying22 rfl rfl rfl (by decide) ?_ ?_ ?_ (plain_u8s _) ?_ ?_ ?_
  · exact OwnRow.lit (upd_same _ _ _) rfl
  · exact hy.upd (S := []) (Upd.new hb _) (.inr (Off.nil _))
  · rw [u8s_length, hn]; exact (Nat.mul_one _).symm
  · show (0 + n) * 1 ≤ _; omega
  · omega
  · intro a' cap' H' h1 h2 h3
    rw [Nat.zero_add] at h1 ⊢
    have hb1 : ∀ p : Addr, some p = some (⟨b, 0, none⟩ : Addr) → p.block = b := by rintro p h; cases h; rfl
    refine hk a' cap' H' ⟨h1, Upd.drop (Upd.new hb _) h2 (by intro k hk; simp [blk] at hk; subst hk; exact hb), fun p hp => ?_⟩
    rcases h3 p hp with h | h
    · rw [hb1 p h.symm]; exact hb
    · refine Classical.byContradiction fun hne => ?_
      have : p.block ≠ b := fun e => hne (by rw [e]; exact hb)
      rw [upd_ne _ _ this] at h; exact hne h

theorem clone_t {a : Option Addr} {n c : Nat} {ys : List UInt8} {H : Heap} {K : Value → Heap → Prop} (hy : RowAt H a (u8s ys)) (hn : ys.length = n) (hlim : n ≤ 140737488355328)
    (hk : ∀ a' cap' H', Made H H' 5 1 a' n cap' (u8s ys) → K (.slice a' n cap') H') : HCalls Try.prog 17 [.slice a n c] H K := by
  refine hcalls (fn := Try.f17) [] mixed Try.func17 rfl rfl rfl ?_
  (repeat first | refine HReg.step ?_ | refine HCode.step ?_)
  cases a with
  | none =>
    have : ys = [] := by
      cases ys with
      | nil => rfl
      | cons y ys => obtain ⟨_, _, hh, _⟩ := hy 0 _ rfl; cases hh
    subst this
    have : n = 0 := by simpa using hn.symm
    subst this
    (repeat first | refine HReg.step ?_ | refine HCode.step ?_)
    exact hk none 0 H ⟨OwnRow.nil _ _ _, Upd.refl _ _, fun p hp => by cases hp⟩
  | some p =>
    (repeat first | refine HReg.step ?_ | refine HCode.step ?_)
    refine HReq.mk (by decide) ?_
    (repeat first | refine HReg.step ?_ | refine HCode.step ?_)
    refine HNew.mk fun b hb => ?_
    (repeat first | refine HReg.step ?_ | refine HCode.step ?_)
    refine copy_sem hb hy hn hlim fun a' cap' H' h => ?_
    (repeat first | refine HReg.step ?_ | refine HCode.step ?_)
    exact hk a' cap' H' h

theorem own_t {a : Option Addr} {n c : Nat} {ys : List UInt8} {H : Heap} {K : Value → Heap → Prop} (hy : RowAt H a (u8s ys)) (hn : ys.length = n) (hlim : n ≤ 140737488355328)
    (hk : ∀ a' cap' H', Made H H' 5 1 a' n cap' (u8s ys) → K (.slice a' n cap') H') : HCalls Try.prog 10 [.slice a n c] H K := by
  refine hcalls (fn := Try.f10) [] mixed Try.func10 rfl rfl rfl ?_
  (repeat first | refine HReg.step ?_ | refine HCode.step ?_)
  refine HReq.mk (by decide) ?_
  (repeat first | refine HReg.step ?_ | refine HCode.step ?_)
  refine HNew.mk fun b hb => ?_
  (repeat first | refine HReg.step ?_ | refine HCode.step ?_)
  refine copy_sem hb hy hn hlim fun a' cap' H' h => ?_
  (repeat first | refine HReg.step ?_ | refine HCode.step ?_)
  exact hk a' cap' H' h

/-- The four bytes of a length. -/
def hd (n : Nat) : List UInt8 := [UInt8.ofNat (n / 16777216), UInt8.ofNat (n / 65536), UInt8.ofNat (n / 256), UInt8.ofNat n]

theorem byte_shr {n k : Nat} (h : n ≤ 9223372036854775807) (hk : k < 64) : Value.int .u8 (wr .u8 (shrS .i64 (n : Int) (k : Int))) = u8 (UInt8.ofNat (n / 2 ^ k)) := by
  unfold u8
  congr 1
  rw [wr_u8, shrS_eq]
  have e1 : min ((k : Int).toNat) IntKind.i64.bits = k := by show min _ 64 = k; simp; omega
  rw [e1, UInt8.toNat_ofNat', Int.fdiv_eq_ediv_of_nonneg _ (Int.pow_nonneg (by decide))]
  push_cast
  omega
theorem appendK {a : Option Addr} {b k n c : Nat} {l : List UInt8} {xs : List Value} {ys : List UInt8} {H : Heap} {K : Value → Heap → Prop} (hb : H b = none) (hxs : xs = u8s l) (hl : l.length = k) (hy : RowAt H a (u8s ys)) (hn : ys.length = n) (hlim : k + n ≤ 140737488355328)
    (hk : ∀ a' cap' H', Made H H' 5 1 a' (k + n) cap' (u8s (l ++ ys)) → K (.slice a' (k + n) cap') H') :
    HSem Try.prog (Builtin.append_ #[22, 22] 22 [.slice (some ⟨b, 0, none⟩) k k, .slice a n c].toArray) (H.upd b (.cells xs.toArray 5)) K := by
  subst hxs; subst hl
  (repeat first | refine HReg.step ?_ | refine HCode.step ?_)
  refine append_rows (ie := Try.t5) (z := .int .u8 0) (ys := u8s ys) (xs := u8s l) Try.underlying22 rfl rfl rfl (by decide) ?_ ?_ ?_ (plain_u8s _) ?_ ?_ ?_
  · exact OwnRow.lit (upd_same _ _ _) (by rw [u8s_length]; exact (Nat.mul_one _).symm)
  · exact hy.upd (S := []) (Upd.new hb _) (.inr (Off.nil _))
  · rw [u8s_length, hn]; exact (Nat.mul_one _).symm
  · show (l.length + n) * 1 ≤ _; omega
  · omega
  · intro a' cap' H' h1 h2 h3
    rw [← u8s_append] at h1
    have hb1 : ∀ p : Addr, some p = some (⟨b, 0, none⟩ : Addr) → p.block = b := by rintro p h; cases h; rfl
    refine hk a' cap' H' ⟨h1, Upd.drop (Upd.new hb _) h2 (by intro k hk; simp [blk] at hk; subst hk; exact hb), fun p hp => ?_⟩
    rcases h3 p hp with h | h
    · rw [hb1 p h.symm]; exact hb
    · refine Classical.byContradiction fun hne => ?_
      have : p.block ≠ b := fun e => hne (by rw [e]; exact hb)
      rw [upd_ne _ _ this] at h; exact hne h

theorem byte_lo {n : Nat} : Value.int .u8 (wr .u8 (n : Int)) = u8 (UInt8.ofNat n) := by
  unfold u8
  congr 1
  rw [wr_u8, UInt8.toNat_ofNat']
  omega
theorem build_t {a : Option Addr} {n c : Nat} {ys : List UInt8} {H : Heap} {K : Value → Heap → Prop} (hy : RowAt H a (u8s ys)) (hn : ys.length = n) (hlim : n ≤ 140737488351232)
    (hlong : 1048576 < n → K (.tuple #[.slice none 0 0, .int .i64 3]) H)
    (hk : n ≤ 1048576 → ∀ a' cap' H', Made H H' 5 1 a' (4 + n) cap' (u8s (hd n ++ ys)) → K (.tuple #[.slice a' (4 + n) cap', .int .i64 0]) H') : HCalls Try.prog 9 [.slice a n c] H K := by
  refine hcalls (fn := Try.f9) [] mixed Try.func9 rfl rfl rfl ?_
  (repeat first | refine HReg.step ?_ | refine HCode.step ?_)
  refine hif (fun h => ?_) (fun h => ?_)
  · (repeat first | refine HReg.step ?_ | refine HCode.step ?_)
    exact hlong (by rw [ltB_true] at h; omega)
  · have h := ltB_false.1 h
    (repeat first | refine HReg.step ?_ | refine HCode.step ?_)
    refine HReq.mk (by decide) ?_
    (repeat first | refine HReg.step ?_ | refine HCode.step ?_)
    refine HReq.mk (by decide) ?_
    (repeat first | refine HReg.step ?_ | refine HCode.step ?_)
    refine HReq.mk (by decide) ?_
    (repeat first | refine HReg.step ?_ | refine HCode.step ?_)
    refine HReq.mk (by decide) ?_
    (repeat first | refine HReg.step ?_ | refine HCode.step ?_)
    refine HNew.mk fun b hb => ?_
    (repeat first | refine HReg.step ?_ | refine HCode.step ?_)
    refine appendK (l := hd n) hb ?_ rfl hy hn (by omega) fun a' cap' H' h' => ?_
    · rw [byte_lo]
      have e1 := byte_shr (n := n) (k := 24) (by omega) (by decide)
      have e2 := byte_shr (n := n) (k := 16) (by omega) (by decide)
      have e3 := byte_shr (n := n) (k := 8) (by omega) (by decide)
      exact congr (congrArg List.cons e1) (congr (congrArg List.cons e2) (congr (congrArg List.cons e3) rfl))
    · (repeat first | refine HReg.step ?_ | refine HCode.step ?_)
      exact hk (by omega) a' cap' H' h'
theorem byte_quo {n k : Nat} (h : n ≤ 9223372036854775807) : Value.int .u8 (wr .u8 (wr .i64 ((n : Int).tdiv (k : Int)))) = u8 (UInt8.ofNat (n / k)) := by
  unfold u8
  congr 1
  have e : (n : Int).tdiv (k : Int) = ((n / k : Nat) : Int) := rfl
  have h1 := Nat.div_le_self n k
  rw [e]
  generalize n / k = q at h1 ⊢
  rw [wr_i64n _ (by omega), wr_u8, UInt8.toNat_ofNat']
  omega
theorem byte_rem {n k : Nat} (h : n ≤ 9223372036854775807) : Value.int .u8 (wr .u8 ((wr .i64 ((n : Int).tdiv (k : Int))).tmod 256)) = u8 (UInt8.ofNat (n / k)) := by
  unfold u8
  congr 1
  have e : (n : Int).tdiv (k : Int) = ((n / k : Nat) : Int) := rfl
  have h1 := Nat.div_le_self n k
  rw [e]
  generalize n / k = q at h1 ⊢
  rw [wr_i64n _ (by omega), wr_u8, UInt8.toNat_ofNat', Int.tmod_eq_emod_of_nonneg (by omega)]
  omega
theorem byte_rem1 {n : Nat} : Value.int .u8 (wr .u8 ((n : Int).tmod 256)) = u8 (UInt8.ofNat n) := by
  unfold u8
  congr 1
  rw [wr_u8, UInt8.toNat_ofNat', Int.tmod_eq_emod_of_nonneg (by omega)]
  omega
theorem bref_t {a : Option Addr} {n c : Nat} {ys : List UInt8} {H : Heap} {K : Value → Heap → Prop} (hy : RowAt H a (u8s ys)) (hn : ys.length = n) (hlim : n ≤ 140737488351232)
    (hlong : 1048576 < n → K (.tuple #[.slice none 0 0, .int .i64 3]) H)
    (hk : n ≤ 1048576 → ∀ a' cap' H', Made H H' 5 1 a' (4 + n) cap' (u8s (hd n ++ ys)) → K (.tuple #[.slice a' (4 + n) cap', .int .i64 0]) H') : HCalls Try.prog 11 [.slice a n c] H K := by
  refine hcalls (fn := Try.f11) [] mixed Try.func11 rfl rfl rfl ?_
  (repeat first | refine HReg.step ?_ | refine HCode.step ?_)
  refine hif (fun h => ?_) (fun h => ?_)
  · (repeat first | refine HReg.step ?_ | refine HCode.step ?_)
    exact hlong (by rw [ltB_true] at h; omega)
  · have h := ltB_false.1 h
    (repeat first | refine HReg.step ?_ | refine HCode.step ?_)
    refine HReq.mk (by decide) ?_
    (repeat first | refine HReg.step ?_ | refine HCode.step ?_)
    refine HReq.mk (by decide) ?_
    (repeat first | refine HReg.step ?_ | refine HCode.step ?_)
    refine HReq.mk (by decide) ?_
    (repeat first | refine HReg.step ?_ | refine HCode.step ?_)
    refine HReq.mk (by decide) ?_
    (repeat first | refine HReg.step ?_ | refine HCode.step ?_)
    refine HReq.mk (by decide) ?_
    (repeat first | refine HReg.step ?_ | refine HCode.step ?_)
    refine HReq.mk (by decide) ?_
    (repeat first | refine HReg.step ?_ | refine HCode.step ?_)
    refine HReq.mk (by decide) ?_
    (repeat first | refine HReg.step ?_ | refine HCode.step ?_)
    refine HNew.mk fun b hb => ?_
    (repeat first | refine HReg.step ?_ | refine HCode.step ?_)
    refine appendK (l := hd n) hb ?_ rfl hy hn (by omega) fun a' cap' H' h' => ?_
    · have e1 := byte_quo (n := n) (k := 16777216) (by omega)
      have e2 := byte_rem (n := n) (k := 65536) (by omega)
      have e3 := byte_rem (n := n) (k := 256) (by omega)
      have e4 := byte_rem1 (n := n)
      exact congr (congrArg List.cons e1) (congr (congrArg List.cons e2) (congr (congrArg List.cons e3) (congr (congrArg List.cons e4) rfl)))
    · (repeat first | refine HReg.step ?_ | refine HCode.step ?_)
      exact hk (by omega) a' cap' H' h'
end Go.Proofs.Ytindnfcioibdnaa
