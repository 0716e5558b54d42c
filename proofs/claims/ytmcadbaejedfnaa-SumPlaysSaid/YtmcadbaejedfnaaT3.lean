import Derived.Test.YtmcadbaejedfnaaT2
namespace Go.Proofs.Ytmcadbaejedfnaa
open Go Hv Crc
set_option linter.unusedVariables false
set_option maxRecDepth 10000
set_option maxHeartbeats 1000000
/-- A copy by append: onto a new row without cells. -/
theorem copy_sem {a : Option Addr} {b n c : Nat} {ys : List UInt8} {H : Heap} {K : Value → Heap → Prop} (hb : H b = none) (hy : RowAt H a (u8s ys)) (hn : ys.length = n) (hlim : n ≤ 140737488355328)
    (hk : ∀ a' cap' H', Made H H' 5 1 a' n cap' (u8s ys) → K (.slice a' n cap') H') :
    HSem Try.prog (Builtin.append_ #[22, 22] 22 [.slice (some ⟨b, 0, none⟩) 0 0, .slice a n c].toArray) (H.upd b (.cells [].toArray 5)) K := by
  (repeat first | refine HReg.step ?_ | refine HCode.step ?_)
  refine append_rows (ie := Try.t5) (z := .int .u8 0) (ys := u8s ys) (xs := []) Try.underlying22 rfl rfl rfl (by decide) ?_ ?_ ?_ (plain_u8s _) ?_ ?_ ?_
  · exact OwnRow.lit (upd_same _ _ _) rfl
  · exact hy.upd (S := []) (Upd.new hb _) (.inr (Off.nil _))
  · rw [u8s_length, hn]; exact (Nat.mul_one _).symm
  · show (0 + n) * 1 ≤ _; omega
  · omega
  · intro a' cap' H' h1 h2 h3
    rw [Nat.zero_add] at h1 ⊢
    have hb1 : ∀ p : Addr, some p = some (⟨b, 0, none⟩ : Addr) → p.block = b := by rintro p h; cases h; rfl
    refine hk a' cap' H' ⟨h1, Upd.drop (Upd.new hb _) h2 (by intro k hk; simp [blk] at hk; subst hk; exact hb), fun p hp => ?_⟩
    rcases h3 p hp with h | h
    · rw [hb1 p h.symm]; exact hb
    · refine Classical.byContradiction fun hne => ?_
      have : p.block ≠ b := fun e => hne (by rw [e]; exact hb)
      rw [upd_ne _ _ this] at h; exact hne h

theorem own_t {a : Option Addr} {n c : Nat} {ys : List UInt8} {H : Heap} {K : Value → Heap → Prop} (hy : RowAt H a (u8s ys)) (hn : ys.length = n) (hlim : n ≤ 140737488355328)
    (hk : ∀ a' cap' H', Made H H' 5 1 a' n cap' (u8s ys) → K (.slice a' n cap') H') : HCalls Try.prog 8 [.slice a n c] H K := by
  refine hcalls (fn := Try.f8) [] mixed Try.func8 rfl rfl rfl ?_
  (repeat first | refine HReg.step ?_ | refine HCode.step ?_)
  refine HReq.mk (by decide) ?_
  (repeat first | refine HReg.step ?_ | refine HCode.step ?_)
  refine HNew.mk fun b hb => ?_
  (repeat first | refine HReg.step ?_ | refine HCode.step ?_)
  refine copy_sem hb hy hn hlim fun a' cap' H' h => ?_
  (repeat first | refine HReg.step ?_ | refine HCode.step ?_)
  exact hk a' cap' H' h

theorem append_own {a b : Option Addr} {n cap m c : Nat} {xs ys : List UInt8} {H : Heap} {K : Value → Heap → Prop} (ho : OwnRow H 5 1 a n cap (u8s xs)) (hy : RowAt H b (u8s ys)) (hm : ys.length = m) (hlim : n + m ≤ 140737488355328)
    (hk : ∀ a' cap' H', OwnRow H' 5 1 a' (n + m) cap' (u8s (xs ++ ys)) → Upd (blk a) H H' → (∀ p, a' = some p → a = some p ∨ H p.block = none) → K (.slice a' (n + m) cap') H') :
    HSem Try.prog (Builtin.append_ #[22, 22] 22 [.slice a n cap, .slice b m c].toArray) H K := by
  refine append_rows (ie := Try.t5) (z := .int .u8 0) (ys := u8s ys) (xs := u8s xs) Try.underlying22 rfl rfl rfl (by decide) ho hy ?_ (plain_u8s _) ?_ ?_ ?_
  · rw [u8s_length, hm]; exact (Nat.mul_one _).symm
  · show (n + m) * 1 ≤ _; omega
  · omega
  · intro a' cap' H' h1 h2 h3
    rw [← u8s_append] at h1
    exact hk a' cap' H' h1 h2 h3
theorem append_made {a b : Option Addr} {n cap m c : Nat} {xs ys : List UInt8} {H0 H : Heap} {K : Value → Heap → Prop} (hm : Made H0 H 5 1 a n cap (u8s xs)) (hy : RowAt H b (u8s ys)) (hml : ys.length = m) (hlim : n + m ≤ 140737488355328)
    (hk : ∀ a' cap' H', Made H0 H' 5 1 a' (n + m) cap' (u8s (xs ++ ys)) → K (.slice a' (n + m) cap') H') :
    HSem Try.prog (Builtin.append_ #[22, 22] 22 [.slice a n cap, .slice b m c].toArray) H K := by
  refine append_own hm.own hy hml hlim fun a' cap' H' o u f => hk a' cap' H' ⟨o, ?_, ?_⟩
  · refine Upd.drop hm.upd u fun b hb => ?_
    obtain ⟨p, hp, rfl⟩ := blk_of hb
    exact hm.new p hp
  · intro p hp
    rcases f p hp with h | h
    · exact hm.new p h
    · exact Upd.none (S := []) hm.upd (by simp) h
theorem row_lit {H : Heap} {b : Nat} {l : List UInt8} {cur : Array Value} {e : TypeId} {f : Nat × Nat} (h : H b = some (.cells cur e f)) (hl : cur.toList = u8s l) : RowAt H (some ⟨b, 0, none⟩) (u8s l) := by
  rw [← hl]; exact RowAt.of_cells h

structure UpInv (b : Nat) (r : W) (ys : List UInt8) (n : Nat) (H0 : Heap) (m : Nat) (vs : List Value) (H' : Heap) : Prop where
  ex : ∃ (i : Nat) (w : W), vs = [u32 w, .int .i64 (i : Int)] ∧ m + i = n ∧ upd w (ys.drop i) = r ∧ H0 = H'
theorem drop_get {α : Type} {l : List α} {i : Nat} {x : α} (h : l[i]? = some x) : l.drop i = x :: l.drop (i + 1) := by
  obtain ⟨h1, h2⟩ := List.getElem?_eq_some_iff.1 h
  rw [List.drop_eq_getElem_cons h1, h2]
theorem update_t {s : W} {a : Option Addr} {n c : Nat} {ys : List UInt8} {H : Heap} {K : Value → Heap → Prop} (hy : RowAt H a (u8s ys)) (hn : ys.length = n) (hlim : n ≤ 140737488355328)
    (hk : ∀ H', Upd [] H H' → K (u32 (crc s ys)) H') : HCalls Try.prog 11 [u32 s, .slice a n c] H K := by
  refine hcalls (fn := Try.f11) [] mixed Try.func11 rfl rfl (by decide +kernel) ?_
  (repeat first | refine HReg.step ?_ | refine HCode.step ?_)
  refine HCall.mk ⟨Try.f21, Try.func21, by rfl, by rfl⟩ ?_
  refine halves_t fun H1 u1 => ?_
  (repeat first | refine HReg.step ?_ | refine HCode.step ?_)
  refine HNew.mk fun b hb => ?_
  (repeat first | refine HReg.step ?_ | refine HCode.step ?_)
  have ob : OwnRow (H1.upd b (.cells (List.replicate 16 (Value.int .u32 0)).toArray 40)) 40 1 (some ⟨b, 0, none⟩) 16 16 (List.replicate 16 (Value.int .u32 0)) := OwnRow.lit (upd_same _ _ _) rfl
  refine storeN_own (i := 0) tab ob rfl tab_plain fun H2 o2 u2 => ?_
  have u02 : Upd [] H H2 := Upd.drop (u1.trans (Upd.new hb _)) u2 fun k hk => by
    rw [List.mem_singleton.1 hk]; exact Upd.none (S := []) u1 (by simp) hb
  (repeat first | refine HReg.step ?_ | refine HCode.step ?_)
  rw [not32]
  refine hloopC [6, 8, 14, 15, 16, 17, 18, 19, 20, 21, 22, 23, 24, 25, 26, 27, 28, 29, 30, 31, 32, 33, 34, 35, 36] [6, 14] (UpInv b (upd (~~~s) ys) ys n H2) rfl (by repeat' first | exact Resp.retD | exact Resp1.valuesK | refine Resp.blockD ?_ | refine Resp.thenD ?_ ?_ | refine Resp.hcode ?_) ?_ ?_
  · exact ⟨n, UpInv.mk ⟨0, ~~~s, rfl, rfl, rfl, rfl⟩⟩
  rintro m vs f H' ⟨i, w, rfl, hmi, hw, rfl⟩
  (repeat first | refine HReg.step ?_ | refine HCode.step ?_)
  refine hif (fun h => ?_) (fun h => ?_)
  · have h := ltB_true.1 h
    obtain ⟨x, hx⟩ : ∃ x, ys[i]? = some x := ⟨ys[i]'(by omega), by simp⟩
    obtain ⟨b', off, rfl⟩ : ∃ b off, a = some ⟨b, off, none⟩ := by
      obtain ⟨b', off, hh, _⟩ := hy i _ (u8s_get hx)
      exact ⟨b', off, hh⟩
    (repeat first | refine HReg.step ?_ | refine HCode.step ?_)
    refine HReq.mk ⟨by omega, by omega⟩ ?_
    (repeat first | refine HReg.step ?_ | refine HCode.step ?_)
    refine HLoad.one (v := u8 x) (by exact (hy.upd u02 (.inr (Off.nil _))).get (u8s_get hx)) ?_
    (repeat first | refine HReg.step ?_ | refine HCode.step ?_)
    rw [conv8, xor32]
    refine HReq.mk (by decide) ?_
    (repeat first | refine HReg.step ?_ | refine HCode.step ?_)
    have a15 : ∀ w : W, bitsS .and .u32 (w.toNat : Int) 15 = ((w &&& 15#32).toNat : Int) := fun w => and32 w 15#32
    have l15 : ∀ w : W, (w &&& 15#32).toNat < 16 := fun w => by
      rw [BitVec.toNat_and]; exact Nat.and_lt_two_pow (n := 4) _ (by decide)
    have g15 : ∀ w : W, tab[(w &&& 15#32).toNat]? = some (u32 (shn 4 (w &&& 15#32))) := fun w => by
      rw [tab_get _ (l15 w)]; simp
    rw [shr32_4, a15]
    have l1 := l15 (w ^^^ byteW x)
    refine HReq.mk ⟨by omega, by omega⟩ ?_
    (repeat first | refine HReg.step ?_ | refine HCode.step ?_)
    refine HLoad.one (v := u32 (shn 4 ((w ^^^ byteW x) &&& 15#32))) (by exact o2.rows.get (g15 _)) ?_
    (repeat first | refine HReg.step ?_ | refine HCode.step ?_)
    rw [xor32, nibble]
    refine HReq.mk (by decide) ?_
    (repeat first | refine HReg.step ?_ | refine HCode.step ?_)
    rw [shr32_4, a15]
    have l2 := l15 (shn 4 (w ^^^ byteW x))
    refine HReq.mk ⟨by omega, by omega⟩ ?_
    (repeat first | refine HReg.step ?_ | refine HCode.step ?_)
    refine HLoad.one (v := u32 (shn 4 (shn 4 (w ^^^ byteW x) &&& 15#32))) (by exact o2.rows.get (g15 _)) ?_
    (repeat first | refine HReg.step ?_ | refine HCode.step ?_)
    rw [xor32, nibble, ← shn_add]
    have hwi : wr .i64 ((i : Int) + 1) = ((i + 1 : Nat) : Int) := by rw [wr_i64 (by omega) (by omega)]; omega
    rw [hwi]
    refine Exists.intro (m - 1) ?_
    refine And.intro (by omega) ?_
    rw [drop_get hx] at hw
    exact UpInv.mk ⟨i + 1, _, rfl, by omega, hw, rfl⟩
  · have h := ltB_false.1 h
    (repeat first | refine HReg.step ?_ | refine HCode.step ?_)
    rw [List.drop_eq_nil_of_le (by omega)] at hw
    have hw' : w = upd (~~~s) ys := hw
    rw [not32, hw']
    exact hk _ u02
theorem sum_t {a : Option Addr} {n c : Nat} {ys : List UInt8} {H : Heap} {K : Value → Heap → Prop} (hy : RowAt H a (u8s ys)) (hn : ys.length = n) (hlim : n ≤ 140737488355328)
    (hk : ∀ H', Upd [] H H' → K (u32 (crc 0#32 ys)) H') : HCalls Try.prog 9 [.slice a n c] H K := by
  refine hcalls (fn := Try.f9) [] mixed Try.func9 rfl rfl (by decide +kernel) ?_
  (repeat first | refine HReg.step ?_ | refine HCode.step ?_)
  refine HCall.mk ⟨Try.f11, Try.func11, by rfl, by rfl⟩ ?_
  have e0' : Value.int .u32 0 = u32 0#32 := rfl
  rw [e0']
  refine update_t hy hn hlim fun H' hu => ?_
  (repeat first | refine HReg.step ?_ | refine HCode.step ?_)
  exact hk H' hu
structure RuInv (r : W) (ys : List UInt8) (n : Nat) (H0 : Heap) (m : Nat) (vs : List Value) (H' : Heap) : Prop where
  ex : ∃ (i : Nat) (w : W), vs = [u32 w, .int .i64 (i : Int)] ∧ m + i = n ∧ upd w (ys.drop i) = r ∧ H0 = H'
structure RvInv (w : W) (H0 : Heap) (m : Nat) (vs : List Value) (H' : Heap) : Prop where
  ex : ∃ k : Nat, vs = [u32 (shn k w), .int .i64 (k : Int)] ∧ m + k = 8 ∧ H0 = H'
theorem rupdate_t {s : W} {a : Option Addr} {n c : Nat} {ys : List UInt8} {H : Heap} {K : Value → Heap → Prop} (hy : RowAt H a (u8s ys)) (hn : ys.length = n) (hlim : n ≤ 140737488355328)
    (hk : K (u32 (crc s ys)) H) : HCalls Try.prog 12 [u32 s, .slice a n c] H K := by
  refine hcalls (fn := Try.f12) [] mixed Try.func12 rfl rfl (by decide +kernel) ?_
  (repeat first | refine HReg.step ?_ | refine HCode.step ?_)
  rw [not32]
  refine hloopC [5, 6, 7, 10, 11, 12, 13, 14, 15, 16, 17, 18, 19, 20, 21, 22, 23, 24, 25, 26, 27, 28] [5, 6] (RuInv (upd (~~~s) ys) ys n H) rfl (by repeat' first | exact Resp.retD | exact Resp1.valuesK | refine Resp.blockD ?_ | refine Resp.thenD ?_ ?_ | refine Resp.hcode ?_) ?_ ?_
  · exact ⟨n, RuInv.mk ⟨0, ~~~s, rfl, rfl, rfl, rfl⟩⟩
  rintro m vs f H' ⟨i, w, rfl, hmi, hw, rfl⟩
  (repeat first | refine HReg.step ?_ | refine HCode.step ?_)
  refine hif (fun h => ?_) (fun h => ?_)
  · have h := ltB_true.1 h
    obtain ⟨x, hx⟩ : ∃ x, ys[i]? = some x := ⟨ys[i]'(by omega), by simp⟩
    obtain ⟨b', off, rfl⟩ : ∃ b off, a = some ⟨b, off, none⟩ := by
      obtain ⟨b', off, hh, _⟩ := hy i _ (u8s_get hx)
      exact ⟨b', off, hh⟩
    (repeat first | refine HReg.step ?_ | refine HCode.step ?_)
    refine HReq.mk ⟨by omega, by omega⟩ ?_
    (repeat first | refine HReg.step ?_ | refine HCode.step ?_)
    refine HLoad.one (v := u8 x) (by exact hy.get (u8s_get hx)) ?_
    (repeat first | refine HReg.step ?_ | refine HCode.step ?_)
    rw [conv8, xor32]
    refine hloopC [5, 7, 23, 24, 25, 26, 27, 28] [5, 7] (RvInv (w ^^^ byteW x) H) rfl (by repeat' first | exact Resp.retD | exact Resp1.valuesK | refine Resp.blockD ?_ | refine Resp.thenD ?_ ?_ | refine Resp.hcode ?_) ?_ ?_
    · exact ⟨8, RvInv.mk ⟨0, rfl, rfl, rfl⟩⟩
    rintro m2 vs2 f2 H2 ⟨k, rfl, hmk, rfl⟩
    (repeat first | refine HReg.step ?_ | refine HCode.step ?_)
    refine hif (fun h2 => ?_) (fun h2 => ?_)
    · have h2 := ltB_true.1 h2
      (repeat first | refine HReg.step ?_ | refine HCode.step ?_)
      refine HCall.mk ⟨Try.f22, Try.func22, by rfl, by rfl⟩ ?_
      refine shift_t ?_
      (repeat first | refine HReg.step ?_ | refine HCode.step ?_)
      have hwk : wr .i64 ((k : Int) + 1) = ((k + 1 : Nat) : Int) := by rw [wr_i64 (by omega) (by omega)]; omega
      rw [hwk, ← shn_sh]
      refine Exists.intro (m2 - 1) ?_
      refine And.intro (by omega) ?_
      exact RvInv.mk ⟨k + 1, rfl, by omega, rfl⟩
    · have h2 := ltB_false.1 h2
      (repeat first | refine HReg.step ?_ | refine HCode.step ?_)
      have hk8 : k = 8 := by omega
      subst hk8
      have hwi : wr .i64 ((i : Int) + 1) = ((i + 1 : Nat) : Int) := by rw [wr_i64 (by omega) (by omega)]; omega
      rw [hwi]
      refine Exists.intro (m - 1) ?_
      refine And.intro (by omega) ?_
      rw [drop_get hx] at hw
      exact RuInv.mk ⟨i + 1, _, rfl, by omega, hw, rfl⟩
  · have h := ltB_false.1 h
    (repeat first | refine HReg.step ?_ | refine HCode.step ?_)
    rw [List.drop_eq_nil_of_le (by omega)] at hw
    have hw' : w = upd (~~~s) ys := hw
    rw [not32, hw']
    exact hk
theorem rsum_t {a : Option Addr} {n c : Nat} {ys : List UInt8} {H : Heap} {K : Value → Heap → Prop} (hy : RowAt H a (u8s ys)) (hn : ys.length = n) (hlim : n ≤ 140737488355328)
    (hk : K (u32 (crc 0#32 ys)) H) : HCalls Try.prog 10 [.slice a n c] H K := by
  refine hcalls (fn := Try.f10) [] mixed Try.func10 rfl rfl (by decide +kernel) ?_
  (repeat first | refine HReg.step ?_ | refine HCode.step ?_)
  refine HCall.mk ⟨Try.f12, Try.func12, by rfl, by rfl⟩ ?_
  have e0' : Value.int .u32 0 = u32 0#32 := rfl
  rw [e0']
  refine rupdate_t hy hn hlim ?_
  (repeat first | refine HReg.step ?_ | refine HCode.step ?_)
  exact hk
/-! Hashes -/
noncomputable def feedL : Int → List UInt8 → Int
  | h, [] => h
  | h, c :: cs => feedL (wr .u64 (bitsS .xor .u64 h (wr .u64 (c.toNat : Int)) * 1099511628211)) cs
theorem feedL_append (h : Int) (a b : List UInt8) : feedL h (a ++ b) = feedL (feedL h a) b := by
  induction a generalizing h with
  | nil => rfl
  | cons c a ih => exact ih _
structure FeInv (r : Int) (l : List UInt8) (H0 : Heap) (m : Nat) (vs : List Value) (H' : Heap) : Prop where
  ex : ∃ (i : Nat) (h : Int), vs = [.int .u64 h, .int .i64 (i : Int)] ∧ m + i = l.length ∧ feedL h (l.drop i) = r ∧ H0 = H'
theorem byteAt_bs {l : List UInt8} {i : Nat} {x : UInt8} (h : l[i]? = some x) : byteAt (bs l) (i : Int) = (x.toNat : Int) := by
  show ((l.getD (i : Int).toNat 0).toNat : Int) = _
  have : (i : Int).toNat = i := rfl
  rw [this]; simp [List.getD, h]
theorem feed_t {h : Int} {l : List UInt8} {H : Heap} {K : Value → Heap → Prop} (hlim : l.length ≤ 9223372036854775806) (hk : K (.int .u64 (feedL h l)) H) : HCalls Try.prog 17 [.int .u64 h, .string (bs l)] H K := by
  refine hcalls (fn := Try.f17) [] mixed Try.func17 rfl rfl (by decide +kernel) ?_
  (repeat first | refine HReg.step ?_ | refine HCode.step ?_)
  refine hloopC [0, 5, 8, 9, 10, 11, 12, 13, 14, 15, 16, 17, 18, 19] [0, 8] (FeInv (feedL h l) l H) rfl (by repeat' first | exact Resp.retD | exact Resp1.valuesK | refine Resp.blockD ?_ | refine Resp.thenD ?_ ?_ | refine Resp.hcode ?_) ?_ ?_
  · exact ⟨l.length, FeInv.mk ⟨0, h, rfl, rfl, rfl, rfl⟩⟩
  rintro m vs f H' ⟨i, h', rfl, hmi, hw, rfl⟩
  (repeat first | refine HReg.step ?_ | refine HCode.step ?_)
  refine hif (fun h => ?_) (fun h => ?_)
  · have h := ltB_true.1 h
    rw [bs_size] at h
    obtain ⟨x, hx⟩ : ∃ x, l[i]? = some x := ⟨l[i]'(by omega), by simp⟩
    (repeat first | refine HReg.step ?_ | refine HCode.step ?_)
    refine HReq.mk ⟨by omega, by rw [bs_size]; omega⟩ ?_
    (repeat first | refine HReg.step ?_ | refine HCode.step ?_)
    have hwi : wr .i64 ((i : Int) + 1) = ((i + 1 : Nat) : Int) := by rw [wr_i64 (by omega) (by omega)]; omega
    rw [hwi, byteAt_bs hx]
    refine Exists.intro (m - 1) ?_
    refine And.intro (by omega) ?_
    rw [drop_get hx] at hw
    exact FeInv.mk ⟨i + 1, _, rfl, by omega, hw, rfl⟩
  · have h := ltB_false.1 h
    rw [bs_size] at h
    (repeat first | refine HReg.step ?_ | refine HCode.step ?_)
    rw [List.drop_eq_nil_of_le (by omega)] at hw
    have hw' : h' = feedL _ l := hw
    rw [hw']
    exact hk
theorem rfeed_t {h : Int} {l : List UInt8} {H : Heap} {K : Value → Heap → Prop} (hlim : l.length ≤ 9223372036854775806) (hk : K (.int .u64 (feedL h l)) H) : HCalls Try.prog 18 [.int .u64 h, .string (bs l)] H K := by
  refine hcalls (fn := Try.f18) [] mixed Try.func18 rfl rfl (by decide +kernel) ?_
  (repeat first | refine HReg.step ?_ | refine HCode.step ?_)
  refine hloopC [0, 5, 6, 7, 8, 9, 10, 11, 12, 13, 14, 15, 16, 17, 18] [0, 5] (FeInv (feedL h l) l H) rfl (by repeat' first | exact Resp.retD | exact Resp1.valuesK | refine Resp.blockD ?_ | refine Resp.thenD ?_ ?_ | refine Resp.hcode ?_) ?_ ?_
  · exact ⟨l.length, FeInv.mk ⟨0, h, rfl, rfl, rfl, rfl⟩⟩
  rintro m vs f H' ⟨i, h', rfl, hmi, hw, rfl⟩
  (repeat first | refine HReg.step ?_ | refine HCode.step ?_)
  refine hif (fun h => ?_) (fun h => ?_)
  · have h := ltB_true.1 h
    rw [bs_size] at h
    obtain ⟨x, hx⟩ : ∃ x, l[i]? = some x := ⟨l[i]'(by omega), by simp⟩
    (repeat first | refine HReg.step ?_ | refine HCode.step ?_)
    refine HReq.mk ⟨by omega, by rw [bs_size]; omega⟩ ?_
    (repeat first | refine HReg.step ?_ | refine HCode.step ?_)
    have hwi : wr .i64 ((i : Int) + 1) = ((i + 1 : Nat) : Int) := by rw [wr_i64 (by omega) (by omega)]; omega
    rw [hwi, byteAt_bs hx]
    refine Exists.intro (m - 1) ?_
    refine And.intro (by omega) ?_
    rw [drop_get hx] at hw
    exact FeInv.mk ⟨i + 1, _, rfl, by omega, hw, rfl⟩
  · have h := ltB_false.1 h
    rw [bs_size] at h
    (repeat first | refine HReg.step ?_ | refine HCode.step ?_)
    rw [List.drop_eq_nil_of_le (by omega)] at hw
    have hw' : h' = feedL _ l := hw
    rw [hw']
    exact hk
theorem begin_t {H : Heap} {K : Value → Heap → Prop} (hk : K (.int .u64 14695981039346656037) H) : HCalls Try.prog 20 [] H K := by
  refine hcalls (fn := Try.f20) [] mixed Try.func20 rfl rfl rfl ?_
  (repeat first | refine HReg.step ?_ | refine HCode.step ?_)
  exact hk
theorem hash_t {l : List UInt8} {H : Heap} {K : Value → Heap → Prop} (hlim : l.length ≤ 9223372036854775806) (hk : K (.int .u64 (feedL 14695981039346656037 l)) H) : HCalls Try.prog 15 [.string (bs l)] H K := by
  refine hcalls (fn := Try.f15) [] mixed Try.func15 rfl rfl rfl ?_
  (repeat first | refine HReg.step ?_ | refine HCode.step ?_)
  refine HCall.mk ⟨Try.f20, Try.func20, by rfl, by rfl⟩ ?_
  refine begin_t ?_
  (repeat first | refine HReg.step ?_ | refine HCode.step ?_)
  refine HCall.mk ⟨Try.f17, Try.func17, by rfl, by rfl⟩ ?_
  refine feed_t hlim ?_
  (repeat first | refine HReg.step ?_ | refine HCode.step ?_)
  exact hk
theorem rhash_t {l : List UInt8} {H : Heap} {K : Value → Heap → Prop} (hlim : l.length ≤ 9223372036854775806) (hk : K (.int .u64 (feedL 14695981039346656037 l)) H) : HCalls Try.prog 16 [.string (bs l)] H K := by
  refine hcalls (fn := Try.f16) [] mixed Try.func16 rfl rfl rfl ?_
  (repeat first | refine HReg.step ?_ | refine HCode.step ?_)
  refine HCall.mk ⟨Try.f18, Try.func18, by rfl, by rfl⟩ ?_
  refine rfeed_t hlim ?_
  (repeat first | refine HReg.step ?_ | refine HCode.step ?_)
  exact hk
theorem rest_t {n : Int} {m : Nat} {H : Heap} {K : Value → Heap → Prop} (hm : m ≤ 9223372036854775806) (hk : ∀ r : Nat, r ≤ m → K (.int .i64 (r : Int)) H) : HCalls Try.prog 19 [.int .i64 n, .int .i64 (m : Int)] H K := by
  refine hcalls (fn := Try.f19) [] mixed Try.func19 rfl rfl rfl ?_
  (repeat first | refine HReg.step ?_ | refine HCode.step ?_)
  have hw : wr .i64 ((m : Int) + 1) = ((m + 1 : Nat) : Int) := by rw [wr_i64 (by omega) (by omega)]; omega
  have hw2 : wr .u64 ((m + 1 : Nat) : Int) = ((m + 1 : Nat) : Int) := by rw [wr_u64]; omega
  rw [hw, hw2]
  refine HReq.mk (by omega) ?_
  (repeat first | refine HReg.step ?_ | refine HCode.step ?_)
  obtain ⟨r, hr, hrm⟩ : ∃ r : Nat, wr .i64 ((wr .u64 n).tmod ((m + 1 : Nat) : Int)) = (r : Int) ∧ r ≤ m := by
    have e1 : (wr .u64 n).tmod ((m + 1 : Nat) : Int) = wr .u64 n % ((m + 1 : Nat) : Int) := by rw [wr_u64, Int.tmod_eq_emod_of_nonneg (by omega)]
    have h1 : 0 ≤ wr .u64 n % ((m + 1 : Nat) : Int) := Int.emod_nonneg _ (by omega)
    have h2 : wr .u64 n % ((m + 1 : Nat) : Int) < ((m + 1 : Nat) : Int) := Int.emod_lt_of_pos _ (by omega)
    generalize wr .u64 n % ((m + 1 : Nat) : Int) = j at e1 h1 h2
    refine ⟨j.toNat, ?_, by omega⟩
    rw [e1, wr_i64 (by omega) (by omega)]; omega
  rw [hr]
  exact hk r hrm
end Go.Proofs.Ytmcadbaejedfnaa
