import Derived.Test.YtfcmjomnpahllaaGreatProg
import Derived.Test.YtfcmjomnpahllaaGreatHvA
import Derived.Test.YtfcmjomnpahllaaGreatM1
import Derived.Laws.BitsAllLaws
namespace Go.Proofs.YtfcmjomnpahllaaGreat.Sum
open Go Hv Crc
set_option linter.unusedVariables false
set_option maxRecDepth 10000
theorem mixed : Tryz.prog.follows .mixedOrders = true := by kernel_rfl
/-! Words of 32 bits as values. -/
def u32 (w : W) : Value := .int .u32 (w.toNat : Int)
theorem ofI (w : W) : BitVec.ofInt 32 (w.toNat : Int) = w := by rw [BitVec.ofInt_natCast, BitVec.ofNat_toNat, BitVec.setWidth_eq]
theorem wrapw (w : W) : IntKind.u32.wrap (w.toNat : Int) = (w.toNat : Int) := by
  rw [IntKind.wrap_u32]; have := w.isLt; omega
theorem xor32 (a b : W) : bitsS .xor .u32 (a.toNat : Int) (b.toNat : Int) = ((a ^^^ b).toNat : Int) := by
  rw [bitsS_eq]
  show IntKind.u32.wrap ((BitVec.ofInt 32 (a.toNat : Int) ^^^ BitVec.ofInt 32 (b.toNat : Int)).toNat : Int) = _
  rw [ofI, ofI, wrapw]
theorem and32 (a b : W) : bitsS .and .u32 (a.toNat : Int) (b.toNat : Int) = ((a &&& b).toNat : Int) := by
  rw [bitsS_eq]
  show IntKind.u32.wrap ((BitVec.ofInt 32 (a.toNat : Int) &&& BitVec.ofInt 32 (b.toNat : Int)).toNat : Int) = _
  rw [ofI, ofI, wrapw]
theorem not32 (a : W) : bitsS .xor .u32 (if IntKind.u32.signed then -1 else IntKind.u32.max) (a.toNat : Int) = ((~~~a).toNat : Int) := by
  have e : (if IntKind.u32.signed then -1 else IntKind.u32.max) = (((~~~0#32 : W)).toNat : Int) := by decide
  rw [e, xor32, not_eq a, BitVec.xor_comm]
theorem shr32 (a : W) (k : Nat) (hk : k ≤ 32) : shrS .u32 (a.toNat : Int) (k : Int) = ((a >>> k).toNat : Int) := by
  rw [shrS_eq]
  have e1 : min ((k : Int).toNat) IntKind.u32.bits = k := by show min _ 32 = k; simp; omega
  rw [e1, BitVec.toNat_ushiftRight, Nat.shiftRight_eq_div_pow]
  rw [Int.fdiv_eq_ediv_of_nonneg _ (Int.pow_nonneg (by decide))]
  push_cast; rfl
theorem u32_inj {a b : W} (h : (a.toNat : Int) = (b.toNat : Int)) : a = b := BitVec.eq_of_toNat_eq (by exact_mod_cast h)
theorem bit0 (w : W) : (bitsS .and .u32 (w.toNat : Int) 1 = 1) ↔ w.getLsbD 0 = true := by
  have := and32 w 1#32
  have e1 : ((1#32 : W).toNat : Int) = 1 := rfl
  rw [e1] at this
  rw [this]
  have e2 : (w &&& 1#32).toNat = w.toNat % 2 := by rw [BitVec.toNat_and]; exact Nat.and_one_is_mod _
  have e3 : w.getLsbD 0 = decide (w.toNat % 2 = 1) := by
    show w.toNat.testBit 0 = _
    rw [Nat.testBit_zero]
  rw [e2, e3]; simp; omega
theorem turned_t {w : W} {H : Heap} {K : Value → Heap → Prop} (hk : K (u32 (sh w)) H) : HCalls Tryz.prog 113 [u32 w] H K := by
  refine hcalls (fn := Tryz.f113) [] mixed Tryz.func113 rfl rfl rfl ?_
  (repeat first | refine HReg.step ?_ | refine HCode.step ?_)
  have e1 := shr32 w 1 (by decide)
  have e2 := xor32 (w >>> 1) pol
  refine hif (fun h => ?_) (fun h => ?_)
  · have h := (bit0 w).1 (eqB_true.1 h)
    (repeat first | refine HReg.step ?_ | refine HCode.step ?_)
    refine HReq.mk (by decide) ?_
    (repeat first | refine HReg.step ?_ | refine HCode.step ?_)
    have e : sh w = (w >>> 1) ^^^ pol := by unfold sh; rw [h]; rfl
    rw [e] at hk
    have ev : Value.int .u32 (bitsS .xor .u32 (shrS .u32 (w.toNat : Int) 1) 3988292384) = u32 ((w >>> 1) ^^^ pol) := by
      unfold u32; rw [← e2, ← e1]; rfl
    rw [← ev] at hk
    exact hk
  · have h := fun x => (eqB_false.1 h) ((bit0 w).2 x)
    (repeat first | refine HReg.step ?_ | refine HCode.step ?_)
    refine HReq.mk (by decide) ?_
    (repeat first | refine HReg.step ?_ | refine HCode.step ?_)
    have e : sh w = w >>> 1 := sh_even (by simpa using h)
    rw [e] at hk
    have ev : Value.int .u32 (shrS .u32 (w.toNat : Int) 1) = u32 (w >>> 1) := by
      unfold u32; rw [← e1]; rfl
    rw [← ev] at hk
    exact hk
def tab : List Value := [u32 (shn 4 0#32), u32 (shn 4 1#32), u32 (shn 4 2#32), u32 (shn 4 3#32), u32 (shn 4 4#32), u32 (shn 4 5#32), u32 (shn 4 6#32), u32 (shn 4 7#32), u32 (shn 4 8#32), u32 (shn 4 9#32), u32 (shn 4 10#32), u32 (shn 4 11#32), u32 (shn 4 12#32), u32 (shn 4 13#32), u32 (shn 4 14#32), u32 (shn 4 15#32)]
theorem tab_get : ∀ (i : Nat), i < 16 → tab[i]? = some (u32 (shn 4 (BitVec.ofNat 32 i)))
  | 0, _ => rfl | 1, _ => rfl | 2, _ => rfl | 3, _ => rfl | 4, _ => rfl | 5, _ => rfl | 6, _ => rfl | 7, _ => rfl
  | 8, _ => rfl | 9, _ => rfl | 10, _ => rfl | 11, _ => rfl | 12, _ => rfl | 13, _ => rfl | 14, _ => rfl | 15, _ => rfl
  | n + 16, h => by omega
theorem tab_plain : ∀ v ∈ tab, Value.plain v = true := by
  intro v hv
  simp only [tab, List.mem_cons, List.not_mem_nil, or_false] at hv
  rcases hv with rfl | rfl | rfl | rfl | rfl | rfl | rfl | rfl | rfl | rfl | rfl | rfl | rfl | rfl | rfl | rfl <;> rfl
theorem storeN_own {e : TypeId} {b n cap : Nat} {K : Heap → Prop} : ∀ (vs : List Value) {H : Heap} {i : Nat} {xs : List Value}, OwnRow H e 1 (some ⟨b, 0, none⟩) n cap xs → i + vs.length = n → (∀ v ∈ vs, Value.plain v = true) →
    (∀ H', OwnRow H' e 1 (some ⟨b, 0, none⟩) n cap (xs.take i ++ vs) → Upd [b] H H' → K H') → storeN H b 0 i K vs
  | [], H, i, xs, ho, hn, hp, hk => by
    have : xs.take i ++ [] = xs := by
      have := ho.len
      rw [List.append_nil, List.take_of_length_le (by simp at hn; omega)]
    rw [this] at hk
    exact hk H ho (Upd.refl _ _)
  | v :: vs, H, i, xs, ho, hn, hp, hk => by
    simp only [List.length_cons] at hn
    have hl := ho.len
    refine store_row ho (hp v (by simp)) (i := i) (by omega) (by omega) fun H' ho' hu => ?_
    refine storeN_own vs ho' (by omega) (fun w hw => hp w (by simp [hw])) fun H'' ho'' hu' => hk H'' ?_ (hu.trans hu')
    have e : (xs.set i v).take (i + 1) = xs.take i ++ [v] := by
      have hi : i < xs.length := by omega
      rw [List.take_set, List.take_add_one, List.getElem?_eq_getElem hi]
      apply List.ext_getElem?
      intro k
      rw [List.getElem?_set]
      by_cases h1 : i = k
      · subst h1
        rw [if_pos rfl, if_pos (by simp; omega), List.getElem?_append_right (by simp; omega)]
        simp; rw [Nat.min_eq_left (by omega)]; simp
      · rw [if_neg h1]
        by_cases h2 : k < i
        · rw [List.getElem?_append_left (by simp; omega), List.getElem?_append_left (by simp; omega)]
        · rw [List.getElem?_eq_none (by simp; omega), List.getElem?_eq_none (by simp; omega)]
    rw [e, List.append_assoc] at ho''
    exact ho''
structure HaInv (b1 : Nat) (H0 : Heap) (m : Nat) (vs : List Value) (H' : Heap) : Prop where
  ex : ∃ (i : Nat) (xs : List Value), vs = [.int .i64 (i : Int)] ∧ m + i = 16 ∧ OwnRow H' 151 1 (some ⟨b1, 0, none⟩) 16 16 xs ∧ (∀ k, k < i → xs[k]? = tab[k]?) ∧ Upd [b1] H0 H'
structure HbInv (i : Nat) (H0 : Heap) (m : Nat) (vs : List Value) (H' : Heap) : Prop where
  ex : ∃ k : Nat, vs = [u32 (shn k (BitVec.ofNat 32 i)), .int .i64 (k : Int)] ∧ m + k = 4 ∧ H0 = H'
theorem halves_t {H : Heap} {K : Value → Heap → Prop} (hk : ∀ H', Upd [] H H' → K (.agg tab.toArray) H') : HCalls Tryz.prog 105 [] H K := by
  refine hcalls (fn := Tryz.f105) [] mixed Tryz.func105 rfl rfl (by decide +kernel) ?_
  (repeat first | refine HReg.step ?_ | refine HCode.step ?_)
  refine HNew.mk fun b0 hb0 => ?_
  (repeat first | refine HReg.step ?_ | refine HCode.step ?_)
  refine HNew.mk fun b1 hb1 => ?_
  (repeat first | refine HReg.step ?_ | refine HCode.step ?_)
  have o1 : OwnRow ((H.upd b0 (.cells (List.replicate 16 (Value.int .u32 0)).toArray 151)).upd b1 (.cells (List.replicate 16 (Value.int .u32 0)).toArray 151)) 151 1 (some ⟨b1, 0, none⟩) 16 16 (List.replicate 16 (Value.int .u32 0)) := OwnRow.lit (upd_same _ _ _) rfl
  have hne : b0 ≠ b1 := fun e => by
    subst e; rw [upd_same] at hb1; cases hb1
  have o0 : OwnRow ((H.upd b0 (.cells (List.replicate 16 (Value.int .u32 0)).toArray 151)).upd b1 (.cells (List.replicate 16 (Value.int .u32 0)).toArray 151)) 151 1 (some ⟨b0, 0, none⟩) 16 16 (List.replicate 16 (Value.int .u32 0)) := OwnRow.lit (by rw [upd_ne _ _ hne]; exact upd_same _ _ _) rfl
  have hb1' : H b1 = none := by
    rw [upd_ne _ _ (Ne.symm hne)] at hb1; exact hb1
  have u01 : Upd [] H ((H.upd b0 (.cells (List.replicate 16 (Value.int .u32 0)).toArray 151)).upd b1 (.cells (List.replicate 16 (Value.int .u32 0)).toArray 151)) := (Upd.new hb0 _).trans (Upd.new hb1 _)
  refine hloopC [2, 3, 4, 5, 6, 7, 8, 9, 10, 11, 12, 13, 14, 15, 16, 17] [4] (HaInv b1 ((H.upd b0 (.cells (List.replicate 16 (Value.int .u32 0)).toArray 151)).upd b1 (.cells (List.replicate 16 (Value.int .u32 0)).toArray 151))) rfl (by repeat' first | exact Resp.retD | exact Resp1.valuesK | refine Resp.blockD ?_ | refine Resp.thenD ?_ ?_ | refine Resp.hcode ?_) ?_ ?_
  · exact ⟨16, HaInv.mk ⟨0, _, rfl, rfl, o1, fun k hk => by omega, Upd.refl _ _⟩⟩
  rintro m vs f H2 ⟨i, xs, rfl, hmi, ox, hxs, u2⟩
  (repeat first | refine HReg.step ?_ | refine HCode.step ?_)
  refine hif (fun h => ?_) (fun h => ?_)
  · have h := ltB_true.1 h
    (repeat first | refine HReg.step ?_ | refine HCode.step ?_)
    have ew : Value.int .u32 (wr .u32 (i : Int)) = u32 (shn 0 (BitVec.ofNat 32 i)) := by
      rw [wr_eq, IntKind.wrap_u32]
      show _ = Value.int .u32 ((BitVec.ofNat 32 i).toNat : Int)
      rw [BitVec.toNat_ofNat]
      congr 1
    rw [ew]
    refine hloopC [3, 9, 10, 11, 12, 13] [3, 9] (HbInv i H2) rfl (by repeat' first | exact Resp.retD | exact Resp1.valuesK | refine Resp.blockD ?_ | refine Resp.thenD ?_ ?_ | refine Resp.hcode ?_) ?_ ?_
    · exact ⟨4, HbInv.mk ⟨0, rfl, rfl, rfl⟩⟩
    rintro m3 vs3 f3 H3 ⟨k, rfl, hmk, rfl⟩
    (repeat first | refine HReg.step ?_ | refine HCode.step ?_)
    refine hif (fun h2 => ?_) (fun h2 => ?_)
    · have h2 := ltB_true.1 h2
      (repeat first | refine HReg.step ?_ | refine HCode.step ?_)
      refine HCall.mk ⟨Tryz.f113, Tryz.func113, by rfl, by rfl⟩ ?_
      refine turned_t ?_
      (repeat first | refine HReg.step ?_ | refine HCode.step ?_)
      have hw : wr .i64 ((k : Int) + 1) = ((k + 1 : Nat) : Int) := by rw [wr_i64 (by omega) (by omega)]; omega
      rw [hw, ← shn_sh]
      refine Exists.intro (m3 - 1) ?_
      refine And.intro (by omega) ?_
      exact HbInv.mk ⟨k + 1, rfl, by omega, rfl⟩
    · have h2 := ltB_false.1 h2
      (repeat first | refine HReg.step ?_ | refine HCode.step ?_)
      have hk4 : k = 4 := by omega
      subst hk4
      refine HReq.mk ⟨by omega, by omega⟩ ?_
      (repeat first | refine HReg.step ?_ | refine HCode.step ?_)
      refine store_row ox rfl (i := i) (by omega) (by show 0 + i + 0 = i; omega) fun H4 o4 u4 => ?_
      (repeat first | refine HReg.step ?_ | refine HCode.step ?_)
      have hw : wr .i64 ((i : Int) + 1) = ((i + 1 : Nat) : Int) := by rw [wr_i64 (by omega) (by omega)]; omega
      rw [hw]
      refine Exists.intro (m - 1) ?_
      refine And.intro (by omega) ?_
      refine HaInv.mk ⟨i + 1, _, rfl, by omega, o4, fun k hk => ?_, u2.trans u4⟩
      have hlx := ox.len
      rw [List.getElem?_set]
      by_cases e : i = k
      · subst e
        rw [if_pos rfl, if_pos (by omega), tab_get i (by omega)]
      · rw [if_neg e]; exact hxs k (by omega)
  · have h := ltB_false.1 h
    (repeat first | refine HReg.step ?_ | refine HCode.step ?_)
    have hi : i = 16 := by omega
    subst hi
    have hlx := ox.len
    have ext : xs = tab := by
      apply List.ext_getElem?
      intro k
      by_cases hk : k < 16
      · exact hxs k hk
      · rw [List.getElem?_eq_none (by omega), List.getElem?_eq_none (by show 16 ≤ k; omega)]
    subst ext
    refine HLoadN.mk ⟨tab, fun Hx hx k v hv => ?_, rfl, ?_⟩
    · rw [List.mem_singleton.1 hx]
      exact ox.rows.get hv
    (repeat first | refine HReg.step ?_ | refine HCode.step ?_)
    have o0' := o0.upd u2 (fun p hp hb => by
      cases hp; exact hne (List.mem_singleton.1 hb))
    refine storeN_own (i := 0) tab o0' rfl tab_plain fun H5 o5 u5 => ?_
    (repeat first | refine HReg.step ?_ | refine HCode.step ?_)
    refine HLoadN.mk ⟨tab, fun Hx hx k v hv => ?_, rfl, ?_⟩
    · rw [List.mem_singleton.1 hx]
      exact o5.rows.get hv
    refine hk H5 ?_
    refine Upd.drop (Upd.drop u01 u2 fun b hb => ?_) u5 fun b hb => ?_
    · rw [List.mem_singleton.1 hb]; exact hb1'
    · rw [List.mem_singleton.1 hb]; exact hb0
set_option maxHeartbeats 1000000
theorem shr32_1 (a : W) : shrS .u32 (a.toNat : Int) 1 = ((a >>> 1).toNat : Int) := shr32 a 1 (by decide)
theorem shr32_4 (a : W) : shrS .u32 (a.toNat : Int) 4 = ((a >>> 4).toNat : Int) := shr32 a 4 (by decide)
theorem conv8 (c : UInt8) : wr .u32 (c.toNat : Int) = ((byteW c).toNat : Int) := by
  rw [wr_eq, IntKind.wrap_u32, byteW_toNat]; have := c.toNat_lt; omega
structure UpInv (b : Nat) (r : W) (ys : List UInt8) (n : Nat) (H0 : Heap) (m : Nat) (vs : List Value) (H' : Heap) : Prop where
  ex : ∃ (i : Nat) (w : W), vs = [u32 w, .int .i64 (i : Int)] ∧ m + i = n ∧ upd w (ys.drop i) = r ∧ H0 = H'
theorem drop_get {α : Type} {l : List α} {i : Nat} {x : α} (h : l[i]? = some x) : l.drop i = x :: l.drop (i + 1) := by
  obtain ⟨h1, h2⟩ := List.getElem?_eq_some_iff.1 h
  rw [List.drop_eq_getElem_cons h1, h2]
theorem update_t {s : W} {a : Option Addr} {n c : Nat} {ys : List UInt8} {H : Heap} {K : Value → Heap → Prop} (hy : RowAt H a (u8s ys)) (hn : ys.length = n) (hlim : n ≤ 140737488355328)
    (hk : ∀ H', Upd [] H H' → K (u32 (crc s ys)) H') : HCalls Tryz.prog 87 [u32 s, .slice a n c] H K := by
  refine hcalls (fn := Tryz.f87) [] mixed Tryz.func87 rfl rfl (by decide +kernel) ?_
  (repeat first | refine HReg.step ?_ | refine HCode.step ?_)
  refine HCall.mk ⟨Tryz.f105, Tryz.func105, by rfl, by rfl⟩ ?_
  refine halves_t fun H1 u1 => ?_
  (repeat first | refine HReg.step ?_ | refine HCode.step ?_)
  refine HNew.mk fun b hb => ?_
  (repeat first | refine HReg.step ?_ | refine HCode.step ?_)
  have ob : OwnRow (H1.upd b (.cells (List.replicate 16 (Value.int .u32 0)).toArray 151)) 151 1 (some ⟨b, 0, none⟩) 16 16 (List.replicate 16 (Value.int .u32 0)) := OwnRow.lit (upd_same _ _ _) rfl
  refine storeN_own (i := 0) tab ob rfl tab_plain fun H2 o2 u2 => ?_
  have u02 : Upd [] H H2 := Upd.drop (u1.trans (Upd.new hb _)) u2 fun k hk => by
    rw [List.mem_singleton.1 hk]; exact Upd.none (S := []) u1 (by simp) hb
  (repeat first | refine HReg.step ?_ | refine HCode.step ?_)
  rw [not32]
  refine hloopC [6, 8, 14, 15, 16, 17, 18, 19, 20, 21, 22, 23, 24, 25, 26, 27, 28, 29, 30, 31, 32, 33, 34, 35, 36] [6, 14] (UpInv b (upd (~~~s) ys) ys n H2) rfl (by repeat' first | exact Resp.retD | exact Resp1.valuesK | refine Resp.blockD ?_ | refine Resp.thenD ?_ ?_ | refine Resp.hcode ?_) ?_ ?_
  · exact ⟨n, UpInv.mk ⟨0, ~~~s, rfl, rfl, rfl, rfl⟩⟩
  rintro m vs f H' ⟨i, w, rfl, hmi, hw, rfl⟩
  (repeat first | refine HReg.step ?_ | refine HCode.step ?_)
  refine hif (fun h => ?_) (fun h => ?_)
  · have h := ltB_true.1 h
    obtain ⟨x, hx⟩ : ∃ x, ys[i]? = some x := ⟨ys[i]'(by omega), by simp⟩
    obtain ⟨b', off, rfl⟩ : ∃ b off, a = some ⟨b, off, none⟩ := by
      obtain ⟨b', off, hh, _⟩ := hy i _ (u8s_get hx)
      exact ⟨b', off, hh⟩
    (repeat first | refine HReg.step ?_ | refine HCode.step ?_)
    refine HReq.mk ⟨by omega, by omega⟩ ?_
    (repeat first | refine HReg.step ?_ | refine HCode.step ?_)
    refine HLoad.one (v := u8 x) (by exact (hy.upd u02 (.inr (Off.nil _))).get (u8s_get hx)) ?_
    (repeat first | refine HReg.step ?_ | refine HCode.step ?_)
    rw [conv8, xor32]
    refine HReq.mk (by decide) ?_
    (repeat first | refine HReg.step ?_ | refine HCode.step ?_)
    have a15 : ∀ w : W, bitsS .and .u32 (w.toNat : Int) 15 = ((w &&& 15#32).toNat : Int) := fun w => and32 w 15#32
    have l15 : ∀ w : W, (w &&& 15#32).toNat < 16 := fun w => by
      rw [BitVec.toNat_and]; exact Nat.and_lt_two_pow (n := 4) _ (by decide)
    have g15 : ∀ w : W, tab[(w &&& 15#32).toNat]? = some (u32 (shn 4 (w &&& 15#32))) := fun w => by
      rw [tab_get _ (l15 w)]; simp
    rw [shr32_4, a15]
    have l1 := l15 (w ^^^ byteW x)
    refine HReq.mk ⟨by omega, by omega⟩ ?_
    (repeat first | refine HReg.step ?_ | refine HCode.step ?_)
    refine HLoad.one (v := u32 (shn 4 ((w ^^^ byteW x) &&& 15#32))) (by exact o2.rows.get (g15 _)) ?_
    (repeat first | refine HReg.step ?_ | refine HCode.step ?_)
    rw [xor32, nibble]
    refine HReq.mk (by decide) ?_
    (repeat first | refine HReg.step ?_ | refine HCode.step ?_)
    rw [shr32_4, a15]
    have l2 := l15 (shn 4 (w ^^^ byteW x))
    refine HReq.mk ⟨by omega, by omega⟩ ?_
    (repeat first | refine HReg.step ?_ | refine HCode.step ?_)
    refine HLoad.one (v := u32 (shn 4 (shn 4 (w ^^^ byteW x) &&& 15#32))) (by exact o2.rows.get (g15 _)) ?_
    (repeat first | refine HReg.step ?_ | refine HCode.step ?_)
    rw [xor32, nibble, ← shn_add]
    have hwi : wr .i64 ((i : Int) + 1) = ((i + 1 : Nat) : Int) := by rw [wr_i64 (by omega) (by omega)]; omega
    rw [hwi]
    refine Exists.intro (m - 1) ?_
    refine And.intro (by omega) ?_
    rw [drop_get hx] at hw
    exact UpInv.mk ⟨i + 1, _, rfl, by omega, hw, rfl⟩
  · have h := ltB_false.1 h
    (repeat first | refine HReg.step ?_ | refine HCode.step ?_)
    rw [List.drop_eq_nil_of_le (by omega)] at hw
    have hw' : w = upd (~~~s) ys := hw
    rw [not32, hw']
    exact hk _ u02
theorem sum_t {a : Option Addr} {n c : Nat} {ys : List UInt8} {H : Heap} {K : Value → Heap → Prop} (hy : RowAt H a (u8s ys)) (hn : ys.length = n) (hlim : n ≤ 140737488355328)
    (hk : ∀ H', Upd [] H H' → K (u32 (crc 0#32 ys)) H') : HCalls Tryz.prog 61 [.slice a n c] H K := by
  refine hcalls (fn := Tryz.f61) [] mixed Tryz.func61 rfl rfl (by decide +kernel) ?_
  (repeat first | refine HReg.step ?_ | refine HCode.step ?_)
  refine HCall.mk ⟨Tryz.f87, Tryz.func87, by rfl, by rfl⟩ ?_
  have e0' : Value.int .u32 0 = u32 0#32 := rfl
  rw [e0']
  refine update_t hy hn hlim fun H' hu => ?_
  (repeat first | refine HReg.step ?_ | refine HCode.step ?_)
  exact hk H' hu
end Go.Proofs.YtfcmjomnpahllaaGreat.Sum
