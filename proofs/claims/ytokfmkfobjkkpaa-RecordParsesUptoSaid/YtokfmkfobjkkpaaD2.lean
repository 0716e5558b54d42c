import Derived.Test.YtokfmkfobjkkpaaQ3
import Derived.Test.YtokfmkfobjkkpaaD1
namespace Go.Proofs.Ytokfmkfobjkkpaa
open Go Hv
set_option linter.unusedVariables false
set_option linter.unusedSimpArgs false
set_option maxRecDepth 10000
set_option maxHeartbeats 2000000
/-! The document's number, text, crc -/
structure RnInv (H0 : Heap) (v : Nat) (all : List UInt8) (m : Nat) (vs : List Value) (H' : Heap) : Prop where
  ex : ∃ (out : List UInt8) (a : Option Addr) (c : Nat), vs = [.slice a out.length c, .int .i64 ((m : Int) - 1)] ∧ m ≤ 8 ∧ out ++ num v m = all ∧ Made H0 H' 5 1 a out.length c (u8s out)
structure RcInv (r : Crc.W) (ys : List UInt8) (H0 : Heap) (m : Nat) (vs : List Value) (H' : Heap) : Prop where
  ex : ∃ (i : Nat) (w : Crc.W), vs = [Sum.u32 w, .int .i64 (i : Int)] ∧ m + i = ys.length ∧ Crc.upd w (ys.drop i) = r ∧ H' = H0
structure RcJ (w : Crc.W) (H0 : Heap) (vs : List Value) (H' : Heap) : Prop where
  ex : vs = [Sum.u32 (Crc.shn 8 w)] ∧ H' = H0
structure RcIn (w : Crc.W) (H0 : Heap) (m : Nat) (vs : List Value) (H' : Heap) : Prop where
  ex : ∃ (k : Nat), vs = [Sum.u32 (Crc.shn k w), .int .i64 (k : Int)] ∧ m + k = 8 ∧ H' = H0
theorem half32 (w : Crc.W) : wr .u32 ((w.toNat : Int).tdiv 2) = ((w >>> 1).toNat : Int) := by
  have := w.isLt
  rw [BitVec.toNat_ushiftRight, Nat.shiftRight_eq_div_pow, Int.tdiv_eq_ediv_of_nonneg (by omega)]
  rw [show (w.toNat : Int) / 2 = ((w.toNat / 2 : Nat) : Int) by omega, wr32]
  show ((w.toNat / 2 % 4294967296 : Nat) : Int) = ((w.toNat / 2 ^ 1 : Nat) : Int)
  omega
theorem rem32 (w : Crc.W) : ((w.toNat : Int).tmod 2 = 1) ↔ w.getLsbD 0 = true := by
  rw [Int.tmod_eq_emod_of_nonneg (by omega)]
  have : w.getLsbD 0 = decide (w.toNat % 2 = 1) := by
    rw [BitVec.getLsbD, Nat.testBit_zero]
  rw [this]
  constructor
  · intro h; exact decide_eq_true (by omega)
  · intro h; have := of_decide_eq_true h; omega
theorem sub32 (w : Crc.W) : wr .u32 (4294967295 - (w.toNat : Int)) = ((~~~w).toNat : Int) := by
  have := w.isLt
  rw [BitVec.toNat_not, show (4294967295 - (w.toNat : Int)) = ((4294967295 - w.toNat : Nat) : Int) by omega, wr32]
  omega
theorem append_str_made {a : Option Addr} {n cap : Nat} {xs s : List UInt8} {H0 H : Heap} {K : Value → Heap → Prop} (hm : Made H0 H 5 1 a n cap (u8s xs)) (hlim : n + s.length ≤ 140737488355328)
    (hk : ∀ a' cap' H', Made H0 H' 5 1 a' (n + s.length) cap' (u8s (xs ++ s)) → K (.slice a' (n + s.length) cap') H') : HSem Try.prog (Builtin.append_ #[31, 9] 31 [.slice a n cap, .string (bs s)].toArray) H K := by
  refine append_str (ie := Try.t5) (z := .int .u8 0) (xs := u8s xs) Try.underlying31 rfl rfl rfl rfl Try.underlying9 hm.own (by rw [bs_size]; show (n + s.length) * 1 ≤ _; omega) (by rw [bs_size]; omega) fun a' cap' H' o u f => ?_
  rw [bs_size] at o ⊢
  have e : u8s xs ++ ((bs s).data.toList.map fun b => Value.int .u8 b.toNat) = u8s (xs ++ s) := by unfold u8s; rw [List.map_append]; rfl
  rw [e] at o
  refine hk a' cap' H' ⟨o, ?_, ?_⟩
  · refine Upd.drop hm.upd u fun b hb => ?_
    obtain ⟨p, hp, rfl⟩ := blk_of hb
    exact hm.new p hp
  · intro p hp
    rcases f p hp with h | h
    · exact hm.new p h
    · exact Upd.none (S := []) hm.upd (by simp) h
section
variable {H0 H : Heap} {K : Value → Heap → Prop}
theorem rnum_t {a : Option Addr} {c v n : Nat} {b : List UInt8} {L : Nat} (hL : b.length = L) (hm : Made H0 H 5 1 a L c (u8s b)) (hn : n ≤ 8) (hlim : b.length ≤ 100000000000000)
    (hk : ∀ a' c' H', Made H0 H' 5 1 a' (b.length + n) c' (u8s (b ++ num v n)) → K (.slice a' (b.length + n) c') H') : HCalls Try.prog 38 [.slice a L c, .int .u64 (v : Int), .int .i64 (n : Int)] H K := by
  refine hcalls (fn := Try.f38) [] mixed Try.func38 rfl rfl (by decide +kernel) ?_
  subst hL
  have w1 : wr .i64 ((n : Int) - 1) = (n : Int) - 1 := wr_i64 (by omega) (by omega)
  (repeat first | refine HReg.step ?_ | refine HCode.step ?_)
  refine hloopC [0, 7, 10, 11, 12, 13, 14, 15, 16, 17, 18, 19, 20, 21] [0, 7] (RnInv H0 v (b ++ num v n)) rfl (by repeat' first | exact Resp.retD | exact Resp1.valuesK | refine Resp.blockD ?_ | refine Resp.thenD ?_ ?_ | refine Resp.hcode ?_) ?_ ?_
  · exact ⟨n, RnInv.mk ⟨b, a, c, by rw [w1], hn, rfl, hm⟩⟩
  rintro m _ fe H2 ⟨out, a2, c2, rfl, hm8, hall, m2⟩
  have hlen : out.length + m = b.length + n := by
    have := congrArg List.length hall
    rw [List.length_append, List.length_append, num_length, num_length] at this; exact this
  (repeat first | refine HReg.step ?_ | refine HCode.step ?_)
  refine hif (fun h1 => ?_) (fun h1 => ?_)
  · have h1 := not_ltB_true.1 h1
    obtain ⟨i, rfl⟩ : ∃ i, m = i + 1 := ⟨m - 1, by omega⟩
    have em : ((i + 1 : Nat) : Int) - 1 = (i : Int) := by omega
    rw [em]
    have w8 : wr .i64 (8 * (i : Int)) = ((8 * i : Nat) : Int) := by rw [wr_i64 (by omega) (by omega)]; omega
    have w2 : wr .i64 ((i : Int) - 1) = (i : Int) - 1 := wr_i64 (by omega) (by omega)
    (repeat first | refine HReg.step ?_ | refine HCode.step ?_)
    refine HReq.mk (by rw [w8]; omega) ?_
    (repeat first | refine HReg.step ?_ | refine HCode.step ?_)
    refine HReq.mk (by decide) ?_
    (repeat first | refine HReg.step ?_ | refine HCode.step ?_)
    refine HNew.mk fun b9 hb => ?_
    have ub : Upd [] H2 (H2.upd b9 (.cells [Value.int .u8 (wr .u8 (shrS .u64 (v : Int) (wr .i64 (8 * (i : Int)))))].toArray 5)) := Upd.new hb _
    have rb : RowAt (H2.upd b9 (.cells [Value.int .u8 (wr .u8 (shrS .u64 (v : Int) (wr .i64 (8 * (i : Int)))))].toArray 5)) (some ⟨b9, 0, none⟩) (u8s [UInt8.ofNat (v / 256 ^ i)]) := row_lit (upd_same _ _ _) (by rw [byte_at v i (by omega)]; rfl)
    (repeat first | refine HReg.step ?_ | refine HCode.step ?_)
    refine append_made (xs := out) (m2.step ub) rb rfl (by omega) fun a4 c4 H4 m4 => ?_
    (repeat first | refine HReg.step ?_ | refine HCode.step ?_)
    rw [w2]
    have hl : (out ++ [UInt8.ofNat (v / 256 ^ i)]).length = out.length + 1 := List.length_append
    refine ⟨i, by omega, RnInv.mk ⟨out ++ [UInt8.ofNat (v / 256 ^ i)], a4, c4, by rw [hl], by omega, by rw [List.append_assoc]; exact hall, by rw [hl]; exact m4⟩⟩
  · have h1 := not_ltB_false.1 h1
    obtain rfl : m = 0 := by omega
    have hall : out ++ [] = b ++ num v n := hall
    rw [List.append_nil] at hall
    have hl : out.length = b.length + n := by omega
    rw [hl, hall] at m2
    rw [hl]
    (repeat first | refine HReg.step ?_ | refine HCode.step ?_)
    exact hk a2 c2 H2 m2
theorem rtext_t' {a : Option Addr} {c : Nat} {b s : List UInt8} {L : Nat} (hL : b.length = L) (hm : Made H0 H 5 1 a L c (u8s b)) (hlim : b.length ≤ 10000000000000) (hs : s.length ≤ 65535)
    (hk : ∀ a' c' H', Made H0 H' 5 1 a' (b ++ textB s).length c' (u8s (b ++ textB s)) → K (.slice a' (b ++ textB s).length c') H') : HCalls Try.prog 60 [.slice a L c, .string (bs s)] H K := by
  refine hcalls (fn := Try.f60) [] mixed Try.func60 rfl rfl (by decide +kernel) ?_
  subst hL
  have w64 : wr .u64 (((bs s).size : Nat) : Int) = ((s.length : Nat) : Int) := by rw [bs_size, wr_u64]; omega
  (repeat first | refine HReg.step ?_ | refine HCode.step ?_)
  rw [w64]
  refine HCall.mk ⟨Try.f38, Try.func38, by rfl, by rfl⟩ ?_
  refine rnum_t (v := s.length) (n := 4) rfl hm (by decide) (by omega) fun a2 c2 H2 m2 => ?_
  (repeat first | refine HReg.step ?_ | refine HCode.step ?_)
  refine append_str_made m2 (by omega) fun a3 c3 H3 m3 => ?_
  have e : (b ++ num s.length 4) ++ s = b ++ textB s := by unfold textB; rw [List.append_assoc]
  have hl : b.length + 4 + s.length = (b ++ textB s).length := by rw [List.length_append, textB_length]; omega
  rw [e, hl] at m3
  rw [hl]
  (repeat first | refine HReg.step ?_ | refine HCode.step ?_)
  exact hk a3 c3 H3 m3
theorem rcrc_t {a : Option Addr} {n c : Nat} {ys : List UInt8} (hy : RowAt H a (u8s ys)) (hl : ys.length = n) (hlim : n ≤ 100000000000000)
    (hk : K (Sum.u32 (Crc.crc 0#32 ys)) H) : HCalls Try.prog 39 [.slice a n c] H K := by
  refine hcalls (fn := Try.f39) [] mixed Try.func39 rfl rfl (by decide +kernel) ?_
  subst hl
  (repeat first | refine HReg.step ?_ | refine HCode.step ?_)
  refine hloopC [3, 4, 5, 6, 7, 8, 9, 10, 11, 12, 13, 14, 15, 16, 17, 18, 19, 20, 21, 22, 23, 24, 25, 26, 27, 28, 29, 30] [3, 4] (RcInv (Crc.upd (~~~0#32) ys) ys H) rfl (by repeat' first | exact Resp.retD | exact Resp1.valuesK | refine Resp.blockD ?_ | refine Resp.thenD ?_ ?_ | refine Resp.hcode ?_) ?_ ?_
  · exact ⟨ys.length, RcInv.mk ⟨0, ~~~0#32, rfl, rfl, rfl, rfl⟩⟩
  rintro m _ fe H1 ⟨i, w, rfl, hmi, hu, rfl⟩
  have w2 : wr .i64 ((i : Int) + 1) = ((i + 1 : Nat) : Int) := by rw [wr_i64 (by omega) (by omega)]; omega
  (repeat first | refine HReg.step ?_ | refine HCode.step ?_)
  refine hif (fun h1 => ?_) (fun h1 => ?_)
  · have h1 := ltB_true.1 h1
    obtain ⟨x, hx⟩ : ∃ x, ys[i]? = some x := ⟨ys[i]'(by omega), by simp⟩
    obtain ⟨ba, bo, rfl, _⟩ := hy i _ (u8s_get hx)
    (repeat first | refine HReg.step ?_ | refine HCode.step ?_)
    refine HReq.mk ⟨by omega, by omega⟩ ?_
    (repeat first | refine HReg.step ?_ | refine HCode.step ?_)
    refine HLoad.one (v := u8 x) (by exact hy.get (u8s_get hx)) ?_
    have ex : Value.int .u32 (bitsS .xor .u32 (w.toNat : Int) (wr .u32 (x.toNat : Int))) = Sum.u32 (w ^^^ Crc.byteW x) := by
      rw [Sum.conv8, Sum.xor32]; rfl
    (repeat first | refine HReg.step ?_ | refine HCode.step ?_)
    refine hloopC [3, 5, 19, 20, 21, 22, 23, 24, 25, 26, 27, 28, 29, 30] [3, 5] (RcIn (w ^^^ Crc.byteW x) H1) rfl (by repeat' first | exact Resp.retD | exact Resp1.valuesK | refine Resp.blockD ?_ | refine Resp.thenD ?_ ?_ | refine Resp.hcode ?_) ?_ ?_
    · refine ⟨8, RcIn.mk ⟨0, ?_, rfl, rfl⟩⟩
      show _ = [Sum.u32 (w ^^^ Crc.byteW x), _]
      rw [← ex]; rfl
    rintro m2 _ fe2 H2 ⟨k, rfl, hk8, rfl⟩
    have wk : wr .i64 ((k : Int) + 1) = ((k + 1 : Nat) : Int) := by rw [wr_i64 (by omega) (by omega)]; omega
    (repeat first | refine HReg.step ?_ | refine HCode.step ?_)
    refine hif (fun h2 => ?_) (fun h2 => ?_)
    · have h2 := ltB_true.1 h2
      have hnext : ∀ y, Crc.sh (Crc.shn k (w ^^^ Crc.byteW x)) = y → Crc.shn (k + 1) (w ^^^ Crc.byteW x) = y := fun y hy' => by
        rw [← hy', ← Crc.shn_sh]; rfl
      generalize hz : Crc.shn k (w ^^^ Crc.byteW x) = z at *
      (repeat first | refine HReg.step ?_ | refine HCode.step ?_)
      refine HReq.mk (by decide) ?_
      (repeat first | refine HReg.step ?_ | refine HCode.step ?_)
      refine hif (fun h3 => ?_) (fun h3 => ?_)
      · have h3 := (rem32 z).1 (eqB_true.1 h3)
        (repeat first | refine HReg.step ?_ | refine HCode.step ?_)
        refine HReq.mk (by decide) ?_
        rw [half32]
        (repeat first | refine HReg.step ?_ | refine HCode.step ?_)
        rw [show (3988292384 : Int) = ((Crc.pol.toNat : Nat) : Int) from rfl, Sum.xor32, wk]
        refine ⟨m2 - 1, by omega, RcIn.mk ⟨k + 1, ?_, by omega, rfl⟩⟩
        rw [hnext _ (show Crc.sh z = (z >>> 1) ^^^ Crc.pol by unfold Crc.sh; rw [h3]; rfl)]; rfl
      · have h3 : z.getLsbD 0 = false := by
          cases hb : z.getLsbD 0 with
          | false => rfl
          | true => exact absurd ((rem32 z).2 hb) (eqB_false.1 h3)
        (repeat first | refine HReg.step ?_ | refine HCode.step ?_)
        refine HReq.mk (by decide) ?_
        rw [half32]
        (repeat first | refine HReg.step ?_ | refine HCode.step ?_)
        rw [wk]
        refine ⟨m2 - 1, by omega, RcIn.mk ⟨k + 1, ?_, by omega, rfl⟩⟩
        rw [hnext _ (show Crc.sh z = (z >>> 1) by unfold Crc.sh; rw [h3]; simp)]; rfl
    · have h2 := ltB_false.1 h2
      have hk : k = 8 := by omega
      subst hk
      (repeat first | refine HReg.step ?_ | refine HCode.step ?_)
      rw [w2]
      refine ⟨m - 1, by omega, RcInv.mk ⟨i + 1, _, rfl, by omega, ?_, rfl⟩⟩
      rw [drop_get hx] at hu
      exact hu
  · have h1 := ltB_false.1 h1
    have hi : i = ys.length := by omega
    subst hi
    rw [List.drop_length] at hu
    have hu : w = Crc.upd (~~~0#32) ys := hu
    (repeat first | refine HReg.step ?_ | refine HCode.step ?_)
    have : K (Sum.u32 (~~~ w)) H1 := by
      have e : Crc.crc 0#32 ys = ~~~ w := by unfold Crc.crc; rw [hu]
      rw [← e]; exact hk
    rw [sub32]
    exact this
end
end Go.Proofs.Ytokfmkfobjkkpaa
