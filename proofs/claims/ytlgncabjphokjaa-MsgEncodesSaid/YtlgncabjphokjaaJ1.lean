import Derived.Test.YtlgncabjphokjaaG14
namespace Go.Proofs.Ytlgncabjphokjaa
open Go Hv
set_option linter.unusedVariables false
set_option linter.unusedSimpArgs false
set_option maxRecDepth 10000
set_option maxHeartbeats 1000000
/-! The document's Number, Text, Texts. CUT2 -/
section
variable {H : Heap} {K : Value → Heap → Prop}
structure NbInv (v : Nat) (H0 : Heap) (all : List UInt8) (m : Nat) (vs : List Value) (H' : Heap) : Prop where
  ex : ∃ (out : List UInt8) (a : Option Addr) (c : Nat), vs = [.slice a out.length c, .int .i64 ((m : Int) - 1)] ∧ m ≤ 8 ∧ out ++ num v m = all ∧ Made H0 H' 5 1 a out.length c (u8s out)
theorem Number_t {v n : Nat} (hn : n ≤ 8) (hk : ∀ a c H', Made H H' 5 1 a n c (u8s (num v n)) → K (.slice a n c) H') : HCalls Try.prog 28 [.int .u64 (v : Int), .int .i64 (n : Int)] H K := by
  refine hcalls (fn := Try.f28) [] mixed Try.func28 rfl rfl (by decide +kernel) ?_
  have w1 : wr .i64 ((n : Int) - 1) = (n : Int) - 1 := wr_i64 (by omega) (by omega)
  (repeat first | refine HReg.step ?_ | refine HCode.step ?_)
  refine hloopC [5, 6, 9, 10, 11, 12, 13, 14, 15, 16, 17, 18, 19, 20] [5, 6] (NbInv v H (num v n)) rfl (by repeat' first | exact Resp.retD | exact Resp1.valuesK | refine Resp.blockD ?_ | refine Resp.thenD ?_ ?_ | refine Resp.hcode ?_) ?_ ?_
  · exact ⟨n, NbInv.mk ⟨[], none, 0, by rw [w1]; rfl, hn, rfl, ⟨OwnRow.nil _ _ _, Upd.refl _ _, fun p hp => by cases hp⟩⟩⟩
  rintro m _ fe H2 ⟨out, a, c, rfl, hm8, hall, m2⟩
  have hlen : out.length + m = n := by
    have := congrArg List.length hall
    rw [List.length_append, num_length, num_length] at this; exact this
  (repeat first | refine HReg.step ?_ | refine HCode.step ?_)
  refine hif (fun h1 => ?_) (fun h1 => ?_)
  · have h1 := not_ltB_true.1 h1
    obtain ⟨i, rfl⟩ : ∃ i, m = i + 1 := ⟨m - 1, by omega⟩
    have em : ((i + 1 : Nat) : Int) - 1 = (i : Int) := by omega
    rw [em]
    have w8 : wr .i64 (8 * (i : Int)) = ((8 * i : Nat) : Int) := by rw [wr_i64 (by omega) (by omega)]; omega
    (repeat first | refine HReg.step ?_ | refine HCode.step ?_)
    refine HReq.mk (by rw [w8]; omega) ?_
    (repeat first | refine HReg.step ?_ | refine HCode.step ?_)
    refine HReq.mk (by decide) ?_
    (repeat first | refine HReg.step ?_ | refine HCode.step ?_)
    refine HNew.mk fun b hb => ?_
    have rb : RowAt (H2.upd b (.cells [Value.int .u8 (wr .u8 (shrS .u64 (v : Int) (wr .i64 (8 * (i : Int)))))].toArray 5)) (some ⟨b, 0, none⟩) (u8s [UInt8.ofNat (v / 256 ^ i)]) := row_lit (upd_same _ _ _) (by rw [byte_at v i (by omega)]; rfl)
    (repeat first | refine HReg.step ?_ | refine HCode.step ?_)
    refine append_made (xs := out) (m2.step (Upd.new hb _)) rb rfl (by omega) fun a4 c4 H4 m4 => ?_
    have w2 : wr .i64 ((i : Int) - 1) = (i : Int) - 1 := wr_i64 (by omega) (by omega)
    have e5 : (out ++ [UInt8.ofNat (v / 256 ^ i)]).length = out.length + 1 := by simp
    (repeat first | refine HReg.step ?_ | refine HCode.step ?_)
    rw [w2]
    exact ⟨i, by omega, NbInv.mk ⟨out ++ [UInt8.ofNat (v / 256 ^ i)], a4, c4, by rw [e5], by omega, by rw [List.append_assoc]; exact hall, by rw [e5]; exact m4⟩⟩
  · have h1 := not_ltB_false.1 h1
    obtain rfl : m = 0 := by omega
    have hall : out ++ [] = num v n := hall
    rw [List.append_nil] at hall
    have e : out.length = n := by omega
    rw [e, hall] at m2
    rw [e]
    (repeat first | refine HReg.step ?_ | refine HCode.step ?_)
    exact hk a c H2 m2
theorem Text_t {s : List UInt8} (hlim : 4 + s.length ≤ 140737488355328) (hk : ∀ a c H', Made H H' 5 1 a (4 + s.length) c (u8s (textB s)) → K (.slice a (4 + s.length) c) H') : HCalls Try.prog 49 [.string (bs s)] H K := by
  refine hcalls (fn := Try.f49) [] mixed Try.func49 rfl rfl (by decide +kernel) ?_
  have hbs := bs_size s
  have w1 : wr .u64 ((bs s).size : Int) = (s.length : Int) := by rw [hbs, wr_u64]; omega
  (repeat first | refine HReg.step ?_ | refine HCode.step ?_)
  rw [w1]
  refine HCall.mk ⟨Try.f28, Try.func28, by rfl, by rfl⟩ ?_
  refine Number_t (n := 4) (by decide) fun a c H2 m2 => ?_
  (repeat first | refine HReg.step ?_ | refine HCode.step ?_)
  refine append_str (ie := Try.t5) (z := .int .u8 0) (s := bs s) (xs := u8s (num s.length 4)) Try.underlying30 rfl rfl rfl rfl Try.underlying9 m2.own (by rw [hbs]; show (4 + s.length) * 1 ≤ _; omega) (by rw [hbs]; omega) fun a4 c4 H4 r4 u4 f4 => ?_
  have e : u8s (num s.length 4) ++ (bs s).data.toList.map (fun b => Value.int .u8 b.toNat) = u8s (textB s) := by
    unfold textB
    rw [u8s_append]; rfl
  rw [hbs, e] at r4
  have m4 : Made H H4 5 1 a4 (4 + s.length) c4 (u8s (textB s)) := ⟨r4, Upd.drop m2.upd u4 (fun b hb => by obtain ⟨p, hp, rfl⟩ := blk_of hb; exact m2.new p hp), fun p hp => by
    rcases f4 p hp with h | h
    · exact m2.new p h
    · exact Upd.none (S := []) m2.upd (by simp) h⟩
  rw [hbs]
  (repeat first | refine HReg.step ?_ | refine HCode.step ?_)
  exact hk a4 c4 H4 m4
structure TbInv (l : List (List UInt8)) (H0 : Heap) (m : Nat) (vs : List Value) (H' : Heap) : Prop where
  ex : ∃ (i : Nat) (a : Option Addr) (c : Nat), vs = [.slice a (4 + ((l.take i).flatMap textB).length) c, .int .i64 (i : Int)] ∧ m + i = l.length ∧ Made H0 H' 5 1 a (4 + ((l.take i).flatMap textB).length) c (u8s (num l.length 4 ++ (l.take i).flatMap textB))
theorem textsB_length (l : List (List UInt8)) : (textsB l).length = 4 + (l.flatMap textB).length := by unfold textsB; rw [List.length_append, num_length]
theorem flat_ge (l : List (List UInt8)) : l.length ≤ (l.flatMap textB).length := by
  induction l with
  | nil => exact Nat.le_refl _
  | cons s l ih => simp only [List.length_cons, List.flatMap_cons, List.length_append, textB_length]; omega
theorem Texts_t {l : List (List UInt8)} {al : Option Addr} {nl cl : Nat} (hr : RowAt H al (txts l)) (hnl : l.length = nl) (hlim : (textsB l).length ≤ 140737488355328)
    (hk : ∀ a c H', Made H H' 5 1 a (textsB l).length c (u8s (textsB l)) → K (.slice a (textsB l).length c) H') : HCalls Try.prog 48 [.slice al nl cl] H K := by
  refine hcalls (fn := Try.f48) [] mixed Try.func48 rfl rfl (by decide +kernel) ?_
  have htl := textsB_length l
  have hge := flat_ge l
  have w1 : wr .u64 (nl : Int) = (l.length : Int) := by rw [wr_u64]; omega
  (repeat first | refine HReg.step ?_ | refine HCode.step ?_)
  rw [w1]
  refine HCall.mk ⟨Try.f28, Try.func28, by rfl, by rfl⟩ ?_
  refine Number_t (n := 4) (by decide) fun a c H2 m2 => ?_
  (repeat first | refine HReg.step ?_ | refine HCode.step ?_)
  refine hloopC [3, 4, 9, 10, 11, 12, 13, 14, 15, 16, 17, 18, 19, 20, 21] [3, 4] (TbInv l H) rfl (by repeat' first | exact Resp.retD | exact Resp1.valuesK | refine Resp.blockD ?_ | refine Resp.thenD ?_ ?_ | refine Resp.hcode ?_) ?_ ?_
  · exact ⟨l.length, TbInv.mk ⟨0, a, c, rfl, rfl, by rw [List.take_zero, List.flatMap_nil, List.append_nil]; exact m2⟩⟩
  rintro m _ fe H3 ⟨i, a, c, rfl, hmi, m3⟩
  have hr3 := hr.upd (S := []) m3.upd (.inr (Off.nil _))
  (repeat first | refine HReg.step ?_ | refine HCode.step ?_)
  refine hif (fun h1 => ?_) (fun h1 => ?_)
  · have h1 := ltB_true.1 h1
    obtain ⟨s, hs⟩ : ∃ s, l[i]? = some s := ⟨l[i]'(by omega), by simp⟩
    obtain ⟨ba, bo, rfl, _⟩ := hr3 i _ (txts_get hs)
    have hft := flat_take hs
    have hfl := flat_le l (i + 1)
    have hfl' := congrArg List.length hft
    rw [List.length_append, textB_length] at hfl'
    have w2 : wr .i64 ((i : Int) + 1) = ((i + 1 : Nat) : Int) := by rw [wr_i64 (by omega) (by omega)]; omega
    (repeat first | refine HReg.step ?_ | refine HCode.step ?_)
    refine HReq.mk ⟨by omega, by omega⟩ ?_
    (repeat first | refine HReg.step ?_ | refine HCode.step ?_)
    refine HLoad.one (v := .string (bs s)) (by exact hr3.get (txts_get hs)) ?_
    (repeat first | refine HReg.step ?_ | refine HCode.step ?_)
    refine HCall.mk ⟨Try.f49, Try.func49, by rfl, by rfl⟩ ?_
    refine Text_t (s := s) (by omega) fun a4 c4 H4 m4 => ?_
    (repeat first | refine HReg.step ?_ | refine HCode.step ?_)
    refine append_made (m3.step m4.upd) m4.own.rows (textB_length s) (by omega) fun a5 c5 H5 m5 => ?_
    have e5 : 4 + ((l.take i).flatMap textB).length + (4 + s.length) = 4 + ((l.take (i + 1)).flatMap textB).length := by omega
    rw [e5, List.append_assoc, ← hft] at m5
    rw [e5]
    (repeat first | refine HReg.step ?_ | refine HCode.step ?_)
    rw [w2]
    exact ⟨m - 1, by omega, TbInv.mk ⟨i + 1, a5, c5, rfl, by omega, m5⟩⟩
  · have h1 := ltB_false.1 h1
    have e5 : l.take i = l := List.take_of_length_le (by omega)
    rw [e5, ← htl] at m3
    rw [e5, ← htl]
    (repeat first | refine HReg.step ?_ | refine HCode.step ?_)
    exact hk a c H3 m3
end
end Go.Proofs.Ytlgncabjphokjaa
