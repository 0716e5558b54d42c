import Derived.Test.YtfcmjomnpahllaaA2
namespace Go.Proofs.Ytfcmjomnpahllaa
open Go Hv
set_option linter.unusedVariables false
set_option linter.unusedSimpArgs false
set_option maxRecDepth 10000
set_option maxHeartbeats 1000000
theorem lay_yes {w : W} {b : List UInt8} (h1 : w.err = 0) (h2 : b.length ≤ w.lim - w.out.length) : w.lay b = { w with out := w.out ++ b } := by
  unfold W.lay; rw [if_neg (by rw [h1]; simp), if_neg (by omega)]
theorem lay_no {w : W} {b : List UInt8} (h : ¬ (w.err = 0 ∧ b.length ≤ w.lim - w.out.length)) : w.lay b = if w.err = 0 then { w with err := 3 } else w := by
  unfold W.lay
  by_cases h1 : w.err = 0
  · rw [if_neg (by rw [h1]; simp), if_pos (by omega), if_pos h1]
  · rw [if_pos h1, if_neg h1]
section
variable {H0 H : Heap} {g : Nat} {S : List Nat} {w : W} {K : Value → Heap → Prop}
theorem u8_t {v : Nat} (d : WAt H0 H g S w) (hv : v < 256) (hlim : w.out.length + 8 ≤ 140737488355328)
    (hk : ∀ S' H', WAt H0 H' g S' (w.lay (num v 1)) → Foot S S' H H' → K (.tuple #[]) H') : HCalls Try.prog 50 [.pointer (some ⟨g, 0, none⟩), .int .u8 (v : Int)] H K := by
  refine hcalls (fn := Try.f50) [] mixed Try.func50 rfl rfl rfl ?_
  have hl := num_length v 1
  have w1 : wr .u64 (v : Int) = (v : Int) := by rw [wr_u64]; omega
  (repeat first | refine HReg.step ?_ | refine HCode.step ?_)
  refine HCall.mk ⟨Try.f54, Try.func54, by rfl, by rfl⟩ ?_
  refine room_t (n := 1) d (fun h1 h2 => ?_) fun H2 hn d2 f2 => ?_
  · rw [lay_yes h1 (by rw [hl]; exact h2)] at hk
    (repeat first | refine HReg.step ?_ | refine HCode.step ?_)
    rw [w1]
    refine HCall.mk ⟨Try.f55, Try.func55, by rfl, by rfl⟩ ?_
    have := d.ok.le
    refine number_t (n := 1) d (by decide) (by omega) (by omega) fun S3 H3 d3 f3 => ?_
    (repeat first | refine HReg.step ?_ | refine HCode.step ?_)
    exact hk S3 H3 d3 f3
  · rw [lay_no (by rw [hl]; exact hn)] at hk
    (repeat first | refine HReg.step ?_ | refine HCode.step ?_)
    exact hk S H2 d2 f2
theorem u32_t {v : Nat} (d : WAt H0 H g S w) (hv : v < 4294967296) (hlim : w.out.length + 8 ≤ 140737488355328)
    (hk : ∀ S' H', WAt H0 H' g S' (w.lay (num v 4)) → Foot S S' H H' → K (.tuple #[]) H') : HCalls Try.prog 52 [.pointer (some ⟨g, 0, none⟩), .int .u32 (v : Int)] H K := by
  refine hcalls (fn := Try.f52) [] mixed Try.func52 rfl rfl rfl ?_
  have hl := num_length v 4
  have w1 : wr .u64 (v : Int) = (v : Int) := by rw [wr_u64]; omega
  (repeat first | refine HReg.step ?_ | refine HCode.step ?_)
  refine HCall.mk ⟨Try.f54, Try.func54, by rfl, by rfl⟩ ?_
  refine room_t (n := 4) d (fun h1 h2 => ?_) fun H2 hn d2 f2 => ?_
  · rw [lay_yes h1 (by rw [hl]; exact h2)] at hk
    (repeat first | refine HReg.step ?_ | refine HCode.step ?_)
    rw [w1]
    refine HCall.mk ⟨Try.f55, Try.func55, by rfl, by rfl⟩ ?_
    have := d.ok.le
    refine number_t (n := 4) d (by decide) (by omega) (by omega) fun S3 H3 d3 f3 => ?_
    (repeat first | refine HReg.step ?_ | refine HCode.step ?_)
    exact hk S3 H3 d3 f3
  · rw [lay_no (by rw [hl]; exact hn)] at hk
    (repeat first | refine HReg.step ?_ | refine HCode.step ?_)
    exact hk S H2 d2 f2
theorem u64_t {v : Nat} (d : WAt H0 H g S w) (hlim : w.out.length + 8 ≤ 140737488355328)
    (hk : ∀ S' H', WAt H0 H' g S' (w.lay (num v 8)) → Foot S S' H H' → K (.tuple #[]) H') : HCalls Try.prog 51 [.pointer (some ⟨g, 0, none⟩), .int .u64 (v : Int)] H K := by
  refine hcalls (fn := Try.f51) [] mixed Try.func51 rfl rfl rfl ?_
  have hl := num_length v 8
  (repeat first | refine HReg.step ?_ | refine HCode.step ?_)
  refine HCall.mk ⟨Try.f54, Try.func54, by rfl, by rfl⟩ ?_
  refine room_t (n := 8) d (fun h1 h2 => ?_) fun H2 hn d2 f2 => ?_
  · rw [lay_yes h1 (by rw [hl]; exact h2)] at hk
    (repeat first | refine HReg.step ?_ | refine HCode.step ?_)
    refine HCall.mk ⟨Try.f55, Try.func55, by rfl, by rfl⟩ ?_
    have := d.ok.le
    refine number_t (n := 8) d (by decide) (by omega) (by omega) fun S3 H3 d3 f3 => ?_
    (repeat first | refine HReg.step ?_ | refine HCode.step ?_)
    exact hk S3 H3 d3 f3
  · rw [lay_no (by rw [hl]; exact hn)] at hk
    (repeat first | refine HReg.step ?_ | refine HCode.step ?_)
    exact hk S H2 d2 f2
theorem textB_length (s : List UInt8) : (textB s).length = 4 + s.length := by unfold textB; rw [List.length_append, num_length]
theorem text_t {s : List UInt8} (d : WAt H0 H g S w) (hlim : w.out.length + (4 + s.length) ≤ 140737488355328)
    (hk : ∀ S' H', WAt H0 H' g S' (w.lay (textB s)) → Foot S S' H H' → K (.tuple #[]) H') : HCalls Try.prog 31 [.pointer (some ⟨g, 0, none⟩), .string (bs s)] H K := by
  refine hcalls (fn := Try.f31) [] mixed Try.func31 rfl rfl rfl ?_
  have hl := textB_length s
  have hbs := bs_size s
  have w0 : wr .i64 (4 + ((bs s).size : Int)) = ((4 + s.length : Nat) : Int) := by rw [hbs, wr_i64 (by omega) (by omega)]; omega
  have w1 : wr .u64 ((bs s).size : Int) = (s.length : Int) := by rw [hbs, wr_u64]; omega
  (repeat first | refine HReg.step ?_ | refine HCode.step ?_)
  rw [w0]
  refine HCall.mk ⟨Try.f54, Try.func54, by rfl, by rfl⟩ ?_
  refine room_t (n := 4 + s.length) d (fun h1 h2 => ?_) fun H2 hn d2 f2 => ?_
  · rw [lay_yes h1 (by rw [hl]; exact h2)] at hk
    have hle := d.ok.le
    (repeat first | refine HReg.step ?_ | refine HCode.step ?_)
    rw [w1]
    refine HCall.mk ⟨Try.f55, Try.func55, by rfl, by rfl⟩ ?_
    refine number_t (n := 4) d (by decide) (by omega) (by omega) fun S3 H3 d3 f3 => ?_
    obtain ⟨a, c, rfl, o, r⟩ := d3.ex
    have hol : ({ w with out := w.out ++ num s.length 4 } : W).out.length = w.out.length + 4 := by show (w.out ++ num s.length 4).length = _; rw [List.length_append, num_length]
    (repeat first | refine HReg.step ?_ | refine HCode.step ?_)
    refine HLoad.one (v := .slice a (w.out ++ num s.length 4).length c) (by exact o.rows.get (i := 1) rfl) ?_
    (repeat first | refine HReg.step ?_ | refine HCode.step ?_)
    refine append_str (ie := Try.t5) (z := .int .u8 0) (s := bs s) (xs := u8s (w.out ++ num s.length 4)) Try.underlying32 rfl rfl rfl rfl Try.underlying9 r (by rw [hbs]; show ((w.out ++ num s.length 4).length + s.length) * 1 ≤ _; rw [List.length_append, num_length]; omega) (by rw [hbs, List.length_append, num_length]; omega) fun a4 c4 H4 r4 u4 f4 => ?_
    have r4' : OwnRow H4 5 1 a4 ((w.out ++ num s.length 4).length + s.length) c4 (u8s ((w.out ++ num s.length 4) ++ s)) := by
      rw [u8s_append]
      have e : (u8s s) = (bs s).data.toList.map fun b => Value.int .u8 b.toNat := rfl
      rw [e, ← hbs]; exact r4
    have o4 := o.upd u4 (fun p hp hm => by cases hp; exact own_apart o r (by decide) hm)
    (repeat first | refine HReg.step ?_ | refine HCode.step ?_)
    refine store_row o4 (v := .slice a4 ((w.out ++ num s.length 4).length + (bs s).size) c4) rfl (i := 1) (by decide) (by rfl) fun H5 o5 u5 => ?_
    have o5' : OwnRow H5 105 1 (some ⟨g, 0, none⟩) 3 3 [.int .i64 (w.lim : Int), .slice a4 ((w.out ++ num s.length 4).length + s.length) c4, .int .i64 w.err] := by
      rw [hbs] at o5; exact o5
    obtain ⟨d5, f5⟩ := WAt.grow (ys := s) (m := s.length) d3 o r rfl (by rw [hol]; show _ ≤ w.lim; omega) r4' u4 f4 o5' u5
    (repeat first | refine HReg.step ?_ | refine HCode.step ?_)
    refine hk _ H5 ?_ (f3.trans f5)
    have e : w.out ++ textB s = (w.out ++ num s.length 4) ++ s := by unfold textB; rw [List.append_assoc]
    rw [e]; exact d5
  · rw [lay_no (by rw [hl]; exact hn)] at hk
    (repeat first | refine HReg.step ?_ | refine HCode.step ?_)
    exact hk S H2 d2 f2
/-! Lists of texts -/
def txts (ls : List (List UInt8)) : List Value := ls.map fun l => Value.string (bs l)
theorem txts_get {ls : List (List UInt8)} {i : Nat} {l : List UInt8} (h : ls[i]? = some l) : (txts ls)[i]? = some (.string (bs l)) := by simp [txts, h]
theorem txts_length (ls : List (List UInt8)) : (txts ls).length = ls.length := by simp [txts]
theorem flat_take {l : List (List UInt8)} {i : Nat} {s : List UInt8} (h : l[i]? = some s) : (l.take (i + 1)).flatMap textB = (l.take i).flatMap textB ++ textB s := by
  rw [take_get h, List.flatMap_append]; simp
theorem flat_le (l : List (List UInt8)) (i : Nat) : ((l.take i).flatMap textB).length ≤ (l.flatMap textB).length := by
  have : l.flatMap textB = (l.take i).flatMap textB ++ (l.drop i).flatMap textB := by rw [← List.flatMap_append, List.take_append_drop]
  rw [this, List.length_append]; omega
structure TsI1 (l : List (List UInt8)) (H0 : Heap) (m : Nat) (vs : List Value) (H' : Heap) : Prop where
  ex : ∃ i : Nat, vs = [.int .i64 ((4 + ((l.take i).flatMap textB).length : Nat) : Int), .int .i64 (i : Int)] ∧ m + i = l.length ∧ H0 = H'
structure TsI2 (l : List (List UInt8)) (H0 : Heap) (g : Nat) (S : List Nat) (w : W) (H1 : Heap) (m : Nat) (vs : List Value) (H' : Heap) : Prop where
  ex : ∃ (i : Nat) (S' : List Nat), vs = [.int .i64 (i : Int)] ∧ m + i = l.length ∧ WAt H0 H' g S' { w with out := w.out ++ num l.length 4 ++ (l.take i).flatMap textB } ∧ Foot S S' H1 H'
theorem texts_t {l : List (List UInt8)} {al : Option Addr} {nl cl : Nat} (d : WAt H0 H g S w) (hr : RowAt H0 al (txts l)) (hnl : l.length = nl) (hlim : w.out.length + (textsB l).length ≤ 140737488355328)
    (hk : ∀ S' H', WAt H0 H' g S' (w.lay (textsB l)) → Foot S S' H H' → K (.tuple #[]) H') : HCalls Try.prog 53 [.pointer (some ⟨g, 0, none⟩), .slice al nl cl] H K := by
  refine hcalls (fn := Try.f53) [] mixed Try.func53 rfl rfl (by decide +kernel) ?_
  have htl : (textsB l).length = 4 + (l.flatMap textB).length := by unfold textsB; rw [List.length_append, num_length]
  have hr1 := hr.upd (S := []) d.base (.inr (Off.nil _))
  have hll : l.length ≤ (l.flatMap textB).length := by
    clear hr hr1 hnl hlim hk htl
    induction l with
    | nil => exact Nat.le_refl _
    | cons s l ih => simp only [List.length_cons, List.flatMap_cons, List.length_append, textB_length]; omega
  (repeat first | refine HReg.step ?_ | refine HCode.step ?_)
  refine hloopC [4, 6, 11, 12, 13, 14, 15, 16, 17, 18, 19, 20] [4, 11] (TsI1 l H) rfl (by repeat' first | exact Resp.retD | exact Resp1.valuesK | refine Resp.blockD ?_ | refine Resp.thenD ?_ ?_ | refine Resp.hcode ?_) ?_ ?_
  · exact ⟨l.length, TsI1.mk ⟨0, rfl, rfl, rfl⟩⟩
  rintro m _ fe H' ⟨i, rfl, hmi, rfl⟩
  (repeat first | refine HReg.step ?_ | refine HCode.step ?_)
  refine hif (fun h1 => ?_) (fun h1 => ?_)
  · have h1 := ltB_true.1 h1
    obtain ⟨s, hs⟩ : ∃ s, l[i]? = some s := ⟨l[i]'(by omega), by simp⟩
    obtain ⟨ba, bo, rfl, _⟩ := hr1 i _ (txts_get hs)
    have hbs := bs_size s
    have hft := flat_take hs
    have hfl := flat_le l (i + 1)
    have hfl' := congrArg List.length hft
    rw [List.length_append, textB_length] at hfl'
    have w2 : wr .i64 ((i : Int) + 1) = ((i + 1 : Nat) : Int) := by rw [wr_i64 (by omega) (by omega)]; omega
    have w3 : wr .i64 (((4 + ((l.take i).flatMap textB).length : Nat) : Int) + wr .i64 (4 + ((bs s).size : Int))) = ((4 + ((l.take (i + 1)).flatMap textB).length : Nat) : Int) := by
      rw [hbs, wr_i64 (n := 4 + (s.length : Int)) (by omega) (by omega), wr_i64 (by omega) (by omega)]; omega
    (repeat first | refine HReg.step ?_ | refine HCode.step ?_)
    refine HReq.mk ⟨by omega, by omega⟩ ?_
    (repeat first | refine HReg.step ?_ | refine HCode.step ?_)
    refine HLoad.one (v := .string (bs s)) (by exact hr1.get (txts_get hs)) ?_
    (repeat first | refine HReg.step ?_ | refine HCode.step ?_)
    rw [w2, w3]
    exact ⟨m - 1, by omega, TsI1.mk ⟨i + 1, rfl, by omega, rfl⟩⟩
  have h1 := ltB_false.1 h1
  rw [List.take_of_length_le (by omega), ← htl]
  (repeat first | refine HReg.step ?_ | refine HCode.step ?_)
  refine HCall.mk ⟨Try.f54, Try.func54, by rfl, by rfl⟩ ?_
  refine room_t (n := (textsB l).length) d (fun h2 h3 => ?_) fun H2 hn d2 f2 => ?_
  rotate_left
  · rw [lay_no hn] at hk
    (repeat first | refine HReg.step ?_ | refine HCode.step ?_)
    exact hk S H2 d2 f2
  rw [lay_yes h2 h3] at hk
  have hle := d.ok.le
  have w1 : wr .u64 (nl : Int) = (l.length : Int) := by rw [wr_u64]; omega
  (repeat first | refine HReg.step ?_ | refine HCode.step ?_)
  rw [w1]
  refine HCall.mk ⟨Try.f55, Try.func55, by rfl, by rfl⟩ ?_
  refine number_t (n := 4) d (by decide) (by omega) (by omega) fun S3 H3 d3 f3 => ?_
  (repeat first | refine HReg.step ?_ | refine HCode.step ?_)
  refine hloopC [8, 32, 33, 34, 35, 36, 37, 38, 39] [32] (TsI2 l H0 g S w H) rfl (by repeat' first | exact Resp.retD | exact Resp1.valuesK | refine Resp.blockD ?_ | refine Resp.thenD ?_ ?_ | refine Resp.hcode ?_) ?_ ?_
  · exact ⟨l.length, TsI2.mk ⟨0, S3, rfl, rfl, by rw [List.take_zero, List.flatMap_nil, List.append_nil]; exact d3, f3⟩⟩
  rintro m _ fe H4 ⟨i, S4, rfl, hmi, d4, f4⟩
  (repeat first | refine HReg.step ?_ | refine HCode.step ?_)
  refine hif (fun h4 => ?_) (fun h4 => ?_)
  · have h4 := ltB_true.1 h4
    have hr4 := hr.upd (S := []) d4.base (.inr (Off.nil _))
    obtain ⟨s, hs⟩ : ∃ s, l[i]? = some s := ⟨l[i]'(by omega), by simp⟩
    obtain ⟨ba, bo, rfl, _⟩ := hr4 i _ (txts_get hs)
    have hft := flat_take hs
    have hfl := flat_le l (i + 1)
    have hfl' := congrArg List.length hft
    rw [List.length_append, textB_length] at hfl'
    have hol : (w.out ++ num l.length 4 ++ (l.take i).flatMap textB).length = w.out.length + 4 + ((l.take i).flatMap textB).length := by rw [List.length_append, List.length_append, num_length]
    have w2 : wr .i64 ((i : Int) + 1) = ((i + 1 : Nat) : Int) := by rw [wr_i64 (by omega) (by omega)]; omega
    (repeat first | refine HReg.step ?_ | refine HCode.step ?_)
    refine HReq.mk ⟨by omega, by omega⟩ ?_
    (repeat first | refine HReg.step ?_ | refine HCode.step ?_)
    refine HLoad.one (v := .string (bs s)) (by exact hr4.get (txts_get hs)) ?_
    (repeat first | refine HReg.step ?_ | refine HCode.step ?_)
    refine HCall.mk ⟨Try.f31, Try.func31, by rfl, by rfl⟩ ?_
    refine text_t (s := s) d4 (by show (w.out ++ num l.length 4 ++ (l.take i).flatMap textB).length + _ ≤ _; omega) fun S5 H5 d5 f5 => ?_
    rw [lay_yes (w := { w with out := w.out ++ num l.length 4 ++ (l.take i).flatMap textB }) (by exact h2) (by rw [textB_length]; show _ ≤ w.lim - (w.out ++ num l.length 4 ++ (l.take i).flatMap textB).length; omega)] at d5
    (repeat first | refine HReg.step ?_ | refine HCode.step ?_)
    rw [w2]
    exact ⟨m - 1, by omega, TsI2.mk ⟨i + 1, S5, rfl, by omega, by rw [hft, ← List.append_assoc]; exact d5, f4.trans f5⟩⟩
  · have h4 := ltB_false.1 h4
    rw [List.take_of_length_le (by omega), List.append_assoc] at d4
    (repeat first | refine HReg.step ?_ | refine HCode.step ?_)
    exact hk S4 H4 d4 f4
def W.told (w : W) : List UInt8 := if w.err = 0 then w.out else []
theorem out_t (d : WAt H0 H g S w) (hlim : w.out.length ≤ 140737488355328) (hk : ∀ a c H', Made H H' 5 1 a w.told.length c (u8s w.told) → K (.tuple #[.slice a w.told.length c, .int .i64 w.err]) H') : HCalls Try.prog 32 [.pointer (some ⟨g, 0, none⟩)] H K := by
  refine hcalls (fn := Try.f32) [(2, [(0, 0), (1, 0), (2, 0), (3, 0), (4, 0), (5, 0)])] mixed Try.func32 rfl rfl (by decide +kernel) ?_
  obtain ⟨a, c, rfl, o, r⟩ := d.ex
  (repeat first | refine HReg.step ?_ | refine HCode.step ?_)
  refine HLoad.one (v := .int .i64 w.err) (by exact o.rows.get (i := 2) rfl) ?_
  (repeat first | refine HReg.step ?_ | refine HCode.step ?_)
  refine hif (fun h1 => ?_) (fun h1 => ?_)
  · have h1 := not_eqB_true.1 h1
    have e : w.told = [] := if_neg h1
    rw [e] at hk
    (repeat first | refine HReg.step ?_ | refine HCode.step ?_)
    refine HLoad.one (v := .int .i64 w.err) (by exact o.rows.get (i := 2) rfl) ?_
    (repeat first | refine HReg.step ?_ | refine HCode.step ?_)
    exact hk none 0 H ⟨OwnRow.nil _ _ _, Upd.refl _ _, fun p hp => by cases hp⟩
  · have h1 := not_eqB_false.1 h1
    have e : w.told = w.out := if_pos h1
    rw [e, h1] at hk
    (repeat first | refine HReg.step ?_ | refine HCode.step ?_)
    refine HLoad.one (v := .slice a w.out.length c) (by exact o.rows.get (i := 1) rfl) ?_
    (repeat first | refine HReg.step ?_ | refine HCode.step ?_)
    refine HCall.mk ⟨Try.f41, Try.func41, by rfl, by rfl⟩ ?_
    refine clone_t r.rows rfl hlim fun a' c' H' m => ?_
    (repeat first | refine HReg.step ?_ | refine HCode.step ?_)
    exact hk a' c' H' m
end
end Go.Proofs.Ytfcmjomnpahllaa
