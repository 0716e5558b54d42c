import Derived.Test.YtjnahdcolacldaaA3
namespace Go.Proofs.Ytjnahdcolacldaa
open Go Hv
set_option linter.unusedVariables false
set_option linter.unusedSimpArgs false
set_option maxRecDepth 10000
set_option maxHeartbeats 1000000
/-! The document's writer -/
structure VAt (H0 H : Heap) (g : Nat) (S : List Nat) (w : W) : Prop where
  ok : WOk w
  base : Upd [] H0 H
  new : ∀ b ∈ S, H0 b = none
  ex : ∃ a c, S = g :: blk a ∧ OwnRow H 77 1 (some ⟨g, 0, none⟩) 3 3 [.int .i64 (w.lim : Int), .slice a w.out.length c, .int .i64 w.err] ∧ OwnRow H 5 1 a w.out.length c (u8s w.out)
theorem VAt.upd {H0 H H' : Heap} {T : List Nat} {g : Nat} {S : List Nat} {w : W} (d : VAt H0 H g S w) (u : Upd T H H') (hT : ∀ b ∈ S, b ∉ T) (hn : ∀ b ∈ T, H0 b = none) : VAt H0 H' g S w := by
  obtain ⟨a, c, rfl, o, r⟩ := d.ex
  exact ⟨d.ok, Upd.drop d.base u hn, d.new, a, c, rfl, o.upd u (fun p hp => by cases hp; exact hT g List.mem_cons_self), r.upd u (off_notin fun b hb => hT b (List.mem_cons_of_mem _ hb))⟩
theorem VAt.upd0 {H0 H H' : Heap} {g : Nat} {S : List Nat} {w : W} (d : VAt H0 H g S w) (u : Upd [] H H') : VAt H0 H' g S w := d.upd u (by simp) (by simp)
theorem VAt.live {H0 H : Heap} {g : Nat} {S : List Nat} {w : W} (d : VAt H0 H g S w) : ∀ b ∈ S, H b ≠ none := by
  obtain ⟨a, c, rfl, o, r⟩ := d.ex
  intro b hb
  rcases List.mem_cons.1 hb with rfl | h
  · exact o.there rfl
  · obtain ⟨p, hp, rfl⟩ := blk_of h
    exact r.there hp
theorem VAt.mem {H0 H : Heap} {g : Nat} {S : List Nat} {w : W} (d : VAt H0 H g S w) : g ∈ S := by obtain ⟨a, c, rfl, _⟩ := d.ex; exact List.mem_cons_self
section
variable {H0 H : Heap} {g : Nat} {S : List Nat} {w : W} {K : Value → Heap → Prop}
theorem rnewW_t {n : Int} {H : Heap} {K : Value → Heap → Prop} (hn : n ≤ 9223372036854775807) (hk : ∀ g S H', VAt H H' g S ⟨(max n 0).toNat, [], 0⟩ → K (.pointer (some ⟨g, 0, none⟩)) H') : HCalls Try.prog 17 [.int .i64 n] H K := by
  refine hcalls (fn := Try.f17) [] mixed Try.func17 rfl rfl rfl ?_
  have e : max n 0 = (((max n 0).toNat : Nat) : Int) := by omega
  (repeat first | refine HReg.step ?_ | refine HCode.step ?_)
  rw [ite_mx, ite_max, e]
  refine HNew.mk fun g hg => ?_
  (repeat first | refine HReg.step ?_ | refine HCode.step ?_)
  refine hk g [g] _ ⟨⟨Nat.zero_le _, by show (max n 0).toNat ≤ _; omega, .inl rfl⟩, Upd.new hg _, by simpa using hg, none, 0, rfl, OwnRow.lit (upd_same _ _ _) rfl, OwnRow.nil _ _ _⟩
/-- The error alone is written. -/
theorem VAt.setErr {H' : Heap} {a : Option Addr} {c : Nat} {e : Int} (d : VAt H0 H g (g :: blk a) w) (o : OwnRow H 77 1 (some ⟨g, 0, none⟩) 3 3 [.int .i64 (w.lim : Int), .slice a w.out.length c, .int .i64 w.err]) (r : OwnRow H 5 1 a w.out.length c (u8s w.out))
    (o' : OwnRow H' 77 1 (some ⟨g, 0, none⟩) 3 3 [.int .i64 (w.lim : Int), .slice a w.out.length c, .int .i64 e]) (u : Upd [g] H H') (he : e = 0 ∨ e = 3) : VAt H0 H' g (g :: blk a) { w with err := e } := by
  refine ⟨⟨d.ok.le, d.ok.hi, he⟩, Upd.drop d.base u (fun b hb => by rw [List.mem_singleton.1 hb]; exact d.new g List.mem_cons_self), d.new, a, c, rfl, o', r.upd u (off_notin fun b hb hm => ?_)⟩
  rw [List.mem_singleton.1 hm] at hb
  exact own_apart o r (by decide) hb
/-- Bytes are laid behind the others. -/
theorem VAt.grow {H2 H3 : Heap} {a a' : Option Addr} {c c' m : Nat} {ys : List UInt8} (d : VAt H0 H g (g :: blk a) w) (o : OwnRow H 77 1 (some ⟨g, 0, none⟩) 3 3 [.int .i64 (w.lim : Int), .slice a w.out.length c, .int .i64 w.err]) (r : OwnRow H 5 1 a w.out.length c (u8s w.out)) (hm : ys.length = m) (hl : w.out.length + m ≤ w.lim)
    (r2 : OwnRow H2 5 1 a' (w.out.length + m) c' (u8s (w.out ++ ys))) (u2 : Upd (blk a) H H2) (f2 : ∀ p, a' = some p → a = some p ∨ H p.block = none)
    (o3 : OwnRow H3 77 1 (some ⟨g, 0, none⟩) 3 3 [.int .i64 (w.lim : Int), .slice a' (w.out.length + m) c', .int .i64 w.err]) (u3 : Upd [g] H2 H3) : VAt H0 H3 g (g :: blk a') { w with out := w.out ++ ys } ∧ Foot (g :: blk a) (g :: blk a') H H3 := by
  have hlen : (w.out ++ ys).length = w.out.length + m := by rw [List.length_append, hm]
  have u : Upd (g :: blk a) H H3 := (u2.mono fun k hk => List.mem_cons_of_mem _ hk).trans (u3.mono fun k hk => by rw [List.mem_singleton.1 hk]; exact List.mem_cons_self)
  have hsub : ∀ b ∈ g :: blk a', b ∈ g :: blk a ∨ H b = none := fun b hb => by
    rcases List.mem_cons.1 hb with rfl | h
    · exact .inl List.mem_cons_self
    · obtain ⟨p, hp, rfl⟩ := blk_of h
      rcases f2 p hp with h | h
      · exact .inl (List.mem_cons_of_mem _ (by rw [h]; simp [blk]))
      · exact .inr h
  refine ⟨⟨⟨by show (w.out ++ ys).length ≤ w.lim; omega, d.ok.hi, d.ok.er⟩, Upd.drop d.base u d.new, fun b hb => ?_, a', c', rfl, ?_, ?_⟩, u, hsub⟩
  · rcases hsub b hb with h | h
    · exact d.new b h
    · exact Upd.none (S := []) d.base (by simp) h
  · show OwnRow H3 77 1 _ 3 3 [_, .slice a' (w.out ++ ys).length c', _]
    rw [hlen]; exact o3
  · show OwnRow H3 5 1 a' (w.out ++ ys).length c' (u8s (w.out ++ ys))
    rw [hlen]
    have o2 := o.upd u2 (fun p hp hm => by cases hp; exact own_apart o r (by decide) hm)
    refine r2.upd u3 (off_notin fun b hb hm => ?_)
    rw [List.mem_singleton.1 hm] at hb
    exact own_apart o2 r2 (by decide) hb

structure NbInv (v : Nat) (H0 : Heap) (all : List UInt8) (m : Nat) (vs : List Value) (H' : Heap) : Prop where
  ex : ∃ (out : List UInt8) (a : Option Addr) (c : Nat), vs = [.slice a out.length c, .int .i64 ((m : Int) - 1)] ∧ m ≤ 8 ∧ out ++ num v m = all ∧ Made H0 H' 5 1 a out.length c (u8s out)
theorem Number_t {v n : Nat} (hn : n ≤ 8) (hk : ∀ a c H', Made H H' 5 1 a n c (u8s (num v n)) → K (.slice a n c) H') : HCalls Try.prog 62 [.int .u64 (v : Int), .int .i64 (n : Int)] H K := by
  refine hcalls (fn := Try.f62) [] mixed Try.func62 rfl rfl (by decide +kernel) ?_
  have w1 : wr .i64 ((n : Int) - 1) = (n : Int) - 1 := wr_i64 (by omega) (by omega)
  (repeat first | refine HReg.step ?_ | refine HCode.step ?_)
  refine hloopC [5, 6, 9, 10, 11, 12, 13, 14, 15, 16, 17, 18, 19, 20] [5, 6] (NbInv v H (num v n)) rfl (by repeat' first | exact Resp.retD | exact Resp1.valuesK | refine Resp.blockD ?_ | refine Resp.thenD ?_ ?_ | refine Resp.hcode ?_) ?_ ?_
  · exact ⟨n, NbInv.mk ⟨[], none, 0, by rw [w1]; rfl, hn, rfl, ⟨OwnRow.nil _ _ _, Upd.refl _ _, fun p hp => by cases hp⟩⟩⟩
  rintro m _ fe H2 ⟨out, a, c, rfl, hm8, hall, m2⟩
  have hlen : out.length + m = n := by
    have := congrArg List.length hall
    rw [List.length_append, num_length, num_length] at this; exact this
  (repeat first | refine HReg.step ?_ | refine HCode.step ?_)
  refine hif (fun h1 => ?_) (fun h1 => ?_)
  · have h1 := not_ltB_true.1 h1
    obtain ⟨i, rfl⟩ : ∃ i, m = i + 1 := ⟨m - 1, by omega⟩
    have em : ((i + 1 : Nat) : Int) - 1 = (i : Int) := by omega
    rw [em]
    have w8 : wr .i64 (8 * (i : Int)) = ((8 * i : Nat) : Int) := by rw [wr_i64 (by omega) (by omega)]; omega
    (repeat first | refine HReg.step ?_ | refine HCode.step ?_)
    refine HReq.mk (by rw [w8]; omega) ?_
    (repeat first | refine HReg.step ?_ | refine HCode.step ?_)
    refine HReq.mk (by decide) ?_
    (repeat first | refine HReg.step ?_ | refine HCode.step ?_)
    refine HNew.mk fun b hb => ?_
    have rb : RowAt (H2.upd b (.cells [Value.int .u8 (wr .u8 (shrS .u64 (v : Int) (wr .i64 (8 * (i : Int)))))].toArray 5)) (some ⟨b, 0, none⟩) (u8s [UInt8.ofNat (v / 256 ^ i)]) := row_lit (upd_same _ _ _) (by rw [byte_at v i (by omega)]; rfl)
    (repeat first | refine HReg.step ?_ | refine HCode.step ?_)
    refine append_made (xs := out) (m2.step (Upd.new hb _)) rb rfl (by omega) fun a4 c4 H4 m4 => ?_
    have w2 : wr .i64 ((i : Int) - 1) = (i : Int) - 1 := wr_i64 (by omega) (by omega)
    have e5 : (out ++ [UInt8.ofNat (v / 256 ^ i)]).length = out.length + 1 := by simp
    (repeat first | refine HReg.step ?_ | refine HCode.step ?_)
    rw [w2]
    exact ⟨i, by omega, NbInv.mk ⟨out ++ [UInt8.ofNat (v / 256 ^ i)], a4, c4, by rw [e5], by omega, by rw [List.append_assoc]; exact hall, by rw [e5]; exact m4⟩⟩
  · have h1 := not_ltB_false.1 h1
    obtain rfl : m = 0 := by omega
    have hall : out ++ [] = num v n := hall
    rw [List.append_nil] at hall
    have e : out.length = n := by omega
    rw [e, hall] at m2
    rw [e]
    (repeat first | refine HReg.step ?_ | refine HCode.step ?_)
    exact hk a c H2 m2
theorem Text_t {s : List UInt8} (hlim : 4 + s.length ≤ 140737488355328) (hk : ∀ a c H', Made H H' 5 1 a (4 + s.length) c (u8s (textB s)) → K (.slice a (4 + s.length) c) H') : HCalls Try.prog 63 [.string (bs s)] H K := by
  refine hcalls (fn := Try.f63) [] mixed Try.func63 rfl rfl (by decide +kernel) ?_
  have hbs := bs_size s
  have w1 : wr .u64 ((bs s).size : Int) = (s.length : Int) := by rw [hbs, wr_u64]; omega
  (repeat first | refine HReg.step ?_ | refine HCode.step ?_)
  rw [w1]
  refine HCall.mk ⟨Try.f62, Try.func62, by rfl, by rfl⟩ ?_
  refine Number_t (n := 4) (by decide) fun a c H2 m2 => ?_
  (repeat first | refine HReg.step ?_ | refine HCode.step ?_)
  refine append_str (ie := Try.t5) (z := .int .u8 0) (s := bs s) (xs := u8s (num s.length 4)) Try.underlying23 rfl rfl rfl rfl Try.underlying9 m2.own (by rw [hbs]; show (4 + s.length) * 1 ≤ _; omega) (by rw [hbs]; omega) fun a4 c4 H4 r4 u4 f4 => ?_
  have e : u8s (num s.length 4) ++ (bs s).data.toList.map (fun b => Value.int .u8 b.toNat) = u8s (textB s) := by
    unfold textB
    rw [u8s_append]; rfl
  rw [hbs, e] at r4
  have m4 : Made H H4 5 1 a4 (4 + s.length) c4 (u8s (textB s)) := ⟨r4, Upd.drop m2.upd u4 (fun b hb => by obtain ⟨p, hp, rfl⟩ := blk_of hb; exact m2.new p hp), fun p hp => by
    rcases f4 p hp with h | h
    · exact m2.new p h
    · exact Upd.none (S := []) m2.upd (by simp) h⟩
  rw [hbs]
  (repeat first | refine HReg.step ?_ | refine HCode.step ?_)
  exact hk a4 c4 H4 m4
structure TbInv (l : List (List UInt8)) (H0 : Heap) (m : Nat) (vs : List Value) (H' : Heap) : Prop where
  ex : ∃ (i : Nat) (a : Option Addr) (c : Nat), vs = [.slice a (4 + ((l.take i).flatMap textB).length) c, .int .i64 (i : Int)] ∧ m + i = l.length ∧ Made H0 H' 5 1 a (4 + ((l.take i).flatMap textB).length) c (u8s (num l.length 4 ++ (l.take i).flatMap textB))
theorem textsB_length (l : List (List UInt8)) : (textsB l).length = 4 + (l.flatMap textB).length := by unfold textsB; rw [List.length_append, num_length]
theorem flat_ge (l : List (List UInt8)) : l.length ≤ (l.flatMap textB).length := by
  induction l with
  | nil => exact Nat.le_refl _
  | cons s l ih => simp only [List.length_cons, List.flatMap_cons, List.length_append, textB_length]; omega
theorem Texts_t {l : List (List UInt8)} {al : Option Addr} {nl cl : Nat} (hr : RowAt H al (txts l)) (hnl : l.length = nl) (hlim : (textsB l).length ≤ 140737488355328)
    (hk : ∀ a c H', Made H H' 5 1 a (textsB l).length c (u8s (textsB l)) → K (.slice a (textsB l).length c) H') : HCalls Try.prog 64 [.slice al nl cl] H K := by
  refine hcalls (fn := Try.f64) [] mixed Try.func64 rfl rfl (by decide +kernel) ?_
  have htl := textsB_length l
  have hge := flat_ge l
  have w1 : wr .u64 (nl : Int) = (l.length : Int) := by rw [wr_u64]; omega
  (repeat first | refine HReg.step ?_ | refine HCode.step ?_)
  rw [w1]
  refine HCall.mk ⟨Try.f62, Try.func62, by rfl, by rfl⟩ ?_
  refine Number_t (n := 4) (by decide) fun a c H2 m2 => ?_
  (repeat first | refine HReg.step ?_ | refine HCode.step ?_)
  refine hloopC [3, 4, 9, 10, 11, 12, 13, 14, 15, 16, 17, 18, 19, 20, 21] [3, 4] (TbInv l H) rfl (by repeat' first | exact Resp.retD | exact Resp1.valuesK | refine Resp.blockD ?_ | refine Resp.thenD ?_ ?_ | refine Resp.hcode ?_) ?_ ?_
  · exact ⟨l.length, TbInv.mk ⟨0, a, c, rfl, rfl, by rw [List.take_zero, List.flatMap_nil, List.append_nil]; exact m2⟩⟩
  rintro m _ fe H3 ⟨i, a, c, rfl, hmi, m3⟩
  have hr3 := hr.upd (S := []) m3.upd (.inr (Off.nil _))
  (repeat first | refine HReg.step ?_ | refine HCode.step ?_)
  refine hif (fun h1 => ?_) (fun h1 => ?_)
  · have h1 := ltB_true.1 h1
    obtain ⟨s, hs⟩ : ∃ s, l[i]? = some s := ⟨l[i]'(by omega), by simp⟩
    obtain ⟨ba, bo, rfl, _⟩ := hr3 i _ (txts_get hs)
    have hft := flat_take hs
    have hfl := flat_le l (i + 1)
    have hfl' := congrArg List.length hft
    rw [List.length_append, textB_length] at hfl'
    have w2 : wr .i64 ((i : Int) + 1) = ((i + 1 : Nat) : Int) := by rw [wr_i64 (by omega) (by omega)]; omega
    (repeat first | refine HReg.step ?_ | refine HCode.step ?_)
    refine HReq.mk ⟨by omega, by omega⟩ ?_
    (repeat first | refine HReg.step ?_ | refine HCode.step ?_)
    refine HLoad.one (v := .string (bs s)) (by exact hr3.get (txts_get hs)) ?_
    (repeat first | refine HReg.step ?_ | refine HCode.step ?_)
    refine HCall.mk ⟨Try.f63, Try.func63, by rfl, by rfl⟩ ?_
    refine Text_t (s := s) (by omega) fun a4 c4 H4 m4 => ?_
    (repeat first | refine HReg.step ?_ | refine HCode.step ?_)
    refine append_made (m3.step m4.upd) m4.own.rows (textB_length s) (by omega) fun a5 c5 H5 m5 => ?_
    have e5 : 4 + ((l.take i).flatMap textB).length + (4 + s.length) = 4 + ((l.take (i + 1)).flatMap textB).length := by omega
    rw [e5, List.append_assoc, ← hft] at m5
    rw [e5]
    (repeat first | refine HReg.step ?_ | refine HCode.step ?_)
    rw [w2]
    exact ⟨m - 1, by omega, TbInv.mk ⟨i + 1, a5, c5, rfl, by omega, m5⟩⟩
  · have h1 := ltB_false.1 h1
    have e5 : l.take i = l := List.take_of_length_le (by omega)
    rw [e5, ← htl] at m3
    rw [e5, ← htl]
    (repeat first | refine HReg.step ?_ | refine HCode.step ?_)
    exact hk a c H3 m3
theorem Lay_t {b : Option Addr} {m c : Nat} {ys : List UInt8} (d : VAt H0 H g S w) (hy : RowAt H b (u8s ys)) (hm : ys.length = m) (hlim : w.out.length + m ≤ 140737488355328)
    (hk : ∀ S' H', VAt H0 H' g S' (w.lay ys) → Foot S S' H H' → K (.tuple #[]) H') : HCalls Try.prog 61 [.pointer (some ⟨g, 0, none⟩), .slice b m c] H K := by
  refine hcalls (fn := Try.f61) [(1, [(0, 0), (1, 0), (2, 0), (3, 0), (4, 0), (5, 0), (6, 0), (7, 0), (8, 0), (9, 0), (10, 0), (11, 0), (12, 0)])] mixed Try.func61 rfl rfl (by decide +kernel) ?_
  obtain ⟨a, ca, rfl, o, r⟩ := d.ex
  have hle := d.ok.le
  have hhi := d.ok.hi
  (repeat first | refine HReg.step ?_ | refine HCode.step ?_)
  refine HLoad.one (v := .int .i64 w.err) (by exact o.rows.get (i := 2) rfl) ?_
  (repeat first | refine HReg.step ?_ | refine HCode.step ?_)
  refine hif (fun h1 => ?_) (fun h1 => ?_)
  · have h1 := not_eqB_true.1 h1
    rw [lay_no (fun h => h1 h.1), if_neg h1] at hk
    (repeat first | refine HReg.step ?_ | refine HCode.step ?_)
    exact hk _ H d (Foot.refl _ _)
  have h1 := not_eqB_false.1 h1
  have hw : wr .i64 ((w.lim : Int) - (w.out.length : Int)) = (w.lim : Int) - w.out.length := wr_i64 (by omega) (by omega)
  (repeat first | refine HReg.step ?_ | refine HCode.step ?_)
  refine HLoad.one (v := .int .i64 (w.lim : Int)) (by exact o.rows.get (i := 0) rfl) ?_
  (repeat first | refine HReg.step ?_ | refine HCode.step ?_)
  refine HLoad.one (v := .slice a w.out.length ca) (by exact o.rows.get (i := 1) rfl) ?_
  (repeat first | refine HReg.step ?_ | refine HCode.step ?_)
  rw [hw]
  refine hif (fun h2 => ?_) (fun h2 => ?_)
  · have h2 := ltB_true.1 h2
    rw [lay_no (fun h => by omega), if_pos h1] at hk
    (repeat first | refine HReg.step ?_ | refine HCode.step ?_)
    refine store_row o (v := .int .i64 3) rfl (i := 2) (by decide) (by rfl) fun H2 o2 u2 => ?_
    have d2 := d.setErr o r o2 u2 (.inr rfl)
    (repeat first | refine HReg.step ?_ | refine HCode.step ?_)
    exact hk _ H2 d2 ⟨u2.mono (by simp), fun b hb => .inl hb⟩
  · have h2 := ltB_false.1 h2
    rw [lay_yes h1 (by omega)] at hk
    (repeat first | refine HReg.step ?_ | refine HCode.step ?_)
    refine HLoad.one (v := .slice a w.out.length ca) (by exact o.rows.get (i := 1) rfl) ?_
    (repeat first | refine HReg.step ?_ | refine HCode.step ?_)
    refine append_own (xs := w.out) r hy hm (by omega) fun a4 c4 H4 r4 u4 f4 => ?_
    have o4 := o.upd u4 (fun p hp hm => by cases hp; exact own_apart o r (by decide) hm)
    (repeat first | refine HReg.step ?_ | refine HCode.step ?_)
    refine store_row o4 (v := .slice a4 (w.out.length + m) c4) rfl (i := 1) (by decide) (by rfl) fun H5 o5 u5 => ?_
    obtain ⟨d5, f5⟩ := VAt.grow (ys := ys) (m := m) d o r hm (by omega) r4 u4 f4 o5 u5
    (repeat first | refine HReg.step ?_ | refine HCode.step ?_)
    exact hk _ H5 d5 f5
theorem du8_t {v : Nat} (d : VAt H0 H g S w) (hv : v < 256) (hlim : w.out.length + 8 ≤ 140737488355328)
    (hk : ∀ S' H', VAt H0 H' g S' (w.lay (num v 1)) → Foot S S' H H' → K (.tuple #[]) H') : HCalls Try.prog 45 [.pointer (some ⟨g, 0, none⟩), .int .u8 (v : Int)] H K := by
  refine hcalls (fn := Try.f45) [] mixed Try.func45 rfl rfl rfl ?_
  have w1 : wr .u64 (v : Int) = (v : Int) := by rw [wr_u64]; omega
  (repeat first | refine HReg.step ?_ | refine HCode.step ?_)
  rw [w1]
  refine HCall.mk ⟨Try.f62, Try.func62, by rfl, by rfl⟩ ?_
  refine Number_t (n := 1) (by decide) fun a c H2 m2 => ?_
  (repeat first | refine HReg.step ?_ | refine HCode.step ?_)
  refine HCall.mk ⟨Try.f61, Try.func61, by rfl, by rfl⟩ ?_
  refine Lay_t (d.upd0 m2.upd) m2.own.rows (num_length _ _) (by omega) fun S3 H3 d3 f3 => ?_
  (repeat first | refine HReg.step ?_ | refine HCode.step ?_)
  exact hk S3 H3 d3 (f3.back0 m2.upd)
theorem du32_t {v : Nat} (d : VAt H0 H g S w) (hv : v < 4294967296) (hlim : w.out.length + 8 ≤ 140737488355328)
    (hk : ∀ S' H', VAt H0 H' g S' (w.lay (num v 4)) → Foot S S' H H' → K (.tuple #[]) H') : HCalls Try.prog 46 [.pointer (some ⟨g, 0, none⟩), .int .u32 (v : Int)] H K := by
  refine hcalls (fn := Try.f46) [] mixed Try.func46 rfl rfl rfl ?_
  have w1 : wr .u64 (v : Int) = (v : Int) := by rw [wr_u64]; omega
  (repeat first | refine HReg.step ?_ | refine HCode.step ?_)
  rw [w1]
  refine HCall.mk ⟨Try.f62, Try.func62, by rfl, by rfl⟩ ?_
  refine Number_t (n := 4) (by decide) fun a c H2 m2 => ?_
  (repeat first | refine HReg.step ?_ | refine HCode.step ?_)
  refine HCall.mk ⟨Try.f61, Try.func61, by rfl, by rfl⟩ ?_
  refine Lay_t (d.upd0 m2.upd) m2.own.rows (num_length _ _) (by omega) fun S3 H3 d3 f3 => ?_
  (repeat first | refine HReg.step ?_ | refine HCode.step ?_)
  exact hk S3 H3 d3 (f3.back0 m2.upd)
theorem du64_t {v : Nat} (d : VAt H0 H g S w) (hlim : w.out.length + 8 ≤ 140737488355328)
    (hk : ∀ S' H', VAt H0 H' g S' (w.lay (num v 8)) → Foot S S' H H' → K (.tuple #[]) H') : HCalls Try.prog 47 [.pointer (some ⟨g, 0, none⟩), .int .u64 (v : Int)] H K := by
  refine hcalls (fn := Try.f47) [] mixed Try.func47 rfl rfl rfl ?_
  (repeat first | refine HReg.step ?_ | refine HCode.step ?_)
  refine HCall.mk ⟨Try.f62, Try.func62, by rfl, by rfl⟩ ?_
  refine Number_t (n := 8) (by decide) fun a c H2 m2 => ?_
  (repeat first | refine HReg.step ?_ | refine HCode.step ?_)
  refine HCall.mk ⟨Try.f61, Try.func61, by rfl, by rfl⟩ ?_
  refine Lay_t (d.upd0 m2.upd) m2.own.rows (num_length _ _) (by omega) fun S3 H3 d3 f3 => ?_
  (repeat first | refine HReg.step ?_ | refine HCode.step ?_)
  exact hk S3 H3 d3 (f3.back0 m2.upd)
theorem dtext_t {s : List UInt8} (d : VAt H0 H g S w) (hlim : w.out.length + (4 + s.length) ≤ 140737488355328)
    (hk : ∀ S' H', VAt H0 H' g S' (w.lay (textB s)) → Foot S S' H H' → K (.tuple #[]) H') : HCalls Try.prog 48 [.pointer (some ⟨g, 0, none⟩), .string (bs s)] H K := by
  refine hcalls (fn := Try.f48) [] mixed Try.func48 rfl rfl rfl ?_
  (repeat first | refine HReg.step ?_ | refine HCode.step ?_)
  refine HCall.mk ⟨Try.f63, Try.func63, by rfl, by rfl⟩ ?_
  refine Text_t (s := s) (by omega) fun a c H2 m2 => ?_
  (repeat first | refine HReg.step ?_ | refine HCode.step ?_)
  refine HCall.mk ⟨Try.f61, Try.func61, by rfl, by rfl⟩ ?_
  refine Lay_t (d.upd0 m2.upd) m2.own.rows (textB_length _) (by omega) fun S3 H3 d3 f3 => ?_
  (repeat first | refine HReg.step ?_ | refine HCode.step ?_)
  exact hk S3 H3 d3 (f3.back0 m2.upd)
theorem dtexts_t {l : List (List UInt8)} {al : Option Addr} {nl cl : Nat} (d : VAt H0 H g S w) (hr : RowAt H0 al (txts l)) (hnl : l.length = nl) (hlim : w.out.length + (textsB l).length ≤ 140737488355328)
    (hk : ∀ S' H', VAt H0 H' g S' (w.lay (textsB l)) → Foot S S' H H' → K (.tuple #[]) H') : HCalls Try.prog 49 [.pointer (some ⟨g, 0, none⟩), .slice al nl cl] H K := by
  refine hcalls (fn := Try.f49) [] mixed Try.func49 rfl rfl rfl ?_
  (repeat first | refine HReg.step ?_ | refine HCode.step ?_)
  refine HCall.mk ⟨Try.f64, Try.func64, by rfl, by rfl⟩ ?_
  refine Texts_t (hr.upd (S := []) d.base (.inr (Off.nil _))) hnl (by omega) fun a c H2 m2 => ?_
  (repeat first | refine HReg.step ?_ | refine HCode.step ?_)
  refine HCall.mk ⟨Try.f61, Try.func61, by rfl, by rfl⟩ ?_
  refine Lay_t (d.upd0 m2.upd) m2.own.rows rfl (by omega) fun S3 H3 d3 f3 => ?_
  (repeat first | refine HReg.step ?_ | refine HCode.step ?_)
  exact hk S3 H3 d3 (f3.back0 m2.upd)
theorem dlen_t (d : VAt H0 H g S w) (hk : K (.int .i64 (w.out.length : Int)) H) : HCalls Try.prog 20 [.pointer (some ⟨g, 0, none⟩)] H K := by
  refine hcalls (fn := Try.f20) [] mixed Try.func20 rfl rfl rfl ?_
  obtain ⟨a, c, rfl, o, r⟩ := d.ex
  (repeat first | refine HReg.step ?_ | refine HCode.step ?_)
  refine HLoad.one (v := .slice a w.out.length c) (by exact o.rows.get (i := 1) rfl) ?_
  (repeat first | refine HReg.step ?_ | refine HCode.step ?_)
  exact hk
theorem dout_t (d : VAt H0 H g S w) (hlim : w.out.length ≤ 140737488355328) (hk : ∀ a c H', Made H H' 5 1 a w.told.length c (u8s w.told) → K (.tuple #[.slice a w.told.length c, .int .i64 w.err]) H') : HCalls Try.prog 50 [.pointer (some ⟨g, 0, none⟩)] H K := by
  refine hcalls (fn := Try.f50) [(2, [(0, 0), (1, 0), (2, 0), (3, 0), (4, 0), (5, 0)])] mixed Try.func50 rfl rfl (by decide +kernel) ?_
  obtain ⟨a, c, rfl, o, r⟩ := d.ex
  (repeat first | refine HReg.step ?_ | refine HCode.step ?_)
  refine HLoad.one (v := .int .i64 w.err) (by exact o.rows.get (i := 2) rfl) ?_
  (repeat first | refine HReg.step ?_ | refine HCode.step ?_)
  refine hif (fun h1 => ?_) (fun h1 => ?_)
  · have h1 := not_eqB_true.1 h1
    have e : w.told = [] := if_neg h1
    rw [e] at hk
    (repeat first | refine HReg.step ?_ | refine HCode.step ?_)
    refine HLoad.one (v := .int .i64 w.err) (by exact o.rows.get (i := 2) rfl) ?_
    (repeat first | refine HReg.step ?_ | refine HCode.step ?_)
    exact hk none 0 H ⟨OwnRow.nil _ _ _, Upd.refl _ _, fun p hp => by cases hp⟩
  · have h1 := not_eqB_false.1 h1
    have e : w.told = w.out := if_pos h1
    rw [e, h1] at hk
    (repeat first | refine HReg.step ?_ | refine HCode.step ?_)
    refine HLoad.one (v := .slice a w.out.length c) (by exact o.rows.get (i := 1) rfl) ?_
    (repeat first | refine HReg.step ?_ | refine HCode.step ?_)
    refine append_own (xs := []) (OwnRow.nil _ _ _) r.rows rfl (by omega) fun a4 c4 H4 r4 u4 f4 => ?_
    have m4 : Made H H4 5 1 a4 w.out.length c4 (u8s w.out) := by
      rw [Nat.zero_add] at r4
      exact ⟨r4, u4, fun p hp => by
        rcases f4 p hp with h | h
        · cases h
        · exact h⟩
    (repeat first | refine HReg.step ?_ | refine HCode.step ?_)
    refine (show K (.tuple #[.slice a4 (0 + w.out.length) c4, .int .i64 0]) H4 from ?_)
    rw [Nat.zero_add]
    exact hk a4 c4 H4 m4
end
end Go.Proofs.Ytjnahdcolacldaa
