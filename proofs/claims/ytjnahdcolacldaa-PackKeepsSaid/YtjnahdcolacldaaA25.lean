import Derived.Test.YtjnahdcolacldaaA24
import Derived.Test.YtjnahdcolacldaaA10
namespace Go.Proofs.Ytjnahdcolacldaa
open Go Hv
set_option linter.unusedVariables false
set_option linter.unusedSimpArgs false
set_option maxRecDepth 10000
set_option maxHeartbeats 1000000
/-! Writers of which only the size is known -/
structure ZAt (H0 H : Heap) (g : Nat) (S : List Nat) (w : W) (B : Nat) : Prop where
  b : w.out.length ≤ B
  hi : w.lim ≤ B
  base : Upd [] H0 H
  new : ∀ b ∈ S, H0 b = none
  ex : ∃ a c, S = g :: blk a ∧ OwnRow H 65 1 (some ⟨g, 0, none⟩) 3 3 [.int .i64 (w.lim : Int), .slice a w.out.length c, .int .i64 w.err] ∧ OwnRow H 5 1 a w.out.length c (u8s w.out)
theorem WAt.z {H0 H : Heap} {g : Nat} {S : List Nat} {w : W} (d : WAt H0 H g S w) : ZAt H0 H g S w w.lim := ⟨d.ok.le, Nat.le_refl _, d.base, d.new, d.ex⟩
theorem ZAt.upd {H0 H H' : Heap} {T : List Nat} {g : Nat} {S : List Nat} {w : W} {B : Nat} (d : ZAt H0 H g S w B) (u : Upd T H H') (hT : ∀ b ∈ S, b ∉ T) (hn : ∀ b ∈ T, H0 b = none) : ZAt H0 H' g S w B := by
  obtain ⟨a, c, rfl, o, r⟩ := d.ex
  exact ⟨d.b, d.hi, Upd.drop d.base u hn, d.new, a, c, rfl, o.upd u (fun p hp => by cases hp; exact hT g List.mem_cons_self), r.upd u (off_notin fun b hb => hT b (List.mem_cons_of_mem _ hb))⟩
theorem ZAt.upd0 {H0 H H' : Heap} {g : Nat} {S : List Nat} {w : W} {B : Nat} (d : ZAt H0 H g S w B) (u : Upd [] H H') : ZAt H0 H' g S w B := d.upd u (by simp) (by simp)
theorem ZAt.cells {H0 H : Heap} {g : Nat} {S : List Nat} {w : W} {B : Nat} (d : ZAt H0 H g S w B) : ∀ b ∈ S, ∃ c e f, H b = some (.cells c e f) ∧ (e = 65 ∨ e = 5) := by
  obtain ⟨a, c, rfl, o, r⟩ := d.ex
  intro b hb
  rcases List.mem_cons.1 hb with rfl | h
  · obtain ⟨c, f, h⟩ := own_cells o; exact ⟨c, _, f, h, .inl rfl⟩
  · obtain ⟨p, hp, rfl⟩ := blk_of h
    rcases r.ok with ⟨ha, _⟩ | ⟨g', cur, ha, hg, _⟩
    · rw [ha] at hp; cases hp
    · rw [ha] at hp; cases hp; exact ⟨_, _, _, hg, .inr rfl⟩
theorem ZAt.live {H0 H : Heap} {g : Nat} {S : List Nat} {w : W} {B : Nat} (d : ZAt H0 H g S w B) : ∀ b ∈ S, H b ≠ none := fun b hb => by
  obtain ⟨c, e, f, h, _⟩ := d.cells b hb; rw [h]; simp
theorem ZAt.wide {H0 H : Heap} {g : Nat} {S : List Nat} {w : W} {B B' : Nat} (d : ZAt H0 H g S w B) (h : B ≤ B') : ZAt H0 H g S w B' := ⟨Nat.le_trans d.b h, Nat.le_trans d.hi h, d.base, d.new, d.ex⟩
theorem ZAt.back {H0 H1 H : Heap} {g : Nat} {S : List Nat} {w : W} {B : Nat} (d : ZAt H1 H g S w B) (u : Upd [] H0 H1) : ZAt H0 H g S w B := ⟨d.b, d.hi, u.trans d.base, fun b hb => Upd.none (S := []) u (by simp) (d.new b hb), d.ex⟩
section
variable {H0 H : Heap} {g : Nat} {S : List Nat} {w : W} {B : Nat} {K : Value → Heap → Prop}
theorem ZAt.setErr {H' : Heap} {a : Option Addr} {c : Nat} {e : Int} (d : ZAt H0 H g (g :: blk a) w B) (o : OwnRow H 65 1 (some ⟨g, 0, none⟩) 3 3 [.int .i64 (w.lim : Int), .slice a w.out.length c, .int .i64 w.err]) (r : OwnRow H 5 1 a w.out.length c (u8s w.out))
    (o' : OwnRow H' 65 1 (some ⟨g, 0, none⟩) 3 3 [.int .i64 (w.lim : Int), .slice a w.out.length c, .int .i64 e]) (u : Upd [g] H H') : ZAt H0 H' g (g :: blk a) { w with err := e } B := by
  refine ⟨d.b, d.hi, Upd.drop d.base u (fun b hb => by rw [List.mem_singleton.1 hb]; exact d.new g List.mem_cons_self), d.new, a, c, rfl, o', r.upd u (off_notin fun b hb hm => ?_)⟩
  rw [List.mem_singleton.1 hm] at hb
  exact own_apart o r (by decide) hb
theorem room_z {z : Int} (d : ZAt H0 H g S w B) (hB : B ≤ 1099511627776)
    (hyes : w.err = 0 → z ≤ (w.lim : Int) - w.out.length → K (.bool true) H) (hno : ∀ w' H', w'.lim = w.lim → ZAt H0 H' g S w' B → Foot S S H H' → K (.bool false) H') : HCalls Try.prog 57 [.pointer (some ⟨g, 0, none⟩), .int .i64 z] H K := by
  refine hcalls (fn := Try.f57) [(1, [(0, 0), (1, 0), (2, 0), (3, 0), (4, 0), (5, 0), (6, 0), (7, 0), (8, 0), (9, 0), (10, 0), (11, 0), (12, 0), (13, 0), (14, 0), (15, 0), (16, 0), (17, 0), (18, 0)])] mixed Try.func57 rfl rfl (by decide +kernel) ?_
  obtain ⟨a, c, rfl, o, r⟩ := d.ex
  have hle := d.b
  have hhi := d.hi
  (repeat first | refine HReg.step ?_ | refine HCode.step ?_)
  refine HLoad.one (v := .int .i64 w.err) (by exact o.rows.get (i := 2) rfl) ?_
  (repeat first | refine HReg.step ?_ | refine HCode.step ?_)
  refine hif (fun h1 => ?_) (fun h1 => ?_)
  · have h1 := eqB_true.1 h1
    have hw : wr .i64 ((w.lim : Int) - (w.out.length : Int)) = (w.lim : Int) - w.out.length := wr_i64 (by omega) (by omega)
    (repeat first | refine HReg.step ?_ | refine HCode.step ?_)
    refine HLoad.one (v := .int .i64 (w.lim : Int)) (by exact o.rows.get (i := 0) rfl) ?_
    (repeat first | refine HReg.step ?_ | refine HCode.step ?_)
    refine HLoad.one (v := .slice a w.out.length c) (by exact o.rows.get (i := 1) rfl) ?_
    (repeat first | refine HReg.step ?_ | refine HCode.step ?_)
    rw [hw]
    refine hif (fun h2 => ?_) (fun h2 => ?_)
    · have h2 := ltB_true.1 h2
      (repeat first | refine HReg.step ?_ | refine HCode.step ?_)
      refine store_row o (v := .int .i64 3) rfl (i := 2) (by decide) (by rfl) fun H2 o2 u2 => ?_
      have o2 : OwnRow H2 65 1 (some ⟨g, 0, none⟩) 3 3 [.int .i64 (w.lim : Int), .slice a w.out.length c, .int .i64 3] := o2
      have d2 := d.setErr o r o2 u2
      (repeat first | refine HReg.step ?_ | refine HCode.step ?_)
      refine HLoad.one (v := .int .i64 3) (by exact o2.rows.get (i := 2) rfl) ?_
      have e : eqB 3 0 = false := eqB_false.2 (by decide)
      (repeat first | refine HReg.step ?_ | refine HCode.step ?_)
      refine (show K (.bool (eqB 3 0)) H2 from ?_)
      rw [e]
      exact hno _ H2 (by rfl) d2 ⟨u2.mono (by simp), fun b hb => .inl hb⟩
    · have h2 := ltB_false.1 h2
      (repeat first | refine HReg.step ?_ | refine HCode.step ?_)
      refine HLoad.one (v := .int .i64 w.err) (by exact o.rows.get (i := 2) rfl) ?_
      have e : eqB w.err 0 = true := eqB_true.2 h1
      (repeat first | refine HReg.step ?_ | refine HCode.step ?_)
      refine (show K (.bool (eqB w.err 0)) H from ?_)
      rw [e]
      exact hyes h1 (by omega)
  · have h1 := eqB_false.1 h1
    (repeat first | refine HReg.step ?_ | refine HCode.step ?_)
    refine HLoad.one (v := .int .i64 w.err) (by exact o.rows.get (i := 2) rfl) ?_
    have e : eqB w.err 0 = false := eqB_false.2 h1
    (repeat first | refine HReg.step ?_ | refine HCode.step ?_)
    refine (show K (.bool (eqB w.err 0)) H from ?_)
    rw [e]
    exact hno w H rfl d (Foot.refl _ _)
/-- Bytes are laid behind the others. -/
theorem ZAt.grow {H2 H3 : Heap} {a a' : Option Addr} {c c' m : Nat} {ys : List UInt8} (d : ZAt H0 H g (g :: blk a) w B) (o : OwnRow H 65 1 (some ⟨g, 0, none⟩) 3 3 [.int .i64 (w.lim : Int), .slice a w.out.length c, .int .i64 w.err]) (r : OwnRow H 5 1 a w.out.length c (u8s w.out)) (hm : ys.length = m) (hl : w.out.length + m ≤ B)
    (r2 : OwnRow H2 5 1 a' (w.out.length + m) c' (u8s (w.out ++ ys))) (u2 : Upd (blk a) H H2) (f2 : ∀ p, a' = some p → a = some p ∨ H p.block = none)
    (o3 : OwnRow H3 65 1 (some ⟨g, 0, none⟩) 3 3 [.int .i64 (w.lim : Int), .slice a' (w.out.length + m) c', .int .i64 w.err]) (u3 : Upd [g] H2 H3) : ZAt H0 H3 g (g :: blk a') { w with out := w.out ++ ys } B ∧ Foot (g :: blk a) (g :: blk a') H H3 := by
  have hlen : (w.out ++ ys).length = w.out.length + m := by rw [List.length_append, hm]
  have u : Upd (g :: blk a) H H3 := (u2.mono fun k hk => List.mem_cons_of_mem _ hk).trans (u3.mono fun k hk => by rw [List.mem_singleton.1 hk]; exact List.mem_cons_self)
  have hsub : ∀ b ∈ g :: blk a', b ∈ g :: blk a ∨ H b = none := fun b hb => by
    rcases List.mem_cons.1 hb with rfl | h
    · exact .inl List.mem_cons_self
    · obtain ⟨p, hp, rfl⟩ := blk_of h
      rcases f2 p hp with h | h
      · exact .inl (List.mem_cons_of_mem _ (by rw [h]; simp [blk]))
      · exact .inr h
  refine ⟨⟨by show (w.out ++ ys).length ≤ B; omega, d.hi, Upd.drop d.base u d.new, fun b hb => ?_, a', c', rfl, ?_, ?_⟩, u, hsub⟩
  · rcases hsub b hb with h | h
    · exact d.new b h
    · exact Upd.none (S := []) d.base (by simp) h
  · show OwnRow H3 65 1 _ 3 3 [_, .slice a' (w.out ++ ys).length c', _]
    rw [hlen]; exact o3
  · show OwnRow H3 5 1 a' (w.out ++ ys).length c' (u8s (w.out ++ ys))
    rw [hlen]
    have o2 := o.upd u2 (fun p hp hm => by cases hp; exact own_apart o r (by decide) hm)
    refine r2.upd u3 (off_notin fun b hb hm => ?_)
    rw [List.mem_singleton.1 hm] at hb
    exact own_apart o2 r2 (by decide) hb
structure NzInv (H0 : Heap) (g v : Nat) (S : List Nat) (w : W) (B : Nat) (all : List UInt8) (H1 : Heap) (m : Nat) (vs : List Value) (H' : Heap) : Prop where
  ex : ∃ (out : List UInt8) (S' : List Nat), vs = [.int .i64 ((m : Int) - 1)] ∧ m ≤ 8 ∧ out ++ num v m = all ∧ ZAt H0 H' g S' { w with out := out } B ∧ Foot S S' H1 H'
theorem number_z {v n : Nat} (d : ZAt H0 H g S w B) (hn : n ≤ 8) (hfit : w.out.length + n ≤ B) (hB : B ≤ 1099511627776)
    (hk : ∀ S' H', ZAt H0 H' g S' { w with out := w.out ++ num v n } B → Foot S S' H H' → K (.tuple #[]) H') : HCalls Try.prog 58 [.pointer (some ⟨g, 0, none⟩), .int .u64 (v : Int), .int .i64 (n : Int)] H K := by
  refine hcalls (fn := Try.f58) [(3, [(5, 0), (6, 0), (7, 0), (8, 0), (9, 0), (10, 0), (1, 1), (2, 1), (3, 1), (4, 1), (11, 0), (0, 2), (12, 0), (13, 0), (14, 0)])] mixed Try.func58 rfl rfl (by decide +kernel) ?_
  have w1 : wr .i64 ((n : Int) - 1) = (n : Int) - 1 := wr_i64 (by omega) (by omega)
  (repeat first | refine HReg.step ?_ | refine HCode.step ?_)
  refine hloopC [6, 9, 10, 11, 12, 13, 14, 15, 16, 17, 18, 19, 20, 21, 22, 23, 24, 25, 26] [6] (NzInv H0 g v S w B (w.out ++ num v n) H) rfl (by repeat' first | exact Resp.retD | exact Resp1.valuesK | refine Resp.blockD ?_ | refine Resp.thenD ?_ ?_ | refine Resp.hcode ?_) ?_ ?_
  · exact ⟨n, NzInv.mk ⟨w.out, S, by rw [w1], hn, rfl, d, Foot.refl _ _⟩⟩
  rintro m _ fe H2 ⟨out, S2, rfl, hm8, hall, d2, f2⟩
  (repeat first | refine HReg.step ?_ | refine HCode.step ?_)
  refine hif (fun h1 => ?_) (fun h1 => ?_)
  · have h1 := not_ltB_true.1 h1
    obtain ⟨i, rfl⟩ : ∃ i, m = i + 1 := ⟨m - 1, by omega⟩
    have em : ((i + 1 : Nat) : Int) - 1 = (i : Int) := by omega
    rw [em]
    have w8 : wr .i64 (8 * (i : Int)) = ((8 * i : Nat) : Int) := by rw [wr_i64 (by omega) (by omega)]; omega
    have hlen : out.length + (i + 1) = w.out.length + n := by
      have := congrArg List.length hall
      rw [List.length_append, List.length_append, num_length, num_length] at this; exact this
    obtain ⟨a, c, rfl, o, r⟩ := d2.ex
    (repeat first | refine HReg.step ?_ | refine HCode.step ?_)
    refine HReq.mk (by rw [w8]; omega) ?_
    (repeat first | refine HReg.step ?_ | refine HCode.step ?_)
    refine HReq.mk (by decide) ?_
    (repeat first | refine HReg.step ?_ | refine HCode.step ?_)
    refine HNew.mk fun b hb => ?_
    have ub : Upd [] H2 (H2.upd b (.cells [Value.int .u8 (wr .u8 (shrS .u64 (v : Int) (wr .i64 (8 * (i : Int)))))].toArray 5)) := Upd.new hb _
    have rb : RowAt (H2.upd b (.cells [Value.int .u8 (wr .u8 (shrS .u64 (v : Int) (wr .i64 (8 * (i : Int)))))].toArray 5)) (some ⟨b, 0, none⟩) (u8s [UInt8.ofNat (v / 256 ^ i)]) := row_lit (upd_same _ _ _) (by rw [byte_at v i (by omega)]; rfl)
    have d3 := d2.upd0 ub
    have o3 := o.upd ub (Off.nil _)
    have r3 := r.upd ub (Off.nil _)
    (repeat first | refine HReg.step ?_ | refine HCode.step ?_)
    refine HLoad_two (v := .slice a out.length c) (by exact o3.rows.get (i := 1) rfl) (by exact o.rows.get (i := 1) rfl) ?_
    (repeat first | refine HReg.step ?_ | refine HCode.step ?_)
    refine append_own (xs := out) r3 rb rfl (by omega) fun a4 c4 H4 r4 u4 f4 => ?_
    have o4 := o3.upd u4 (fun p hp hm => by cases hp; exact own_apart o3 r3 (by decide) hm)
    (repeat first | refine HReg.step ?_ | refine HCode.step ?_)
    refine store_row o4 (v := .slice a4 (out.length + 1) c4) rfl (i := 1) (by decide) (by rfl) fun H5 o5 u5 => ?_
    obtain ⟨d5, f5⟩ := ZAt.grow (ys := [UInt8.ofNat (v / 256 ^ i)]) (m := 1) d3 o3 r3 rfl (by show out.length + 1 ≤ B; omega) r4 u4 f4 o5 u5
    have w2 : wr .i64 ((i : Int) - 1) = (i : Int) - 1 := wr_i64 (by omega) (by omega)
    (repeat first | refine HReg.step ?_ | refine HCode.step ?_)
    rw [w2]
    exact ⟨i, by omega, NzInv.mk ⟨out ++ [UInt8.ofNat (v / 256 ^ i)], _, rfl, by omega, by rw [List.append_assoc]; exact hall, d5, f2.trans (f5.back0 ub)⟩⟩
  · have h1 := not_ltB_false.1 h1
    obtain rfl : m = 0 := by omega
    (repeat first | refine HReg.step ?_ | refine HCode.step ?_)
    have hall : out ++ [] = w.out ++ num v n := hall
    rw [List.append_nil] at hall
    rw [hall] at d2
    exact hk S2 H2 d2 f2
theorem u8_z {v : Nat} (d : ZAt H0 H g S w B) (hv : v < 256) (hB : B ≤ 1099511627776)
    (hk : ∀ S' w' H', w'.lim = w.lim → ZAt H0 H' g S' w' B → Foot S S' H H' → K (.tuple #[]) H') : HCalls Try.prog 39 [.pointer (some ⟨g, 0, none⟩), .int .u8 (v : Int)] H K := by
  refine hcalls (fn := Try.f39) [] mixed Try.func39 rfl rfl rfl ?_
  have hi := d.hi
  have w1 : wr .u64 (v : Int) = (v : Int) := by rw [wr_u64]; omega
  (repeat first | refine HReg.step ?_ | refine HCode.step ?_)
  refine HCall.mk ⟨Try.f57, Try.func57, by rfl, by rfl⟩ ?_
  refine room_z (z := 1) d hB (fun h1 h2 => ?_) fun w' H2 hl d2 f2 => ?_
  · (repeat first | refine HReg.step ?_ | refine HCode.step ?_)
    rw [w1]
    refine HCall.mk ⟨Try.f58, Try.func58, by rfl, by rfl⟩ ?_
    refine number_z (n := 1) d (by decide) (by omega) hB fun S3 H3 d3 f3 => ?_
    (repeat first | refine HReg.step ?_ | refine HCode.step ?_)
    exact hk S3 _ H3 (by rfl) d3 f3
  · (repeat first | refine HReg.step ?_ | refine HCode.step ?_)
    exact hk S w' H2 hl d2 f2
theorem u32_z {v : Nat} (d : ZAt H0 H g S w B) (hv : v < 4294967296) (hB : B ≤ 1099511627776)
    (hk : ∀ S' w' H', w'.lim = w.lim → ZAt H0 H' g S' w' B → Foot S S' H H' → K (.tuple #[]) H') : HCalls Try.prog 40 [.pointer (some ⟨g, 0, none⟩), .int .u32 (v : Int)] H K := by
  refine hcalls (fn := Try.f40) [] mixed Try.func40 rfl rfl rfl ?_
  have hi := d.hi
  have w1 : wr .u64 (v : Int) = (v : Int) := by rw [wr_u64]; omega
  (repeat first | refine HReg.step ?_ | refine HCode.step ?_)
  refine HCall.mk ⟨Try.f57, Try.func57, by rfl, by rfl⟩ ?_
  refine room_z (z := 4) d hB (fun h1 h2 => ?_) fun w' H2 hl d2 f2 => ?_
  · (repeat first | refine HReg.step ?_ | refine HCode.step ?_)
    rw [w1]
    refine HCall.mk ⟨Try.f58, Try.func58, by rfl, by rfl⟩ ?_
    refine number_z (n := 4) d (by decide) (by omega) hB fun S3 H3 d3 f3 => ?_
    (repeat first | refine HReg.step ?_ | refine HCode.step ?_)
    exact hk S3 _ H3 (by rfl) d3 f3
  · (repeat first | refine HReg.step ?_ | refine HCode.step ?_)
    exact hk S w' H2 hl d2 f2
theorem u64_z {v : Nat} (d : ZAt H0 H g S w B) (hB : B ≤ 1099511627776)
    (hk : ∀ S' w' H', w'.lim = w.lim → ZAt H0 H' g S' w' B → Foot S S' H H' → K (.tuple #[]) H') : HCalls Try.prog 43 [.pointer (some ⟨g, 0, none⟩), .int .u64 (v : Int)] H K := by
  refine hcalls (fn := Try.f43) [] mixed Try.func43 rfl rfl rfl ?_
  have hi := d.hi
  (repeat first | refine HReg.step ?_ | refine HCode.step ?_)
  refine HCall.mk ⟨Try.f57, Try.func57, by rfl, by rfl⟩ ?_
  refine room_z (z := 8) d hB (fun h1 h2 => ?_) fun w' H2 hl d2 f2 => ?_
  · (repeat first | refine HReg.step ?_ | refine HCode.step ?_)
    refine HCall.mk ⟨Try.f58, Try.func58, by rfl, by rfl⟩ ?_
    refine number_z (n := 8) d (by decide) (by omega) hB fun S3 H3 d3 f3 => ?_
    (repeat first | refine HReg.step ?_ | refine HCode.step ?_)
    exact hk S3 _ H3 (by rfl) d3 f3
  · (repeat first | refine HReg.step ?_ | refine HCode.step ?_)
    exact hk S w' H2 hl d2 f2
theorem text_z {s : List UInt8} (d : ZAt H0 H g S w B) (hB : B ≤ 1099511627776) (hs : s.length ≤ 140737488355328)
    (hk : ∀ S' w' H', w'.lim = w.lim → ZAt H0 H' g S' w' B → Foot S S' H H' → K (.tuple #[]) H') : HCalls Try.prog 33 [.pointer (some ⟨g, 0, none⟩), .string (bs s)] H K := by
  refine hcalls (fn := Try.f33) [] mixed Try.func33 rfl rfl rfl ?_
  have hbs := bs_size s
  have w0 : wr .i64 (4 + ((bs s).size : Int)) = ((4 + s.length : Nat) : Int) := by rw [hbs, wr_i64 (by omega) (by omega)]; omega
  have w1 : wr .u64 ((bs s).size : Int) = (s.length : Int) := by rw [hbs, wr_u64]; omega
  (repeat first | refine HReg.step ?_ | refine HCode.step ?_)
  rw [w0]
  refine HCall.mk ⟨Try.f57, Try.func57, by rfl, by rfl⟩ ?_
  refine room_z d hB (fun h1 h2 => ?_) fun w' H2 hl d2 f2 => ?_
  · have hle := d.b
    have hhi := d.hi
    (repeat first | refine HReg.step ?_ | refine HCode.step ?_)
    rw [w1]
    refine HCall.mk ⟨Try.f58, Try.func58, by rfl, by rfl⟩ ?_
    refine number_z (n := 4) d (by decide) (by omega) hB fun S3 H3 d3 f3 => ?_
    obtain ⟨a, c, rfl, o, r⟩ := d3.ex
    have hol : ({ w with out := w.out ++ num s.length 4 } : W).out.length = w.out.length + 4 := by show (w.out ++ num s.length 4).length = _; rw [List.length_append, num_length]
    (repeat first | refine HReg.step ?_ | refine HCode.step ?_)
    refine HLoad.one (v := .slice a (w.out ++ num s.length 4).length c) (by exact o.rows.get (i := 1) rfl) ?_
    (repeat first | refine HReg.step ?_ | refine HCode.step ?_)
    refine append_str (ie := Try.t5) (z := .int .u8 0) (s := bs s) (xs := u8s (w.out ++ num s.length 4)) Try.underlying23 rfl rfl rfl rfl Try.underlying9 r (by rw [hbs]; show ((w.out ++ num s.length 4).length + s.length) * 1 ≤ _; rw [List.length_append, num_length]; omega) (by rw [hbs, List.length_append, num_length]; omega) fun a4 c4 H4 r4 u4 f4 => ?_
    have r4' : OwnRow H4 5 1 a4 ((w.out ++ num s.length 4).length + s.length) c4 (u8s ((w.out ++ num s.length 4) ++ s)) := by
      rw [u8s_append]
      have e : (u8s s) = (bs s).data.toList.map fun b => Value.int .u8 b.toNat := rfl
      rw [e, ← hbs]; exact r4
    have o4 := o.upd u4 (fun p hp hm => by cases hp; exact own_apart o r (by decide) hm)
    (repeat first | refine HReg.step ?_ | refine HCode.step ?_)
    refine store_row o4 (v := .slice a4 ((w.out ++ num s.length 4).length + (bs s).size) c4) rfl (i := 1) (by decide) (by rfl) fun H5 o5 u5 => ?_
    have o5' : OwnRow H5 65 1 (some ⟨g, 0, none⟩) 3 3 [.int .i64 (w.lim : Int), .slice a4 ((w.out ++ num s.length 4).length + s.length) c4, .int .i64 w.err] := by
      rw [hbs] at o5; exact o5
    obtain ⟨d5, f5⟩ := ZAt.grow (ys := s) (m := s.length) d3 o r rfl (by rw [hol]; omega) r4' u4 f4 o5' u5
    (repeat first | refine HReg.step ?_ | refine HCode.step ?_)
    exact hk _ _ H5 (by rfl) d5 (f3.trans f5)
  · (repeat first | refine HReg.step ?_ | refine HCode.step ?_)
    exact hk S w' H2 hl d2 f2
structure Tz1 (l : List (List UInt8)) (H0 : Heap) (m : Nat) (vs : List Value) (H' : Heap) : Prop where
  ex : ∃ (z : Int) (i : Nat), vs = [.int .i64 z, .int .i64 (i : Int)] ∧ m + i = l.length ∧ H0 = H'
structure Tz2 (l : List (List UInt8)) (H0 : Heap) (g : Nat) (S : List Nat) (lim B : Nat) (H1 : Heap) (m : Nat) (vs : List Value) (H' : Heap) : Prop where
  ex : ∃ (i : Nat) (S' : List Nat) (w' : W), vs = [.int .i64 (i : Int)] ∧ m + i = l.length ∧ w'.lim = lim ∧ ZAt H0 H' g S' w' B ∧ Foot S S' H1 H'
theorem texts_z {l : List (List UInt8)} {al : Option Addr} {nl cl : Nat} (d : ZAt H0 H g S w B) (hB : B + 4 ≤ 1099511627776) (hr : RowAt H al (txts l)) (hal : l = [] ∨ ∀ b ∈ blk al, b ∉ S) (hnl : l.length = nl) (hn : nl ≤ 140737488355328) (hs : ∀ s ∈ l, List.length s ≤ 140737488355328)
    (hk : ∀ S' w' H', w'.lim = w.lim → ZAt H0 H' g S' w' (B + 4) → Foot S S' H H' → K (.tuple #[]) H') : HCalls Try.prog 44 [.pointer (some ⟨g, 0, none⟩), .slice al nl cl] H K := by
  refine hcalls (fn := Try.f44) [] mixed Try.func44 rfl rfl (by decide +kernel) ?_
  (repeat first | refine HReg.step ?_ | refine HCode.step ?_)
  refine hloopC [4, 6, 11, 12, 13, 14, 15, 16, 17, 18, 19, 20] [4, 11] (Tz1 l H) rfl (by repeat' first | exact Resp.retD | exact Resp1.valuesK | refine Resp.blockD ?_ | refine Resp.thenD ?_ ?_ | refine Resp.hcode ?_) ?_ ?_
  · exact ⟨l.length, Tz1.mk ⟨4, 0, rfl, rfl, rfl⟩⟩
  rintro m _ fe H' ⟨z, i, rfl, hmi, rfl⟩
  (repeat first | refine HReg.step ?_ | refine HCode.step ?_)
  refine hif (fun h1 => ?_) (fun h1 => ?_)
  · have h1 := ltB_true.1 h1
    obtain ⟨s, hs'⟩ : ∃ s, l[i]? = some s := ⟨l[i]'(by omega), by simp⟩
    obtain ⟨ba, bo, rfl, _⟩ := hr i _ (txts_get hs')
    have w2 : wr .i64 ((i : Int) + 1) = ((i + 1 : Nat) : Int) := by rw [wr_i64 (by omega) (by omega)]; omega
    (repeat first | refine HReg.step ?_ | refine HCode.step ?_)
    refine HReq.mk ⟨by omega, by omega⟩ ?_
    (repeat first | refine HReg.step ?_ | refine HCode.step ?_)
    refine HLoad.one (v := .string (bs s)) (by exact hr.get (txts_get hs')) ?_
    (repeat first | refine HReg.step ?_ | refine HCode.step ?_)
    rw [w2]
    exact ⟨m - 1, by omega, Tz1.mk ⟨_, i + 1, rfl, by omega, rfl⟩⟩
  have h1 := ltB_false.1 h1
  (repeat first | refine HReg.step ?_ | refine HCode.step ?_)
  refine HCall.mk ⟨Try.f57, Try.func57, by rfl, by rfl⟩ ?_
  refine room_z d (by omega) (fun h2 h3 => ?_) fun w' H2 hl d2 f2 => ?_
  rotate_left
  · (repeat first | refine HReg.step ?_ | refine HCode.step ?_)
    exact hk S w' H2 hl (d2.wide (by omega)) f2
  have w1 : wr .u64 (nl : Int) = (l.length : Int) := by rw [wr_u64]; omega
  (repeat first | refine HReg.step ?_ | refine HCode.step ?_)
  rw [w1]
  have hb := d.b
  have dW := d.wide (B' := B + 4) (by omega)
  refine HCall.mk ⟨Try.f58, Try.func58, by rfl, by rfl⟩ ?_
  refine number_z (n := 4) dW (by decide) (by omega) hB fun S3 H3 d3 f3 => ?_
  (repeat first | refine HReg.step ?_ | refine HCode.step ?_)
  refine hloopC [8, 32, 33, 34, 35, 36, 37, 38, 39] [32] (Tz2 l H0 g S w.lim (B + 4) H) rfl (by repeat' first | exact Resp.retD | exact Resp1.valuesK | refine Resp.blockD ?_ | refine Resp.thenD ?_ ?_ | refine Resp.hcode ?_) ?_ ?_
  · exact ⟨l.length, Tz2.mk ⟨0, S3, _, rfl, rfl, (by rfl), d3, f3⟩⟩
  rintro m _ fe H4 ⟨i, S4, w4, rfl, hmi, hlm, d4, f4⟩
  (repeat first | refine HReg.step ?_ | refine HCode.step ?_)
  refine hif (fun h4 => ?_) (fun h4 => ?_)
  · have h4 := ltB_true.1 h4
    have hr4 := hr.upd f4.upd (hal.imp (fun h => by rw [h]; rfl) fun h => off_notin h)
    obtain ⟨s, hs'⟩ : ∃ s, l[i]? = some s := ⟨l[i]'(by omega), by simp⟩
    obtain ⟨ba, bo, rfl, _⟩ := hr4 i _ (txts_get hs')
    have w2 : wr .i64 ((i : Int) + 1) = ((i + 1 : Nat) : Int) := by rw [wr_i64 (by omega) (by omega)]; omega
    (repeat first | refine HReg.step ?_ | refine HCode.step ?_)
    refine HReq.mk ⟨by omega, by omega⟩ ?_
    (repeat first | refine HReg.step ?_ | refine HCode.step ?_)
    refine HLoad.one (v := .string (bs s)) (by exact hr4.get (txts_get hs')) ?_
    (repeat first | refine HReg.step ?_ | refine HCode.step ?_)
    refine HCall.mk ⟨Try.f33, Try.func33, by rfl, by rfl⟩ ?_
    refine text_z (s := s) d4 hB (hs s (List.mem_of_getElem? hs')) fun S5 w5 H5 hl5 d5 f5 => ?_
    (repeat first | refine HReg.step ?_ | refine HCode.step ?_)
    rw [w2]
    exact ⟨m - 1, by omega, Tz2.mk ⟨i + 1, S5, w5, rfl, by omega, hl5.trans hlm, d5, f4.trans f5⟩⟩
  · have h4 := ltB_false.1 h4
    (repeat first | refine HReg.step ?_ | refine HCode.step ?_)
    exact hk S4 w4 H4 hlm d4 f4
theorem out_z (d : ZAt H0 H g S w B) (hB : B ≤ 1099511627776) (hk : ∀ a c H', Made H H' 5 1 a w.told.length c (u8s w.told) → K (.tuple #[.slice a w.told.length c, .int .i64 w.err]) H') : HCalls Try.prog 14 [.pointer (some ⟨g, 0, none⟩)] H K := by
  refine hcalls (fn := Try.f14) [(2, [(0, 0), (1, 0), (2, 0), (3, 0), (4, 0), (5, 0)])] mixed Try.func14 rfl rfl (by decide +kernel) ?_
  obtain ⟨a, c, rfl, o, r⟩ := d.ex
  (repeat first | refine HReg.step ?_ | refine HCode.step ?_)
  refine HLoad.one (v := .int .i64 w.err) (by exact o.rows.get (i := 2) rfl) ?_
  (repeat first | refine HReg.step ?_ | refine HCode.step ?_)
  refine hif (fun h1 => ?_) (fun h1 => ?_)
  · have h1 := not_eqB_true.1 h1
    have e : w.told = [] := if_neg h1
    rw [e] at hk
    (repeat first | refine HReg.step ?_ | refine HCode.step ?_)
    refine HLoad.one (v := .int .i64 w.err) (by exact o.rows.get (i := 2) rfl) ?_
    (repeat first | refine HReg.step ?_ | refine HCode.step ?_)
    exact hk none 0 H ⟨OwnRow.nil _ _ _, Upd.refl _ _, fun p hp => by cases hp⟩
  · have h1 := not_eqB_false.1 h1
    have e : w.told = w.out := if_pos h1
    rw [e, h1] at hk
    (repeat first | refine HReg.step ?_ | refine HCode.step ?_)
    refine HLoad.one (v := .slice a w.out.length c) (by exact o.rows.get (i := 1) rfl) ?_
    (repeat first | refine HReg.step ?_ | refine HCode.step ?_)
    refine HCall.mk ⟨Try.f38, Try.func38, by rfl, by rfl⟩ ?_
    refine clone_t r.rows rfl (by have := d.b; omega) fun a' c' H' m => ?_
    (repeat first | refine HReg.step ?_ | refine HCode.step ?_)
    exact hk a' c' H' m
end
structure OpSz (o : Opk) : Prop where
  s : o.s.length ≤ 140737488351232
  l : ∀ s ∈ o.l, s.length ≤ 140737488351232
  n : o.nl ≤ 8796093021952
section
variable {H0 H : Heap} {g : Nat} {S : List Nat} {w : W} {B : Nat} {K : Value → Heap → Prop}
theorem write_z {o : Opk} (d : ZAt H0 H g S w B) (hB : B + 4 ≤ 1099511627776) (ok : OpOk H o) (hal : o.l = [] ∨ ∀ b ∈ blk o.al, b ∉ S) (sz : OpSz o)
    (hk : ∀ S' w' H', w'.lim = w.lim → ZAt H0 H' g S' w' (B + 4) → Foot S S' H H' → K (.tuple #[]) H') : HCalls Try.prog 12 [.pointer (some ⟨g, 0, none⟩), .agg (ocells o).toArray] H K := by
  refine hcalls (fn := Try.f12) [] mixed Try.func12 rfl rfl (by decide +kernel) ?_
  (repeat first | refine HReg.step ?_ | refine HCode.step ?_)
  refine HNew.mk fun b hb => ?_
  have u : Upd [] H (H.upd b (.cells (ocells o).toArray 34)) := Upd.new hb _
  have rb : RowAt (H.upd b (.cells (ocells o).toArray 34)) (some ⟨b, 0, none⟩) (ocells o) := RowAt.of_cells (upd_same _ _ _)
  have d1 := d.upd0 u
  generalize hH1 : H.upd b (.cells (ocells o).toArray 34) = H1 at u rb d1
  have hH1' : H.upd b (.cells [Value.int .i64 o.kind, .int .u64 (o.v : Int), .string (bs o.s), .slice o.al o.nl o.cl, .int .i64 o.n, .int .i64 o.m].toArray 34) = H1 := hH1
  rw [hH1']
  (repeat first | refine HReg.step ?_ | refine HCode.step ?_)
  refine HLoad.one (v := .int .i64 o.kind) (by exact rb.get (i := 0) rfl) ?_
  (repeat first | refine HReg.step ?_ | refine HCode.step ?_)
  refine hif (fun k => ?_) (fun k1 => ?_)
  · have k := eqB_true.1 k
    (repeat first | refine HReg.step ?_ | refine HCode.step ?_)
    refine HLoad.one (v := .int .u64 (o.v : Int)) (by exact rb.get (i := 1) rfl) ?_
    (repeat first | refine HReg.step ?_ | refine HCode.step ?_)
    rw [wr8]
    refine HCall.mk ⟨Try.f39, Try.func39, by rfl, by rfl⟩ ?_
    refine u8_z d1 (Nat.mod_lt _ (by decide)) (by omega) fun S2 w2 H2 hl2 d2 f2 => ?_
    (repeat first | refine HReg.step ?_ | refine HCode.step ?_)
    exact hk S2 w2 H2 hl2 (d2.wide (by omega)) (f2.back0 u)
  have k1 := eqB_false.1 k1
  (repeat first | refine HReg.step ?_ | refine HCode.step ?_)
  refine hif (fun k => ?_) (fun k2 => ?_)
  · have k := eqB_true.1 k
    (repeat first | refine HReg.step ?_ | refine HCode.step ?_)
    refine HLoad.one (v := .int .u64 (o.v : Int)) (by exact rb.get (i := 1) rfl) ?_
    (repeat first | refine HReg.step ?_ | refine HCode.step ?_)
    rw [wr32]
    refine HCall.mk ⟨Try.f40, Try.func40, by rfl, by rfl⟩ ?_
    refine u32_z d1 (Nat.mod_lt _ (by decide)) (by omega) fun S2 w2 H2 hl2 d2 f2 => ?_
    (repeat first | refine HReg.step ?_ | refine HCode.step ?_)
    exact hk S2 w2 H2 hl2 (d2.wide (by omega)) (f2.back0 u)
  have k2 := eqB_false.1 k2
  (repeat first | refine HReg.step ?_ | refine HCode.step ?_)
  refine hif (fun k => ?_) (fun k3 => ?_)
  · have k := eqB_true.1 k
    (repeat first | refine HReg.step ?_ | refine HCode.step ?_)
    refine HLoad.one (v := .int .u64 (o.v : Int)) (by exact rb.get (i := 1) rfl) ?_
    (repeat first | refine HReg.step ?_ | refine HCode.step ?_)
    refine HCall.mk ⟨Try.f43, Try.func43, by rfl, by rfl⟩ ?_
    refine u64_z d1 (by omega) fun S2 w2 H2 hl2 d2 f2 => ?_
    (repeat first | refine HReg.step ?_ | refine HCode.step ?_)
    exact hk S2 w2 H2 hl2 (d2.wide (by omega)) (f2.back0 u)
  have k3 := eqB_false.1 k3
  (repeat first | refine HReg.step ?_ | refine HCode.step ?_)
  refine hif (fun k => ?_) (fun k4 => ?_)
  · have k := eqB_true.1 k
    (repeat first | refine HReg.step ?_ | refine HCode.step ?_)
    refine HLoad.one (v := .string (bs o.s)) (by exact rb.get (i := 2) rfl) ?_
    (repeat first | refine HReg.step ?_ | refine HCode.step ?_)
    refine HCall.mk ⟨Try.f33, Try.func33, by rfl, by rfl⟩ ?_
    refine text_z d1 (by omega) (by have := sz.s; omega) fun S2 w2 H2 hl2 d2 f2 => ?_
    (repeat first | refine HReg.step ?_ | refine HCode.step ?_)
    exact hk S2 w2 H2 hl2 (d2.wide (by omega)) (f2.back0 u)
  have k4 := eqB_false.1 k4
  (repeat first | refine HReg.step ?_ | refine HCode.step ?_)
  refine hif (fun k => ?_) (fun k5 => ?_)
  · have k := eqB_true.1 k
    (repeat first | refine HReg.step ?_ | refine HCode.step ?_)
    refine HLoad.one (v := .slice o.al o.nl o.cl) (by exact rb.get (i := 3) rfl) ?_
    (repeat first | refine HReg.step ?_ | refine HCode.step ?_)
    refine HCall.mk ⟨Try.f44, Try.func44, by rfl, by rfl⟩ ?_
    refine texts_z d1 hB (ok.row.upd (S := []) u (.inr (Off.nil _))) hal ok.len (by have := sz.n; omega) (fun s hs => by have := sz.l s hs; omega) fun S2 w2 H2 hl2 d2 f2 => ?_
    (repeat first | refine HReg.step ?_ | refine HCode.step ?_)
    exact hk S2 w2 H2 hl2 (d2.wide (by omega)) (f2.back0 u)
  have k5 := eqB_false.1 k5
  (repeat first | refine HReg.step ?_ | refine HCode.step ?_)
  exact hk S w H1 rfl (d1.wide (by omega)) (Foot.of0 u)
end
end Go.Proofs.Ytjnahdcolacldaa
