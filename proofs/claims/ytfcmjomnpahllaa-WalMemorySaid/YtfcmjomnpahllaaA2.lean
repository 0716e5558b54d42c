import Derived.Test.YtfcmjomnpahllaaA0
import Derived.Test.YtfcmjomnpahllaaA1
namespace Go.Proofs.Ytfcmjomnpahllaa
open Go Hv
set_option linter.unusedVariables false
set_option linter.unusedSimpArgs false
set_option maxRecDepth 10000
set_option maxHeartbeats 1000000
/-! Writers in memory -/
structure WAt (H0 H : Heap) (g : Nat) (S : List Nat) (w : W) : Prop where
  ok : WOk w
  base : Upd [] H0 H
  new : ∀ b ∈ S, H0 b = none
  ex : ∃ a c, S = g :: blk a ∧ OwnRow H 105 1 (some ⟨g, 0, none⟩) 3 3 [.int .i64 (w.lim : Int), .slice a w.out.length c, .int .i64 w.err] ∧ OwnRow H 5 1 a w.out.length c (u8s w.out)
theorem blk_some {p : Addr} : blk (some p) = [p.block] := rfl
theorem off_notin {S : List Nat} {a : Option Addr} (h : ∀ b ∈ blk a, b ∉ S) : Off S a := fun p hp hb => h p.block (by rw [hp]; simp [blk]) hb
theorem WAt.upd {H0 H H' : Heap} {T : List Nat} {g : Nat} {S : List Nat} {w : W} (d : WAt H0 H g S w) (u : Upd T H H') (hT : ∀ b ∈ S, b ∉ T) (hn : ∀ b ∈ T, H0 b = none) : WAt H0 H' g S w := by
  obtain ⟨a, c, rfl, o, r⟩ := d.ex
  exact ⟨d.ok, Upd.drop d.base u hn, d.new, a, c, rfl, o.upd u (fun p hp => by cases hp; exact hT g List.mem_cons_self), r.upd u (off_notin fun b hb => hT b (List.mem_cons_of_mem _ hb))⟩
theorem WAt.upd0 {H0 H H' : Heap} {g : Nat} {S : List Nat} {w : W} (d : WAt H0 H g S w) (u : Upd [] H H') : WAt H0 H' g S w := d.upd u (by simp) (by simp)
theorem WAt.live {H0 H : Heap} {g : Nat} {S : List Nat} {w : W} (d : WAt H0 H g S w) : ∀ b ∈ S, H b ≠ none := by
  obtain ⟨a, c, rfl, o, r⟩ := d.ex
  intro b hb
  rcases List.mem_cons.1 hb with rfl | h
  · exact o.there rfl
  · obtain ⟨p, hp, rfl⟩ := blk_of h
    exact r.there hp
theorem WAt.mem {H0 H : Heap} {g : Nat} {S : List Nat} {w : W} (d : WAt H0 H g S w) : g ∈ S := by obtain ⟨a, c, rfl, _⟩ := d.ex; exact List.mem_cons_self
section
variable {H0 H : Heap} {g : Nat} {S : List Nat} {w : W} {K : Value → Heap → Prop}
theorem newW_t {n : Int} {H : Heap} {K : Value → Heap → Prop} (hn : n ≤ 9223372036854775807) (hk : ∀ g S H', WAt H H' g S ⟨(max n 0).toNat, [], 0⟩ → K (.pointer (some ⟨g, 0, none⟩)) H') : HCalls Try.prog 30 [.int .i64 n] H K := by
  refine hcalls (fn := Try.f30) [] mixed Try.func30 rfl rfl rfl ?_
  have e : max n 0 = (((max n 0).toNat : Nat) : Int) := by omega
  (repeat first | refine HReg.step ?_ | refine HCode.step ?_)
  rw [ite_mx, ite_max, e]
  refine HNew.mk fun g hg => ?_
  (repeat first | refine HReg.step ?_ | refine HCode.step ?_)
  refine hk g [g] _ ⟨⟨Nat.zero_le _, by show (max n 0).toNat ≤ _; omega, .inl rfl⟩, Upd.new hg _, by simpa using hg, none, 0, rfl, OwnRow.lit (upd_same _ _ _) rfl, OwnRow.nil _ _ _⟩
/-- The error alone is written. -/
theorem WAt.setErr {H' : Heap} {a : Option Addr} {c : Nat} {e : Int} (d : WAt H0 H g (g :: blk a) w) (o : OwnRow H 105 1 (some ⟨g, 0, none⟩) 3 3 [.int .i64 (w.lim : Int), .slice a w.out.length c, .int .i64 w.err]) (r : OwnRow H 5 1 a w.out.length c (u8s w.out))
    (o' : OwnRow H' 105 1 (some ⟨g, 0, none⟩) 3 3 [.int .i64 (w.lim : Int), .slice a w.out.length c, .int .i64 e]) (u : Upd [g] H H') (he : e = 0 ∨ e = 3) : WAt H0 H' g (g :: blk a) { w with err := e } := by
  refine ⟨⟨d.ok.le, d.ok.hi, he⟩, Upd.drop d.base u (fun b hb => by rw [List.mem_singleton.1 hb]; exact d.new g List.mem_cons_self), d.new, a, c, rfl, o', r.upd u (off_notin fun b hb hm => ?_)⟩
  rw [List.mem_singleton.1 hm] at hb
  exact own_apart o r (by decide) hb
theorem room_t {n : Nat} (d : WAt H0 H g S w)
    (hyes : w.err = 0 → n ≤ w.lim - w.out.length → K (.bool true) H) (hno : ∀ H', ¬ (w.err = 0 ∧ n ≤ w.lim - w.out.length) → WAt H0 H' g S (if w.err = 0 then { w with err := 3 } else w) → Foot S S H H' → K (.bool false) H') : HCalls Try.prog 54 [.pointer (some ⟨g, 0, none⟩), .int .i64 (n : Int)] H K := by
  refine hcalls (fn := Try.f54) [(1, [(0, 0), (1, 0), (2, 0), (3, 0), (4, 0), (5, 0), (6, 0), (7, 0), (8, 0), (9, 0), (10, 0), (11, 0), (12, 0), (13, 0), (14, 0), (15, 0), (16, 0), (17, 0), (18, 0)])] mixed Try.func54 rfl rfl (by decide +kernel) ?_
  obtain ⟨a, c, rfl, o, r⟩ := d.ex
  have hle := d.ok.le
  have hhi := d.ok.hi
  (repeat first | refine HReg.step ?_ | refine HCode.step ?_)
  refine HLoad.one (v := .int .i64 w.err) (by exact o.rows.get (i := 2) rfl) ?_
  (repeat first | refine HReg.step ?_ | refine HCode.step ?_)
  refine hif (fun h1 => ?_) (fun h1 => ?_)
  · have h1 := eqB_true.1 h1
    have hw : wr .i64 ((w.lim : Int) - (w.out.length : Int)) = (w.lim : Int) - w.out.length := wr_i64 (by omega) (by omega)
    (repeat first | refine HReg.step ?_ | refine HCode.step ?_)
    refine HLoad.one (v := .int .i64 (w.lim : Int)) (by exact o.rows.get (i := 0) rfl) ?_
    (repeat first | refine HReg.step ?_ | refine HCode.step ?_)
    refine HLoad.one (v := .slice a w.out.length c) (by exact o.rows.get (i := 1) rfl) ?_
    (repeat first | refine HReg.step ?_ | refine HCode.step ?_)
    rw [hw]
    refine hif (fun h2 => ?_) (fun h2 => ?_)
    · have h2 := ltB_true.1 h2
      (repeat first | refine HReg.step ?_ | refine HCode.step ?_)
      refine store_row o (v := .int .i64 3) rfl (i := 2) (by decide) (by rfl) fun H2 o2 u2 => ?_
      have o2 : OwnRow H2 105 1 (some ⟨g, 0, none⟩) 3 3 [.int .i64 (w.lim : Int), .slice a w.out.length c, .int .i64 3] := o2
      have d2 := d.setErr o r o2 u2 (.inr rfl)
      (repeat first | refine HReg.step ?_ | refine HCode.step ?_)
      refine HLoad.one (v := .int .i64 3) (by exact o2.rows.get (i := 2) rfl) ?_
      have e : eqB 3 0 = false := eqB_false.2 (by decide)
      (repeat first | refine HReg.step ?_ | refine HCode.step ?_)
      refine (show K (.bool (eqB 3 0)) H2 from ?_)
      rw [e]
      have := hno H2 (fun h => by omega) (by rw [if_pos h1]; exact d2) ⟨u2.mono (by simp), fun b hb => .inl hb⟩
      exact this
    · have h2 := ltB_false.1 h2
      (repeat first | refine HReg.step ?_ | refine HCode.step ?_)
      refine HLoad.one (v := .int .i64 w.err) (by exact o.rows.get (i := 2) rfl) ?_
      have e : eqB w.err 0 = true := eqB_true.2 h1
      (repeat first | refine HReg.step ?_ | refine HCode.step ?_)
      refine (show K (.bool (eqB w.err 0)) H from ?_)
      rw [e]
      exact hyes h1 (by omega)
  · have h1 := eqB_false.1 h1
    (repeat first | refine HReg.step ?_ | refine HCode.step ?_)
    refine HLoad.one (v := .int .i64 w.err) (by exact o.rows.get (i := 2) rfl) ?_
    have e : eqB w.err 0 = false := eqB_false.2 h1
    (repeat first | refine HReg.step ?_ | refine HCode.step ?_)
    refine (show K (.bool (eqB w.err 0)) H from ?_)
    rw [e]
    exact hno H (fun h => h1 h.1) (by rw [if_neg h1]; exact d) (Foot.refl _ _)
/-- Bytes are laid behind the others. -/
theorem WAt.grow {H2 H3 : Heap} {a a' : Option Addr} {c c' m : Nat} {ys : List UInt8} (d : WAt H0 H g (g :: blk a) w) (o : OwnRow H 105 1 (some ⟨g, 0, none⟩) 3 3 [.int .i64 (w.lim : Int), .slice a w.out.length c, .int .i64 w.err]) (r : OwnRow H 5 1 a w.out.length c (u8s w.out)) (hm : ys.length = m) (hl : w.out.length + m ≤ w.lim)
    (r2 : OwnRow H2 5 1 a' (w.out.length + m) c' (u8s (w.out ++ ys))) (u2 : Upd (blk a) H H2) (f2 : ∀ p, a' = some p → a = some p ∨ H p.block = none)
    (o3 : OwnRow H3 105 1 (some ⟨g, 0, none⟩) 3 3 [.int .i64 (w.lim : Int), .slice a' (w.out.length + m) c', .int .i64 w.err]) (u3 : Upd [g] H2 H3) : WAt H0 H3 g (g :: blk a') { w with out := w.out ++ ys } ∧ Foot (g :: blk a) (g :: blk a') H H3 := by
  have hlen : (w.out ++ ys).length = w.out.length + m := by rw [List.length_append, hm]
  have u : Upd (g :: blk a) H H3 := (u2.mono fun k hk => List.mem_cons_of_mem _ hk).trans (u3.mono fun k hk => by rw [List.mem_singleton.1 hk]; exact List.mem_cons_self)
  have hsub : ∀ b ∈ g :: blk a', b ∈ g :: blk a ∨ H b = none := fun b hb => by
    rcases List.mem_cons.1 hb with rfl | h
    · exact .inl List.mem_cons_self
    · obtain ⟨p, hp, rfl⟩ := blk_of h
      rcases f2 p hp with h | h
      · exact .inl (List.mem_cons_of_mem _ (by rw [h]; simp [blk]))
      · exact .inr h
  refine ⟨⟨⟨by show (w.out ++ ys).length ≤ w.lim; omega, d.ok.hi, d.ok.er⟩, Upd.drop d.base u d.new, fun b hb => ?_, a', c', rfl, ?_, ?_⟩, u, hsub⟩
  · rcases hsub b hb with h | h
    · exact d.new b h
    · exact Upd.none (S := []) d.base (by simp) h
  · show OwnRow H3 105 1 _ 3 3 [_, .slice a' (w.out ++ ys).length c', _]
    rw [hlen]; exact o3
  · show OwnRow H3 5 1 a' (w.out ++ ys).length c' (u8s (w.out ++ ys))
    rw [hlen]
    have o2 := o.upd u2 (fun p hp hm => by cases hp; exact own_apart o r (by decide) hm)
    refine r2.upd u3 (off_notin fun b hb hm => ?_)
    rw [List.mem_singleton.1 hm] at hb
    exact own_apart o2 r2 (by decide) hb
theorem byte_at (v i : Nat) (hi : i < 8) : Value.int .u8 (wr .u8 (shrS .u64 (v : Int) (wr .i64 (8 * (i : Int))))) = u8 (UInt8.ofNat (v / 256 ^ i)) := by
  have w : wr .i64 (8 * (i : Int)) = ((8 * i : Nat) : Int) := by rw [wr_i64 (by omega) (by omega)]; omega
  unfold u8
  congr 1
  have e8 : min (8 * i) IntKind.u64.bits = 8 * i := by
    have : IntKind.u64.bits = 64 := rfl
    rw [this]; omega
  have e2 : (2 : Int) ^ (8 * i) = ((256 ^ i : Nat) : Int) := by
    rw [show (256 : Nat) = 2 ^ 8 from rfl, ← Nat.pow_mul]; norm_cast
  rw [w, wr_u8, shrS_eq, Int.toNat_natCast, e8, e2, Int.fdiv_eq_ediv_of_nonneg _ (Int.natCast_nonneg _), UInt8.toNat_ofNat']
  norm_cast
structure NuInv (H0 : Heap) (g v : Nat) (S : List Nat) (w : W) (all : List UInt8) (H1 : Heap) (m : Nat) (vs : List Value) (H' : Heap) : Prop where
  ex : ∃ (out : List UInt8) (S' : List Nat), vs = [.int .i64 ((m : Int) - 1)] ∧ m ≤ 8 ∧ out ++ num v m = all ∧ WAt H0 H' g S' { w with out := out } ∧ Foot S S' H1 H'
theorem number_t {v n : Nat} (d : WAt H0 H g S w) (hn : n ≤ 8) (hfit : w.out.length + n ≤ w.lim) (hlim : w.out.length + n ≤ 140737488355328)
    (hk : ∀ S' H', WAt H0 H' g S' { w with out := w.out ++ num v n } → Foot S S' H H' → K (.tuple #[]) H') : HCalls Try.prog 55 [.pointer (some ⟨g, 0, none⟩), .int .u64 (v : Int), .int .i64 (n : Int)] H K := by
  refine hcalls (fn := Try.f55) [(3, [(5, 0), (6, 0), (7, 0), (8, 0), (9, 0), (10, 0), (1, 1), (2, 1), (3, 1), (4, 1), (11, 0), (0, 2), (12, 0), (13, 0), (14, 0)])] mixed Try.func55 rfl rfl (by decide +kernel) ?_
  have w1 : wr .i64 ((n : Int) - 1) = (n : Int) - 1 := wr_i64 (by omega) (by omega)
  (repeat first | refine HReg.step ?_ | refine HCode.step ?_)
  refine hloopC [6, 9, 10, 11, 12, 13, 14, 15, 16, 17, 18, 19, 20, 21, 22, 23, 24, 25, 26] [6] (NuInv H0 g v S w (w.out ++ num v n) H) rfl (by repeat' first | exact Resp.retD | exact Resp1.valuesK | refine Resp.blockD ?_ | refine Resp.thenD ?_ ?_ | refine Resp.hcode ?_) ?_ ?_
  · exact ⟨n, NuInv.mk ⟨w.out, S, by rw [w1], hn, rfl, d, Foot.refl _ _⟩⟩
  rintro m _ fe H2 ⟨out, S2, rfl, hm8, hall, d2, f2⟩
  (repeat first | refine HReg.step ?_ | refine HCode.step ?_)
  refine hif (fun h1 => ?_) (fun h1 => ?_)
  · have h1 := not_ltB_true.1 h1
    obtain ⟨i, rfl⟩ : ∃ i, m = i + 1 := ⟨m - 1, by omega⟩
    have em : ((i + 1 : Nat) : Int) - 1 = (i : Int) := by omega
    rw [em]
    have w8 : wr .i64 (8 * (i : Int)) = ((8 * i : Nat) : Int) := by rw [wr_i64 (by omega) (by omega)]; omega
    have hlen : out.length + (i + 1) = w.out.length + n := by
      have := congrArg List.length hall
      rw [List.length_append, List.length_append, num_length, num_length] at this; exact this
    obtain ⟨a, c, rfl, o, r⟩ := d2.ex
    (repeat first | refine HReg.step ?_ | refine HCode.step ?_)
    refine HReq.mk (by rw [w8]; omega) ?_
    (repeat first | refine HReg.step ?_ | refine HCode.step ?_)
    refine HReq.mk (by decide) ?_
    (repeat first | refine HReg.step ?_ | refine HCode.step ?_)
    refine HNew.mk fun b hb => ?_
    have ub : Upd [] H2 (H2.upd b (.cells [Value.int .u8 (wr .u8 (shrS .u64 (v : Int) (wr .i64 (8 * (i : Int)))))].toArray 5)) := Upd.new hb _
    have rb : RowAt (H2.upd b (.cells [Value.int .u8 (wr .u8 (shrS .u64 (v : Int) (wr .i64 (8 * (i : Int)))))].toArray 5)) (some ⟨b, 0, none⟩) (u8s [UInt8.ofNat (v / 256 ^ i)]) := row_lit (upd_same _ _ _) (by rw [byte_at v i (by omega)]; rfl)
    have d3 := d2.upd0 ub
    have o3 := o.upd ub (Off.nil _)
    have r3 := r.upd ub (Off.nil _)
    (repeat first | refine HReg.step ?_ | refine HCode.step ?_)
    refine HLoad_two (v := .slice a out.length c) (by exact o3.rows.get (i := 1) rfl) (by exact o.rows.get (i := 1) rfl) ?_
    (repeat first | refine HReg.step ?_ | refine HCode.step ?_)
    refine append_own (xs := out) r3 rb rfl (by omega) fun a4 c4 H4 r4 u4 f4 => ?_
    have o4 := o3.upd u4 (fun p hp hm => by cases hp; exact own_apart o3 r3 (by decide) hm)
    (repeat first | refine HReg.step ?_ | refine HCode.step ?_)
    refine store_row o4 (v := .slice a4 (out.length + 1) c4) rfl (i := 1) (by decide) (by rfl) fun H5 o5 u5 => ?_
    obtain ⟨d5, f5⟩ := WAt.grow (ys := [UInt8.ofNat (v / 256 ^ i)]) (m := 1) d3 o3 r3 rfl (by show out.length + 1 ≤ w.lim; omega) r4 u4 f4 o5 u5
    have w2 : wr .i64 ((i : Int) - 1) = (i : Int) - 1 := wr_i64 (by omega) (by omega)
    (repeat first | refine HReg.step ?_ | refine HCode.step ?_)
    rw [w2]
    exact ⟨i, by omega, NuInv.mk ⟨out ++ [UInt8.ofNat (v / 256 ^ i)], _, rfl, by omega, by rw [List.append_assoc]; exact hall, d5, f2.trans (f5.back0 ub)⟩⟩
  · have h1 := not_ltB_false.1 h1
    obtain rfl : m = 0 := by omega
    (repeat first | refine HReg.step ?_ | refine HCode.step ?_)
    have hall : out ++ [] = w.out ++ num v n := hall
    rw [List.append_nil] at hall
    rw [hall] at d2
    exact hk S2 H2 d2 f2
end
end Go.Proofs.Ytfcmjomnpahllaa
