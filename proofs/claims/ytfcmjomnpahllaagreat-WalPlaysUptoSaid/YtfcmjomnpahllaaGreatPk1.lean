import Derived.Test.YtfcmjomnpahllaaGreatProg
import Derived.Test.YtfcmjomnpahllaaGreatHvA
import Derived.Laws.Bits64b
import Derived.RangeFuncBox
import Derived.RangeFuncLeaves
import Derived.Shelf.Abstract
import Derived.WalkKit
import Derived.OwnWalkIn
import Derived.TacticsInMore
import Derived.LoopNIn
import Derived.LoopIn
import Derived.Maps.AppendAt
import Derived.Sort.EncStr
import Derived.Shelf.Sort.Plain
import Derived.CallsIn
import Derived.Sort.OwnSorted
namespace Go.Proofs.YtfcmjomnpahllaaGreat
open Go Hv
set_option linter.unusedVariables false
set_option linter.unusedSimpArgs false
set_option maxRecDepth 10000
set_option maxHeartbeats 1000000
theorem mixed : Tryz.prog.follows .mixedOrders = true := by kernel_rfl
theorem ite_mx {α : Type} [inst : Decidable (Builtin.max = Builtin.max)] (a b : α) : @ite α (Builtin.max = Builtin.max) inst a b = a := if_pos rfl
theorem ite_mn {α : Type} [inst : Decidable (Builtin.min = Builtin.max)] (a b : α) : @ite α (Builtin.min = Builtin.max) inst a b = b := if_neg (by intro h; cases h)
theorem ite_max (x y : Int) [inst : Decidable (y > x)] : @ite Int (y > x) inst y x = max x y := by
  by_cases h : y > x
  · rw [if_pos h]; omega
  · rw [if_neg h]; omega
theorem ite_min (x y : Int) [inst : Decidable (y < x)] : @ite Int (y < x) inst y x = min x y := by
  by_cases h : y < x
  · rw [if_pos h]; omega
  · rw [if_neg h]; omega
theorem own_upto {H : Heap} {e : TypeId} {size : Nat} {a : Option Addr} {n cap i : Nat} {xs : List Value} (h : OwnRow H e size a n cap xs) (hi : i ≤ n) : OwnRow H e size a i cap (xs.take (i * size)) := by
  refine ⟨by rw [List.length_take, h.len]; exact Nat.min_eq_left (Nat.mul_le_mul_right _ hi), ?_⟩
  rcases h.ok with ⟨ha, hn, hc⟩ | ⟨g, cur, ha, hg, h1, h2, h3⟩
  · exact .inl ⟨ha, by omega, hc⟩
  · refine .inr ⟨g, cur, ha, hg, h1, by omega, fun j v hj => ?_⟩
    rw [List.getElem?_take] at hj
    split at hj
    · exact h3 j v hj
    · cases hj
def isSl (v : Value) : Prop := ∃ a n c, v = .slice a n c
theorem isSl.plain {v : Value} (h : isSl v) : Value.plain v = true := by obtain ⟨a, n, c, rfl⟩ := h; rfl
theorem HLoad_all {Hs : List Heap} {a : Addr} {K : Value → Prop} {v : Value} (h : ∀ H ∈ Hs, H.cell? a = some v) (hk : K v) : HLoad Hs a K := ⟨v, h, hk⟩
theorem upd_join {S T : List Nat} {H H1 H2 : Heap} (h : Upd S H H1) (k : Upd T H1 H2) (hT : ∀ b ∈ T, b ∈ S ∨ H b = none) : Upd S H H2 := fun b hb hn => by
  have e := h b hb hn
  have : b ∉ T := fun hbT => by
    rcases hT b hbT with h1 | h1
    · exact hb h1
    · exact hn h1
  rw [k b this (by rw [e]; exact hn)]; exact e
theorem HLoad_two {H H' : Heap} {a : Addr} {K : Value → Prop} {v : Value} (h : H.cell? a = some v) (h' : H'.cell? a = some v) (hk : K v) : HLoad [H, H'] a K := ⟨v, fun Hx hx => by
  simp only [List.mem_cons, List.not_mem_nil, or_false] at hx
  rcases hx with rfl | rfl
  · exact h
  · exact h', hk⟩
theorem HLoad_three {H H' H'' : Heap} {a : Addr} {K : Value → Prop} {v : Value} (h : H.cell? a = some v) (h' : H'.cell? a = some v) (h'' : H''.cell? a = some v) (hk : K v) : HLoad [H, H', H''] a K := ⟨v, fun Hx hx => by
  simp only [List.mem_cons, List.not_mem_nil, or_false] at hx
  rcases hx with rfl | rfl | rfl
  · exact h
  · exact h'
  · exact h'', hk⟩
/-- A copy by append: onto a new row without cells. -/
theorem copy_sem {a : Option Addr} {b n c : Nat} {ys : List UInt8} {H : Heap} {K : Value → Heap → Prop} (hb : H b = none) (hy : RowAt H a (u8s ys)) (hn : ys.length = n) (hlim : n ≤ 140737488355328)
    (hk : ∀ a' cap' H', Made H H' 5 1 a' n cap' (u8s ys) → K (.slice a' n cap') H') :
    HSem Tryz.prog (Builtin.append_ #[42, 42] 42 [.slice (some ⟨b, 0, none⟩) 0 0, .slice a n c].toArray) (H.upd b (.cells [].toArray 5)) K := by
  (repeat first | refine HReg.step ?_ | refine HCode.step ?_)
  refine append_rows (ie := Tryz.t5) (z := .int .u8 0) (ys := u8s ys) (xs := []) Tryz.underlying42 rfl rfl rfl (by decide) ?_ ?_ ?_ (plain_u8s _) ?_ ?_ ?_
  · exact OwnRow.lit (upd_same _ _ _) rfl
  · exact hy.upd (S := []) (Upd.new hb _) (.inr (Off.nil _))
  · rw [u8s_length, hn]; exact (Nat.mul_one _).symm
  · show (0 + n) * 1 ≤ _; omega
  · omega
  · intro a' cap' H' h1 h2 h3
    rw [Nat.zero_add] at h1 ⊢
    have hb1 : ∀ p : Addr, some p = some (⟨b, 0, none⟩ : Addr) → p.block = b := by rintro p h; cases h; rfl
    refine hk a' cap' H' ⟨h1, Upd.drop (Upd.new hb _) h2 (by intro k hk; simp [blk] at hk; subst hk; exact hb), fun p hp => ?_⟩
    rcases h3 p hp with h | h
    · rw [hb1 p h.symm]; exact hb
    · refine Classical.byContradiction fun hne => ?_
      have : p.block ≠ b := fun e => hne (by rw [e]; exact hb)
      rw [upd_ne _ _ this] at h; exact hne h

theorem clone_t {a : Option Addr} {n c : Nat} {ys : List UInt8} {H : Heap} {K : Value → Heap → Prop} (hy : RowAt H a (u8s ys)) (hn : ys.length = n) (hlim : n ≤ 140737488355328)
    (hk : ∀ a' cap' H', Made H H' 5 1 a' n cap' (u8s ys) → K (.slice a' n cap') H') : HCalls Tryz.prog 43 [.slice a n c] H K := by
  refine hcalls (fn := Tryz.f43) [] mixed Tryz.func43 rfl rfl rfl ?_
  (repeat first | refine HReg.step ?_ | refine HCode.step ?_)
  cases a with
  | none =>
    have : ys = [] := by
      cases ys with
      | nil => rfl
      | cons y ys => obtain ⟨_, _, hh, _⟩ := hy 0 _ rfl; cases hh
    subst this
    have : n = 0 := by simpa using hn.symm
    subst this
    (repeat first | refine HReg.step ?_ | refine HCode.step ?_)
    exact hk none 0 H ⟨OwnRow.nil _ _ _, Upd.refl _ _, fun p hp => by cases hp⟩
  | some p =>
    (repeat first | refine HReg.step ?_ | refine HCode.step ?_)
    refine HReq.mk (by decide) ?_
    (repeat first | refine HReg.step ?_ | refine HCode.step ?_)
    refine HNew.mk fun b hb => ?_
    (repeat first | refine HReg.step ?_ | refine HCode.step ?_)
    refine copy_sem hb hy hn hlim fun a' cap' H' h => ?_
    (repeat first | refine HReg.step ?_ | refine HCode.step ?_)
    exact hk a' cap' H' h

theorem append_own {a b : Option Addr} {n cap m c : Nat} {xs ys : List UInt8} {H : Heap} {K : Value → Heap → Prop} (ho : OwnRow H 5 1 a n cap (u8s xs)) (hy : RowAt H b (u8s ys)) (hm : ys.length = m) (hlim : n + m ≤ 140737488355328)
    (hk : ∀ a' cap' H', OwnRow H' 5 1 a' (n + m) cap' (u8s (xs ++ ys)) → Upd (blk a) H H' → (∀ p, a' = some p → a = some p ∨ H p.block = none) → K (.slice a' (n + m) cap') H') :
    HSem Tryz.prog (Builtin.append_ #[42, 42] 42 [.slice a n cap, .slice b m c].toArray) H K := by
  refine append_rows (ie := Tryz.t5) (z := .int .u8 0) (ys := u8s ys) (xs := u8s xs) Tryz.underlying42 rfl rfl rfl (by decide) ho hy ?_ (plain_u8s _) ?_ ?_ ?_
  · rw [u8s_length, hm]; exact (Nat.mul_one _).symm
  · show (n + m) * 1 ≤ _; omega
  · omega
  · intro a' cap' H' h1 h2 h3
    rw [← u8s_append] at h1
    exact hk a' cap' H' h1 h2 h3
theorem append_made {a b : Option Addr} {n cap m c : Nat} {xs ys : List UInt8} {H0 H : Heap} {K : Value → Heap → Prop} (hm : Made H0 H 5 1 a n cap (u8s xs)) (hy : RowAt H b (u8s ys)) (hml : ys.length = m) (hlim : n + m ≤ 140737488355328)
    (hk : ∀ a' cap' H', Made H0 H' 5 1 a' (n + m) cap' (u8s (xs ++ ys)) → K (.slice a' (n + m) cap') H') :
    HSem Tryz.prog (Builtin.append_ #[42, 42] 42 [.slice a n cap, .slice b m c].toArray) H K := by
  refine append_own hm.own hy hml hlim fun a' cap' H' o u f => hk a' cap' H' ⟨o, ?_, ?_⟩
  · refine Upd.drop hm.upd u fun b hb => ?_
    obtain ⟨p, hp, rfl⟩ := blk_of hb
    exact hm.new p hp
  · intro p hp
    rcases f p hp with h | h
    · exact hm.new p h
    · exact Upd.none (S := []) hm.upd (by simp) h
theorem row_lit {H : Heap} {b : Nat} {l : List UInt8} {cur : Array Value} {e : TypeId} {f : Nat × Nat} (h : H b = some (.cells cur e f)) (hl : cur.toList = u8s l) : RowAt H (some ⟨b, 0, none⟩) (u8s l) := by
  rw [← hl]; exact RowAt.of_cells h

theorem upd_none' {S : List Nat} {H H' : Heap} (h : Upd S H H') (hS : ∀ b ∈ S, H' b ≠ none) {b : Nat} (hb : H' b = none) : H b = none := by
  refine Classical.byContradiction fun hne => ?_
  by_cases hm : b ∈ S
  · exact hS b hm hb
  · rw [h b hm hne] at hb; exact hne hb
theorem HLoadN_row {H : Heap} {b off n : Nat} {vs : List Value} {K : List Value → Prop} (h : RowAt H (some ⟨b, off, none⟩) vs) (hl : vs.length = n) (hk : K vs) : HLoadN [H] b off n K :=
  ⟨vs, fun H' hH j v hv => by rw [List.mem_singleton.1 hH]; exact h.get hv, hl, hk⟩
theorem own_cells {H : Heap} {e : TypeId} {g n cap size : Nat} {xs : List Value} (h : OwnRow H e size (some ⟨g, 0, none⟩) n cap xs) : ∃ c f, H g = some (.cells c e f) := by
  rcases h.ok with ⟨ha, _⟩ | ⟨g', cur, ha, hg, _⟩
  · cases ha
  · cases ha; exact ⟨_, _, hg⟩
theorem not_dec_true {p : Prop} [Decidable p] (h : (!decide p) = true) : ¬ p := fun hp => by rw [decide_eq_true hp] at h; cases h
theorem not_dec_false {p : Prop} [Decidable p] (h : (!decide p) = false) : p := by
  refine Classical.byContradiction fun hp => ?_
  rw [decide_eq_false hp] at h; cases h
theorem drop_get {α : Type} {l : List α} {i : Nat} {x : α} (h : l[i]? = some x) : l.drop i = x :: l.drop (i + 1) := by
  obtain ⟨h1, h2⟩ := List.getElem?_eq_some_iff.1 h
  rw [List.drop_eq_getElem_cons h1, h2]
theorem take_get {α : Type} {l : List α} {i : Nat} {x : α} (h : l[i]? = some x) : l.take (i + 1) = l.take i ++ [x] := by
  rw [List.take_add_one, h]; rfl
theorem own_apart {H : Heap} {e e' : TypeId} {g n cap size n' cap' size' : Nat} {a : Option Addr} {xs ys : List Value} (o : OwnRow H e size (some ⟨g, 0, none⟩) n cap xs) (r : OwnRow H e' size' a n' cap' ys) (hne : e ≠ e') : g ∉ blk a := fun hb => by
  obtain ⟨p, hp, hpe⟩ := blk_of hb
  obtain ⟨c, z, hg⟩ := own_cells o
  rcases r.ok with ⟨ha, _⟩ | ⟨g', cur, ha, hg', _⟩
  · rw [ha] at hp; cases hp
  · rw [ha] at hp; cases hp
    have e1 : g' = g := hpe
    rw [e1, hg] at hg'; cases hg'; exact hne rfl
/-! Footprints: what an object's blocks are, and become. -/
structure Foot (S S' : List Nat) (H H' : Heap) : Prop where
  upd : Upd S H H'
  sub : ∀ b ∈ S', b ∈ S ∨ H b = none
theorem Foot.refl (S : List Nat) (H : Heap) : Foot S S H H := ⟨Upd.refl _ _, fun b h => .inl h⟩
theorem Foot.trans {S S' S'' : List Nat} {H H' H'' : Heap} (h : Foot S S' H H') (k : Foot S' S'' H' H'') : Foot S S'' H H'' := by
  refine ⟨upd_join h.upd k.upd h.sub, fun b hb => ?_⟩
  rcases k.sub b hb with h1 | h1
  · exact h.sub b h1
  · refine Classical.byContradiction fun hn => ?_
    rw [not_or] at hn
    rw [h.upd b hn.1 hn.2] at h1; exact hn.2 h1
theorem Foot.fwd0 {S S' : List Nat} {H H' H'' : Heap} (h : Foot S S' H H') (u : Upd [] H' H'') : Foot S S' H H'' := ⟨h.upd.trans (u.mono (by simp)), h.sub⟩
theorem Foot.back0 {S S' : List Nat} {H0 H H' : Heap} (h : Foot S S' H H') (u : Upd [] H0 H) : Foot S S' H0 H' := by
  refine ⟨(u.mono (by simp)).trans h.upd, fun b hb => ?_⟩
  rcases h.sub b hb with h1 | h1
  · exact .inl h1
  · exact .inr (Upd.none (S := []) u (by simp) h1)
theorem Foot.of0 {S : List Nat} {H H' : Heap} (u : Upd [] H H') : Foot S S H H' := ⟨u.mono (by simp), fun b h => .inl h⟩
/-- Two objects apart. -/
def Apart (S T : List Nat) : Prop := ∀ b ∈ S, b ∉ T
theorem Apart.symm {S T : List Nat} (h : Apart S T) : Apart T S := fun b hb hs => h b hs hb
theorem Apart.foot {S S' T : List Nat} {H H' : Heap} (h : Apart S T) (f : Foot S S' H H') (live : ∀ b ∈ T, H b ≠ none) : Apart S' T := fun b hb ht => by
  rcases f.sub b hb with h1 | h1
  · exact h b h1 ht
  · exact live b ht h1
theorem Apart.new {S T : List Nat} {H : Heap} (hn : ∀ b ∈ S, H b = none) (live : ∀ b ∈ T, H b ≠ none) : Apart S T := fun b hb ht => live b ht (hn b hb)
end Go.Proofs.YtfcmjomnpahllaaGreat
namespace Go.Proofs.YtfcmjomnpahllaaGreat
open Go Hv
set_option linter.unusedVariables false
set_option linter.unusedSimpArgs false
set_option maxRecDepth 10000
set_option maxHeartbeats 1000000
/-! A disk: what it is in memory, and what it stands for. -/
structure Fl where
  name : ByteArray
  p : Nat
  v : Value
  bytes : List UInt8
  synced : Nat
  born : Nat
def Fl.ent (f : Fl) : Ent := ⟨f.name, .pointer (some ⟨f.p, 0, none⟩), f.born⟩
structure Fd where
  off : Bool
  armed : Bool
  refuses : Int
  calls : Int
  keep : Int
structure St where
  d : Fd
  fs : ByteArray → Option (List UInt8 × Nat)
  cnt : Nat
def dcells (r : Nat) (d : Fd) : List Value := [.map (some r), .bool d.off, .int .i64 d.refuses, .bool d.armed, .int .i64 d.calls, .int .i64 d.keep]
def scells (f : Fl) : List Value := [f.v, .int .i64 (f.synced : Int)]
structure DiskP (H1 H : Heap) (g r : Nat) (d : Fd) (fl : List Fl) : Prop where
  obj : OwnRow H 64 1 (some ⟨g, 0, none⟩) 6 6 (dcells r d)
  map : ∃ c, MapAt H r (fl.map Fl.ent) c ∧ ∀ f ∈ fl, f.born < c
  str : ∀ f ∈ fl, OwnRow H 84 1 (some ⟨f.p, 0, none⟩) 2 2 (scells f)
  grp : GrpM 5 H1 H (fl.map Fl.v) (fl.map Fl.bytes)
  np : (fl.map Fl.p).Nodup
  nb : (fl.map Fl.born).Nodup
  nn : (fl.map Fl.name).Nodup
  syn : ∀ f ∈ fl, f.synced ≤ f.bytes.length
  lim : ∀ f ∈ fl, f.bytes.length ≤ 140737488355328
  newg : H1 g = none
  newr : H1 r = none
  newp : ∀ f ∈ fl, H1 f.p = none
structure DiskAt (H1 H : Heap) (g r : Nat) (s : St) (fl : List Fl) : Prop where
  phys : DiskP H1 H g r s.d fl
  get : ∀ f ∈ fl, s.fs f.name = some (f.bytes, f.synced)
  all : ∀ k x, s.fs k = some x → ∃ f ∈ fl, f.name = k
  cnt : s.cnt = fl.length
  arm : s.d.armed = true → 0 ≤ s.d.calls
  lo : -9223372036854775808 ≤ s.d.calls
  hi : s.d.calls ≤ 9223372036854775807
  rhi : s.d.refuses ≤ 9223372036854775807
def dblk (g r : Nat) (fl : List Fl) : List Nat := g :: r :: (fl.map Fl.p ++ fl.flatMap fun f => vblk f.v)
theorem mem_dblk {g r b : Nat} {fl : List Fl} : b ∈ dblk g r fl ↔ b = g ∨ b = r ∨ (∃ f ∈ fl, b = f.p) ∨ (∃ f ∈ fl, b ∈ vblk f.v) := by
  unfold dblk
  simp only [List.mem_cons, List.mem_append, List.mem_map, List.mem_flatMap]
  constructor
  · rintro (h | h | ⟨f, hf, rfl⟩ | h)
    · exact .inl h
    · exact .inr (.inl h)
    · exact .inr (.inr (.inl ⟨f, hf, rfl⟩))
    · exact .inr (.inr (.inr h))
  · rintro (h | h | ⟨f, hf, rfl⟩ | h)
    · exact .inl h
    · exact .inr (.inl h)
    · exact .inr (.inr (.inl ⟨f, hf, rfl⟩))
    · exact .inr (.inr (.inr h))
/-- From one state of a disk to the next. -/
structure Stp (H H' : Heap) (g r : Nat) (fl fl' : List Fl) : Prop where
  upd : Upd (dblk g r fl) H H'
  sub : ∀ b ∈ dblk g r fl', b ∈ dblk g r fl ∨ H b = none
theorem Stp.refl (H : Heap) (g r : Nat) (fl : List Fl) : Stp H H g r fl fl := ⟨Upd.refl _ _, fun b h => .inl h⟩
theorem own_live {H : Heap} {e : TypeId} {g n cap size : Nat} {xs : List Value} (h : OwnRow H e size (some ⟨g, 0, none⟩) n cap xs) : ∃ c f, H g = some (.cells c e f) := by
  rcases h.ok with ⟨ha, _⟩ | ⟨g', cur, ha, hg, _⟩
  · cases ha
  · cases ha; exact ⟨_, _, hg⟩
theorem DiskP.mapc {H1 H : Heap} {g r : Nat} {d : Fd} {fl : List Fl} (D : DiskP H1 H g r d fl) : ∃ es c, H r = some (.map es c) := by obtain ⟨c, hm, _⟩ := D.map; exact ⟨_, _, hm⟩
theorem DiskP.vlive {H1 H : Heap} {g r : Nat} {d : Fd} {fl : List Fl} (D : DiskP H1 H g r d fl) {f : Fl} (hf : f ∈ fl) {b : Nat} (hb : b ∈ vblk f.v) : ∃ c z, H b = some (.cells c 5 z) := by
  obtain ⟨i, hi⟩ := List.getElem?_of_mem hf
  exact D.grp.grp.live (i := i) (v := f.v) (by rw [List.getElem?_map, hi]; rfl) hb
theorem DiskP.live {H1 H : Heap} {g r : Nat} {d : Fd} {fl : List Fl} (D : DiskP H1 H g r d fl) : ∀ b ∈ dblk g r fl, H b ≠ none := by
  intro b hb
  rcases mem_dblk.1 hb with rfl | rfl | ⟨f, hf, rfl⟩ | ⟨f, hf, hv⟩
  · exact D.obj.there rfl
  · obtain ⟨es, c, h⟩ := D.mapc; rw [h]; simp
  · exact (D.str f hf).there rfl
  · obtain ⟨c, z, h⟩ := D.vlive hf hv; rw [h]; simp
theorem DiskP.old {H1 H : Heap} {g r : Nat} {d : Fd} {fl : List Fl} (D : DiskP H1 H g r d fl) : ∀ b ∈ dblk g r fl, H1 b = none := by
  intro b hb
  rcases mem_dblk.1 hb with rfl | rfl | ⟨f, hf, rfl⟩ | ⟨f, hf, hv⟩
  · exact D.newg
  · exact D.newr
  · exact D.newp f hf
  · exact D.grp.new f.v (List.mem_map_of_mem hf) b hv
theorem Stp.trans {H H' H'' : Heap} {g r : Nat} {fl fl' fl'' : List Fl} (h : Stp H H' g r fl fl') (k : Stp H' H'' g r fl' fl'') : Stp H H'' g r fl fl'' := by
  refine ⟨upd_join h.upd k.upd h.sub, fun b hb => ?_⟩
  rcases k.sub b hb with h1 | h1
  · exact h.sub b h1
  · refine Classical.byContradiction fun hn => ?_
    rw [not_or] at hn
    rw [h.upd b hn.1 hn.2] at h1; exact hn.2 h1
theorem Stp.back0 {H0 H H' : Heap} {g r : Nat} {fl fl' : List Fl} (h : Stp H H' g r fl fl') (u : Upd [] H0 H) : Stp H0 H' g r fl fl' := by
  refine ⟨(u.mono (by simp)).trans h.upd, fun b hb => ?_⟩
  rcases h.sub b hb with h1 | h1
  · exact .inl h1
  · exact .inr (Upd.none (S := []) u (by simp) h1)
theorem Stp.fwd0 {H H' H2 : Heap} {g r : Nat} {fl fl' : List Fl} (h : Stp H H' g r fl fl') (u : Upd [] H' H2) : Stp H H2 g r fl fl' := ⟨h.upd.trans (u.mono (by simp)), h.sub⟩
/-- Grp, by blocks. -/
theorem grp_upd {e : TypeId} {S : List Nat} {H H' : Heap} {vs : List Value} {ls : List (List UInt8)} (h : Grp e H vs ls) (hu : Upd S H H') (ho : ∀ v ∈ vs, ∀ b ∈ vblk v, b ∉ S) : Grp e H' vs ls :=
  ⟨h.len, fun i v l hv hl => (h.ok i v l hv hl).upd hu (ho v (List.mem_of_getElem? hv)), h.apart⟩
theorem grpM_upd {e : TypeId} {S : List Nat} {H1 H H' : Heap} {vs : List Value} {ls : List (List UInt8)} (h : GrpM e H1 H vs ls) (hu : Upd S H H') (ho : ∀ v ∈ vs, ∀ b ∈ vblk v, b ∉ S) (hn : ∀ b ∈ S, H1 b = none) : GrpM e H1 H' vs ls :=
  ⟨grp_upd h.grp hu ho, h.new, Upd.drop h.upd hu hn⟩
theorem mapAt_upd {S : List Nat} {H H' : Heap} {r c : Nat} {es : List Ent} (h : MapAt H r es c) (hu : Upd S H H') (hr : r ∉ S) : MapAt H' r es c := by
  unfold MapAt at h ⊢
  rw [hu r hr (by rw [h]; simp), h]
theorem DiskP.upd {S : List Nat} {H1 H H' : Heap} {g r : Nat} {d : Fd} {fl : List Fl} (D : DiskP H1 H g r d fl) (u : Upd S H H') (hd : ∀ b ∈ S, b ∉ dblk g r fl) (hn : ∀ b ∈ S, H1 b = none) : DiskP H1 H' g r d fl := by
  have hg : g ∉ S := fun h => hd g h (mem_dblk.2 (.inl rfl))
  have hr : r ∉ S := fun h => hd r h (mem_dblk.2 (.inr (.inl rfl)))
  have hp : ∀ f ∈ fl, f.p ∉ S := fun f hf h => hd f.p h (mem_dblk.2 (.inr (.inr (.inl ⟨f, hf, rfl⟩))))
  have hv : ∀ f ∈ fl, ∀ b ∈ vblk f.v, b ∉ S := fun f hf b hb h => hd b h (mem_dblk.2 (.inr (.inr (.inr ⟨f, hf, hb⟩))))
  refine ⟨D.obj.upd u fun p hp hb => by cases hp; exact hg hb, ?_, fun f hf => (D.str f hf).upd u fun p hp' hb => by cases hp'; exact hp f hf hb, grpM_upd D.grp u (fun v hv' => ?_) hn, D.np, D.nb, D.nn, D.syn, D.lim, D.newg, D.newr, D.newp⟩
  · obtain ⟨c, hm, hb⟩ := D.map; exact ⟨c, mapAt_upd hm u hr, hb⟩
  · obtain ⟨f, hf, rfl⟩ := List.mem_map.1 hv'; exact hv f hf
theorem DiskP.upd0 {H1 H H' : Heap} {g r : Nat} {d : Fd} {fl : List Fl} (D : DiskP H1 H g r d fl) (u : Upd [] H H') : DiskP H1 H' g r d fl := D.upd u (by simp) (by simp)
theorem DiskAt.upd {S : List Nat} {H1 H H' : Heap} {g r : Nat} {s : St} {fl : List Fl} (D : DiskAt H1 H g r s fl) (u : Upd S H H') (hd : ∀ b ∈ S, b ∉ dblk g r fl) (hn : ∀ b ∈ S, H1 b = none) : DiskAt H1 H' g r s fl :=
  ⟨D.phys.upd u hd hn, D.get, D.all, D.cnt, D.arm, D.lo, D.hi, D.rhi⟩
theorem DiskAt.upd0 {H1 H H' : Heap} {g r : Nat} {s : St} {fl : List Fl} (D : DiskAt H1 H g r s fl) (u : Upd [] H H') : DiskAt H1 H' g r s fl := D.upd u (by simp) (by simp)
/-- The struct's own fields change. -/
theorem DiskP.setd {H1 H H' : Heap} {g r : Nat} {d d' : Fd} {fl : List Fl} (D : DiskP H1 H g r d fl) (o : OwnRow H' 64 1 (some ⟨g, 0, none⟩) 6 6 (dcells r d')) (u : Upd [g] H H') : DiskP H1 H' g r d' fl := by
  obtain ⟨cg, zg, hg⟩ := own_live D.obj
  refine ⟨o, ?_, fun f hf => (D.str f hf).upd u fun p hp hb => ?_, grpM_upd D.grp u (fun v hv b hb hbg => ?_) (fun b hb => by rw [List.mem_singleton.1 hb]; exact D.newg), D.np, D.nb, D.nn, D.syn, D.lim, D.newg, D.newr, D.newp⟩
  · obtain ⟨c, hm, hb⟩ := D.map
    refine ⟨c, mapAt_upd hm u fun h => ?_, hb⟩
    rw [List.mem_singleton.1 h] at hm
    unfold MapAt at hm; rw [hg] at hm; cases hm
  · cases hp
    have h1 := List.mem_singleton.1 hb
    obtain ⟨c, z, h2⟩ := own_live (D.str f hf)
    have h1 : f.p = g := h1
    rw [h1, hg] at h2; cases h2
  · obtain ⟨f, hf, rfl⟩ := List.mem_map.1 hv
    obtain ⟨c, z, h2⟩ := D.vlive hf hb
    rw [List.mem_singleton.1 hbg, hg] at h2; cases h2
theorem Stp.g {H H' : Heap} {g r : Nat} {fl : List Fl} (u : Upd [g] H H') : Stp H H' g r fl fl := ⟨u.mono fun k hk => by rw [List.mem_singleton.1 hk]; exact mem_dblk.2 (.inl rfl), fun b h => .inl h⟩
/-- One file changes. -/
theorem DiskP.put {S : List Nat} {H1 H H' : Heap} {g r j : Nat} {d : Fd} {fl : List Fl} {f f' : Fl} (D : DiskP H1 H g r d fl) (hj : fl[j]? = some f) (e1 : f'.name = f.name) (e2 : f'.p = f.p) (e3 : f'.born = f.born) (G : GrpM 5 H1 H' ((fl.set j f').map Fl.v) ((fl.set j f').map Fl.bytes)) (u : Upd S H H') (hS : ∀ b ∈ S, b = f.p ∨ ∃ c z, H b = some (.cells c 5 z)) (o : OwnRow H' 84 1 (some ⟨f.p, 0, none⟩) 2 2 (scells f')) (hs : f'.synced ≤ f'.bytes.length) (hl : f'.bytes.length ≤ 140737488355328) : DiskP H1 H' g r d (fl.set j f') := by
  have hf := List.mem_of_getElem? hj
  have hset : ∀ {β : Type} (h : Fl → β), h f' = h f → (fl.set j f').map h = fl.map h := by
    intro β h he
    rw [List.map_set, he]
    apply List.ext_getElem?
    intro i
    rw [List.getElem?_set]
    split
    · rename_i hji; subst hji
      have := (List.getElem?_eq_some_iff.1 hj).1
      rw [if_pos (by simpa using this), List.getElem?_map, hj]; rfl
    · rfl
  obtain ⟨cp, zp, hp⟩ := own_live (D.str f hf)
  obtain ⟨cg, zg, hg⟩ := own_live D.obj
  have hent : (fl.set j f').map Fl.ent = fl.map Fl.ent := hset Fl.ent (by unfold Fl.ent; rw [e1, e2, e3])
  have hmem : ∀ x ∈ fl.set j f', x = f' ∨ x ∈ fl := fun x hx => by
    rcases List.mem_or_eq_of_mem_set hx with h | h
    · exact .inr h
    · exact .inl h
  refine ⟨D.obj.upd u fun p hp' hb => ?_, ?_, fun x hx => ?_, G, by rw [hset Fl.p e2]; exact D.np, by rw [hset Fl.born e3]; exact D.nb, by rw [hset Fl.name e1]; exact D.nn, fun x hx => ?_, fun x hx => ?_, D.newg, D.newr, fun x hx => ?_⟩
  · cases hp'
    rcases hS _ hb with h | ⟨c, z, h⟩
    · have h : g = f.p := h
      rw [h, hp] at hg; cases hg
    · have h : H g = _ := h
      rw [hg] at h; cases h
  · obtain ⟨c, hm, hb⟩ := D.map
    rw [hent]
    refine ⟨c, mapAt_upd hm u fun hr => ?_, fun x hx => ?_⟩
    · unfold MapAt at hm
      rcases hS _ hr with h | ⟨c, z, h⟩
      · rw [h, hp] at hm; cases hm
      · rw [h] at hm; cases hm
    · rcases hmem x hx with rfl | h
      · rw [e3]; exact hb f hf
      · exact hb x h
  · obtain ⟨i, hi⟩ := List.getElem?_of_mem hx
    rw [List.getElem?_set] at hi
    split at hi
    · split at hi
      · cases hi; rw [e2]; exact o
      · cases hi
    · rename_i hji
      have hxm := List.mem_of_getElem? hi
      have hne : x.p ≠ f.p := fun he => hji (by
        have h1 := (List.getElem?_eq_some_iff.1 hj).1
        exact (List.getElem?_inj (i := j) (j := i) (by simpa using h1) D.np).1 (by rw [List.getElem?_map, List.getElem?_map, hi, hj]; show some f.p = some x.p; rw [he]))
      obtain ⟨c1, z1, h1⟩ := own_live (D.str x hxm)
      refine (D.str x hxm).upd u fun p hp' hb => ?_
      cases hp'
      rcases hS _ hb with h | ⟨c, z, h⟩
      · exact hne h
      · have h : H x.p = _ := h
        rw [h1] at h; cases h
  · rcases hmem x hx with rfl | h
    · exact hs
    · exact D.syn x h
  · rcases hmem x hx with rfl | h
    · exact hl
    · exact D.lim x h
  · rcases hmem x hx with rfl | h
    · rw [e2]; exact D.newp f hf
    · exact D.newp x h
end Go.Proofs.YtfcmjomnpahllaaGreat
namespace Go.Proofs.YtfcmjomnpahllaaGreat
open Go Hv
set_option linter.unusedVariables false
set_option linter.unusedSimpArgs false
set_option maxRecDepth 10000
set_option maxHeartbeats 4000000
def St0 : St := ⟨⟨false, false, 0, 0, 0⟩, fun _ => none, 0⟩
theorem new_t {H : Heap} {K : Value → Heap → Prop} (hk : ∀ g r H', DiskAt H H' g r St0 [] → Upd [] H H' → K (.pointer (some ⟨g, 0, none⟩)) H') : HCalls Tryz.prog 5 [] H K := by
  refine hcalls (fn := Tryz.f5) [] mixed Tryz.func5 rfl rfl rfl ?_
  (repeat first | refine HReg.step ?_ | refine HCode.step ?_)
  refine hmakeMap fun r H1 hr hm u1 => ?_
  (repeat first | refine HReg.step ?_ | refine HCode.step ?_)
  refine HNew.mk fun g hg => ?_
  (repeat first | refine HReg.step ?_ | refine HCode.step ?_)
  refine hk g r _ ⟨⟨OwnRow.lit (upd_same _ _ _) rfl, ⟨0, ?_, by simp⟩, by simp, ⟨Grp.nil _ _, by simp, u1.trans (Upd.new hg _)⟩, by simp, by simp, by simp, by simp, by simp, Upd.none (S := []) u1 (by simp) hg, hr, by simp⟩, by simp, fun k x h => (by cases h), rfl, fun h => (by cases h), by decide, by decide, by decide⟩ (u1.trans (Upd.new hg _))
  show _ = _
  have hne : r ≠ g := fun e => by rw [e] at hm; unfold MapAt at hm; rw [hg] at hm; cases hm
  rw [upd_ne _ _ hne]; exact hm
theorem named_t {n : ByteArray} {H : Heap} {K : Value → Heap → Prop} (hk : K (.bool (decide (1 ≤ n.size ∧ n.size ≤ 32))) H) : HCalls Tryz.prog 45 [.string n] H K := by
  refine hcalls (fn := Tryz.f45) [] mixed Tryz.func45 rfl rfl rfl ?_
  (repeat first | refine HReg.step ?_ | refine HCode.step ?_)
  refine hif (fun h => ?_) (fun h => ?_)
  · have h := not_ltB_true.1 h
    (repeat first | refine HReg.step ?_ | refine HCode.step ?_)
    have : (!ltB 32 (n.size : Int)) = decide (1 ≤ n.size ∧ n.size ≤ 32) := by
      rw [Bool.eq_iff_iff, not_ltB_true]; simp; omega
    rw [this]; exact hk
  · have h := not_ltB_false.1 h
    (repeat first | refine HReg.step ?_ | refine HCode.step ?_)
    rw [decide_eq_false (by omega)] at hk; exact hk
/-! Crash -/
def tailOf (keep : Int) (n s : Nat) : Nat := (min (max keep 0) ((n : Int) - s)).toNat
def crash1 (keep : Int) (x : List UInt8 × Nat) : List UInt8 × Nat := (x.1.take (x.2 + tailOf keep x.1.length x.2), x.2 + tailOf keep x.1.length x.2)
def St.crash (s : St) (keep : Int) : St := if s.d.off then s else ⟨⟨true, false, s.d.refuses, s.d.calls, s.d.keep⟩, fun k => (s.fs k).map (crash1 keep), s.cnt⟩
theorem DiskP.stV {H1 H3 H4 H5 : Heap} {g r j : Nat} {d : Fd} {fl : List Fl} {f : Fl} {v' : Value} {l' : List UInt8} (D : DiskP H1 H3 g r d fl) (hj : fl[j]? = some f) (u4 : Upd (vblk f.v) H3 H4) (s4 : Sle 5 H4 v' l') (hn : ∀ b ∈ vblk v', b ∈ vblk f.v ∨ H3 b = none) (o5 : OwnRow H5 84 1 (some ⟨f.p, 0, none⟩) 2 2 [v', .int .i64 (f.synced : Int)]) (u5 : Upd [f.p] H4 H5) (hs : f.synced ≤ l'.length) (hl : l'.length ≤ 140737488355328) :
    DiskP H1 H5 g r d (fl.set j { f with v := v', bytes := l' }) ∧ Stp H3 H5 g r fl (fl.set j { f with v := v', bytes := l' }) := by
  have hf := List.mem_of_getElem? hj
  have hm : f.p ∈ dblk g r fl := mem_dblk.2 (.inr (.inr (.inl ⟨f, hf, rfl⟩)))
  have hvm : ∀ b ∈ vblk f.v, b ∈ dblk g r fl := fun b hb => mem_dblk.2 (.inr (.inr (.inr ⟨f, hf, hb⟩)))
  obtain ⟨cp, zp, hp⟩ := own_live (D.str f hf)
  have G4 : GrpM 5 H1 H4 ((fl.map Fl.v).set j v') ((fl.map Fl.bytes).set j l') := D.grp.change (by rw [List.getElem?_map, hj]; rfl) u4 s4 hn
  have hp4 : H4 f.p = some (.cells cp 84 zp) := by
    rw [u4 f.p (fun hb => by obtain ⟨c, z, h⟩ := D.vlive hf hb; rw [hp] at h; cases h) (by rw [hp]; simp), hp]
  have G5 : GrpM 5 H1 H5 ((fl.map Fl.v).set j v') ((fl.map Fl.bytes).set j l') := grpM_upd G4 u5 (fun v hv b hb hbp => by
    obtain ⟨i, hi⟩ := List.getElem?_of_mem hv
    obtain ⟨c, z, h⟩ := G4.grp.live hi hb
    rw [List.mem_singleton.1 hbp, hp4] at h; cases h) (fun b hb => by rw [List.mem_singleton.1 hb]; exact D.newp f hf)
  have u35 : Upd (f.p :: vblk f.v) H3 H5 := (u4.mono fun k hk => List.mem_cons_of_mem _ hk).trans (u5.mono fun k hk => by rw [List.mem_singleton.1 hk]; exact List.mem_cons_self)
  refine ⟨D.put (f' := { f with v := v', bytes := l' }) hj rfl rfl rfl ?_ u35 ?_ o5 hs hl, ⟨u35.mono ?_, fun b hb => ?_⟩⟩
  · rw [List.map_set, List.map_set]; exact G5
  · intro b hb
    rcases List.mem_cons.1 hb with h | h
    · exact .inl h
    · exact .inr (D.vlive hf h)
  · intro b hb
    rcases List.mem_cons.1 hb with h | h
    · rw [h]; exact hm
    · exact hvm b h
  · have hmem : ∀ x ∈ fl.set j { f with v := v', bytes := l' }, x = { f with v := v', bytes := l' } ∨ x ∈ fl := fun x hx => by
      rcases List.mem_or_eq_of_mem_set hx with h | h
      · exact .inr h
      · exact .inl h
    rcases mem_dblk.1 hb with h | h | ⟨x, hx, h⟩ | ⟨x, hx, h⟩
    · exact .inl (mem_dblk.2 (.inl h))
    · exact .inl (mem_dblk.2 (.inr (.inl h)))
    · rcases hmem x hx with rfl | h2
      · exact .inl (by rw [h]; exact hm)
      · exact .inl (mem_dblk.2 (.inr (.inr (.inl ⟨x, h2, h⟩))))
    · rcases hmem x hx with rfl | h2
      · rcases hn b h with h3 | h3
        · exact .inl (hvm b h3)
        · exact .inr h3
      · exact .inl (mem_dblk.2 (.inr (.inr (.inr ⟨x, h2, h⟩))))
theorem DiskP.stS {H1 H4 H5 : Heap} {g r j : Nat} {d : Fd} {fl : List Fl} {f : Fl} {n : Nat} (D : DiskP H1 H4 g r d fl) (hj : fl[j]? = some f) (o5 : OwnRow H5 84 1 (some ⟨f.p, 0, none⟩) 2 2 [f.v, .int .i64 (n : Int)]) (u5 : Upd [f.p] H4 H5) (hs : n ≤ f.bytes.length) :
    DiskP H1 H5 g r d (fl.set j { f with synced := n }) ∧ Stp H4 H5 g r fl (fl.set j { f with synced := n }) := by
  have hf := List.mem_of_getElem? hj
  have hm : f.p ∈ dblk g r fl := mem_dblk.2 (.inr (.inr (.inl ⟨f, hf, rfl⟩)))
  obtain ⟨cp, zp, hp⟩ := own_live (D.str f hf)
  have hset : ∀ {β : Type} (h : Fl → β), h { f with synced := n } = h f → (fl.set j { f with synced := n }).map h = fl.map h := by
    intro β h he
    rw [List.map_set, he]
    apply List.ext_getElem?
    intro i
    rw [List.getElem?_set]
    split
    · rename_i hji; subst hji
      have := (List.getElem?_eq_some_iff.1 hj).1
      rw [if_pos (by simpa using this), List.getElem?_map, hj]; rfl
    · rfl
  have G5 : GrpM 5 H1 H5 (fl.map Fl.v) (fl.map Fl.bytes) := grpM_upd D.grp u5 (fun v hv b hb hbp => by
    obtain ⟨i, hi⟩ := List.getElem?_of_mem hv
    obtain ⟨c, z, h⟩ := D.grp.grp.live hi hb
    rw [List.mem_singleton.1 hbp, hp] at h; cases h) (fun b hb => by rw [List.mem_singleton.1 hb]; exact D.newp f hf)
  refine ⟨D.put (f' := { f with synced := n }) hj rfl rfl rfl ?_ u5 (fun b hb => .inl (List.mem_singleton.1 hb)) o5 hs (D.lim f hf), ⟨u5.mono fun k hk => by rw [List.mem_singleton.1 hk]; exact hm, fun b hb => .inl ?_⟩⟩
  · rw [hset Fl.v rfl, hset Fl.bytes rfl]; exact G5
  · have e : dblk g r (fl.set j { f with synced := n }) = dblk g r fl := by
      unfold dblk
      rw [hset Fl.p rfl]
      congr 3
      rw [List.flatMap_def, List.flatMap_def, hset (fun f => vblk f.v) rfl]
    rw [e] at hb; exact hb
theorem DiskP.notIt {H1 H : Heap} {g r it : Nat} {d : Fd} {fl : List Fl} (D : DiskP H1 H g r d fl) {a b c e} (h : H it = some (.mapIter a b c e)) : it ∉ dblk g r fl := by
  intro hb
  rcases mem_dblk.1 hb with rfl | rfl | ⟨f, hf, rfl⟩ | ⟨f, hf, hv⟩
  · obtain ⟨_, _, h2⟩ := own_live D.obj; rw [h] at h2; cases h2
  · obtain ⟨_, _, h2⟩ := D.mapc; rw [h] at h2; cases h2
  · obtain ⟨_, _, h2⟩ := own_live (D.str f hf); rw [h] at h2; cases h2
  · obtain ⟨_, _, h2⟩ := D.vlive hf hv; rw [h] at h2; cases h2
theorem tail_le {keep : Int} {n s : Nat} (h : s ≤ n) : s + tailOf keep n s ≤ n ∧ ((s + tailOf keep n s : Nat) : Int) = s + min (max keep 0) ((n : Int) - s) := by
  unfold tailOf; omega
theorem filt_lt {α : Type} {p q : α → Bool} (h : ∀ x, q x = true → p x = true) : ∀ {l : List α} {x : α}, x ∈ l → p x = true → q x = false → (l.filter q).length < (l.filter p).length
  | [], x, hx, _, _ => by simp at hx
  | y :: l, x, hx, hp, hq => by
    have hle : ∀ l : List α, (l.filter q).length ≤ (l.filter p).length := fun l => by
      induction l with
      | nil => simp
      | cons z l ih =>
        rw [List.filter_cons, List.filter_cons]
        by_cases hz : q z = true
        · rw [if_pos hz, if_pos (h z hz)]; simp; exact ih
        · rw [if_neg hz]
          split
          · simp; omega
          · exact ih
    rw [List.filter_cons, List.filter_cons]
    rcases List.mem_cons.1 hx with rfl | hx
    · rw [if_neg (by rw [hq]; simp), if_pos hp]
      have := hle l
      simp; omega
    · have ih := filt_lt h hx hp hq
      by_cases hz : q y = true
      · rw [if_pos hz, if_pos (h y hz)]; simp; exact ih
      · rw [if_neg hz]
        split
        · simp; omega
        · exact ih
/-- Which entries a loop over the map has seen: their files have crashed. -/
structure CrSt (H1 H0 H : Heap) (g r it c : Nat) (d : Fd) (keep : Int) (fl0 fl : List Fl) (seen : Array Nat) : Prop where
  phys : DiskP H1 H g r d fl
  stp : Stp H0 H g r fl0 fl
  itr : H it = some (.mapIter (some r) c seen c)
  itn : H0 it = none
  map : MapAt H r (fl0.map Fl.ent) c
  len : fl.length = fl0.length
  each : ∀ (i : Nat) f0 f, fl0[i]? = some f0 → fl[i]? = some f → f.name = f0.name ∧ f.p = f0.p ∧ f.born = f0.born ∧ (if f0.born ∈ seen then (f.bytes, f.synced) = crash1 keep (f0.bytes, f0.synced) else f = f0)
structure CrInv (H1 H0 : Heap) (g r it c : Nat) (d : Fd) (keep : Int) (fl0 : List Fl) (m : Nat) (vs : List Value) (H : Heap) : Prop where
  ex : ∃ fl seen, vs = [] ∧ m = (fl0.filter fun f => !seen.contains f.born).length ∧ CrSt H1 H0 H g r it c d keep fl0 fl seen
theorem crash_t {H1 H : Heap} {g r : Nat} {s : St} {fl : List Fl} {keep : Int} {K : Value → Heap → Prop} (D : DiskAt H1 H g r s fl)
    (hk : ∀ fl' H', DiskAt H1 H' g r (s.crash keep) fl' → Stp H H' g r fl fl' → K (.tuple #[]) H') : HCalls Tryz.prog 17 [.pointer (some ⟨g, 0, none⟩), .int .i64 keep] H K := by
  refine hcalls (fn := Tryz.f17) [(4, [(0, 0), (1, 0), (2, 0), (3, 0), (4, 0), (5, 0), (6, 0), (7, 0), (8, 0), (9, 0), (10, 0), (11, 0), (12, 0), (13, 0)]), (5, [(1, 0), (2, 0), (3, 0), (4, 0), (5, 0), (6, 0), (7, 0), (8, 0), (9, 0), (10, 0), (11, 0), (12, 0), (0, 1), (13, 0), (14, 0), (15, 0)])] mixed Tryz.func17 rfl rfl (by decide +kernel) ?_
  obtain ⟨P, hget, hall, hcnt, harm, hlo, hhi, hrhi⟩ := D
  (repeat first | refine HReg.step ?_ | refine HCode.step ?_)
  refine HLoad.one (v := .bool s.d.off) (by exact P.obj.rows.get (i := 1) rfl) ?_
  (repeat first | refine HReg.step ?_ | refine HCode.step ?_)
  refine hif (fun hoff => ?_) (fun hoff => ?_)
  · (repeat first | refine HReg.step ?_ | refine HCode.step ?_)
    refine hk fl H ?_ (Stp.refl _ _ _ _)
    unfold St.crash; rw [if_pos hoff]
    exact ⟨P, hget, hall, hcnt, harm, hlo, hhi, hrhi⟩
  (repeat first | refine HReg.step ?_ | refine HCode.step ?_)
  refine HLoad.one (v := .map (some r)) (by exact P.obj.rows.get (i := 0) rfl) ?_
  (repeat first | refine HReg.step ?_ | refine HCode.step ?_)
  obtain ⟨c, hm, hb⟩ := P.map
  refine hrange Tryz.underlying62 hm fun it H2 hit hit2 u2 => ?_
  (repeat first | refine HReg.step ?_ | refine HCode.step ?_)
  refine hloopC [5, 6, 16, 17, 18, 19, 20, 21, 22, 23, 24, 25, 26, 27, 28, 29, 30, 31, 32, 33, 34, 35, 36, 37, 38, 39, 40, 41, 42, 43, 44, 45, 46, 47, 48, 49, 50, 51, 52, 53, 54, 55] [] (CrInv H1 H g r it c s.d keep fl) rfl (by repeat' first | exact Resp.retD | exact Resp1.valuesK | refine Resp.blockD ?_ | refine Resp.thenD ?_ ?_ | refine Resp.hcode ?_) ?_ ?_
  · exact ⟨_, CrInv.mk ⟨fl, #[], rfl, rfl, P.upd0 u2, (Stp.refl _ _ _ _).fwd0 u2, hit2, hit, mapAt_upd hm u2 (by simp), rfl, fun i f0 f h1 h2 => by rw [h1] at h2; cases h2; exact ⟨rfl, rfl, rfl, by simp⟩⟩⟩
  rintro m _ fe H3 ⟨fl3, seen, rfl, hmm, C3⟩
  obtain ⟨P3, stp3, it3, itn, hm3, len3, each3⟩ := C3
  (repeat first | refine HReg.step ?_ | refine HCode.step ?_)
  refine hnext it3 hm3 (fun e he => by obtain ⟨f, hf, rfl⟩ := List.mem_map.1 he; exact hb f hf) (fun hend => ?_) (fun j e hj hns H4 it4 u4 => ?_)
  · (repeat first | refine HReg.step ?_ | refine HCode.step ?_)
    have hend' : ∀ f ∈ fl, f.born ∈ seen := fun f hf => hend f.ent (List.mem_map_of_mem hf)
    refine store_row P3.obj (v := .bool true) rfl (i := 1) (by decide) (by rfl) fun H4 o4 u4 => ?_
    have P4 : DiskP H1 H4 g r { s.d with off := true } fl3 := P3.setd o4 u4
    have stp4 := stp3.trans (Stp.g u4)
    (repeat first | refine HReg.step ?_ | refine HCode.step ?_)
    refine store_row P4.obj (v := .bool false) rfl (i := 3) (by decide) (by rfl) fun H5 o5 u5 => ?_
    have P5 : DiskP H1 H5 g r { s.d with off := true, armed := false } fl3 := P4.setd o5 u5
    have stp5 := stp4.trans (Stp.g u5)
    (repeat first | refine HReg.step ?_ | refine HCode.step ?_)
    have key : ∀ f ∈ fl3, ∃ f0 ∈ fl, f.name = f0.name ∧ (f.bytes, f.synced) = crash1 keep (f0.bytes, f0.synced) := fun f hf => by
      obtain ⟨i, hi⟩ := List.getElem?_of_mem hf
      have h1 := (List.getElem?_eq_some_iff.1 hi).1
      obtain ⟨f0, hf0⟩ : ∃ f0, fl[i]? = some f0 := ⟨fl[i]'(by omega), by simp⟩
      have hm0 := List.mem_of_getElem? hf0
      obtain ⟨a1, _, _, a4⟩ := each3 i f0 f hf0 hi
      rw [if_pos (hend' f0 hm0)] at a4
      exact ⟨f0, hm0, a1, a4⟩
    refine hk fl3 H5 ?_ stp5
    unfold St.crash
    rw [if_neg (by rw [hoff]; simp)]
    refine ⟨P5, fun f hf => ?_, fun k x hkx => ?_, by rw [len3]; exact hcnt, fun h => (by cases h), hlo, hhi, hrhi⟩
    · obtain ⟨f0, hm0, a1, a4⟩ := key f hf
      show (s.fs f.name).map (crash1 keep) = _
      rw [a1, hget f0 hm0, a4]; rfl
    · have hkx : (s.fs k).map (crash1 keep) = some x := hkx
      cases hs : s.fs k with
      | none => rw [hs] at hkx; cases hkx
      | some y =>
        obtain ⟨f0, hf0, hn0⟩ := hall k y hs
        obtain ⟨i, hi⟩ := List.getElem?_of_mem hf0
        have h1 := (List.getElem?_eq_some_iff.1 hi).1
        obtain ⟨f, hf⟩ : ∃ f, fl3[i]? = some f := ⟨fl3[i]'(by omega), by simp⟩
        exact ⟨f, List.mem_of_getElem? hf, by rw [(each3 i f0 f hi hf).1, hn0]⟩
  · obtain ⟨f, hf, rfl⟩ : ∃ f, fl[j]? = some f ∧ f.ent = e := by
      rw [List.getElem?_map] at hj
      cases h : fl[j]? with
      | none => rw [h] at hj; cases hj
      | some f => rw [h] at hj; cases hj; exact ⟨f, rfl, rfl⟩
    have hl := (List.getElem?_eq_some_iff.1 hf).1
    obtain ⟨f3, hf3⟩ : ∃ f3, fl3[j]? = some f3 := ⟨fl3[j]'(by omega), by simp⟩
    have hff : f3 = f := by
      have := (each3 j f f3 hf hf3).2.2.2
      rwa [if_neg (show ¬ f.born ∈ seen from hns)] at this
    subst hff
    have hmem := List.mem_of_getElem? hf3
    have itd : ∀ b ∈ [it], b ∉ dblk g r fl3 := fun b hb => by rw [List.mem_singleton.1 hb]; exact P3.notIt it3
    have itb : ∀ b ∈ [it], H1 b = none := fun b hb => by rw [List.mem_singleton.1 hb]; exact Upd.none (S := []) P.grp.upd (by simp) itn
    have P4 := P3.upd u4 itd itb
    have hm4 : MapAt H4 r (fl.map Fl.ent) c := mapAt_upd hm3 u4 fun h => itd r h (mem_dblk.2 (.inr (.inl rfl)))
    obtain ⟨va, vc, hfv, ov4⟩ := P4.grp.grp.ok j f3.v f3.bytes (by rw [List.getElem?_map, hf3]; rfl) (by rw [List.getElem?_map, hf3]; rfl)
    have hsyn := P4.syn f3 hmem
    have hlim := P4.lim f3 hmem
    have so4 : OwnRow H4 84 1 (some ⟨f3.p, 0, none⟩) 2 2 [.slice va f3.bytes.length vc, .int .i64 (f3.synced : Int)] := by
      have := P4.str f3 hmem
      unfold scells at this
      rw [hfv] at this
      exact this
    (repeat first | refine HReg.step ?_ | refine HCode.step ?_)
    refine hentry it4 hm4 hj (by rw [List.map_map]; exact P.nb) ?_
    (repeat first | refine HReg.step ?_ | refine HCode.step ?_)
    refine HLoad.one (v := .slice va f3.bytes.length vc) (by exact so4.rows.get (i := 0) rfl) ?_
    (repeat first | refine HReg.step ?_ | refine HCode.step ?_)
    refine HLoad.one (v := .int .i64 (f3.synced : Int)) (by exact so4.rows.get (i := 1) rfl) ?_
    obtain ⟨t1, t2⟩ := tail_le (keep := keep) hsyn
    have hw1 : wr .i64 ((f3.bytes.length : Int) - f3.synced) = (f3.bytes.length : Int) - f3.synced := wr_i64 (by omega) (by omega)
    have hw2 : wr .i64 ((f3.synced : Int) + min (max keep 0) (wr .i64 ((f3.bytes.length : Int) - f3.synced))) = ((f3.synced + tailOf keep f3.bytes.length f3.synced : Nat) : Int) := by
      rw [hw1, ← t2]; exact wr_i64 (by omega) (by omega)
    generalize hnn : f3.synced + tailOf keep f3.bytes.length f3.synced = nn at t1 hw2
    have htk : (f3.bytes.take nn).length = nn := by rw [List.length_take]; omega
    (repeat first | refine HReg.step ?_ | refine HCode.step ?_)
    rw [ite_mx, ite_max, ite_mn, ite_min]
    refine HLoad.one (v := .slice va f3.bytes.length vc) (by exact so4.rows.get (i := 0) rfl) ?_
    (repeat first | refine HReg.step ?_ | refine HCode.step ?_)
    refine HLoad.one (v := .int .i64 (f3.synced : Int)) (by exact so4.rows.get (i := 1) rfl) ?_
    (repeat first | refine HReg.step ?_ | refine HCode.step ?_)
    rw [hw2]
    refine HReq.mk ⟨by omega, by have := ov4.le; omega⟩ ?_
    (repeat first | refine HReg.step ?_ | refine HCode.step ?_)
    refine HCall.mk ⟨Tryz.f43, Tryz.func43, by rfl, by rfl⟩ ?_
    refine clone_t (ys := f3.bytes.take nn) (n := nn) (by have := (own_upto ov4 t1).rows; rw [Nat.mul_one] at this; unfold u8s at this ⊢; rw [List.map_take]; exact this) htk (by omega) fun a5 c5 H5 m5 => ?_
    have so5 := so4.upd m5.upd (Off.nil _)
    (repeat first | refine HReg.step ?_ | refine HCode.step ?_)
    refine store_row so5 (v := .slice a5 nn c5) rfl (i := 0) (by decide) (by rfl) fun H6 o6 u6 => ?_
    have P46 := P4.stV hf3 (v' := .slice a5 nn c5) (l' := f3.bytes.take nn) (m5.upd.mono (by simp)) (by have := m5.sle htk; exact this) (fun b hb => .inr (m5.vnew b hb)) o6 u6 (by rw [htk]; omega) (by rw [htk]; omega)
    obtain ⟨P6, stp6⟩ := P46
    (repeat first | refine HReg.step ?_ | refine HCode.step ?_)
    refine HLoad.one (v := .slice a5 nn c5) (by exact o6.rows.get (i := 0) rfl) ?_
    (repeat first | refine HReg.step ?_ | refine HCode.step ?_)
    refine store_row o6 (v := .int .i64 (nn : Int)) rfl (i := 1) (by decide) (by rfl) fun H7 o7 u7 => ?_
    obtain ⟨P7, stp7⟩ := P6.stS (j := j) (f := { f3 with v := .slice a5 nn c5, bytes := f3.bytes.take nn }) (n := nn) (by rw [List.getElem?_set, if_pos rfl, if_pos (by omega)]) o7 u7 (by rw [htk]; exact Nat.le_refl _)
    (repeat first | refine HReg.step ?_ | refine HCode.step ?_)
    rw [List.set_set] at P7 stp7
    have stp47 := stp6.trans stp7
    have itn7 : H7 it = some (.mapIter (some r) c (seen.push f3.born) c) := by
      rw [stp47.upd it (itd it (by simp)) (by rw [it4]; simp)]; exact it4
    have hrp : r ∉ [f3.p] := fun h => by
      obtain ⟨_, _, h2⟩ := own_live so4
      rw [← List.mem_singleton.1 h] at h2
      unfold MapAt at hm4; rw [hm4] at h2; cases h2
    have hm7 : MapAt H7 r (fl.map Fl.ent) c := mapAt_upd (mapAt_upd (mapAt_upd hm4 m5.upd (by simp)) u6 hrp) u7 hrp
    have stp4 : Stp H H4 g r fl fl3 := ⟨upd_join stp3.upd u4 fun b hb => .inr (by rw [List.mem_singleton.1 hb]; exact itn), stp3.sub⟩
    have hnot : ∀ (i : Nat) f0, fl[i]? = some f0 → i ≠ j → f0.born ≠ f3.born := fun i f0 hi hij he => hij (by
      have h1 := (List.getElem?_eq_some_iff.1 hi).1
      exact (List.getElem?_inj (i := i) (j := j) (by simpa using h1) P.nb).1 (by rw [List.getElem?_map, List.getElem?_map, hi, hf]; show some f0.born = some f3.born; rw [he]))
    refine Exists.intro _ (And.intro ?_ (CrInv.mk ⟨_, seen.push f3.born, rfl, rfl, P7, stp4.trans stp47, itn7, itn, hm7, by rw [List.length_set, len3], fun i f0 f h1 h2 => ?_⟩))
    · rw [hmm]
      refine filt_lt (fun x hx => ?_) (List.mem_of_getElem? hf) ?_ ?_
      · simp at hx ⊢; exact hx.1
      · simpa using (show ¬ f3.born ∈ seen from hns)
      · simp
    · rw [List.getElem?_set] at h2
      split at h2
      · rename_i hij; subst hij
        rw [hf] at h1; cases h1
        split at h2
        · cases h2
          refine ⟨rfl, rfl, rfl, ?_⟩
          rw [if_pos (by simp)]
          show (f3.bytes.take nn, nn) = (f3.bytes.take (f3.synced + tailOf keep f3.bytes.length f3.synced), f3.synced + tailOf keep f3.bytes.length f3.synced)
          rw [hnn]
        · cases h2
      · rename_i hij
        obtain ⟨a1, a2, a3, a4⟩ := each3 i f0 f h1 h2
        refine ⟨a1, a2, a3, ?_⟩
        by_cases hs : f0.born ∈ seen
        · rw [if_pos hs] at a4
          rw [if_pos (by simp [hs])]; exact a4
        · rw [if_neg hs] at a4
          rw [if_neg (by simp only [Array.mem_push, not_or]; exact ⟨hs, hnot i f0 h1 (Ne.symm hij)⟩)]; exact a4
end Go.Proofs.YtfcmjomnpahllaaGreat
namespace Go.Proofs.YtfcmjomnpahllaaGreat
open Go Hv
set_option linter.unusedVariables false
set_option linter.unusedSimpArgs false
set_option maxRecDepth 10000
set_option maxHeartbeats 4000000
def St.call (s : St) : St := if s.d.armed then (if s.d.calls = 0 then s.crash s.d.keep else { s with d := { s.d with calls := s.d.calls - 1 } }) else s
section
variable {H1 H : Heap} {g r : Nat} {s : St} {fl : List Fl} {K : Value → Heap → Prop}
theorem call_t (D : DiskAt H1 H g r s fl) (hk : ∀ fl' H', DiskAt H1 H' g r s.call fl' → Stp H H' g r fl fl' → K (.bool (!s.call.d.off)) H') : HCalls Tryz.prog 68 [.pointer (some ⟨g, 0, none⟩)] H K := by
  refine hcalls (fn := Tryz.f68) [] mixed Tryz.func68 rfl rfl rfl ?_
  have P := D.phys
  (repeat first | refine HReg.step ?_ | refine HCode.step ?_)
  refine HLoad.one (v := .bool s.d.armed) (by exact P.obj.rows.get (i := 3) rfl) ?_
  (repeat first | refine HReg.step ?_ | refine HCode.step ?_)
  refine hif (fun ha => ?_) (fun ha => ?_)
  · (repeat first | refine HReg.step ?_ | refine HCode.step ?_)
    refine HLoad.one (v := .int .i64 s.d.calls) (by exact P.obj.rows.get (i := 4) rfl) ?_
    (repeat first | refine HReg.step ?_ | refine HCode.step ?_)
    refine hif (fun hc => ?_) (fun hc => ?_)
    · have hc := eqB_true.1 hc
      have e : s.call = s.crash s.d.keep := by unfold St.call; rw [if_pos ha, if_pos hc]
      rw [e] at hk
      (repeat first | refine HReg.step ?_ | refine HCode.step ?_)
      refine HLoad.one (v := .int .i64 s.d.keep) (by exact P.obj.rows.get (i := 5) rfl) ?_
      (repeat first | refine HReg.step ?_ | refine HCode.step ?_)
      refine HCall.mk ⟨Tryz.f17, Tryz.func17, by rfl, by rfl⟩ ?_
      refine crash_t D fun fl' H' D' st => ?_
      (repeat first | refine HReg.step ?_ | refine HCode.step ?_)
      refine HLoad.one (v := .bool (s.crash s.d.keep).d.off) (by exact D'.phys.obj.rows.get (i := 1) rfl) ?_
      (repeat first | refine HReg.step ?_ | refine HCode.step ?_)
      exact hk fl' H' D' st
    · have hc := eqB_false.1 hc
      have h0 := D.arm ha
      have h1 := D.hi
      have hw : wr .i64 (s.d.calls - 1) = s.d.calls - 1 := wr_i64 (by omega) (by omega)
      have e : s.call = { s with d := { s.d with calls := s.d.calls - 1 } } := by unfold St.call; rw [if_pos ha, if_neg hc]
      rw [e] at hk
      (repeat first | refine HReg.step ?_ | refine HCode.step ?_)
      refine HLoad.one (v := .int .i64 s.d.calls) (by exact P.obj.rows.get (i := 4) rfl) ?_
      (repeat first | refine HReg.step ?_ | refine HCode.step ?_)
      rw [hw]
      refine store_row P.obj (v := .int .i64 (s.d.calls - 1)) rfl (i := 4) (by decide) (by rfl) fun H4 o4 u4 => ?_
      have P4 : DiskP H1 H4 g r { s.d with calls := s.d.calls - 1 } fl := P.setd o4 u4
      (repeat first | refine HReg.step ?_ | refine HCode.step ?_)
      refine HLoad.one (v := .bool s.d.off) (by exact P4.obj.rows.get (i := 1) rfl) ?_
      (repeat first | refine HReg.step ?_ | refine HCode.step ?_)
      exact hk fl H4 ⟨P4, D.get, D.all, D.cnt, fun _ => (by show 0 ≤ s.d.calls - 1; omega), by show _ ≤ s.d.calls - 1; omega, by show s.d.calls - 1 ≤ _; omega, D.rhi⟩ (Stp.g u4)
  · have e : s.call = s := by unfold St.call; rw [if_neg (by rw [ha]; simp)]
    rw [e] at hk
    (repeat first | refine HReg.step ?_ | refine HCode.step ?_)
    refine HLoad.one (v := .bool s.d.off) (by exact P.obj.rows.get (i := 1) rfl) ?_
    (repeat first | refine HReg.step ?_ | refine HCode.step ?_)
    exact hk fl H D (Stp.refl _ _ _ _)
/-- Where a file is, or that it isn't. -/
theorem find_t {n : ByteArray} (D : DiskAt H1 H g r s fl)
    (hdown : ∀ fl' H', s.call.d.off = true → DiskAt H1 H' g r s.call fl' → Stp H H' g r fl fl' → K (.tuple #[.pointer none, .int .i64 62]) H')
    (hno : ∀ fl' H', s.call.d.off = false → s.call.fs n = none → DiskAt H1 H' g r s.call fl' → Stp H H' g r fl fl' → (∀ f ∈ fl', f.name ≠ n) → K (.tuple #[.pointer none, .int .i64 61]) H')
    (hyes : ∀ fl' H' (j : Nat) f, s.call.d.off = false → DiskAt H1 H' g r s.call fl' → Stp H H' g r fl fl' → fl'[j]? = some f → f.name = n → s.call.fs n = some (f.bytes, f.synced) → K (.tuple #[.pointer (some ⟨f.p, 0, none⟩), .int .i64 0]) H') :
    HCalls Tryz.prog 44 [.pointer (some ⟨g, 0, none⟩), .string n] H K := by
  refine hcalls (fn := Tryz.f44) [] mixed Tryz.func44 rfl rfl rfl ?_
  (repeat first | refine HReg.step ?_ | refine HCode.step ?_)
  refine HCall.mk ⟨Tryz.f68, Tryz.func68, by rfl, by rfl⟩ ?_
  refine call_t D fun fl' H' D' st => ?_
  (repeat first | refine HReg.step ?_ | refine HCode.step ?_)
  refine hif (fun ho => ?_) (fun ho => ?_)
  · have ho : s.call.d.off = true := by simpa using ho
    (repeat first | refine HReg.step ?_ | refine HCode.step ?_)
    exact hdown fl' H' ho D' st
  · have ho : s.call.d.off = false := by simpa using ho
    (repeat first | refine HReg.step ?_ | refine HCode.step ?_)
    refine HLoad.one (v := .map (some r)) (by exact D'.phys.obj.rows.get (i := 0) rfl) ?_
    (repeat first | refine HReg.step ?_ | refine HCode.step ?_)
    obtain ⟨c, hm, _⟩ := D'.phys.map
    refine hlookup (ie := Tryz.t82) (z := .pointer none) Tryz.underlying62 Tryz.underlying9 rfl rfl hm (fun i e hi hek => ?_) (fun hnone => ?_)
    · rw [List.getElem?_map] at hi
      cases hf : fl'[i]? with
      | none => rw [hf] at hi; cases hi
      | some f =>
        rw [hf] at hi; cases hi
        (repeat first | refine HReg.step ?_ | refine HCode.step ?_)
        exact hyes fl' H' i f ho D' st hf hek (by rw [← show f.name = n from hek]; exact D'.get f (List.mem_of_getElem? hf))
    · (repeat first | refine HReg.step ?_ | refine HCode.step ?_)
      have hnn : ∀ f ∈ fl', f.name ≠ n := fun f hf => hnone f.ent (List.mem_map_of_mem hf)
      refine hno fl' H' ho ?_ D' st hnn
      cases hs : s.call.fs n with
      | none => rfl
      | some x =>
        obtain ⟨f, hf, he⟩ := D'.all n x hs
        exact absurd he (hnn f hf)
end
end Go.Proofs.YtfcmjomnpahllaaGreat
namespace Go.Proofs.YtfcmjomnpahllaaGreat
open Go Hv
set_option linter.unusedVariables false
set_option linter.unusedSimpArgs false
set_option maxRecDepth 10000
set_option maxHeartbeats 1000000
/-! Files that come, go and take other names. -/
structure Far (f f' : Fl) : Prop where
  p : f.p ≠ f'.p
  born : f.born ≠ f'.born
  name : f.name ≠ f'.name
  v : ∀ b ∈ vblk f.v, b ∉ vblk f'.v
theorem Far.symm {f f' : Fl} (h : Far f f') : Far f' f := ⟨Ne.symm h.p, Ne.symm h.born, Ne.symm h.name, fun b hb hb' => h.v b hb' hb⟩
theorem perm_erase {α : Type} : ∀ {l : List α} {i : Nat} {x : α}, l[i]? = some x → l.Perm (x :: l.eraseIdx i)
  | [], i, x, h => by simp at h
  | y :: l, 0, x, h => by cases h; exact List.Perm.refl _
  | y :: l, i + 1, x, h => by
    have h : l[i]? = some x := h
    exact ((perm_erase h).cons y).trans (List.Perm.swap x y _)
theorem perm_set {α : Type} : ∀ {l : List α} {i : Nat} (x : α), i < l.length → (l.set i x).Perm (x :: l.eraseIdx i)
  | [], i, x, h => by simp at h
  | y :: l, 0, x, h => List.Perm.refl _
  | y :: l, i + 1, x, h => by
    have h : i < l.length := by simpa using h
    exact ((perm_set x h).cons y).trans (List.Perm.swap x y _)
structure Each (H1 H : Heap) (f : Fl) : Prop where
  str : OwnRow H 84 1 (some ⟨f.p, 0, none⟩) 2 2 (scells f)
  sle : Sle 5 H f.v f.bytes
  syn : f.synced ≤ f.bytes.length
  lim : f.bytes.length ≤ 140737488355328
  newp : H1 f.p = none
  newv : ∀ b ∈ vblk f.v, H1 b = none
theorem pw_inj {β : Type} (h : Fl → β) : ∀ {fl : List Fl}, (fl.map h).Nodup ↔ fl.Pairwise fun f f' => h f ≠ h f'
  | fl => List.pairwise_map
theorem DiskP.pw {H1 H : Heap} {g r : Nat} {d : Fd} {fl : List Fl} (D : DiskP H1 H g r d fl) : fl.Pairwise Far := by
  have h1 := (pw_inj Fl.p).1 D.np
  have h2 := (pw_inj Fl.born).1 D.nb
  have h3 := (pw_inj Fl.name).1 D.nn
  have h4 : fl.Pairwise fun f f' => ∀ b ∈ vblk f.v, b ∉ vblk f'.v := by
    rw [List.pairwise_iff_getElem]
    intro i j hi hj hij
    exact D.grp.grp.apart i j fl[i].v fl[j].v (by omega) (by simp [hi]) (by simp [hj])
  exact (((h1.and h2).and h3).and h4).imp fun ⟨⟨⟨a, b⟩, c⟩, d⟩ => ⟨a, b, c, d⟩
theorem DiskP.each {H1 H : Heap} {g r : Nat} {d : Fd} {fl : List Fl} (D : DiskP H1 H g r d fl) : ∀ f ∈ fl, Each H1 H f := fun f hf => by
  obtain ⟨i, hi⟩ := List.getElem?_of_mem hf
  exact ⟨D.str f hf, D.grp.grp.ok i f.v f.bytes (by rw [List.getElem?_map, hi]; rfl) (by rw [List.getElem?_map, hi]; rfl), D.syn f hf, D.lim f hf, D.newp f hf, D.grp.new f.v (List.mem_map_of_mem hf)⟩
theorem DiskP.of {H1 H : Heap} {g r c : Nat} {d : Fd} {fl : List Fl} (obj : OwnRow H 64 1 (some ⟨g, 0, none⟩) 6 6 (dcells r d)) (hm : MapAt H r (fl.map Fl.ent) c) (hb : ∀ f ∈ fl, f.born < c) (each : ∀ f ∈ fl, Each H1 H f) (pw : fl.Pairwise Far) (base : Upd [] H1 H) (hg : H1 g = none) (hr : H1 r = none) : DiskP H1 H g r d fl := by
  have hat : ∀ {i : Nat} {v : Value}, (fl.map Fl.v)[i]? = some v → ∃ f, fl[i]? = some f ∧ f.v = v := fun {i v} h => by
    rw [List.getElem?_map] at h
    cases hf : fl[i]? with
    | none => rw [hf] at h; cases h
    | some f => rw [hf] at h; cases h; exact ⟨f, rfl, rfl⟩
  refine ⟨obj, ⟨c, hm, hb⟩, fun f hf => (each f hf).str, ⟨⟨by simp, fun i v l hv hl => ?_, fun i j v w hij hv hw => ?_⟩, fun v hv => ?_, base⟩, (pw_inj _).2 (pw.imp fun h => h.p), (pw_inj _).2 (pw.imp fun h => h.born), (pw_inj _).2 (pw.imp fun h => h.name), fun f hf => (each f hf).syn, fun f hf => (each f hf).lim, hg, hr, fun f hf => (each f hf).newp⟩
  · obtain ⟨f, hf, rfl⟩ := hat hv
    rw [List.getElem?_map, hf] at hl
    cases hl
    exact (each f (List.mem_of_getElem? hf)).sle
  · obtain ⟨f, hf, rfl⟩ := hat hv
    obtain ⟨f', hf', rfl⟩ := hat hw
    obtain ⟨h1, e1⟩ := List.getElem?_eq_some_iff.1 hf
    obtain ⟨h2, e2⟩ := List.getElem?_eq_some_iff.1 hf'
    have := List.pairwise_iff_getElem.1 pw
    rcases Nat.lt_or_gt_of_ne hij with h | h
    · have := this i j h1 h2 h
      rw [e1, e2] at this; exact this.v
    · have := this j i h2 h1 h
      rw [e1, e2] at this; exact this.symm.v
  · obtain ⟨f, hf, rfl⟩ := List.mem_map.1 hv
    exact (each f hf).newv
theorem Each.upd {H1 H H' : Heap} {S : List Nat} {f : Fl} (h : Each H1 H f) (u : Upd S H H') (hp : f.p ∉ S) (hv : ∀ b ∈ vblk f.v, b ∉ S) : Each H1 H' f :=
  ⟨h.str.upd u fun p hp' hb => by cases hp'; exact hp hb, h.sle.upd u hv, h.syn, h.lim, h.newp, h.newv⟩
/-- Only the map's own block is written: the files' blocks stay. -/
theorem DiskP.offr {H1 H H' : Heap} {g r : Nat} {d : Fd} {fl : List Fl} (D : DiskP H1 H g r d fl) (u : Upd [r] H H') : OwnRow H' 64 1 (some ⟨g, 0, none⟩) 6 6 (dcells r d) ∧ (∀ f ∈ fl, Each H1 H' f) ∧ Upd [] H1 H' := by
  obtain ⟨es, c, hr⟩ := D.mapc
  refine ⟨D.obj.upd u fun p hp hb => ?_, fun f hf => (D.each f hf).upd u (fun hb => ?_) (fun b hv hb => ?_), Upd.drop D.grp.upd u fun b hb => by rw [List.mem_singleton.1 hb]; exact D.newr⟩
  · cases hp
    obtain ⟨_, _, h⟩ := own_live D.obj
    have h2 : g = r := List.mem_singleton.1 hb
    rw [h2, hr] at h; cases h
  · obtain ⟨_, _, h⟩ := own_live (D.str f hf)
    rw [List.mem_singleton.1 hb, hr] at h; cases h
  · obtain ⟨_, _, h⟩ := D.vlive hf hv
    rw [List.mem_singleton.1 hb, hr] at h; cases h
theorem Stp.r {H H' : Heap} {g r : Nat} {fl fl' : List Fl} (u : Upd [r] H H') (hp : ∀ f' ∈ fl', ∃ f ∈ fl, f'.p = f.p ∧ f'.v = f.v) : Stp H H' g r fl fl' := by
  refine ⟨u.mono fun k hk => by rw [List.mem_singleton.1 hk]; exact mem_dblk.2 (.inr (.inl rfl)), fun b hb => .inl ?_⟩
  rcases mem_dblk.1 hb with h | h | ⟨f', hf', h⟩ | ⟨f', hf', h⟩
  · exact mem_dblk.2 (.inl h)
  · exact mem_dblk.2 (.inr (.inl h))
  · obtain ⟨f, hf, e1, e2⟩ := hp f' hf'
    exact mem_dblk.2 (.inr (.inr (.inl ⟨f, hf, by rw [h, e1]⟩)))
  · obtain ⟨f, hf, e1, e2⟩ := hp f' hf'
    exact mem_dblk.2 (.inr (.inr (.inr ⟨f, hf, by rw [← e2]; exact h⟩)))
/-- A file goes. -/
theorem DiskP.del {H1 H H' : Heap} {g r j c : Nat} {d : Fd} {fl : List Fl} (D : DiskP H1 H g r d fl) (hb : ∀ f ∈ fl, f.born < c) (hm : MapAt H' r ((fl.map Fl.ent).eraseIdx j) c) (u : Upd [r] H H') : DiskP H1 H' g r d (fl.eraseIdx j) ∧ Stp H H' g r fl (fl.eraseIdx j) := by
  obtain ⟨o, e, b⟩ := D.offr u
  have hs : ∀ f ∈ fl.eraseIdx j, f ∈ fl := fun f hf => List.mem_of_mem_eraseIdx hf
  exact ⟨DiskP.of o (by rw [map_eraseIdx]; exact hm) (fun f hf => hb f (hs f hf)) (fun f hf => e f (hs f hf)) (D.pw.sublist (List.eraseIdx_sublist _ _)) b D.newg D.newr, Stp.r u fun f hf => ⟨f, hs f hf, rfl, rfl⟩⟩
/-- A file comes. -/
theorem DiskP.add {H1 H H2 H' : Heap} {g r c p : Nat} {d : Fd} {fl : List Fl} {n : ByteArray} (D : DiskP H1 H g r d fl) (hb : ∀ f ∈ fl, f.born < c) (hp : H p = none) (o2 : OwnRow H2 84 1 (some ⟨p, 0, none⟩) 2 2 [.slice none 0 0, .int .i64 0]) (u2 : Upd [] H H2) (hm : MapAt H' r (fl.map Fl.ent ++ [⟨n, .pointer (some ⟨p, 0, none⟩), c⟩]) (c + 1)) (u : Upd [r] H2 H') (hn : ∀ f ∈ fl, f.name ≠ n) :
    DiskP H1 H' g r d (fl ++ [⟨n, p, .slice none 0 0, [], 0, c⟩]) ∧ Stp H H' g r fl (fl ++ [⟨n, p, .slice none 0 0, [], 0, c⟩]) := by
  have D2 := D.upd0 u2
  obtain ⟨o, e, b⟩ := D2.offr u
  obtain ⟨es, cc, hr⟩ := D2.mapc
  have hnp : ∀ b ∈ dblk g r fl, b ≠ p := fun b hb h => D.live b hb (by rw [h]; exact hp)
  refine ⟨DiskP.of o (by rw [List.map_append]; exact hm) (fun f hf => ?_) (fun f hf => ?_) ?_ b D.newg D.newr, ⟨?_, fun b hb => ?_⟩⟩
  · rcases List.mem_append.1 hf with h | h
    · have := hb f h; omega
    · rw [List.mem_singleton.1 h]; exact Nat.lt_succ_self c
  · rcases List.mem_append.1 hf with h | h
    · exact e f h
    · rw [List.mem_singleton.1 h]
      refine ⟨o2.upd u fun p' hp' hb' => ?_, ⟨none, 0, rfl, OwnRow.nil _ _ _⟩, Nat.le_refl _, by show 0 ≤ _; omega, Upd.none (S := []) D.grp.upd (by simp) hp, by simp [vblk]⟩
      cases hp'
      have : p = r := List.mem_singleton.1 hb'
      exact hnp r (mem_dblk.2 (.inr (.inl rfl))) this.symm
  · rw [List.pairwise_append]
    refine ⟨D.pw, by simp, fun f hf f' hf' => ?_⟩
    rw [List.mem_singleton.1 hf']
    exact ⟨hnp _ (mem_dblk.2 (.inr (.inr (.inl ⟨f, hf, rfl⟩)))), by have := hb f hf; show f.born ≠ c; omega, hn f hf, by simp [vblk]⟩
  · exact (u2.mono (by simp)).trans (u.mono fun k hk => by rw [List.mem_singleton.1 hk]; exact mem_dblk.2 (.inr (.inl rfl)))
  · rcases mem_dblk.1 hb with h | h | ⟨f, hf, h⟩ | ⟨f, hf, h⟩
    · exact .inl (mem_dblk.2 (.inl h))
    · exact .inl (mem_dblk.2 (.inr (.inl h)))
    · rcases List.mem_append.1 hf with h2 | h2
      · exact .inl (mem_dblk.2 (.inr (.inr (.inl ⟨f, h2, h⟩))))
      · rw [List.mem_singleton.1 h2] at h; rw [h]; exact .inr hp
    · rcases List.mem_append.1 hf with h2 | h2
      · exact .inl (mem_dblk.2 (.inr (.inr (.inr ⟨f, h2, h⟩))))
      · rw [List.mem_singleton.1 h2] at h; simp [vblk] at h
/-- A file takes another name: behind the others, or in another's place. -/
theorem DiskP.ren {H1 H H2 H' : Heap} {g r c j : Nat} {d : Fd} {fl : List Fl} {f : Fl} {n : ByteArray} (D : DiskP H1 H g r d fl) (hb : ∀ f ∈ fl, f.born < c) (hj : fl[j]? = some f) (u2 : Upd [r] H H2) (u : Upd [r] H2 H') (hm : MapAt H' r ((fl.map Fl.ent).eraseIdx j ++ [⟨n, .pointer (some ⟨f.p, 0, none⟩), c⟩]) (c + 1)) (hn : ∀ f ∈ fl.eraseIdx j, f.name ≠ n) :
    DiskP H1 H' g r d (fl.eraseIdx j ++ [{ f with name := n, born := c }]) ∧ Stp H H' g r fl (fl.eraseIdx j ++ [{ f with name := n, born := c }]) := by
  obtain ⟨o, e, b⟩ := D.offr (u2.trans u)
  have hs : ∀ f ∈ fl.eraseIdx j, f ∈ fl := fun f hf => List.mem_of_mem_eraseIdx hf
  have hf := List.mem_of_getElem? hj
  have pw := (perm_erase hj).pairwise_iff (fun h => Far.symm h) |>.1 D.pw
  rw [List.pairwise_cons] at pw
  refine ⟨DiskP.of o (by rw [List.map_append, map_eraseIdx]; exact hm) (fun f' hf' => ?_) (fun f' hf' => ?_) ?_ b D.newg D.newr, Stp.r (u2.trans u) fun f' hf' => ?_⟩
  · rcases List.mem_append.1 hf' with h | h
    · have := hb f' (hs f' h); omega
    · rw [List.mem_singleton.1 h]; exact Nat.lt_succ_self c
  · rcases List.mem_append.1 hf' with h | h
    · exact e f' (hs f' h)
    · rw [List.mem_singleton.1 h]
      have := e f hf
      exact ⟨this.str, this.sle, this.syn, this.lim, this.newp, this.newv⟩
  · rw [List.pairwise_append]
    refine ⟨D.pw.sublist (List.eraseIdx_sublist _ _), by simp, fun x hx y hy => ?_⟩
    rw [List.mem_singleton.1 hy]
    have h := (pw.1 x hx).symm
    exact ⟨h.p, by have := hb x (hs x hx); show x.born ≠ c; omega, hn x hx, h.v⟩
  · rcases List.mem_append.1 hf' with h | h
    · exact ⟨f', hs f' h, rfl, rfl⟩
    · rw [List.mem_singleton.1 h]; exact ⟨f, hf, rfl, rfl⟩
theorem DiskP.renIn {H1 H H2 H' : Heap} {g r c j k : Nat} {d : Fd} {fl : List Fl} {f q : Fl} {n : ByteArray} (D : DiskP H1 H g r d fl) (hb : ∀ f ∈ fl, f.born < c) (hj : fl[j]? = some f) (hk : (fl.eraseIdx j)[k]? = some q) (hq : q.name = n) (u2 : Upd [r] H H2) (u : Upd [r] H2 H') (hm : MapAt H' r (((fl.map Fl.ent).eraseIdx j).set k ⟨n, .pointer (some ⟨f.p, 0, none⟩), q.born⟩) c) :
    DiskP H1 H' g r d ((fl.eraseIdx j).set k { f with name := n, born := q.born }) ∧ Stp H H' g r fl ((fl.eraseIdx j).set k { f with name := n, born := q.born }) := by
  obtain ⟨o, e, b⟩ := D.offr (u2.trans u)
  have hs : ∀ f ∈ fl.eraseIdx j, f ∈ fl := fun f hf => List.mem_of_mem_eraseIdx hf
  have hf := List.mem_of_getElem? hj
  have hl := (List.getElem?_eq_some_iff.1 hk).1
  have pw := (perm_erase hj).pairwise_iff (fun h => Far.symm h) |>.1 D.pw
  rw [List.pairwise_cons] at pw
  have pw2 := (perm_erase hk).pairwise_iff (fun h => Far.symm h) |>.1 pw.2
  rw [List.pairwise_cons] at pw2
  have hmem : ∀ x ∈ (fl.eraseIdx j).set k { f with name := n, born := q.born }, x = { f with name := n, born := q.born } ∨ x ∈ fl := fun x hx => by
    rcases List.mem_or_eq_of_mem_set hx with h | h
    · exact .inr (hs x h)
    · exact .inl h
  refine ⟨DiskP.of o (by rw [List.map_set, map_eraseIdx]; exact hm) (fun f' hf' => ?_) (fun f' hf' => ?_) ?_ b D.newg D.newr, Stp.r (u2.trans u) fun f' hf' => ?_⟩
  · rcases hmem f' hf' with rfl | h
    · exact hb q (hs q (List.mem_of_getElem? hk))
    · exact hb f' h
  · rcases hmem f' hf' with rfl | h
    · have := e f hf
      exact ⟨this.str, this.sle, this.syn, this.lim, this.newp, this.newv⟩
    · exact e f' h
  · refine ((perm_set _ hl).pairwise_iff (fun h => Far.symm h)).2 ?_
    rw [List.pairwise_cons]
    refine ⟨fun x hx => ?_, pw2.2⟩
    have h1 := pw.1 x (List.mem_of_mem_eraseIdx hx)
    have h2 := pw2.1 x hx
    exact ⟨h1.p, h2.born, by show n ≠ x.name; rw [← hq]; exact h2.name, h1.v⟩
  · rcases hmem f' hf' with rfl | h
    · exact ⟨f, hf, rfl, rfl⟩
    · exact ⟨f', h, rfl, rfl⟩
end Go.Proofs.YtfcmjomnpahllaaGreat
namespace Go.Proofs.YtfcmjomnpahllaaGreat
open Go Hv
set_option linter.unusedVariables false
set_option linter.unusedSimpArgs false
set_option maxRecDepth 10000
set_option maxHeartbeats 4000000
/-! The methods, as they change what a disk stands for. -/
def St.put (s : St) (n : ByteArray) (x : List UInt8 × Nat) : St := { s with fs := fun k => if k = n then some x else s.fs k, cnt := if (s.fs n).isSome then s.cnt else s.cnt + 1 }
def St.del (s : St) (n : ByteArray) : St := { s with fs := fun k => if k = n then none else s.fs k, cnt := if (s.fs n).isSome then s.cnt - 1 else s.cnt }
def St.upp (s : St) : St := { s with d := { s.d with off := false, armed := false } }
def St.full (s : St) (n : Int) : St := { s with d := { s.d with refuses := max n 0 } }
def St.arms (s : St) (n keep : Int) : St := { s with d := { s.d with armed := decide (0 ≤ n), calls := n, keep := keep } }
section
variable {H1 H : Heap} {g r : Nat} {s : St} {fl : List Fl} {K : Value → Heap → Prop}
theorem up_t (D : DiskAt H1 H g r s fl) (hk : ∀ H', DiskAt H1 H' g r s.upp fl → Stp H H' g r fl fl → K (.tuple #[]) H') : HCalls Tryz.prog 25 [.pointer (some ⟨g, 0, none⟩)] H K := by
  refine hcalls (fn := Tryz.f25) [] mixed Tryz.func25 rfl rfl rfl ?_
  have P := D.phys
  (repeat first | refine HReg.step ?_ | refine HCode.step ?_)
  refine store_row P.obj (v := .bool false) rfl (i := 1) (by decide) (by rfl) fun H4 o4 u4 => ?_
  have P4 : DiskP H1 H4 g r { s.d with off := false } fl := P.setd o4 u4
  (repeat first | refine HReg.step ?_ | refine HCode.step ?_)
  refine store_row P4.obj (v := .bool false) rfl (i := 3) (by decide) (by rfl) fun H5 o5 u5 => ?_
  have P5 : DiskP H1 H5 g r { s.d with off := false, armed := false } fl := P4.setd o5 u5
  (repeat first | refine HReg.step ?_ | refine HCode.step ?_)
  exact hk H5 ⟨P5, D.get, D.all, D.cnt, fun h => (by cases h), D.lo, D.hi, D.rhi⟩ ((Stp.g u4).trans (Stp.g u5))
theorem down_t (D : DiskAt H1 H g r s fl) (hk : K (.bool s.d.off) H) : HCalls Tryz.prog 9 [.pointer (some ⟨g, 0, none⟩)] H K := by
  refine hcalls (fn := Tryz.f9) [] mixed Tryz.func9 rfl rfl rfl ?_
  (repeat first | refine HReg.step ?_ | refine HCode.step ?_)
  refine HLoad.one (v := .bool s.d.off) (by exact D.phys.obj.rows.get (i := 1) rfl) ?_
  (repeat first | refine HReg.step ?_ | refine HCode.step ?_)
  exact hk
theorem full_t {n : Int} (D : DiskAt H1 H g r s fl) (hn : n ≤ 9223372036854775807) (hk : ∀ H', DiskAt H1 H' g r (s.full n) fl → Stp H H' g r fl fl → K (.tuple #[]) H') : HCalls Tryz.prog 21 [.pointer (some ⟨g, 0, none⟩), .int .i64 n] H K := by
  refine hcalls (fn := Tryz.f21) [] mixed Tryz.func21 rfl rfl rfl ?_
  have P := D.phys
  (repeat first | refine HReg.step ?_ | refine HCode.step ?_)
  rw [ite_mx, ite_max]
  refine store_row P.obj (v := .int .i64 (max n 0)) rfl (i := 2) (by decide) (by rfl) fun H4 o4 u4 => ?_
  have P4 : DiskP H1 H4 g r { s.d with refuses := max n 0 } fl := P.setd o4 u4
  (repeat first | refine HReg.step ?_ | refine HCode.step ?_)
  exact hk H4 ⟨P4, D.get, D.all, D.cnt, D.arm, D.lo, D.hi, by show max n 0 ≤ _; omega⟩ (Stp.g u4)
theorem arm_t {n keep : Int} (D : DiskAt H1 H g r s fl) (h1 : -9223372036854775808 ≤ n) (h2 : n ≤ 9223372036854775807) (hk : ∀ H', DiskAt H1 H' g r (s.arms n keep) fl → Stp H H' g r fl fl → K (.tuple #[]) H') : HCalls Tryz.prog 19 [.pointer (some ⟨g, 0, none⟩), .int .i64 n, .int .i64 keep] H K := by
  refine hcalls (fn := Tryz.f19) [] mixed Tryz.func19 rfl rfl rfl ?_
  have P := D.phys
  have hd : (!ltB n 0) = decide (0 ≤ n) := by rw [Bool.eq_iff_iff, not_ltB_true]; simp
  (repeat first | refine HReg.step ?_ | refine HCode.step ?_)
  rw [hd]
  refine store_row P.obj (v := .bool (decide (0 ≤ n))) rfl (i := 3) (by decide) (by rfl) fun H4 o4 u4 => ?_
  have P4 : DiskP H1 H4 g r { s.d with armed := decide (0 ≤ n) } fl := P.setd o4 u4
  (repeat first | refine HReg.step ?_ | refine HCode.step ?_)
  refine store_row P4.obj (v := .int .i64 n) rfl (i := 4) (by decide) (by rfl) fun H5 o5 u5 => ?_
  have P5 : DiskP H1 H5 g r { s.d with armed := decide (0 ≤ n), calls := n } fl := P4.setd o5 u5
  (repeat first | refine HReg.step ?_ | refine HCode.step ?_)
  refine store_row P5.obj (v := .int .i64 keep) rfl (i := 5) (by decide) (by rfl) fun H6 o6 u6 => ?_
  have P6 : DiskP H1 H6 g r { s.d with armed := decide (0 ≤ n), calls := n, keep := keep } fl := P5.setd o6 u6
  (repeat first | refine HReg.step ?_ | refine HCode.step ?_)
  exact hk H6 ⟨P6, D.get, D.all, D.cnt, fun h => of_decide_eq_true h, h1, h2, D.rhi⟩ (((Stp.g u4).trans (Stp.g u5)).trans (Stp.g u6))
/-- A file's bytes or its synced part change. -/
theorem DiskAt.setf {H' : Heap} {j : Nat} {f f' : Fl} (D : DiskAt H1 H g r s fl) (hj : fl[j]? = some f) (e1 : f'.name = f.name) (P : DiskP H1 H' g r s.d (fl.set j f')) : DiskAt H1 H' g r (s.put f.name (f'.bytes, f'.synced)) (fl.set j f') := by
  have hf := List.mem_of_getElem? hj
  have hl := (List.getElem?_eq_some_iff.1 hj).1
  have hs : (s.fs f.name).isSome = true := by rw [D.get f hf]; rfl
  have hat : ∀ x ∈ fl.set j f', x = f' ∨ (x ∈ fl ∧ x.name ≠ f.name) := fun x hx => by
    obtain ⟨i, hi⟩ := List.getElem?_of_mem hx
    rw [List.getElem?_set] at hi
    split at hi
    · cases hi; exact .inl rfl
    · rename_i hji
      refine .inr ⟨List.mem_of_getElem? hi, fun he => hji ?_⟩
      exact (List.getElem?_inj (i := j) (j := i) (by simpa using hl) D.phys.nn).1 (by rw [List.getElem?_map, List.getElem?_map, hi, hj]; show some f.name = some x.name; rw [he])
  refine ⟨P, fun x hx => ?_, fun k x hkx => ?_, ?_, D.arm, D.lo, D.hi, D.rhi⟩
  · rcases hat x hx with rfl | ⟨h, hn⟩
    · show (if x.name = f.name then _ else _) = _
      rw [if_pos e1]
    · show (if x.name = f.name then _ else _) = _
      rw [if_neg hn]; exact D.get x h
  · have hkx : (if k = f.name then some (f'.bytes, f'.synced) else s.fs k) = some x := hkx
    split at hkx
    · rename_i hk; exact ⟨f', List.mem_of_getElem? (i := j) (by rw [List.getElem?_set, if_pos rfl, if_pos hl]), by rw [e1, hk]⟩
    · rename_i hk
      obtain ⟨y, hy, he⟩ := D.all k x hkx
      obtain ⟨i, hi⟩ := List.getElem?_of_mem hy
      have hij : j ≠ i := fun h => by subst h; rw [hj] at hi; cases hi; exact hk he.symm
      exact ⟨y, List.mem_of_getElem? (i := i) (by rw [List.getElem?_set, if_neg hij]; exact hi), he⟩
  · show (if (s.fs f.name).isSome = true then s.cnt else s.cnt + 1) = _
    rw [if_pos hs, List.length_set]; exact D.cnt
theorem sync_t {n : ByteArray} (D : DiskAt H1 H g r s fl)
    (hk : ∀ e s' fl' H', DiskAt H1 H' g r s' fl' → Stp H H' g r fl fl' → (s.call.d.off = true ∧ e = 62 ∧ s' = s.call ∨ s.call.d.off = false ∧ (s.call.fs n = none ∧ e = 61 ∧ s' = s.call ∨ ∃ x y, s.call.fs n = some (x, y) ∧ e = 0 ∧ s' = s.call.put n (x, x.length))) → K (.int .i64 e) H') :
    HCalls Tryz.prog 40 [.pointer (some ⟨g, 0, none⟩), .string n] H K := by
  refine hcalls (fn := Tryz.f40) [] mixed Tryz.func40 rfl rfl rfl ?_
  (repeat first | refine HReg.step ?_ | refine HCode.step ?_)
  refine HCall.mk ⟨Tryz.f44, Tryz.func44, by rfl, by rfl⟩ ?_
  refine find_t D (fun fl' H' ho D' st => ?_) (fun fl' H' ho hn D' st hne => ?_) (fun fl' H' j f ho D' st hj hfn hget => ?_)
  · (repeat first | refine HReg.step ?_ | refine HCode.step ?_)
    refine hif (fun h => absurd (eqB_true.1 h) (by decide)) (fun _ => ?_)
    (repeat first | refine HReg.step ?_ | refine HCode.step ?_)
    exact hk 62 _ fl' H' D' st (.inl ⟨ho, rfl, rfl⟩)
  · (repeat first | refine HReg.step ?_ | refine HCode.step ?_)
    refine hif (fun h => absurd (eqB_true.1 h) (by decide)) (fun _ => ?_)
    (repeat first | refine HReg.step ?_ | refine HCode.step ?_)
    exact hk 61 _ fl' H' D' st (.inr ⟨ho, .inl ⟨hn, rfl, rfl⟩⟩)
  · have hf := List.mem_of_getElem? hj
    obtain ⟨va, vc, hfv, ov⟩ := (D'.phys.each f hf).sle
    have so : OwnRow H' 84 1 (some ⟨f.p, 0, none⟩) 2 2 [.slice va f.bytes.length vc, .int .i64 (f.synced : Int)] := by
      have := D'.phys.str f hf
      unfold scells at this
      rw [hfv] at this
      exact this
    (repeat first | refine HReg.step ?_ | refine HCode.step ?_)
    refine hif (fun _ => ?_) (fun h => absurd rfl (eqB_false.1 h))
    (repeat first | refine HReg.step ?_ | refine HCode.step ?_)
    refine HLoad.one (v := .slice va f.bytes.length vc) (by exact so.rows.get (i := 0) rfl) ?_
    (repeat first | refine HReg.step ?_ | refine HCode.step ?_)
    refine store_row so (v := .int .i64 (f.bytes.length : Int)) rfl (i := 1) (by decide) (by rfl) fun H7 o7 u7 => ?_
    obtain ⟨P7, stp7⟩ := D'.phys.stS (j := j) (f := f) (n := f.bytes.length) hj (by rw [hfv]; exact o7) u7 (Nat.le_refl _)
    (repeat first | refine HReg.step ?_ | refine HCode.step ?_)
    subst hfn
    have D7 := D'.setf (f' := { f with synced := f.bytes.length }) hj rfl P7
    exact hk 0 _ _ H7 D7 (st.trans stp7) (.inr ⟨ho, .inr ⟨f.bytes, f.synced, hget, rfl, rfl⟩⟩)
theorem dread_t {n : ByteArray} (D : DiskAt H1 H g r s fl)
    (hno : ∀ e fl' H', DiskAt H1 H' g r s.call fl' → Stp H H' g r fl fl' → (s.call.d.off = true ∧ e = 62 ∨ s.call.d.off = false ∧ s.call.fs n = none ∧ e = 61) → K (.tuple #[.slice none 0 0, .int .i64 e]) H')
    (hyes : ∀ x y a c fl' H2 H', s.call.d.off = false → s.call.fs n = some (x, y) → DiskAt H1 H2 g r s.call fl' → Stp H H2 g r fl fl' → Made H2 H' 5 1 a x.length c (u8s x) → K (.tuple #[.slice a x.length c, .int .i64 0]) H') :
    HCalls Tryz.prog 31 [.pointer (some ⟨g, 0, none⟩), .string n] H K := by
  refine hcalls (fn := Tryz.f31) [] mixed Tryz.func31 rfl rfl rfl ?_
  (repeat first | refine HReg.step ?_ | refine HCode.step ?_)
  refine HCall.mk ⟨Tryz.f44, Tryz.func44, by rfl, by rfl⟩ ?_
  refine find_t D (fun fl' H' ho D' st => ?_) (fun fl' H' ho hn D' st hne => ?_) (fun fl' H' j f ho D' st hj hfn hget => ?_)
  · (repeat first | refine HReg.step ?_ | refine HCode.step ?_)
    refine hif (fun _ => ?_) (fun h => absurd (not_eqB_false.1 h) (by decide))
    (repeat first | refine HReg.step ?_ | refine HCode.step ?_)
    exact hno 62 fl' H' D' st (.inl ⟨ho, rfl⟩)
  · (repeat first | refine HReg.step ?_ | refine HCode.step ?_)
    refine hif (fun _ => ?_) (fun h => absurd (not_eqB_false.1 h) (by decide))
    (repeat first | refine HReg.step ?_ | refine HCode.step ?_)
    exact hno 61 fl' H' D' st (.inr ⟨ho, hn, rfl⟩)
  · have hf := List.mem_of_getElem? hj
    obtain ⟨va, vc, hfv, ov⟩ := (D'.phys.each f hf).sle
    have hlim := D'.phys.lim f hf
    have so : OwnRow H' 84 1 (some ⟨f.p, 0, none⟩) 2 2 [.slice va f.bytes.length vc, .int .i64 (f.synced : Int)] := by
      have := D'.phys.str f hf
      unfold scells at this
      rw [hfv] at this
      exact this
    (repeat first | refine HReg.step ?_ | refine HCode.step ?_)
    refine hif (fun h => absurd rfl (not_eqB_true.1 h)) (fun _ => ?_)
    (repeat first | refine HReg.step ?_ | refine HCode.step ?_)
    refine HLoad.one (v := .slice va f.bytes.length vc) (by exact so.rows.get (i := 0) rfl) ?_
    (repeat first | refine HReg.step ?_ | refine HCode.step ?_)
    refine HCall.mk ⟨Tryz.f43, Tryz.func43, by rfl, by rfl⟩ ?_
    refine clone_t ov.rows rfl hlim fun a5 c5 H5 m5 => ?_
    (repeat first | refine HReg.step ?_ | refine HCode.step ?_)
    exact hyes f.bytes f.synced a5 c5 fl' H' H5 ho hget D' st m5
end
end Go.Proofs.YtfcmjomnpahllaaGreat
namespace Go.Proofs.YtfcmjomnpahllaaGreat
open Go Hv
set_option linter.unusedVariables false
set_option linter.unusedSimpArgs false
set_option maxRecDepth 10000
set_option maxHeartbeats 4000000
def St.append (s : St) (n : ByteArray) (b : List UInt8) : Int × St :=
  let t := s.call
  if t.d.off then (62, t)
  else if ¬ (1 ≤ n.size ∧ n.size ≤ 32) then (1, t)
  else if t.fs n = none ∧ 16 ≤ t.cnt then (3, t)
  else if 0 < b.length ∧ 0 < t.d.refuses then (60, { t with d := { t.d with refuses := t.d.refuses - 1 } })
  else (0, t.put n (((t.fs n).getD ([], 0)).1 ++ b, ((t.fs n).getD ([], 0)).2))
theorem St.append_fresh {s : St} {n : ByteArray} {ys : List UInt8} (hoff : s.call.d.off = false) (h1 : ¬ ¬ (1 ≤ n.size ∧ n.size ≤ 32)) (h2 : ¬ (s.call.fs n = none ∧ 16 ≤ s.call.cnt)) (h34 : ¬ (0 < ys.length ∧ 0 < s.call.d.refuses)) (hnn : s.call.fs n = none) : s.append n ys = (0, s.call.put n (ys, 0)) := by
  unfold St.append
  dsimp only
  rw [hoff, if_neg (by simp), if_neg h1, if_neg h2, if_neg h34, hnn]; rfl
theorem St.append_grown {s : St} {n : ByteArray} {ys x : List UInt8} {y : Nat} (hoff : s.call.d.off = false) (h1 : ¬ ¬ (1 ≤ n.size ∧ n.size ≤ 32)) (h2 : ¬ (s.call.fs n = none ∧ 16 ≤ s.call.cnt)) (h34 : ¬ (0 < ys.length ∧ 0 < s.call.d.refuses)) (hget : s.call.fs n = some (x, y)) : s.append n ys = (0, s.call.put n (x ++ ys, y)) := by
  unfold St.append
  dsimp only
  rw [hoff, if_neg (by simp), if_neg h1, if_neg h2, if_neg h34, hget]; rfl
section
variable {H1 H : Heap} {g r : Nat} {s : St} {fl : List Fl} {K : Value → Heap → Prop}
theorem off_row {H H' : Heap} {S : List Nat} {b : Option Addr} {xs : List Value} (h : RowAt H b xs) (u : Upd S H H') (ho : Off S b) : RowAt H' b xs := h.upd u (.inr ho)
theorem off_mono {S T : List Nat} {b : Option Addr} (ho : Off T b) (h : ∀ k ∈ S, k ∈ T) : Off S b := fun p hp hb => ho p hp (h _ hb)
theorem DiskAt.addf {H' : Heap} {n : ByteArray} {f : Fl} (D : DiskAt H1 H g r s fl) (P : DiskP H1 H' g r s.d (fl ++ [f])) (hn : f.name = n) (hs : s.fs n = none) : DiskAt H1 H' g r (s.put n (f.bytes, f.synced)) (fl ++ [f]) := by
  have hne : ∀ x ∈ fl, x.name ≠ n := fun x hx he => by have := D.get x hx; rw [he, hs] at this; cases this
  refine ⟨P, fun x hx => ?_, fun k x hkx => ?_, ?_, D.arm, D.lo, D.hi, D.rhi⟩
  · show (if x.name = n then _ else _) = _
    rcases List.mem_append.1 hx with h | h
    · rw [if_neg (hne x h)]; exact D.get x h
    · rw [List.mem_singleton.1 h, if_pos hn]
  · have hkx : (if k = n then some (f.bytes, f.synced) else s.fs k) = some x := hkx
    split at hkx
    · rename_i hk; exact ⟨f, by simp, by rw [hn, hk]⟩
    · obtain ⟨y, hy, he⟩ := D.all k x hkx
      exact ⟨y, by simp [hy], he⟩
  · show (if (s.fs n).isSome = true then s.cnt else s.cnt + 1) = _
    rw [hs, if_neg (by simp), List.length_append, D.cnt]; rfl
theorem append_t {n : ByteArray} {b : Option Addr} {m c : Nat} {ys : List UInt8} (D : DiskAt H1 H g r s fl) (hy : RowAt H b (u8s ys)) (hm : ys.length = m) (ho : Off (dblk g r fl) b) (hlim : ∀ x y, s.call.fs n = some (x, y) → x.length + m ≤ 140737488355328) (hlim0 : m ≤ 140737488355328)
    (hk : ∀ fl' H', DiskAt H1 H' g r (s.append n ys).2 fl' → Stp H H' g r fl fl' → K (.int .i64 (s.append n ys).1) H') : HCalls Tryz.prog 23 [.pointer (some ⟨g, 0, none⟩), .string n, .slice b m c] H K := by
  refine hcalls (fn := Tryz.f23) [] mixed Tryz.func23 rfl rfl rfl ?_
  (repeat first | refine HReg.step ?_ | refine HCode.step ?_)
  refine HCall.mk ⟨Tryz.f44, Tryz.func44, by rfl, by rfl⟩ ?_
  refine find_t D (fun fl3 H3 hoff D3 st => ?_) (fun fl3 H3 hoff hnn D3 st hne => ?_) (fun fl3 H3 j f hoff D3 st hj hfn hget => ?_)
  · have e : s.append n ys = (62, s.call) := by unfold St.append; simp [hoff]
    rw [e] at hk
    (repeat first | refine HReg.step ?_ | refine HCode.step ?_)
    refine hif (fun _ => ?_) (fun h => absurd rfl (eqB_false.1 h))
    (repeat first | refine HReg.step ?_ | refine HCode.step ?_)
    exact hk fl3 H3 D3 st
  · have hy3 := off_row hy st.upd ho
    (repeat first | refine HReg.step ?_ | refine HCode.step ?_)
    refine hif (fun h => absurd (eqB_true.1 h) (by decide)) (fun _ => ?_)
    (repeat first | refine HReg.step ?_ | refine HCode.step ?_)
    refine HCall.mk ⟨Tryz.f45, Tryz.func45, by rfl, by rfl⟩ ?_
    refine named_t ?_
    (repeat first | refine HReg.step ?_ | refine HCode.step ?_)
    refine hif (fun h1 => ?_) (fun h1 => ?_)
    · have h1 : ¬ (1 ≤ n.size ∧ n.size ≤ 32) := not_dec_true h1
      have e : s.append n ys = (1, s.call) := by unfold St.append; simp only [hoff, Bool.false_eq_true, if_false, if_pos h1]
      rw [e] at hk
      (repeat first | refine HReg.step ?_ | refine HCode.step ?_)
      exact hk fl3 H3 D3 st
    have h1 : ¬ ¬ (1 ≤ n.size ∧ n.size ≤ 32) := fun h => h (not_dec_false h1)
    (repeat first | refine HReg.step ?_ | refine HCode.step ?_)
    refine hif (fun _ => ?_) (fun h => absurd rfl (eqB_false.1 h))
    (repeat first | refine HReg.step ?_ | refine HCode.step ?_)
    refine HLoad.one (v := .map (some r)) (by exact D3.phys.obj.rows.get (i := 0) rfl) ?_
    (repeat first | refine HReg.step ?_ | refine HCode.step ?_)
    obtain ⟨cc, hm3, hb3⟩ := D3.phys.map
    refine hmaplen Tryz.underlying62 hm3 ?_
    have hcl : ((fl3.map Fl.ent).length : Int) = (s.call.cnt : Int) := by rw [List.length_map, D3.cnt]
    rw [hcl]
    (repeat first | refine HReg.step ?_ | refine HCode.step ?_)
    refine hif (fun h2 => ?_) (fun h2 => ?_)
    · have h2 := not_ltB_true.1 h2
      have h2 : s.call.fs n = none ∧ 16 ≤ s.call.cnt := ⟨hnn, by omega⟩
      have e : s.append n ys = (3, s.call) := by unfold St.append; simp only [hoff, Bool.false_eq_true, if_false, if_neg h1, if_pos h2]
      rw [e] at hk
      (repeat first | refine HReg.step ?_ | refine HCode.step ?_)
      exact hk fl3 H3 D3 st
    have h2 := not_ltB_false.1 h2
    have h2 : ¬ (s.call.fs n = none ∧ 16 ≤ s.call.cnt) := fun h => by omega
    (repeat first | refine HReg.step ?_ | refine HCode.step ?_)
    refine hif (fun h3 => ?_) (fun h3 => ?_)
    · have h3 := ltB_true.1 h3
      (repeat first | refine HReg.step ?_ | refine HCode.step ?_)
      refine HLoad.one (v := .int .i64 s.call.d.refuses) (by exact D3.phys.obj.rows.get (i := 2) rfl) ?_
      (repeat first | refine HReg.step ?_ | refine HCode.step ?_)
      refine hif (fun h4 => ?_) (fun h4 => ?_)
      · skip
        have h4 := ltB_true.1 h4
        have h34 : 0 < ys.length ∧ 0 < s.call.d.refuses := ⟨by omega, h4⟩
        have e : s.append n ys = (60, { s.call with d := { s.call.d with refuses := s.call.d.refuses - 1 } }) := by unfold St.append; simp only [hoff, Bool.false_eq_true, if_false, if_neg h1, if_neg h2, if_pos h34]
        rw [e] at hk
        have hrr := D3.rhi
        have hw : wr .i64 (s.call.d.refuses - 1) = s.call.d.refuses - 1 := wr_i64 (by omega) (by omega)
        (repeat first | refine HReg.step ?_ | refine HCode.step ?_)
        refine HLoad.one (v := .int .i64 s.call.d.refuses) (by exact D3.phys.obj.rows.get (i := 2) rfl) ?_
        (repeat first | refine HReg.step ?_ | refine HCode.step ?_)
        rw [hw]
        refine store_row D3.phys.obj (v := .int .i64 (s.call.d.refuses - 1)) rfl (i := 2) (by decide) (by rfl) fun H4 o4 u4 => ?_
        have P4 : DiskP H1 H4 g r { s.call.d with refuses := s.call.d.refuses - 1 } fl3 := D3.phys.setd o4 u4
        (repeat first | refine HReg.step ?_ | refine HCode.step ?_)
        exact hk fl3 H4 ⟨P4, D3.get, D3.all, D3.cnt, D3.arm, D3.lo, D3.hi, by show s.call.d.refuses - 1 ≤ _; omega⟩ (st.trans (Stp.g u4))
      · have h4 := ltB_false.1 h4
        have h34 : ¬ (0 < ys.length ∧ 0 < s.call.d.refuses) := fun h => by omega
        have e : s.append n ys = (0, s.call.put n (ys, 0)) := St.append_fresh hoff h1 h2 h34 hnn
        rw [e] at hk
        (repeat first | refine HReg.step ?_ | refine HCode.step ?_)
        refine hif (fun _ => ?_) (fun h => absurd rfl (eqB_false.1 h))
        (repeat first | refine HReg.step ?_ | refine HCode.step ?_)
        refine HNew.mk fun q hq => ?_
        have u4 : Upd [] H3 (H3.upd q (.cells [Value.slice none 0 0, .int .i64 0].toArray 84)) := Upd.new hq _
        have o4 : OwnRow (H3.upd q (.cells [Value.slice none 0 0, .int .i64 0].toArray 84)) 84 1 (some ⟨q, 0, none⟩) 2 2 [.slice none 0 0, .int .i64 0] := OwnRow.lit (upd_same _ _ _) rfl
        have D4 := D3.upd0 u4
        (repeat first | refine HReg.step ?_ | refine HCode.step ?_)
        refine HLoad.one (v := .map (some r)) (by exact D4.phys.obj.rows.get (i := 0) rfl) ?_
        (repeat first | refine HReg.step ?_ | refine HCode.step ?_)
        have hm4 := mapAt_upd hm3 u4 (by simp)
        refine hmapUpdate Tryz.underlying62 Tryz.underlying9 hm4 (fun i x H5 hi hx _ _ => ?_) (fun H5 _ hm5 u5 => ?_)
        · rw [List.getElem?_map] at hi
          cases hf : fl3[i]? with
          | none => rw [hf] at hi; cases hi
          | some f => rw [hf] at hi; cases hi; exact absurd hx (hne f (List.mem_of_getElem? hf))
        obtain ⟨P5, st5⟩ := D3.phys.add hb3 hq o4 u4 hm5 u5 hne
        have hj : (fl3 ++ [(⟨n, q, .slice none 0 0, [], 0, cc⟩ : Fl)])[fl3.length]? = some ⟨n, q, .slice none 0 0, [], 0, cc⟩ := by simp
        have so5 := P5.str _ (List.mem_of_getElem? hj)
        have st35 := st.trans st5
        have hy5 := off_row hy st35.upd ho
        (repeat first | refine HReg.step ?_ | refine HCode.step ?_)
        refine HLoad.one (v := .slice none 0 0) (by exact so5.rows.get (i := 0) rfl) ?_
        (repeat first | refine HReg.step ?_ | refine HCode.step ?_)
        refine append_own (xs := []) (OwnRow.nil _ _ _) hy5 hm (by omega) fun a6 c6 H6 o6 u6 f6 => ?_
        rw [Nat.zero_add] at o6
        have u6 : Upd [] H5 H6 := u6
        have so6 := so5.upd u6 (Off.nil _)
        have ea : ∀ k, (Value.slice a6 (0 + m) k) = .slice a6 m k := fun k => by rw [Nat.zero_add]
        rw [ea]
        (repeat first | refine HReg.step ?_ | refine HCode.step ?_)
        refine store_row so6 (v := .slice a6 m c6) rfl (i := 0) (by decide) (by rfl) fun H7 o7 u7 => ?_
        obtain ⟨P7, st7⟩ := P5.stV (v' := .slice a6 m c6) (l' := ys) hj (u6.mono (by simp)) ⟨a6, c6, by rw [hm], by rw [hm]; exact o6⟩ (fun b hb => .inr (by
          rw [vblk_slice] at hb
          obtain ⟨p, hp, rfl⟩ := blk_of hb
          rcases f6 p hp with h | h
          · cases h
          · exact h)) o7 u7 (Nat.zero_le _) (by omega)
        rw [show (fl3 ++ [(⟨n, q, .slice none 0 0, [], 0, cc⟩ : Fl)]).set fl3.length ⟨n, q, .slice a6 m c6, ys, 0, cc⟩ = fl3 ++ [⟨n, q, .slice a6 m c6, ys, 0, cc⟩] from by simp] at P7 st7
        (repeat first | refine HReg.step ?_ | refine HCode.step ?_)
        exact hk _ H7 (D3.addf P7 rfl hnn) (st35.trans st7)
    · have h3 := ltB_false.1 h3
      have h34 : ¬ (0 < ys.length ∧ 0 < s.call.d.refuses) := fun h => by omega
      have e : s.append n ys = (0, s.call.put n (ys, 0)) := St.append_fresh hoff h1 h2 h34 hnn
      rw [e] at hk
      (repeat first | refine HReg.step ?_ | refine HCode.step ?_)
      refine hif (fun _ => ?_) (fun h => absurd rfl (eqB_false.1 h))
      (repeat first | refine HReg.step ?_ | refine HCode.step ?_)
      refine HNew.mk fun q hq => ?_
      have u4 : Upd [] H3 (H3.upd q (.cells [Value.slice none 0 0, .int .i64 0].toArray 84)) := Upd.new hq _
      have o4 : OwnRow (H3.upd q (.cells [Value.slice none 0 0, .int .i64 0].toArray 84)) 84 1 (some ⟨q, 0, none⟩) 2 2 [.slice none 0 0, .int .i64 0] := OwnRow.lit (upd_same _ _ _) rfl
      have D4 := D3.upd0 u4
      (repeat first | refine HReg.step ?_ | refine HCode.step ?_)
      refine HLoad.one (v := .map (some r)) (by exact D4.phys.obj.rows.get (i := 0) rfl) ?_
      (repeat first | refine HReg.step ?_ | refine HCode.step ?_)
      have hm4 := mapAt_upd hm3 u4 (by simp)
      refine hmapUpdate Tryz.underlying62 Tryz.underlying9 hm4 (fun i x H5 hi hx _ _ => ?_) (fun H5 _ hm5 u5 => ?_)
      · rw [List.getElem?_map] at hi
        cases hf : fl3[i]? with
        | none => rw [hf] at hi; cases hi
        | some f => rw [hf] at hi; cases hi; exact absurd hx (hne f (List.mem_of_getElem? hf))
      obtain ⟨P5, st5⟩ := D3.phys.add hb3 hq o4 u4 hm5 u5 hne
      have hj : (fl3 ++ [(⟨n, q, .slice none 0 0, [], 0, cc⟩ : Fl)])[fl3.length]? = some ⟨n, q, .slice none 0 0, [], 0, cc⟩ := by simp
      have so5 := P5.str _ (List.mem_of_getElem? hj)
      have st35 := st.trans st5
      have hy5 := off_row hy st35.upd ho
      (repeat first | refine HReg.step ?_ | refine HCode.step ?_)
      refine HLoad.one (v := .slice none 0 0) (by exact so5.rows.get (i := 0) rfl) ?_
      (repeat first | refine HReg.step ?_ | refine HCode.step ?_)
      refine append_own (xs := []) (OwnRow.nil _ _ _) hy5 hm (by omega) fun a6 c6 H6 o6 u6 f6 => ?_
      rw [Nat.zero_add] at o6
      have u6 : Upd [] H5 H6 := u6
      have so6 := so5.upd u6 (Off.nil _)
      have ea : ∀ k, (Value.slice a6 (0 + m) k) = .slice a6 m k := fun k => by rw [Nat.zero_add]
      rw [ea]
      (repeat first | refine HReg.step ?_ | refine HCode.step ?_)
      refine store_row so6 (v := .slice a6 m c6) rfl (i := 0) (by decide) (by rfl) fun H7 o7 u7 => ?_
      obtain ⟨P7, st7⟩ := P5.stV (v' := .slice a6 m c6) (l' := ys) hj (u6.mono (by simp)) ⟨a6, c6, by rw [hm], by rw [hm]; exact o6⟩ (fun b hb => .inr (by
        rw [vblk_slice] at hb
        obtain ⟨p, hp, rfl⟩ := blk_of hb
        rcases f6 p hp with h | h
        · cases h
        · exact h)) o7 u7 (Nat.zero_le _) (by omega)
      rw [show (fl3 ++ [(⟨n, q, .slice none 0 0, [], 0, cc⟩ : Fl)]).set fl3.length ⟨n, q, .slice a6 m c6, ys, 0, cc⟩ = fl3 ++ [⟨n, q, .slice a6 m c6, ys, 0, cc⟩] from by simp] at P7 st7
      (repeat first | refine HReg.step ?_ | refine HCode.step ?_)
      exact hk _ H7 (D3.addf P7 rfl hnn) (st35.trans st7)
  · have hf := List.mem_of_getElem? hj
    have hy3 := off_row hy st.upd ho
    have hl1 := hlim _ _ hget
    obtain ⟨va, vc, hfv, ov⟩ := (D3.phys.each f hf).sle
    have so : OwnRow H3 84 1 (some ⟨f.p, 0, none⟩) 2 2 [.slice va f.bytes.length vc, .int .i64 (f.synced : Int)] := by
      have := D3.phys.str f hf
      unfold scells at this
      rw [hfv] at this
      exact this
    (repeat first | refine HReg.step ?_ | refine HCode.step ?_)
    refine hif (fun h => absurd (eqB_true.1 h) (by decide)) (fun _ => ?_)
    (repeat first | refine HReg.step ?_ | refine HCode.step ?_)
    refine HCall.mk ⟨Tryz.f45, Tryz.func45, by rfl, by rfl⟩ ?_
    refine named_t ?_
    (repeat first | refine HReg.step ?_ | refine HCode.step ?_)
    refine hif (fun h1 => ?_) (fun h1 => ?_)
    · have h1 : ¬ (1 ≤ n.size ∧ n.size ≤ 32) := not_dec_true h1
      have e : s.append n ys = (1, s.call) := by unfold St.append; simp only [hoff, Bool.false_eq_true, if_false, if_pos h1]
      rw [e] at hk
      (repeat first | refine HReg.step ?_ | refine HCode.step ?_)
      exact hk fl3 H3 D3 st
    have h1 : ¬ ¬ (1 ≤ n.size ∧ n.size ≤ 32) := fun h => h (not_dec_false h1)
    have h2 : ¬ (s.call.fs n = none ∧ 16 ≤ s.call.cnt) := fun h => by rw [hget] at h; cases h.1
    (repeat first | refine HReg.step ?_ | refine HCode.step ?_)
    refine hif (fun h => absurd (eqB_true.1 h) (by decide)) (fun _ => ?_)
    (repeat first | refine HReg.step ?_ | refine HCode.step ?_)
    refine hif (fun h3 => ?_) (fun h3 => ?_)
    · have h3 := ltB_true.1 h3
      (repeat first | refine HReg.step ?_ | refine HCode.step ?_)
      refine HLoad.one (v := .int .i64 s.call.d.refuses) (by exact D3.phys.obj.rows.get (i := 2) rfl) ?_
      (repeat first | refine HReg.step ?_ | refine HCode.step ?_)
      refine hif (fun h4 => ?_) (fun h4 => ?_)
      · skip
        have h4 := ltB_true.1 h4
        have h34 : 0 < ys.length ∧ 0 < s.call.d.refuses := ⟨by omega, h4⟩
        have e : s.append n ys = (60, { s.call with d := { s.call.d with refuses := s.call.d.refuses - 1 } }) := by unfold St.append; simp only [hoff, Bool.false_eq_true, if_false, if_neg h1, if_neg h2, if_pos h34]
        rw [e] at hk
        have hrr := D3.rhi
        have hw : wr .i64 (s.call.d.refuses - 1) = s.call.d.refuses - 1 := wr_i64 (by omega) (by omega)
        (repeat first | refine HReg.step ?_ | refine HCode.step ?_)
        refine HLoad.one (v := .int .i64 s.call.d.refuses) (by exact D3.phys.obj.rows.get (i := 2) rfl) ?_
        (repeat first | refine HReg.step ?_ | refine HCode.step ?_)
        rw [hw]
        refine store_row D3.phys.obj (v := .int .i64 (s.call.d.refuses - 1)) rfl (i := 2) (by decide) (by rfl) fun H4 o4 u4 => ?_
        have P4 : DiskP H1 H4 g r { s.call.d with refuses := s.call.d.refuses - 1 } fl3 := D3.phys.setd o4 u4
        (repeat first | refine HReg.step ?_ | refine HCode.step ?_)
        exact hk fl3 H4 ⟨P4, D3.get, D3.all, D3.cnt, D3.arm, D3.lo, D3.hi, by show s.call.d.refuses - 1 ≤ _; omega⟩ (st.trans (Stp.g u4))
      · have h4 := ltB_false.1 h4
        have h34 : ¬ (0 < ys.length ∧ 0 < s.call.d.refuses) := fun h => by omega
        have e : s.append n ys = (0, s.call.put n (f.bytes ++ ys, f.synced)) := St.append_grown hoff h1 h2 h34 hget
        rw [e] at hk
        (repeat first | refine HReg.step ?_ | refine HCode.step ?_)
        refine hif (fun h => absurd (eqB_true.1 h) (by decide)) (fun _ => ?_)
        (repeat first | refine HReg.step ?_ | refine HCode.step ?_)
        refine HLoad.one (v := .slice va f.bytes.length vc) (by exact so.rows.get (i := 0) rfl) ?_
        (repeat first | refine HReg.step ?_ | refine HCode.step ?_)
        refine append_own ov hy3 hm (by omega) fun a6 c6 H6 o6 u6 f6 => ?_
        have so6 := so.upd u6 (fun p hp hb => by
          cases hp
          obtain ⟨_, _, h1⟩ := own_live so
          obtain ⟨_, _, h2⟩ := D3.phys.vlive hf (b := f.p) (by rw [hfv, vblk_slice]; exact hb)
          rw [h1] at h2; cases h2)
        (repeat first | refine HReg.step ?_ | refine HCode.step ?_)
        refine store_row so6 (v := .slice a6 (f.bytes.length + m) c6) rfl (i := 0) (by decide) (by rfl) fun H7 o7 u7 => ?_
        obtain ⟨P7, st7⟩ := D3.phys.stV (v' := .slice a6 (f.bytes.length + m) c6) (l' := f.bytes ++ ys) hj (by rw [hfv, vblk_slice]; exact u6) ⟨a6, c6, by rw [List.length_append, hm], by rw [List.length_append, hm]; exact o6⟩ (fun b hb => by
          rw [vblk_slice] at hb
          obtain ⟨p, hp, rfl⟩ := blk_of hb
          rcases f6 p hp with h | h
          · exact .inl (by rw [hfv, vblk_slice, h]; simp [blk])
          · exact .inr h) o7 u7 (by have := D3.phys.syn f hf; rw [List.length_append]; omega) (by rw [List.length_append]; omega)
        (repeat first | refine HReg.step ?_ | refine HCode.step ?_)
        subst hfn
        exact hk _ H7 (D3.setf (f' := { f with v := .slice a6 (f.bytes.length + m) c6, bytes := f.bytes ++ ys }) hj rfl P7) (st.trans st7)
    · have h3 := ltB_false.1 h3
      have h34 : ¬ (0 < ys.length ∧ 0 < s.call.d.refuses) := fun h => by omega
      have e : s.append n ys = (0, s.call.put n (f.bytes ++ ys, f.synced)) := St.append_grown hoff h1 h2 h34 hget
      rw [e] at hk
      (repeat first | refine HReg.step ?_ | refine HCode.step ?_)
      refine hif (fun h => absurd (eqB_true.1 h) (by decide)) (fun _ => ?_)
      (repeat first | refine HReg.step ?_ | refine HCode.step ?_)
      refine HLoad.one (v := .slice va f.bytes.length vc) (by exact so.rows.get (i := 0) rfl) ?_
      (repeat first | refine HReg.step ?_ | refine HCode.step ?_)
      refine append_own ov hy3 hm (by omega) fun a6 c6 H6 o6 u6 f6 => ?_
      have so6 := so.upd u6 (fun p hp hb => by
        cases hp
        obtain ⟨_, _, h1⟩ := own_live so
        obtain ⟨_, _, h2⟩ := D3.phys.vlive hf (b := f.p) (by rw [hfv, vblk_slice]; exact hb)
        rw [h1] at h2; cases h2)
      (repeat first | refine HReg.step ?_ | refine HCode.step ?_)
      refine store_row so6 (v := .slice a6 (f.bytes.length + m) c6) rfl (i := 0) (by decide) (by rfl) fun H7 o7 u7 => ?_
      obtain ⟨P7, st7⟩ := D3.phys.stV (v' := .slice a6 (f.bytes.length + m) c6) (l' := f.bytes ++ ys) hj (by rw [hfv, vblk_slice]; exact u6) ⟨a6, c6, by rw [List.length_append, hm], by rw [List.length_append, hm]; exact o6⟩ (fun b hb => by
        rw [vblk_slice] at hb
        obtain ⟨p, hp, rfl⟩ := blk_of hb
        rcases f6 p hp with h | h
        · exact .inl (by rw [hfv, vblk_slice, h]; simp [blk])
        · exact .inr h) o7 u7 (by have := D3.phys.syn f hf; rw [List.length_append]; omega) (by rw [List.length_append]; omega)
      (repeat first | refine HReg.step ?_ | refine HCode.step ?_)
      subst hfn
      exact hk _ H7 (D3.setf (f' := { f with v := .slice a6 (f.bytes.length + m) c6, bytes := f.bytes ++ ys }) hj rfl P7) (st.trans st7)
end
end Go.Proofs.YtfcmjomnpahllaaGreat
namespace Go.Proofs.YtfcmjomnpahllaaGreat
open Go Hv
set_option linter.unusedVariables false
set_option linter.unusedSimpArgs false
set_option maxRecDepth 10000
set_option maxHeartbeats 4000000
theorem DiskP.stVS {H1 H3 H4 H5 : Heap} {g r j : Nat} {d : Fd} {fl : List Fl} {f : Fl} {v' : Value} {l' : List UInt8} {m : Nat} (D : DiskP H1 H3 g r d fl) (hj : fl[j]? = some f) (u4 : Upd (vblk f.v) H3 H4) (s4 : Sle 5 H4 v' l') (hn : ∀ b ∈ vblk v', b ∈ vblk f.v ∨ H3 b = none) (o5 : OwnRow H5 84 1 (some ⟨f.p, 0, none⟩) 2 2 [v', .int .i64 (m : Int)]) (u5 : Upd [f.p] H4 H5) (hs : m ≤ l'.length) (hl : l'.length ≤ 140737488355328) :
    DiskP H1 H5 g r d (fl.set j { f with v := v', bytes := l', synced := m }) ∧ Stp H3 H5 g r fl (fl.set j { f with v := v', bytes := l', synced := m }) := by
  have hf := List.mem_of_getElem? hj
  have hm : f.p ∈ dblk g r fl := mem_dblk.2 (.inr (.inr (.inl ⟨f, hf, rfl⟩)))
  have hvm : ∀ b ∈ vblk f.v, b ∈ dblk g r fl := fun b hb => mem_dblk.2 (.inr (.inr (.inr ⟨f, hf, hb⟩)))
  obtain ⟨cp, zp, hp⟩ := own_live (D.str f hf)
  have G4 : GrpM 5 H1 H4 ((fl.map Fl.v).set j v') ((fl.map Fl.bytes).set j l') := D.grp.change (by rw [List.getElem?_map, hj]; rfl) u4 s4 hn
  have hp4 : H4 f.p = some (.cells cp 84 zp) := by
    rw [u4 f.p (fun hb => by obtain ⟨c, z, h⟩ := D.vlive hf hb; rw [hp] at h; cases h) (by rw [hp]; simp), hp]
  have G5 : GrpM 5 H1 H5 ((fl.map Fl.v).set j v') ((fl.map Fl.bytes).set j l') := grpM_upd G4 u5 (fun v hv b hb hbp => by
    obtain ⟨i, hi⟩ := List.getElem?_of_mem hv
    obtain ⟨c, z, h⟩ := G4.grp.live hi hb
    rw [List.mem_singleton.1 hbp, hp4] at h; cases h) (fun b hb => by rw [List.mem_singleton.1 hb]; exact D.newp f hf)
  have u35 : Upd (f.p :: vblk f.v) H3 H5 := (u4.mono fun k hk => List.mem_cons_of_mem _ hk).trans (u5.mono fun k hk => by rw [List.mem_singleton.1 hk]; exact List.mem_cons_self)
  refine ⟨D.put (f' := { f with v := v', bytes := l', synced := m }) hj rfl rfl rfl ?_ u35 ?_ o5 hs hl, ⟨u35.mono ?_, fun b hb => ?_⟩⟩
  · rw [List.map_set, List.map_set]; exact G5
  · intro b hb
    rcases List.mem_cons.1 hb with h | h
    · exact .inl h
    · exact .inr (D.vlive hf h)
  · intro b hb
    rcases List.mem_cons.1 hb with h | h
    · rw [h]; exact hm
    · exact hvm b h
  · have hmem : ∀ x ∈ fl.set j { f with v := v', bytes := l', synced := m }, x = { f with v := v', bytes := l', synced := m } ∨ x ∈ fl := fun x hx => by
      rcases List.mem_or_eq_of_mem_set hx with h | h
      · exact .inr h
      · exact .inl h
    rcases mem_dblk.1 hb with h | h | ⟨x, hx, h⟩ | ⟨x, hx, h⟩
    · exact .inl (mem_dblk.2 (.inl h))
    · exact .inl (mem_dblk.2 (.inr (.inl h)))
    · rcases hmem x hx with rfl | h2
      · exact .inl (by rw [h]; exact hm)
      · exact .inl (mem_dblk.2 (.inr (.inr (.inl ⟨x, h2, h⟩))))
    · rcases hmem x hx with rfl | h2
      · rcases hn b h with h3 | h3
        · exact .inl (hvm b h3)
        · exact .inr h3
      · exact .inl (mem_dblk.2 (.inr (.inr (.inr ⟨x, h2, h⟩))))
/-! The calls that want a file, as functions on what a disk stands for. -/
def St.has (s : St) (n : ByteArray) (k : St → List UInt8 → Nat → Int × St) : Int × St :=
  let t := s.call
  if t.d.off then (62, t) else match t.fs n with
    | none => (61, t)
    | some (x, y) => k t x y
def St.sync (s : St) (n : ByteArray) : Int × St := s.has n fun t x _ => (0, t.put n (x, x.length))
def St.cut (s : St) (n : ByteArray) (k : Int) : Int × St := s.has n fun t x y => if 0 ≤ k ∧ k ≤ x.length then (0, t.put n (x.take k.toNat, min y k.toNat)) else (1, t)
def St.delete (s : St) (n : ByteArray) : Int × St := s.has n fun t _ _ => (0, t.del n)
def St.size (s : St) (n : ByteArray) : Int × St := s.has n fun t _ _ => (0, t)
def St.rename (s : St) (a b : ByteArray) : Int × St :=
  let t := s.call
  if t.d.off then (62, t) else if ¬ (1 ≤ b.size ∧ b.size ≤ 32) then (1, t) else match t.fs a with
    | none => (61, t)
    | some x => (0, (t.del a).put b x)
theorem St.has_off {s : St} {n : ByteArray} {k : St → List UInt8 → Nat → Int × St} (h : s.call.d.off = true) : s.has n k = (62, s.call) := by unfold St.has; dsimp only; rw [if_pos h]
theorem St.has_no {s : St} {n : ByteArray} {k : St → List UInt8 → Nat → Int × St} (h : s.call.d.off = false) (hn : s.call.fs n = none) : s.has n k = (61, s.call) := by unfold St.has; dsimp only; rw [if_neg (by rw [h]; simp), hn]
theorem St.has_yes {s : St} {n : ByteArray} {k : St → List UInt8 → Nat → Int × St} {x : List UInt8} {y : Nat} (h : s.call.d.off = false) (hn : s.call.fs n = some (x, y)) : s.has n k = k s.call x y := by unfold St.has; dsimp only; rw [if_neg (by rw [h]; simp), hn]
section
variable {H1 H : Heap} {g r : Nat} {s : St} {fl : List Fl} {K : Value → Heap → Prop}
theorem sync_f {n : ByteArray} (D : DiskAt H1 H g r s fl)
    (hk : ∀ fl' H', DiskAt H1 H' g r (s.sync n).2 fl' → Stp H H' g r fl fl' → K (.int .i64 (s.sync n).1) H') :
    HCalls Tryz.prog 40 [.pointer (some ⟨g, 0, none⟩), .string n] H K := by
  refine sync_t D fun e s' fl' H' D' st h => ?_
  rcases h with ⟨ho, rfl, rfl⟩ | ⟨ho, ⟨hn, rfl, rfl⟩ | ⟨x, y, hn, rfl, rfl⟩⟩
  · have e : s.sync n = (62, s.call) := St.has_off ho
    rw [e] at hk; exact hk fl' H' D' st
  · have e : s.sync n = (61, s.call) := St.has_no ho hn
    rw [e] at hk; exact hk fl' H' D' st
  · have e : s.sync n = (0, s.call.put n (x, x.length)) := St.has_yes ho hn
    rw [e] at hk; exact hk fl' H' D' st
theorem size_t {n : ByteArray} (D : DiskAt H1 H g r s fl)
    (hno : ∀ e fl' H', DiskAt H1 H' g r s.call fl' → Stp H H' g r fl fl' → (s.call.d.off = true ∧ e = 62 ∨ s.call.d.off = false ∧ s.call.fs n = none ∧ e = 61) → K (.tuple #[.int .i64 0, .int .i64 e]) H')
    (hyes : ∀ x y fl' H', s.call.d.off = false → s.call.fs n = some (x, y) → DiskAt H1 H' g r s.call fl' → Stp H H' g r fl fl' → K (.tuple #[.int .i64 (x.length : Int), .int .i64 0]) H') :
    HCalls Tryz.prog 32 [.pointer (some ⟨g, 0, none⟩), .string n] H K := by
  refine hcalls (fn := Tryz.f32) [] mixed Tryz.func32 rfl rfl rfl ?_
  (repeat first | refine HReg.step ?_ | refine HCode.step ?_)
  refine HCall.mk ⟨Tryz.f44, Tryz.func44, by rfl, by rfl⟩ ?_
  refine find_t D (fun fl' H' ho D' st => ?_) (fun fl' H' ho hn D' st hne => ?_) (fun fl' H' j f ho D' st hj hfn hget => ?_)
  · (repeat first | refine HReg.step ?_ | refine HCode.step ?_)
    refine hif (fun _ => ?_) (fun h => absurd (not_eqB_false.1 h) (by decide))
    (repeat first | refine HReg.step ?_ | refine HCode.step ?_)
    exact hno 62 fl' H' D' st (.inl ⟨ho, rfl⟩)
  · (repeat first | refine HReg.step ?_ | refine HCode.step ?_)
    refine hif (fun _ => ?_) (fun h => absurd (not_eqB_false.1 h) (by decide))
    (repeat first | refine HReg.step ?_ | refine HCode.step ?_)
    exact hno 61 fl' H' D' st (.inr ⟨ho, hn, rfl⟩)
  · have hf := List.mem_of_getElem? hj
    obtain ⟨va, vc, hfv, ov⟩ := (D'.phys.each f hf).sle
    have so : OwnRow H' 84 1 (some ⟨f.p, 0, none⟩) 2 2 [.slice va f.bytes.length vc, .int .i64 (f.synced : Int)] := by
      have := D'.phys.str f hf
      unfold scells at this
      rw [hfv] at this
      exact this
    (repeat first | refine HReg.step ?_ | refine HCode.step ?_)
    refine hif (fun h => absurd rfl (not_eqB_true.1 h)) (fun _ => ?_)
    (repeat first | refine HReg.step ?_ | refine HCode.step ?_)
    refine HLoad.one (v := .slice va f.bytes.length vc) (by exact so.rows.get (i := 0) rfl) ?_
    (repeat first | refine HReg.step ?_ | refine HCode.step ?_)
    exact hyes f.bytes f.synced fl' H' ho hget D' st
theorem cut_t {n : ByteArray} {k : Int} (D : DiskAt H1 H g r s fl)
    (hk : ∀ fl' H', DiskAt H1 H' g r (s.cut n k).2 fl' → Stp H H' g r fl fl' → K (.int .i64 (s.cut n k).1) H') :
    HCalls Tryz.prog 35 [.pointer (some ⟨g, 0, none⟩), .string n, .int .i64 k] H K := by
  refine hcalls (fn := Tryz.f35) [] mixed Tryz.func35 rfl rfl rfl ?_
  (repeat first | refine HReg.step ?_ | refine HCode.step ?_)
  refine HCall.mk ⟨Tryz.f44, Tryz.func44, by rfl, by rfl⟩ ?_
  refine find_t D (fun fl' H' ho D' st => ?_) (fun fl' H' ho hn D' st hne => ?_) (fun fl' H' j f ho D' st hj hfn hget => ?_)
  · have e : s.cut n k = (62, s.call) := St.has_off ho
    rw [e] at hk
    (repeat first | refine HReg.step ?_ | refine HCode.step ?_)
    refine hif (fun _ => ?_) (fun h => absurd (not_eqB_false.1 h) (by decide))
    (repeat first | refine HReg.step ?_ | refine HCode.step ?_)
    exact hk fl' H' D' st
  · have e : s.cut n k = (61, s.call) := St.has_no ho hn
    rw [e] at hk
    (repeat first | refine HReg.step ?_ | refine HCode.step ?_)
    refine hif (fun _ => ?_) (fun h => absurd (not_eqB_false.1 h) (by decide))
    (repeat first | refine HReg.step ?_ | refine HCode.step ?_)
    exact hk fl' H' D' st
  · have e : s.cut n k = if 0 ≤ k ∧ k ≤ f.bytes.length then (0, s.call.put n (f.bytes.take k.toNat, min f.synced k.toNat)) else (1, s.call) := St.has_yes ho hget
    have hf := List.mem_of_getElem? hj
    obtain ⟨va, vc, hfv, ov⟩ := (D'.phys.each f hf).sle
    have hsyn := D'.phys.syn f hf
    have hlim := D'.phys.lim f hf
    have so : OwnRow H' 84 1 (some ⟨f.p, 0, none⟩) 2 2 [.slice va f.bytes.length vc, .int .i64 (f.synced : Int)] := by
      have := D'.phys.str f hf
      unfold scells at this
      rw [hfv] at this
      exact this
    have bad : ¬ (0 ≤ k ∧ k ≤ (f.bytes.length : Int)) → K (.int .i64 1) H' := fun hb => by
      rw [e, if_neg hb] at hk
      exact hk fl' H' D' st
    (repeat first | refine HReg.step ?_ | refine HCode.step ?_)
    refine hif (fun h => absurd rfl (not_eqB_true.1 h)) (fun _ => ?_)
    (repeat first | refine HReg.step ?_ | refine HCode.step ?_)
    refine hif (fun h1 => ?_) (fun h1 => ?_)
    · have h1 := ltB_true.1 h1
      (repeat first | refine HReg.step ?_ | refine HCode.step ?_)
      exact bad (by omega)
    have h1 := ltB_false.1 h1
    (repeat first | refine HReg.step ?_ | refine HCode.step ?_)
    refine HLoad.one (v := .slice va f.bytes.length vc) (by exact so.rows.get (i := 0) rfl) ?_
    (repeat first | refine HReg.step ?_ | refine HCode.step ?_)
    refine hif (fun h2 => ?_) (fun h2 => ?_)
    · have h2 := ltB_true.1 h2
      (repeat first | refine HReg.step ?_ | refine HCode.step ?_)
      exact bad (by omega)
    have h2 := ltB_false.1 h2
    rw [e, if_pos ⟨h1, h2⟩] at hk
    generalize hq : k.toNat = q at hk
    obtain rfl : k = (q : Int) := by omega
    have htk : (f.bytes.take q).length = q := by rw [List.length_take]; omega
    (repeat first | refine HReg.step ?_ | refine HCode.step ?_)
    refine HLoad.one (v := .slice va f.bytes.length vc) (by exact so.rows.get (i := 0) rfl) ?_
    (repeat first | refine HReg.step ?_ | refine HCode.step ?_)
    refine HReq.mk ⟨by omega, by have := ov.le; omega⟩ ?_
    (repeat first | refine HReg.step ?_ | refine HCode.step ?_)
    refine HCall.mk ⟨Tryz.f43, Tryz.func43, by rfl, by rfl⟩ ?_
    refine clone_t (ys := f.bytes.take q) (n := q) (by have := (own_upto (i := q) ov (by omega)).rows; rw [Nat.mul_one] at this; unfold u8s at this ⊢; rw [List.map_take]; exact this) htk (by omega) fun a5 c5 H5 m5 => ?_
    have so5 := so.upd m5.upd (Off.nil _)
    (repeat first | refine HReg.step ?_ | refine HCode.step ?_)
    refine store_row so5 (v := .slice a5 q c5) rfl (i := 0) (by decide) (by rfl) fun H6 o6 u6 => ?_
    (repeat first | refine HReg.step ?_ | refine HCode.step ?_)
    refine HLoad.one (v := .int .i64 (f.synced : Int)) (by exact o6.rows.get (i := 1) rfl) ?_
    (repeat first | refine HReg.step ?_ | refine HCode.step ?_)
    rw [ite_mn, ite_min]
    have hmin : min (f.synced : Int) (q : Int) = ((min f.synced q : Nat) : Int) := by omega
    rw [hmin]
    refine store_row o6 (v := .int .i64 ((min f.synced q : Nat) : Int)) rfl (i := 1) (by decide) (by rfl) fun H7 o7 u7 => ?_
    have hlt := (List.getElem?_eq_some_iff.1 hj).1
    (repeat first | refine HReg.step ?_ | refine HCode.step ?_)
    obtain ⟨P7, st7⟩ := D'.phys.stVS (v' := .slice a5 q c5) (l' := f.bytes.take q) (m := min f.synced q) hj (m5.upd.mono (by simp)) (m5.sle htk) (fun b hb => .inr (m5.vnew b hb)) o7 (u6.trans u7) (by rw [htk]; omega) (by rw [htk]; omega)
    subst hfn
    exact hk _ H7 (D'.setf (f' := { f with v := .slice a5 q c5, bytes := f.bytes.take q, synced := min f.synced q }) hj rfl P7) (st.trans st7)
theorem map_none {n : ByteArray} (D : DiskAt H1 H g r s fl) (h : s.fs n = none) : ∀ f ∈ fl, f.name ≠ n := fun f hf he => by have := D.get f hf; rw [he, h] at this; cases this
theorem other {j i : Nat} {f x : Fl} (D : DiskP H1 H g r s.d fl) (hj : fl[j]? = some f) (hi : fl[i]? = some x) (hn : x.name = f.name) : i = j := by
  have hl := (List.getElem?_eq_some_iff.1 hi).1
  exact (List.getElem?_inj (i := i) (j := j) (by simpa using hl) D.nn).1 (by rw [List.getElem?_map, List.getElem?_map, hi, hj]; show some x.name = some f.name; rw [hn])
theorem mem_erase {j : Nat} {f : Fl} (D : DiskP H1 H g r s.d fl) (hj : fl[j]? = some f) {x : Fl} : x ∈ fl.eraseIdx j ↔ x ∈ fl ∧ x.name ≠ f.name := by
  constructor
  · intro hx
    refine ⟨List.mem_of_mem_eraseIdx hx, fun hn => ?_⟩
    have pw := (perm_erase hj).pairwise_iff (fun h => Far.symm h) |>.1 D.pw
    rw [List.pairwise_cons] at pw
    exact (pw.1 x hx).name hn.symm
  · rintro ⟨hx, hn⟩
    have := (perm_erase hj).mem_iff.1 hx
    rcases List.mem_cons.1 this with rfl | h
    · exact absurd rfl hn
    · exact h
theorem DiskAt.delf {H' : Heap} {j : Nat} {f : Fl} (D : DiskAt H1 H g r s fl) (hj : fl[j]? = some f) (P : DiskP H1 H' g r s.d (fl.eraseIdx j)) : DiskAt H1 H' g r (s.del f.name) (fl.eraseIdx j) := by
  have hf := List.mem_of_getElem? hj
  have hl := (List.getElem?_eq_some_iff.1 hj).1
  have hs : (s.fs f.name).isSome = true := by rw [D.get f hf]; rfl
  refine ⟨P, fun x hx => ?_, fun k x hkx => ?_, ?_, D.arm, D.lo, D.hi, D.rhi⟩
  · obtain ⟨h1, h2⟩ := (mem_erase D.phys hj).1 hx
    show (if x.name = f.name then _ else _) = _
    rw [if_neg h2]; exact D.get x h1
  · have hkx : (if k = f.name then none else s.fs k) = some x := hkx
    split at hkx
    · cases hkx
    · rename_i hk
      obtain ⟨y, hy, he⟩ := D.all k x hkx
      exact ⟨y, (mem_erase D.phys hj).2 ⟨hy, by rw [he]; exact hk⟩, he⟩
  · show (if (s.fs f.name).isSome = true then s.cnt - 1 else s.cnt) = _
    rw [if_pos hs, D.cnt, List.length_eraseIdx, if_pos hl]
end
end Go.Proofs.YtfcmjomnpahllaaGreat
namespace Go.Proofs.YtfcmjomnpahllaaGreat
open Go Hv
set_option linter.unusedVariables false
set_option linter.unusedSimpArgs false
set_option maxRecDepth 10000
set_option maxHeartbeats 4000000
def St.readF (s : St) (n : ByteArray) : Int × List UInt8 :=
  if s.call.d.off then (62, []) else match s.call.fs n with
    | none => (61, [])
    | some (x, _) => (0, x)
section
variable {H1 H : Heap} {g r : Nat} {s : St} {fl : List Fl} {K : Value → Heap → Prop}
theorem DiskAt.base (D : DiskAt H1 H g r s fl) : Upd [] H1 H := D.phys.grp.upd
theorem keep_row {a : Option Addr} {xs : List Value} (D : DiskAt H1 H g r s fl) (h : RowAt H1 a xs) : RowAt H a xs := h.upd (S := []) D.base (.inr (Off.nil _))
theorem read_f {n : ByteArray} (D : DiskAt H1 H g r s fl)
    (hk : ∀ a c fl' H2 H', DiskAt H1 H2 g r s.call fl' → Stp H H2 g r fl fl' → Made H2 H' 5 1 a (s.readF n).2.length c (u8s (s.readF n).2) → K (.tuple #[.slice a (s.readF n).2.length c, .int .i64 (s.readF n).1]) H') :
    HCalls Tryz.prog 31 [.pointer (some ⟨g, 0, none⟩), .string n] H K := by
  refine dread_t D (fun e fl' H' D' st h => ?_) (fun x y a c fl' H2 H' ho hget D' st m => ?_)
  · have : s.readF n = (e, []) := by
      unfold St.readF
      rcases h with ⟨h, rfl⟩ | ⟨h, hn, rfl⟩
      · rw [if_pos h]
      · rw [if_neg (by rw [h]; simp), hn]
    rw [this] at hk
    exact hk none 0 fl' H' H' D' st ⟨OwnRow.nil _ _ _, Upd.refl _ _, fun p hp => by cases hp⟩
  · have : s.readF n = (0, x) := by
      unfold St.readF
      rw [if_neg (by rw [ho]; simp), hget]
    rw [this] at hk
    exact hk a c fl' H2 H' D' st m
end
end Go.Proofs.YtfcmjomnpahllaaGreat
namespace Go.Proofs.YtfcmjomnpahllaaGreat.Vals
open Go Go.RowKit Go.Shelf Go.Proofs Go.Sort
attribute [local go_sem] Oper.semAt_some
/-! slices.Values over a list of texts, and slices.AppendSeq of what it gives. -/
/-- The first k of what f tells. -/
def upto {α : Type} (f : Nat → α) (k : Nat) : List α := (List.range k).map f
theorem upto_succ {α : Type} (f : Nat → α) (k : Nat) : upto f (k + 1) = upto f k ++ [f k] := by simp [upto, List.range_succ]
theorem upto_length {α : Type} (f : Nat → α) (k : Nat) : (upto f k).length = k := by simp [upto]
theorem upto_all {α : Type} (d : α) (zs : List α) : upto (fun j => zs[j]?.getD d) zs.length = zs := by
  apply List.ext_getElem
  · simp [upto]
  · intro i h1 h2
    simp [upto, h2]
theorem upto_take {α : Type} (d : α) (zs : List α) {k : Nat} (hk : k ≤ zs.length) : upto (fun j => zs[j]?.getD d) k = zs.take k := by
  apply List.ext_getElem
  · simp [upto, hk]
  · intro i h1 h2
    have : i < zs.length := by simp [upto] at h1; omega
    simp [upto, this]
set_option maxRecDepth 100000 in
set_option maxHeartbeats 2000000 in
theorem vals1_in (F : Fence) (n : Nat) (h7 : F.fn 125) (hro : F.round = none) (hn : 1 ≤ n) (l Bs n₀ b off len cap : Nat) (zs : List (List UInt8)) (hreach : len * 16 ≤ 140737488351232) (hb : b < n₀) (J Jx : List (List UInt8) → World → Prop)
    (hY : ∀ pre x W, J pre W → pre.length < len → YieldAt F (n - 1) Tryz.prog l #[encStr x] W fun e W' =>
      (e = .returned (.bool true) ∧ J (pre ++ [x]) W' ∧ Below n₀ W W') ∨ (e = .returned (.bool false) ∧ Jx (pre ++ [x]) W'))
    (W : World) (hBs : W.cell? ⟨Bs, 0, none⟩ = some (.slice (some ⟨b, off, none⟩) len cap)) (hc : ∀ j, j < len → W.cell? ⟨b, off + j, none⟩ = some (encStr (zs[j]?.getD []))) (h0 : J [] W) :
    CallsIn F n Tryz.prog 125 #[.func (.yield l) #[] #[], .pointer (some ⟨Bs, 0, none⟩)] W fun e W' => (∃ v, e = .returned v) ∧
      ((∃ ys, ys = upto (fun j => zs[j]?.getD []) len ∧ J ys W') ∨ (∃ pre, (∃ k, k ≤ len ∧ pre = upto (fun j => zs[j]?.getD []) k) ∧ Jx pre W')) := by
  refine callsIn_of_wp Tryz.func125 rfl h7 ?_ hro
  simp only [Tryz.ntmps125, List.size_toArray, List.length_cons, List.length_nil, Nat.reduceAdd, Nat.reduceSub, Array.replicate_succ, Array.replicate_zero, List.push_toArray, List.append_toArray, List.nil_append, List.cons_append]
  gi_wp2
  gi_loopw [7] (fun i wr => ∃ k : Nat, k ≤ len ∧ i = .int .i64 k ∧ J (upto (fun j => zs[j]?.getD []) k) wr ∧ Below n₀ W wr)
    (fun i _ => len - (intOf i).toNat)
  case atStart => exact ⟨0, Nat.zero_le _, rfl, h0, Below.refl _ _⟩
  case round =>
    obtain ⟨k, hk, rfl, hJs, hnx⟩ := hrel
    have hcx : k < len → wr.cell? ⟨b, off + k, none⟩ = some (encStr (zs[k]?.getD [])) := fun h => (hnx.cell (p := ⟨b, off + k, none⟩) hb).trans (hc k h)
    by_cases hlt : k < len
    · obtain ⟨fn, tmps, assign, body, hy, hR⟩ := hY _ (zs[k]?.getD []) wr hJs (by rw [upto_length]; exact hlt)
      have hcx' := hcx hlt
      gi_wp2
      refine hR.mono ?_
      rintro e W3 (⟨rfl, hJ3, hk3⟩ | ⟨rfl, hJx3⟩)
      · gi_wp2
        go_roundw
        case rel => exact ⟨k + 1, by omega, by simp, by rw [upto_succ]; exact hJ3, hnx.trans hk3⟩
        case measure => simp [intOf]; omega
      · gi_wp2
        refine bodyPost_ret (results_none rfl _ _ _) rfl ?_
        exact ⟨⟨_, rfl⟩, .inr ⟨_, ⟨k + 1, by omega, (upto_succ _ _).symm⟩, hJx3⟩⟩
    · obtain rfl : k = len := by omega
      gi_wp2
      go_end0
      exact ⟨⟨_, rfl⟩, .inl ⟨_, rfl, hJs⟩⟩
/-- The slice sv holds the texts zs, in a block below n₀; or it is nil, and there are none. -/
def Holds (n₀ : Nat) (W : World) (sv : Value) (zs : List (List UInt8)) : Prop :=
  (sv = .slice none 0 0 ∧ zs = []) ∨ ∃ b off cap, sv = .slice (some ⟨b, off, none⟩) zs.length cap ∧ b < n₀ ∧ ∀ j, j < zs.length → W.cell? ⟨b, off + j, none⟩ = some (encStr (zs[j]?.getD []))
theorem Holds.below {n₀ : Nat} {A B : World} (h : Below n₀ A B) {sv : Value} {zs : List (List UInt8)} : Holds n₀ A sv zs → Holds n₀ B sv zs
  | .inl e => .inl e
  | .inr ⟨b, off, cap, e, hb, hc⟩ => .inr ⟨b, off, cap, e, hb, fun j hj => (h.cell (p := ⟨b, off + j, none⟩) hb).trans (hc j hj)⟩
set_option maxRecDepth 100000 in
set_option maxHeartbeats 1000000 in
theorem vals1_nil_in (F : Fence) (n : Nat) (h7 : F.fn 125) (hro : F.round = none) (l Bs : Nat) (J : List (List UInt8) → World → Prop) (W : World) (hBs : W.cell? ⟨Bs, 0, none⟩ = some (.slice none 0 0)) (h0 : J [] W) :
    CallsIn F n Tryz.prog 125 #[.func (.yield l) #[] #[], .pointer (some ⟨Bs, 0, none⟩)] W fun e W' => (∃ v, e = .returned v) ∧ J [] W' := by
  refine callsIn_of_wp Tryz.func125 rfl h7 ?_ hro
  simp only [Tryz.ntmps125, List.size_toArray, List.length_cons, List.length_nil, Nat.reduceAdd, Nat.reduceSub, Array.replicate_succ, Array.replicate_zero, List.push_toArray, List.append_toArray, List.nil_append, List.cons_append]
  gi_wp2
  gi_loopw [7] (fun i wr => i = .int .i64 0 ∧ J [] wr) (fun _ _ => 0)
  case atStart => exact ⟨rfl, h0⟩
  case round =>
    obtain ⟨rfl, hJs⟩ := hrel
    gi_wp2
    go_end0
    exact ⟨⟨_, rfl⟩, hJs⟩
theorem vals_stops (F : Fence) (n : Nat) (h7 : F.fn 125) (hro : F.round = none) (hn : 1 ≤ n) (Bs n₀ : Nat) (sv : Value) (zs : List (List UInt8)) (hreach : zs.length * 16 ≤ 140737488351232) (w : World) (hBs : Bs < w.heap.size) (hn₀ : n₀ ≤ w.heap.size)
    (hc : w.cell? ⟨Bs, 0, none⟩ = some sv) (hI : Holds n₀ w sv zs) :
    SeqStopsK F n Tryz.prog 125 #[.pointer (some ⟨Bs, 0, none⟩)] (fun x : List UInt8 => #[encStr x]) (Below n₀) (fun ys => ys = zs) (fun pre => pre <+: zs) zs.length w := fun l J Jx W hW _ _ hY h0 => by
  have hc' := (hW.cell (p := ⟨Bs, 0, none⟩) hBs).trans hc
  rcases hI.below (hW.mono hn₀) with ⟨rfl, rfl⟩ | ⟨b, off, cap, rfl, hb, hcs⟩
  · exact (vals1_nil_in F n h7 hro l Bs J W hc' h0).mono fun e W' ⟨he, hj⟩ => ⟨he, .inl ⟨_, rfl, hj⟩⟩
  · refine (vals1_in F n h7 hro hn l Bs n₀ b off zs.length cap zs hreach hb J Jx hY W hc' hcs h0).mono ?_
    rintro e W' ⟨he, ⟨ys, rfl, hj⟩ | ⟨pre, ⟨k, hk, rfl⟩, hj⟩⟩
    · exact ⟨he, .inl ⟨_, upto_all _ zs, hj⟩⟩
    · exact ⟨he, .inr ⟨_, by rw [upto_take _ zs hk]; exact List.take_prefix _ _, hj⟩⟩
theorem info9 : (Tryz.prog.info? 9).map (fun i => (i.zero, i.size, i.bytes)) = some (some (.string ⟨#[]⟩), 1, 16) := by kernel_rfl
set_option maxRecDepth 100000 in
set_option maxHeartbeats 2000000 in
/-- slices.AppendSeq(nil, slices.Values(zs)): a new slice that holds zs. -/
theorem append_in (F : Fence) (n : Nat) (h82 : F.fn 106) (h78 : F.fn 125) (hro : F.round = none) (hn : 3 ≤ n) (Bs : Nat) (sv : Value) (zs : List (List UInt8)) (hreach : zs.length * 16 ≤ 140737488351232) (hlen : zs.length ≤ maxLen) (w : World) (hBs : Bs < w.heap.size)
    (hc : w.cell? ⟨Bs, 0, none⟩ = some sv) (hI : Holds w.heap.size w sv zs) :
    CallsIn F n Tryz.prog 106 #[.slice none 0 0, .func (.func 125) #[] #[.pointer (some ⟨Bs, 0, none⟩)]] w fun e W' => ∃ v, e = .returned v ∧ W'.ownsRow w.heap.size 9 1 v zs.length (zs.map encStr) ∧ (v = .slice none 0 0 ↔ zs = []) ∧ Below w.heap.size w W' := by
  have h1 : 1 ≤ n := by omega
  obtain ⟨i0, hi, hz0, hz1, hz2⟩ := info_parts info9
  refine callsIn_of_wp_marks Tryz.func106 rfl h82 ?_ hro
  simp only [Tryz.ntmps106, List.size_toArray, List.length_cons, List.length_nil, Nat.reduceAdd, Nat.reduceSub, Array.replicate_succ, Array.replicate_zero, List.push_toArray, List.append_toArray, List.nil_append, List.cons_append]
  gi_wp2
  have bO := Boxed.new w 39 (.slice none 0 0)
  have hB0 : Below w.heap.size w (w.alloc (.cells #[.slice none 0 0] 39)) := (Below.refl _ w).alloc (Nat.le_refl _) _
  refine wpIn_rangeFunc_ownG hro h1 (gf := 125) (lb := #[.pointer (some ⟨Bs, 0, none⟩)]) rfl h78 (enters_of Tryz.func125 (by kernel_rfl) rfl)
    (vals_stops F (n - 1) h78 hro (by omega) Bs w.heap.size sv zs hreach _ (by simp; omega) (by simp) ((hB0.cell (p := ⟨Bs, 0, none⟩) hBs).trans hc) (hI.below hB0)) belowK_t (belowK_b (by simp)) (Below.refl _ _) (fun _ => rfl)
    (fun pre W => (∃ v, Boxed W w.heap.size 39 v ∧ W.ownsRow w.heap.size 9 1 v pre.length (pre.map encStr) ∧ (v = .slice none 0 0 ↔ pre = [])) ∧ Below w.heap.size w W)
    (fun _ _ _ => False)
    (OwnFrom.and (Own.from (holdsRow_own w.heap.size w.heap.size 39 9 1 (fun pre => pre.length) (fun pre : List (List UInt8) => pre.map encStr) (fun pre v => v = .slice none 0 0 ↔ pre = [])) _) (ownFrom_below (Nat.le_refl _) (by simp)))
    (fun _ _ _ _ _ hs _ _ => hs)
    ⟨⟨_, bO, World.ownsRow_nil _ _ _ _, by simp⟩, hB0⟩
    (fun x => { tmps := #[.slice none 0 0, .func (.func 125) #[] #[.pointer (some ⟨Bs, 0, none⟩)], .pointer (some ⟨w.heap.size, 0, none⟩), undef, .slice none 0 0, encStr x, .func (.func 125) #[] #[.pointer (some ⟨Bs, 0, none⟩)], encStr x, undef, undef, undef, undef, undef], defers := [] }) ?assign ?body ?done ?stop
  case assign =>
    intro l x W K hK
    gi_wp2
    exact hK
  case body =>
    rintro l pre x W ⟨⟨v, hv, hrow, hnil⟩, hB⟩ hlt
    have hc := hv.cell
    gi_wp2_with (gi_at_builtin; refine wpListIn_append_own _ rfl _ _ 39 rfl w.heap.size 9 i0 (.string ⟨#[]⟩) 1 16 Tryz.underlying39 hi hz0 hz1 hz2 rfl (by decide) _ _ _ rfl (hrow.alloc _) ⟨W.heap.size, 0, none⟩ 1 1 [encStr x] rfl rfl (cell_one_new _ _ _) (by simp [Value.oneCell', encStr]) (by omega) (by omega) (by have := hB.size; simp; omega) ?_; intro v' w1 hown' hgrow _; obtain ⟨g', cap', rfl⟩ := ownsRow_succ hown'; obtain ⟨hv1, hv2, hr2, hk2, hb2⟩ := hv.appended (by decide) hrow hB.size (Nat.le_refl _) hown' hgrow; have hc1 := hv1.cell; have hf1 := hv1.frozen)
    exact ⟨hk2.from _, hb2, ⟨_, hv2, by simpa using hr2, by simp⟩, hB.trans hb2⟩
  case done =>
    rintro D ys W hD rfl ⟨⟨v, hv, hrow, hnil⟩, hB⟩ hK
    have hc := hv.cell
    gi_wp2
    refine ⟨by simp, .inl ⟨_, _, rfl, run_takeDeferred hK, ?_⟩⟩
    exact ⟨_, results_tmp rfl _ _ _, v, rfl, ownsRow_putObj hrow _ hK rfl, hnil, hB.trans (belowK_b (w := w) (Nat.le_refl _) W D _ _ (by simp at hD; omega) hK rfl rfl)⟩
  case stop =>
    rintro D c pre W _ _ h _
    exact h.elim
end Go.Proofs.YtfcmjomnpahllaaGreat.Vals
namespace Go.Proofs.YtfcmjomnpahllaaGreat.Vals
open Go Go.RowKit Go.Shelf Go.Proofs Go.Sort
/-! The layout of slices.Sort at this seat's translation. -/
def Sk_ren : Go.Shelf.Ren := ⟨fun | 190 => 92 | 125 => 108 | 258 => 107 | 128 => 123 | 129 => 124 | 302 => 114 | 303 => 115 | 304 => 116 | 305 => 117 | 306 => 118 | 307 => 119 | 308 => 120 | 309 => 121 | 310 => 122 | 333 => 127 | 329 => 128 | 330 => 129 | 334 => 130 | 335 => 131 | 336 => 132 | 344 => 133 | n => n, fun | 31 => 39 | 9 => 9 | 3 => 3 | 46 => 98 | 0 => 0 | 51 => 110 | 53 => 36 | 4 => 4 | 183 => 165 | 182 => 164 | 131 => 158 | 5 => 5 | 218 => 173 | 222 => 176 | 228 => 178 | 229 => 179 | n => n, fun  | n => n⟩
theorem Sk : Lays.n190 Tryz.prog Sk_ren where
  mixed := by kernel_rfl
  f125 := Tryz.func108.trans (congrArg some (by kernel_rfl))
  f128 := Tryz.func123.trans (congrArg some (by kernel_rfl))
  f129 := Tryz.func124.trans (congrArg some (by kernel_rfl))
  f190 := Tryz.func92.trans (congrArg some (by kernel_rfl))
  f258 := Tryz.func107.trans (congrArg some (by kernel_rfl))
  f302 := Tryz.func114.trans (congrArg some (by kernel_rfl))
  f303 := Tryz.func115.trans (congrArg some (by kernel_rfl))
  f304 := Tryz.func116.trans (congrArg some (by kernel_rfl))
  f305 := Tryz.func117.trans (congrArg some (by kernel_rfl))
  f306 := Tryz.func118.trans (congrArg some (by kernel_rfl))
  f307 := Tryz.func119.trans (congrArg some (by kernel_rfl))
  f308 := Tryz.func120.trans (congrArg some (by kernel_rfl))
  f309 := Tryz.func121.trans (congrArg some (by kernel_rfl))
  f310 := Tryz.func122.trans (congrArg some (by kernel_rfl))
  f329 := Tryz.func128.trans (congrArg some (by kernel_rfl))
  f330 := Tryz.func129.trans (congrArg some (by kernel_rfl))
  f333 := Tryz.func127.trans (congrArg some (by kernel_rfl))
  f334 := Tryz.func130.trans (congrArg some (by kernel_rfl))
  f335 := Tryz.func131.trans (congrArg some (by kernel_rfl))
  f336 := Tryz.func132.trans (congrArg some (by kernel_rfl))
  f344 := Tryz.func133.trans (congrArg some (by kernel_rfl))
  t0 := Tryz.underlying0
  a0 := Tryz.isAgg0
  z0 := Tryz.sizeOf0
  v0 := Tryz.zeroValue0
  t3 := Tryz.underlying3
  a3 := Tryz.isAgg3
  z3 := Tryz.sizeOf3
  v3 := Tryz.zeroValue3
  t4 := Tryz.underlying4
  a4 := Tryz.isAgg4
  z4 := Tryz.sizeOf4
  v4 := Tryz.zeroValue4
  t5 := Tryz.underlying5
  a5 := Tryz.isAgg5
  z5 := Tryz.sizeOf5
  v5 := Tryz.zeroValue5
  t9 := Tryz.underlying9
  a9 := Tryz.isAgg9
  z9 := Tryz.sizeOf9
  v9 := Tryz.zeroValue9
  t31 := Tryz.underlying39
  a31 := Tryz.isAgg39
  z31 := Tryz.sizeOf39
  v31 := Tryz.zeroValue39
  t46 := Tryz.underlying98
  a46 := Tryz.isAgg98
  z46 := Tryz.sizeOf98
  v46 := Tryz.zeroValue98
  t51 := Tryz.underlying110
  a51 := Tryz.isAgg110
  z51 := Tryz.sizeOf110
  v51 := Tryz.zeroValue110
  t53 := Tryz.underlying36
  a53 := Tryz.isAgg36
  z53 := Tryz.sizeOf36
  v53 := Tryz.zeroValue36
  t131 := Tryz.underlying158
  a131 := Tryz.isAgg158
  z131 := Tryz.sizeOf158
  v131 := Tryz.zeroValue158
  t182 := Tryz.underlying164
  a182 := Tryz.isAgg164
  z182 := Tryz.sizeOf164
  v182 := Tryz.zeroValue164
  t183 := Tryz.underlying165
  a183 := Tryz.isAgg165
  z183 := Tryz.sizeOf165
  v183 := Tryz.zeroValue165
  t218 := Tryz.underlying173
  a218 := Tryz.isAgg173
  z218 := Tryz.sizeOf173
  v218 := Tryz.zeroValue173
  t222 := Tryz.underlying176
  a222 := Tryz.isAgg176
  z222 := Tryz.sizeOf176
  v222 := Tryz.zeroValue176
  t228 := Tryz.underlying178
  a228 := Tryz.isAgg178
  z228 := Tryz.sizeOf178
  v228 := Tryz.zeroValue178
  t229 := Tryz.underlying179
  a229 := Tryz.isAgg179
  z229 := Tryz.sizeOf179
  v229 := Tryz.zeroValue179
end Go.Proofs.YtfcmjomnpahllaaGreat.Vals
namespace Go.Proofs.YtfcmjomnpahllaaGreat
open Go Hv
set_option linter.unusedVariables false
set_option linter.unusedSimpArgs false
/-! Packing, plainly. -/
def num (v : Nat) : Nat → List UInt8
  | 0 => []
  | n + 1 => UInt8.ofNat (v / 256 ^ n) :: num v n
theorem num_length (v : Nat) : ∀ n, (num v n).length = n
  | 0 => rfl
  | n + 1 => by simp [num, num_length v n]
def val (l : List UInt8) : Nat := l.foldl (fun v c => v * 256 + c.toNat) 0
theorem val_foldl : ∀ (l : List UInt8) (v : Nat), l.foldl (fun v c => v * 256 + c.toNat) v = v * 256 ^ l.length + val l
  | [], v => by simp [val]
  | c :: l, v => by
    have h1 := val_foldl l (v * 256 + c.toNat)
    have h2 := val_foldl l (0 * 256 + c.toNat)
    simp only [List.foldl_cons, val] at *
    rw [h1, h2, List.length_cons, Nat.pow_succ]
    simp only [Nat.zero_mul, Nat.zero_add, Nat.add_mul]
    rw [Nat.mul_assoc, Nat.mul_comm 256, Nat.add_assoc]
theorem val_cons (c : UInt8) (l : List UInt8) : val (c :: l) = c.toNat * 256 ^ l.length + val l := by
  have := val_foldl l c.toNat
  show (c :: l).foldl _ 0 = _
  rw [List.foldl_cons, Nat.zero_mul, Nat.zero_add, this]
theorem val_snoc (l : List UInt8) (c : UInt8) : val (l ++ [c]) = val l * 256 + c.toNat := by unfold val; rw [List.foldl_append]; rfl
theorem val_lt : ∀ l : List UInt8, val l < 256 ^ l.length
  | [] => by simp [val]
  | c :: l => by
    rw [val_cons, List.length_cons, Nat.pow_succ]
    have h1 := val_lt l
    have h2 := c.toNat_lt
    have : c.toNat * 256 ^ l.length ≤ 255 * 256 ^ l.length := Nat.mul_le_mul_right _ (by omega)
    omega
theorem val_num (v : Nat) : ∀ n, val (num v n) = v % 256 ^ n
  | 0 => by simp [num, val, Nat.mod_one]
  | n + 1 => by
    unfold num
    rw [val_cons, val_num v n, num_length, UInt8.toNat_ofNat']
    have h1 : v % (256 ^ n * 256) = v % 256 ^ n + 256 ^ n * (v / 256 ^ n % 256) := Nat.mod_mul
    have e : 256 ^ (n + 1) = 256 ^ n * 256 := Nat.pow_succ ..
    rw [e, h1, Nat.mul_comm (256 ^ n), Nat.add_comm]
/-- A writer. -/
structure W where
  lim : Nat
  out : List UInt8
  err : Int
def W.lay (w : W) (b : List UInt8) : W := if w.err ≠ 0 then w else if b.length > w.lim - w.out.length then { w with err := 3 } else { w with out := w.out ++ b }
def textB (s : List UInt8) : List UInt8 := num s.length 4 ++ s
def textsB (l : List (List UInt8)) : List UInt8 := num l.length 4 ++ l.flatMap textB
structure WOk (w : W) : Prop where
  le : w.out.length ≤ w.lim
  hi : w.lim ≤ 9223372036854775807
  er : w.err = 0 ∨ w.err = 3
theorem W.lay_ok {w : W} {b : List UInt8} (h : WOk w) : WOk (w.lay b) := by
  unfold W.lay
  split
  · exact h
  · split
    · exact ⟨h.le, h.hi, .inr rfl⟩
    · have := h.le
      exact ⟨by show (w.out ++ b).length ≤ w.lim; rw [List.length_append]; omega, h.hi, h.er⟩
theorem W.lay_len {w : W} {b : List UInt8} : (w.lay b).out.length ≤ w.out.length + b.length ∧ (w.lay b).lim = w.lim := by
  unfold W.lay
  split
  · exact ⟨Nat.le_add_right _ _, rfl⟩
  · split
    · exact ⟨Nat.le_add_right _ _, rfl⟩
    · exact ⟨by rw [List.length_append]; exact Nat.le_refl _, rfl⟩
/-- A reader. -/
structure R where
  rest : List UInt8
  err : Int
def R.number (r : R) (n : Nat) : Nat × R := if r.err ≠ 0 then (0, r) else if r.rest.length < n then (0, { r with err := 4 }) else (val (r.rest.take n), { r with rest := r.rest.drop n })
def R.count (r : R) (most : Int) : Nat × R :=
  if r.err ≠ 0 then (0, r) else if r.rest.length < 4 then (0, { r with err := 4 }) else if (val (r.rest.take 4) : Int) > max most 0 then (0, { r with err := 3 }) else (val (r.rest.take 4), { r with rest := r.rest.drop 4 })
def R.text (r : R) (most : Int) : List UInt8 × R :=
  if r.err ≠ 0 then ([], r) else if r.rest.length < 4 then ([], { r with err := 4 }) else if (val (r.rest.take 4) : Int) > max most 0 then ([], { r with err := 3 })
  else if r.rest.length - 4 < val (r.rest.take 4) then ([], { r with err := 4 }) else ((r.rest.drop 4).take (val (r.rest.take 4)), { r with rest := r.rest.drop (4 + val (r.rest.take 4)) })
/-- n texts, one behind the other, till one fails. -/
def R.many (each : Int) : Nat → R → List (List UInt8) × R
  | 0, r => ([], r)
  | n + 1, r => if (r.text each).2.err ≠ 0 then ([(r.text each).1], (r.text each).2) else ((r.text each).1 :: (R.many each n (r.text each).2).1, (R.many each n (r.text each).2).2)
def R.texts (r : R) (most each : Int) : List (List UInt8) × R :=
  if (R.many each (r.count most).1 (r.count most).2).2.err ≠ 0 then ([], ⟨r.rest, (R.many each (r.count most).1 (r.count most).2).2.err⟩) else R.many each (r.count most).1 (r.count most).2
def R.fin (r : R) : Int := if r.err = 0 ∧ 0 < r.rest.length then 5 else r.err
end Go.Proofs.YtfcmjomnpahllaaGreat
namespace Go.Proofs.YtfcmjomnpahllaaGreat
open Go Hv
set_option linter.unusedVariables false
set_option linter.unusedSimpArgs false
set_option maxRecDepth 10000
set_option maxHeartbeats 1000000
/-! Writers in memory -/
structure WAt (H0 H : Heap) (g : Nat) (S : List Nat) (w : W) : Prop where
  ok : WOk w
  base : Upd [] H0 H
  new : ∀ b ∈ S, H0 b = none
  ex : ∃ a c, S = g :: blk a ∧ OwnRow H 135 1 (some ⟨g, 0, none⟩) 3 3 [.int .i64 (w.lim : Int), .slice a w.out.length c, .int .i64 w.err] ∧ OwnRow H 5 1 a w.out.length c (u8s w.out)
theorem blk_some {p : Addr} : blk (some p) = [p.block] := rfl
theorem off_notin {S : List Nat} {a : Option Addr} (h : ∀ b ∈ blk a, b ∉ S) : Off S a := fun p hp hb => h p.block (by rw [hp]; simp [blk]) hb
theorem WAt.upd {H0 H H' : Heap} {T : List Nat} {g : Nat} {S : List Nat} {w : W} (d : WAt H0 H g S w) (u : Upd T H H') (hT : ∀ b ∈ S, b ∉ T) (hn : ∀ b ∈ T, H0 b = none) : WAt H0 H' g S w := by
  obtain ⟨a, c, rfl, o, r⟩ := d.ex
  exact ⟨d.ok, Upd.drop d.base u hn, d.new, a, c, rfl, o.upd u (fun p hp => by cases hp; exact hT g List.mem_cons_self), r.upd u (off_notin fun b hb => hT b (List.mem_cons_of_mem _ hb))⟩
theorem WAt.upd0 {H0 H H' : Heap} {g : Nat} {S : List Nat} {w : W} (d : WAt H0 H g S w) (u : Upd [] H H') : WAt H0 H' g S w := d.upd u (by simp) (by simp)
theorem WAt.live {H0 H : Heap} {g : Nat} {S : List Nat} {w : W} (d : WAt H0 H g S w) : ∀ b ∈ S, H b ≠ none := by
  obtain ⟨a, c, rfl, o, r⟩ := d.ex
  intro b hb
  rcases List.mem_cons.1 hb with rfl | h
  · exact o.there rfl
  · obtain ⟨p, hp, rfl⟩ := blk_of h
    exact r.there hp
theorem WAt.mem {H0 H : Heap} {g : Nat} {S : List Nat} {w : W} (d : WAt H0 H g S w) : g ∈ S := by obtain ⟨a, c, rfl, _⟩ := d.ex; exact List.mem_cons_self
section
variable {H0 H : Heap} {g : Nat} {S : List Nat} {w : W} {K : Value → Heap → Prop}
theorem newW_t {n : Int} {H : Heap} {K : Value → Heap → Prop} (hn : n ≤ 9223372036854775807) (hk : ∀ g S H', WAt H H' g S ⟨(max n 0).toNat, [], 0⟩ → K (.pointer (some ⟨g, 0, none⟩)) H') : HCalls Tryz.prog 58 [.int .i64 n] H K := by
  refine hcalls (fn := Tryz.f58) [] mixed Tryz.func58 rfl rfl rfl ?_
  have e : max n 0 = (((max n 0).toNat : Nat) : Int) := by omega
  (repeat first | refine HReg.step ?_ | refine HCode.step ?_)
  rw [ite_mx, ite_max, e]
  refine HNew.mk fun g hg => ?_
  (repeat first | refine HReg.step ?_ | refine HCode.step ?_)
  refine hk g [g] _ ⟨⟨Nat.zero_le _, by show (max n 0).toNat ≤ _; omega, .inl rfl⟩, Upd.new hg _, by simpa using hg, none, 0, rfl, OwnRow.lit (upd_same _ _ _) rfl, OwnRow.nil _ _ _⟩
/-- The error alone is written. -/
theorem WAt.setErr {H' : Heap} {a : Option Addr} {c : Nat} {e : Int} (d : WAt H0 H g (g :: blk a) w) (o : OwnRow H 135 1 (some ⟨g, 0, none⟩) 3 3 [.int .i64 (w.lim : Int), .slice a w.out.length c, .int .i64 w.err]) (r : OwnRow H 5 1 a w.out.length c (u8s w.out))
    (o' : OwnRow H' 135 1 (some ⟨g, 0, none⟩) 3 3 [.int .i64 (w.lim : Int), .slice a w.out.length c, .int .i64 e]) (u : Upd [g] H H') (he : e = 0 ∨ e = 3) : WAt H0 H' g (g :: blk a) { w with err := e } := by
  refine ⟨⟨d.ok.le, d.ok.hi, he⟩, Upd.drop d.base u (fun b hb => by rw [List.mem_singleton.1 hb]; exact d.new g List.mem_cons_self), d.new, a, c, rfl, o', r.upd u (off_notin fun b hb hm => ?_)⟩
  rw [List.mem_singleton.1 hm] at hb
  exact own_apart o r (by decide) hb
theorem room_t {n : Nat} (d : WAt H0 H g S w)
    (hyes : w.err = 0 → n ≤ w.lim - w.out.length → K (.bool true) H) (hno : ∀ H', ¬ (w.err = 0 ∧ n ≤ w.lim - w.out.length) → WAt H0 H' g S (if w.err = 0 then { w with err := 3 } else w) → Foot S S H H' → K (.bool false) H') : HCalls Tryz.prog 85 [.pointer (some ⟨g, 0, none⟩), .int .i64 (n : Int)] H K := by
  refine hcalls (fn := Tryz.f85) [(1, [(0, 0), (1, 0), (2, 0), (3, 0), (4, 0), (5, 0), (6, 0), (7, 0), (8, 0), (9, 0), (10, 0), (11, 0), (12, 0), (13, 0), (14, 0), (15, 0), (16, 0), (17, 0), (18, 0)])] mixed Tryz.func85 rfl rfl (by decide +kernel) ?_
  obtain ⟨a, c, rfl, o, r⟩ := d.ex
  have hle := d.ok.le
  have hhi := d.ok.hi
  (repeat first | refine HReg.step ?_ | refine HCode.step ?_)
  refine HLoad.one (v := .int .i64 w.err) (by exact o.rows.get (i := 2) rfl) ?_
  (repeat first | refine HReg.step ?_ | refine HCode.step ?_)
  refine hif (fun h1 => ?_) (fun h1 => ?_)
  · have h1 := eqB_true.1 h1
    have hw : wr .i64 ((w.lim : Int) - (w.out.length : Int)) = (w.lim : Int) - w.out.length := wr_i64 (by omega) (by omega)
    (repeat first | refine HReg.step ?_ | refine HCode.step ?_)
    refine HLoad.one (v := .int .i64 (w.lim : Int)) (by exact o.rows.get (i := 0) rfl) ?_
    (repeat first | refine HReg.step ?_ | refine HCode.step ?_)
    refine HLoad.one (v := .slice a w.out.length c) (by exact o.rows.get (i := 1) rfl) ?_
    (repeat first | refine HReg.step ?_ | refine HCode.step ?_)
    rw [hw]
    refine hif (fun h2 => ?_) (fun h2 => ?_)
    · have h2 := ltB_true.1 h2
      (repeat first | refine HReg.step ?_ | refine HCode.step ?_)
      refine store_row o (v := .int .i64 3) rfl (i := 2) (by decide) (by rfl) fun H2 o2 u2 => ?_
      have o2 : OwnRow H2 135 1 (some ⟨g, 0, none⟩) 3 3 [.int .i64 (w.lim : Int), .slice a w.out.length c, .int .i64 3] := o2
      have d2 := d.setErr o r o2 u2 (.inr rfl)
      (repeat first | refine HReg.step ?_ | refine HCode.step ?_)
      refine HLoad.one (v := .int .i64 3) (by exact o2.rows.get (i := 2) rfl) ?_
      have e : eqB 3 0 = false := eqB_false.2 (by decide)
      (repeat first | refine HReg.step ?_ | refine HCode.step ?_)
      refine (show K (.bool (eqB 3 0)) H2 from ?_)
      rw [e]
      have := hno H2 (fun h => by omega) (by rw [if_pos h1]; exact d2) ⟨u2.mono (by simp), fun b hb => .inl hb⟩
      exact this
    · have h2 := ltB_false.1 h2
      (repeat first | refine HReg.step ?_ | refine HCode.step ?_)
      refine HLoad.one (v := .int .i64 w.err) (by exact o.rows.get (i := 2) rfl) ?_
      have e : eqB w.err 0 = true := eqB_true.2 h1
      (repeat first | refine HReg.step ?_ | refine HCode.step ?_)
      refine (show K (.bool (eqB w.err 0)) H from ?_)
      rw [e]
      exact hyes h1 (by omega)
  · have h1 := eqB_false.1 h1
    (repeat first | refine HReg.step ?_ | refine HCode.step ?_)
    refine HLoad.one (v := .int .i64 w.err) (by exact o.rows.get (i := 2) rfl) ?_
    have e : eqB w.err 0 = false := eqB_false.2 h1
    (repeat first | refine HReg.step ?_ | refine HCode.step ?_)
    refine (show K (.bool (eqB w.err 0)) H from ?_)
    rw [e]
    exact hno H (fun h => h1 h.1) (by rw [if_neg h1]; exact d) (Foot.refl _ _)
/-- Bytes are laid behind the others. -/
theorem WAt.grow {H2 H3 : Heap} {a a' : Option Addr} {c c' m : Nat} {ys : List UInt8} (d : WAt H0 H g (g :: blk a) w) (o : OwnRow H 135 1 (some ⟨g, 0, none⟩) 3 3 [.int .i64 (w.lim : Int), .slice a w.out.length c, .int .i64 w.err]) (r : OwnRow H 5 1 a w.out.length c (u8s w.out)) (hm : ys.length = m) (hl : w.out.length + m ≤ w.lim)
    (r2 : OwnRow H2 5 1 a' (w.out.length + m) c' (u8s (w.out ++ ys))) (u2 : Upd (blk a) H H2) (f2 : ∀ p, a' = some p → a = some p ∨ H p.block = none)
    (o3 : OwnRow H3 135 1 (some ⟨g, 0, none⟩) 3 3 [.int .i64 (w.lim : Int), .slice a' (w.out.length + m) c', .int .i64 w.err]) (u3 : Upd [g] H2 H3) : WAt H0 H3 g (g :: blk a') { w with out := w.out ++ ys } ∧ Foot (g :: blk a) (g :: blk a') H H3 := by
  have hlen : (w.out ++ ys).length = w.out.length + m := by rw [List.length_append, hm]
  have u : Upd (g :: blk a) H H3 := (u2.mono fun k hk => List.mem_cons_of_mem _ hk).trans (u3.mono fun k hk => by rw [List.mem_singleton.1 hk]; exact List.mem_cons_self)
  have hsub : ∀ b ∈ g :: blk a', b ∈ g :: blk a ∨ H b = none := fun b hb => by
    rcases List.mem_cons.1 hb with rfl | h
    · exact .inl List.mem_cons_self
    · obtain ⟨p, hp, rfl⟩ := blk_of h
      rcases f2 p hp with h | h
      · exact .inl (List.mem_cons_of_mem _ (by rw [h]; simp [blk]))
      · exact .inr h
  refine ⟨⟨⟨by show (w.out ++ ys).length ≤ w.lim; omega, d.ok.hi, d.ok.er⟩, Upd.drop d.base u d.new, fun b hb => ?_, a', c', rfl, ?_, ?_⟩, u, hsub⟩
  · rcases hsub b hb with h | h
    · exact d.new b h
    · exact Upd.none (S := []) d.base (by simp) h
  · show OwnRow H3 135 1 _ 3 3 [_, .slice a' (w.out ++ ys).length c', _]
    rw [hlen]; exact o3
  · show OwnRow H3 5 1 a' (w.out ++ ys).length c' (u8s (w.out ++ ys))
    rw [hlen]
    have o2 := o.upd u2 (fun p hp hm => by cases hp; exact own_apart o r (by decide) hm)
    refine r2.upd u3 (off_notin fun b hb hm => ?_)
    rw [List.mem_singleton.1 hm] at hb
    exact own_apart o2 r2 (by decide) hb
theorem byte_at (v i : Nat) (hi : i < 8) : Value.int .u8 (wr .u8 (shrS .u64 (v : Int) (wr .i64 (8 * (i : Int))))) = u8 (UInt8.ofNat (v / 256 ^ i)) := by
  have w : wr .i64 (8 * (i : Int)) = ((8 * i : Nat) : Int) := by rw [wr_i64 (by omega) (by omega)]; omega
  unfold u8
  congr 1
  have e8 : min (8 * i) IntKind.u64.bits = 8 * i := by
    have : IntKind.u64.bits = 64 := rfl
    rw [this]; omega
  have e2 : (2 : Int) ^ (8 * i) = ((256 ^ i : Nat) : Int) := by
    rw [show (256 : Nat) = 2 ^ 8 from rfl, ← Nat.pow_mul]; norm_cast
  rw [w, wr_u8, shrS_eq, Int.toNat_natCast, e8, e2, Int.fdiv_eq_ediv_of_nonneg _ (Int.natCast_nonneg _), UInt8.toNat_ofNat']
  norm_cast
structure NuInv (H0 : Heap) (g v : Nat) (S : List Nat) (w : W) (all : List UInt8) (H1 : Heap) (m : Nat) (vs : List Value) (H' : Heap) : Prop where
  ex : ∃ (out : List UInt8) (S' : List Nat), vs = [.int .i64 ((m : Int) - 1)] ∧ m ≤ 8 ∧ out ++ num v m = all ∧ WAt H0 H' g S' { w with out := out } ∧ Foot S S' H1 H'
theorem number_t {v n : Nat} (d : WAt H0 H g S w) (hn : n ≤ 8) (hfit : w.out.length + n ≤ w.lim) (hlim : w.out.length + n ≤ 140737488355328)
    (hk : ∀ S' H', WAt H0 H' g S' { w with out := w.out ++ num v n } → Foot S S' H H' → K (.tuple #[]) H') : HCalls Tryz.prog 86 [.pointer (some ⟨g, 0, none⟩), .int .u64 (v : Int), .int .i64 (n : Int)] H K := by
  refine hcalls (fn := Tryz.f86) [(3, [(5, 0), (6, 0), (7, 0), (8, 0), (9, 0), (10, 0), (1, 1), (2, 1), (3, 1), (4, 1), (11, 0), (0, 2), (12, 0), (13, 0), (14, 0)])] mixed Tryz.func86 rfl rfl (by decide +kernel) ?_
  have w1 : wr .i64 ((n : Int) - 1) = (n : Int) - 1 := wr_i64 (by omega) (by omega)
  (repeat first | refine HReg.step ?_ | refine HCode.step ?_)
  refine hloopC [6, 9, 10, 11, 12, 13, 14, 15, 16, 17, 18, 19, 20, 21, 22, 23, 24, 25, 26] [6] (NuInv H0 g v S w (w.out ++ num v n) H) rfl (by repeat' first | exact Resp.retD | exact Resp1.valuesK | refine Resp.blockD ?_ | refine Resp.thenD ?_ ?_ | refine Resp.hcode ?_) ?_ ?_
  · exact ⟨n, NuInv.mk ⟨w.out, S, by rw [w1], hn, rfl, d, Foot.refl _ _⟩⟩
  rintro m _ fe H2 ⟨out, S2, rfl, hm8, hall, d2, f2⟩
  (repeat first | refine HReg.step ?_ | refine HCode.step ?_)
  refine hif (fun h1 => ?_) (fun h1 => ?_)
  · have h1 := not_ltB_true.1 h1
    obtain ⟨i, rfl⟩ : ∃ i, m = i + 1 := ⟨m - 1, by omega⟩
    have em : ((i + 1 : Nat) : Int) - 1 = (i : Int) := by omega
    rw [em]
    have w8 : wr .i64 (8 * (i : Int)) = ((8 * i : Nat) : Int) := by rw [wr_i64 (by omega) (by omega)]; omega
    have hlen : out.length + (i + 1) = w.out.length + n := by
      have := congrArg List.length hall
      rw [List.length_append, List.length_append, num_length, num_length] at this; exact this
    obtain ⟨a, c, rfl, o, r⟩ := d2.ex
    (repeat first | refine HReg.step ?_ | refine HCode.step ?_)
    refine HReq.mk (by rw [w8]; omega) ?_
    (repeat first | refine HReg.step ?_ | refine HCode.step ?_)
    refine HReq.mk (by decide) ?_
    (repeat first | refine HReg.step ?_ | refine HCode.step ?_)
    refine HNew.mk fun b hb => ?_
    have ub : Upd [] H2 (H2.upd b (.cells [Value.int .u8 (wr .u8 (shrS .u64 (v : Int) (wr .i64 (8 * (i : Int)))))].toArray 5)) := Upd.new hb _
    have rb : RowAt (H2.upd b (.cells [Value.int .u8 (wr .u8 (shrS .u64 (v : Int) (wr .i64 (8 * (i : Int)))))].toArray 5)) (some ⟨b, 0, none⟩) (u8s [UInt8.ofNat (v / 256 ^ i)]) := row_lit (upd_same _ _ _) (by rw [byte_at v i (by omega)]; rfl)
    have d3 := d2.upd0 ub
    have o3 := o.upd ub (Off.nil _)
    have r3 := r.upd ub (Off.nil _)
    (repeat first | refine HReg.step ?_ | refine HCode.step ?_)
    refine HLoad_two (v := .slice a out.length c) (by exact o3.rows.get (i := 1) rfl) (by exact o.rows.get (i := 1) rfl) ?_
    (repeat first | refine HReg.step ?_ | refine HCode.step ?_)
    refine append_own (xs := out) r3 rb rfl (by omega) fun a4 c4 H4 r4 u4 f4 => ?_
    have o4 := o3.upd u4 (fun p hp hm => by cases hp; exact own_apart o3 r3 (by decide) hm)
    (repeat first | refine HReg.step ?_ | refine HCode.step ?_)
    refine store_row o4 (v := .slice a4 (out.length + 1) c4) rfl (i := 1) (by decide) (by rfl) fun H5 o5 u5 => ?_
    obtain ⟨d5, f5⟩ := WAt.grow (ys := [UInt8.ofNat (v / 256 ^ i)]) (m := 1) d3 o3 r3 rfl (by show out.length + 1 ≤ w.lim; omega) r4 u4 f4 o5 u5
    have w2 : wr .i64 ((i : Int) - 1) = (i : Int) - 1 := wr_i64 (by omega) (by omega)
    (repeat first | refine HReg.step ?_ | refine HCode.step ?_)
    rw [w2]
    exact ⟨i, by omega, NuInv.mk ⟨out ++ [UInt8.ofNat (v / 256 ^ i)], _, rfl, by omega, by rw [List.append_assoc]; exact hall, d5, f2.trans (f5.back0 ub)⟩⟩
  · have h1 := not_ltB_false.1 h1
    obtain rfl : m = 0 := by omega
    (repeat first | refine HReg.step ?_ | refine HCode.step ?_)
    have hall : out ++ [] = w.out ++ num v n := hall
    rw [List.append_nil] at hall
    rw [hall] at d2
    exact hk S2 H2 d2 f2
end
end Go.Proofs.YtfcmjomnpahllaaGreat
namespace Go.Proofs.YtfcmjomnpahllaaGreat
open Go Hv
set_option linter.unusedVariables false
set_option linter.unusedSimpArgs false
set_option maxRecDepth 10000
set_option maxHeartbeats 1000000
theorem lay_yes {w : W} {b : List UInt8} (h1 : w.err = 0) (h2 : b.length ≤ w.lim - w.out.length) : w.lay b = { w with out := w.out ++ b } := by
  unfold W.lay; rw [if_neg (by rw [h1]; simp), if_neg (by omega)]
theorem lay_no {w : W} {b : List UInt8} (h : ¬ (w.err = 0 ∧ b.length ≤ w.lim - w.out.length)) : w.lay b = if w.err = 0 then { w with err := 3 } else w := by
  unfold W.lay
  by_cases h1 : w.err = 0
  · rw [if_neg (by rw [h1]; simp), if_pos (by omega), if_pos h1]
  · rw [if_pos h1, if_neg h1]
section
variable {H0 H : Heap} {g : Nat} {S : List Nat} {w : W} {K : Value → Heap → Prop}
theorem u8_t {v : Nat} (d : WAt H0 H g S w) (hv : v < 256) (hlim : w.out.length + 8 ≤ 140737488355328)
    (hk : ∀ S' H', WAt H0 H' g S' (w.lay (num v 1)) → Foot S S' H H' → K (.tuple #[]) H') : HCalls Tryz.prog 81 [.pointer (some ⟨g, 0, none⟩), .int .u8 (v : Int)] H K := by
  refine hcalls (fn := Tryz.f81) [] mixed Tryz.func81 rfl rfl rfl ?_
  have hl := num_length v 1
  have w1 : wr .u64 (v : Int) = (v : Int) := by rw [wr_u64]; omega
  (repeat first | refine HReg.step ?_ | refine HCode.step ?_)
  refine HCall.mk ⟨Tryz.f85, Tryz.func85, by rfl, by rfl⟩ ?_
  refine room_t (n := 1) d (fun h1 h2 => ?_) fun H2 hn d2 f2 => ?_
  · rw [lay_yes h1 (by rw [hl]; exact h2)] at hk
    (repeat first | refine HReg.step ?_ | refine HCode.step ?_)
    rw [w1]
    refine HCall.mk ⟨Tryz.f86, Tryz.func86, by rfl, by rfl⟩ ?_
    have := d.ok.le
    refine number_t (n := 1) d (by decide) (by omega) (by omega) fun S3 H3 d3 f3 => ?_
    (repeat first | refine HReg.step ?_ | refine HCode.step ?_)
    exact hk S3 H3 d3 f3
  · rw [lay_no (by rw [hl]; exact hn)] at hk
    (repeat first | refine HReg.step ?_ | refine HCode.step ?_)
    exact hk S H2 d2 f2
theorem u32_t {v : Nat} (d : WAt H0 H g S w) (hv : v < 4294967296) (hlim : w.out.length + 8 ≤ 140737488355328)
    (hk : ∀ S' H', WAt H0 H' g S' (w.lay (num v 4)) → Foot S S' H H' → K (.tuple #[]) H') : HCalls Tryz.prog 83 [.pointer (some ⟨g, 0, none⟩), .int .u32 (v : Int)] H K := by
  refine hcalls (fn := Tryz.f83) [] mixed Tryz.func83 rfl rfl rfl ?_
  have hl := num_length v 4
  have w1 : wr .u64 (v : Int) = (v : Int) := by rw [wr_u64]; omega
  (repeat first | refine HReg.step ?_ | refine HCode.step ?_)
  refine HCall.mk ⟨Tryz.f85, Tryz.func85, by rfl, by rfl⟩ ?_
  refine room_t (n := 4) d (fun h1 h2 => ?_) fun H2 hn d2 f2 => ?_
  · rw [lay_yes h1 (by rw [hl]; exact h2)] at hk
    (repeat first | refine HReg.step ?_ | refine HCode.step ?_)
    rw [w1]
    refine HCall.mk ⟨Tryz.f86, Tryz.func86, by rfl, by rfl⟩ ?_
    have := d.ok.le
    refine number_t (n := 4) d (by decide) (by omega) (by omega) fun S3 H3 d3 f3 => ?_
    (repeat first | refine HReg.step ?_ | refine HCode.step ?_)
    exact hk S3 H3 d3 f3
  · rw [lay_no (by rw [hl]; exact hn)] at hk
    (repeat first | refine HReg.step ?_ | refine HCode.step ?_)
    exact hk S H2 d2 f2
theorem u64_t {v : Nat} (d : WAt H0 H g S w) (hlim : w.out.length + 8 ≤ 140737488355328)
    (hk : ∀ S' H', WAt H0 H' g S' (w.lay (num v 8)) → Foot S S' H H' → K (.tuple #[]) H') : HCalls Tryz.prog 82 [.pointer (some ⟨g, 0, none⟩), .int .u64 (v : Int)] H K := by
  refine hcalls (fn := Tryz.f82) [] mixed Tryz.func82 rfl rfl rfl ?_
  have hl := num_length v 8
  (repeat first | refine HReg.step ?_ | refine HCode.step ?_)
  refine HCall.mk ⟨Tryz.f85, Tryz.func85, by rfl, by rfl⟩ ?_
  refine room_t (n := 8) d (fun h1 h2 => ?_) fun H2 hn d2 f2 => ?_
  · rw [lay_yes h1 (by rw [hl]; exact h2)] at hk
    (repeat first | refine HReg.step ?_ | refine HCode.step ?_)
    refine HCall.mk ⟨Tryz.f86, Tryz.func86, by rfl, by rfl⟩ ?_
    have := d.ok.le
    refine number_t (n := 8) d (by decide) (by omega) (by omega) fun S3 H3 d3 f3 => ?_
    (repeat first | refine HReg.step ?_ | refine HCode.step ?_)
    exact hk S3 H3 d3 f3
  · rw [lay_no (by rw [hl]; exact hn)] at hk
    (repeat first | refine HReg.step ?_ | refine HCode.step ?_)
    exact hk S H2 d2 f2
theorem textB_length (s : List UInt8) : (textB s).length = 4 + s.length := by unfold textB; rw [List.length_append, num_length]
theorem text_t {s : List UInt8} (d : WAt H0 H g S w) (hlim : w.out.length + (4 + s.length) ≤ 140737488355328)
    (hk : ∀ S' H', WAt H0 H' g S' (w.lay (textB s)) → Foot S S' H H' → K (.tuple #[]) H') : HCalls Tryz.prog 59 [.pointer (some ⟨g, 0, none⟩), .string (bs s)] H K := by
  refine hcalls (fn := Tryz.f59) [] mixed Tryz.func59 rfl rfl rfl ?_
  have hl := textB_length s
  have hbs := bs_size s
  have w0 : wr .i64 (4 + ((bs s).size : Int)) = ((4 + s.length : Nat) : Int) := by rw [hbs, wr_i64 (by omega) (by omega)]; omega
  have w1 : wr .u64 ((bs s).size : Int) = (s.length : Int) := by rw [hbs, wr_u64]; omega
  (repeat first | refine HReg.step ?_ | refine HCode.step ?_)
  rw [w0]
  refine HCall.mk ⟨Tryz.f85, Tryz.func85, by rfl, by rfl⟩ ?_
  refine room_t (n := 4 + s.length) d (fun h1 h2 => ?_) fun H2 hn d2 f2 => ?_
  · rw [lay_yes h1 (by rw [hl]; exact h2)] at hk
    have hle := d.ok.le
    (repeat first | refine HReg.step ?_ | refine HCode.step ?_)
    rw [w1]
    refine HCall.mk ⟨Tryz.f86, Tryz.func86, by rfl, by rfl⟩ ?_
    refine number_t (n := 4) d (by decide) (by omega) (by omega) fun S3 H3 d3 f3 => ?_
    obtain ⟨a, c, rfl, o, r⟩ := d3.ex
    have hol : ({ w with out := w.out ++ num s.length 4 } : W).out.length = w.out.length + 4 := by show (w.out ++ num s.length 4).length = _; rw [List.length_append, num_length]
    (repeat first | refine HReg.step ?_ | refine HCode.step ?_)
    refine HLoad.one (v := .slice a (w.out ++ num s.length 4).length c) (by exact o.rows.get (i := 1) rfl) ?_
    (repeat first | refine HReg.step ?_ | refine HCode.step ?_)
    refine append_str (ie := Tryz.t5) (z := .int .u8 0) (s := bs s) (xs := u8s (w.out ++ num s.length 4)) Tryz.underlying42 rfl rfl rfl rfl Tryz.underlying9 r (by rw [hbs]; show ((w.out ++ num s.length 4).length + s.length) * 1 ≤ _; rw [List.length_append, num_length]; omega) (by rw [hbs, List.length_append, num_length]; omega) fun a4 c4 H4 r4 u4 f4 => ?_
    have r4' : OwnRow H4 5 1 a4 ((w.out ++ num s.length 4).length + s.length) c4 (u8s ((w.out ++ num s.length 4) ++ s)) := by
      rw [u8s_append]
      have e : (u8s s) = (bs s).data.toList.map fun b => Value.int .u8 b.toNat := rfl
      rw [e, ← hbs]; exact r4
    have o4 := o.upd u4 (fun p hp hm => by cases hp; exact own_apart o r (by decide) hm)
    (repeat first | refine HReg.step ?_ | refine HCode.step ?_)
    refine store_row o4 (v := .slice a4 ((w.out ++ num s.length 4).length + (bs s).size) c4) rfl (i := 1) (by decide) (by rfl) fun H5 o5 u5 => ?_
    have o5' : OwnRow H5 135 1 (some ⟨g, 0, none⟩) 3 3 [.int .i64 (w.lim : Int), .slice a4 ((w.out ++ num s.length 4).length + s.length) c4, .int .i64 w.err] := by
      rw [hbs] at o5; exact o5
    obtain ⟨d5, f5⟩ := WAt.grow (ys := s) (m := s.length) d3 o r rfl (by rw [hol]; show _ ≤ w.lim; omega) r4' u4 f4 o5' u5
    (repeat first | refine HReg.step ?_ | refine HCode.step ?_)
    refine hk _ H5 ?_ (f3.trans f5)
    have e : w.out ++ textB s = (w.out ++ num s.length 4) ++ s := by unfold textB; rw [List.append_assoc]
    rw [e]; exact d5
  · rw [lay_no (by rw [hl]; exact hn)] at hk
    (repeat first | refine HReg.step ?_ | refine HCode.step ?_)
    exact hk S H2 d2 f2
/-! Lists of texts -/
def txts (ls : List (List UInt8)) : List Value := ls.map fun l => Value.string (bs l)
theorem txts_get {ls : List (List UInt8)} {i : Nat} {l : List UInt8} (h : ls[i]? = some l) : (txts ls)[i]? = some (.string (bs l)) := by simp [txts, h]
theorem txts_length (ls : List (List UInt8)) : (txts ls).length = ls.length := by simp [txts]
theorem flat_take {l : List (List UInt8)} {i : Nat} {s : List UInt8} (h : l[i]? = some s) : (l.take (i + 1)).flatMap textB = (l.take i).flatMap textB ++ textB s := by
  rw [take_get h, List.flatMap_append]; simp
theorem flat_le (l : List (List UInt8)) (i : Nat) : ((l.take i).flatMap textB).length ≤ (l.flatMap textB).length := by
  have : l.flatMap textB = (l.take i).flatMap textB ++ (l.drop i).flatMap textB := by rw [← List.flatMap_append, List.take_append_drop]
  rw [this, List.length_append]; omega
structure TsI1 (l : List (List UInt8)) (H0 : Heap) (m : Nat) (vs : List Value) (H' : Heap) : Prop where
  ex : ∃ i : Nat, vs = [.int .i64 ((4 + ((l.take i).flatMap textB).length : Nat) : Int), .int .i64 (i : Int)] ∧ m + i = l.length ∧ H0 = H'
structure TsI2 (l : List (List UInt8)) (H0 : Heap) (g : Nat) (S : List Nat) (w : W) (H1 : Heap) (m : Nat) (vs : List Value) (H' : Heap) : Prop where
  ex : ∃ (i : Nat) (S' : List Nat), vs = [.int .i64 (i : Int)] ∧ m + i = l.length ∧ WAt H0 H' g S' { w with out := w.out ++ num l.length 4 ++ (l.take i).flatMap textB } ∧ Foot S S' H1 H'
theorem texts_t {l : List (List UInt8)} {al : Option Addr} {nl cl : Nat} (d : WAt H0 H g S w) (hr : RowAt H0 al (txts l)) (hnl : l.length = nl) (hlim : w.out.length + (textsB l).length ≤ 140737488355328)
    (hk : ∀ S' H', WAt H0 H' g S' (w.lay (textsB l)) → Foot S S' H H' → K (.tuple #[]) H') : HCalls Tryz.prog 84 [.pointer (some ⟨g, 0, none⟩), .slice al nl cl] H K := by
  refine hcalls (fn := Tryz.f84) [] mixed Tryz.func84 rfl rfl (by decide +kernel) ?_
  have htl : (textsB l).length = 4 + (l.flatMap textB).length := by unfold textsB; rw [List.length_append, num_length]
  have hr1 := hr.upd (S := []) d.base (.inr (Off.nil _))
  have hll : l.length ≤ (l.flatMap textB).length := by
    clear hr hr1 hnl hlim hk htl
    induction l with
    | nil => exact Nat.le_refl _
    | cons s l ih => simp only [List.length_cons, List.flatMap_cons, List.length_append, textB_length]; omega
  (repeat first | refine HReg.step ?_ | refine HCode.step ?_)
  refine hloopC [4, 6, 11, 12, 13, 14, 15, 16, 17, 18, 19, 20] [4, 11] (TsI1 l H) rfl (by repeat' first | exact Resp.retD | exact Resp1.valuesK | refine Resp.blockD ?_ | refine Resp.thenD ?_ ?_ | refine Resp.hcode ?_) ?_ ?_
  · exact ⟨l.length, TsI1.mk ⟨0, rfl, rfl, rfl⟩⟩
  rintro m _ fe H' ⟨i, rfl, hmi, rfl⟩
  (repeat first | refine HReg.step ?_ | refine HCode.step ?_)
  refine hif (fun h1 => ?_) (fun h1 => ?_)
  · have h1 := ltB_true.1 h1
    obtain ⟨s, hs⟩ : ∃ s, l[i]? = some s := ⟨l[i]'(by omega), by simp⟩
    obtain ⟨ba, bo, rfl, _⟩ := hr1 i _ (txts_get hs)
    have hbs := bs_size s
    have hft := flat_take hs
    have hfl := flat_le l (i + 1)
    have hfl' := congrArg List.length hft
    rw [List.length_append, textB_length] at hfl'
    have w2 : wr .i64 ((i : Int) + 1) = ((i + 1 : Nat) : Int) := by rw [wr_i64 (by omega) (by omega)]; omega
    have w3 : wr .i64 (((4 + ((l.take i).flatMap textB).length : Nat) : Int) + wr .i64 (4 + ((bs s).size : Int))) = ((4 + ((l.take (i + 1)).flatMap textB).length : Nat) : Int) := by
      rw [hbs, wr_i64 (n := 4 + (s.length : Int)) (by omega) (by omega), wr_i64 (by omega) (by omega)]; omega
    (repeat first | refine HReg.step ?_ | refine HCode.step ?_)
    refine HReq.mk ⟨by omega, by omega⟩ ?_
    (repeat first | refine HReg.step ?_ | refine HCode.step ?_)
    refine HLoad.one (v := .string (bs s)) (by exact hr1.get (txts_get hs)) ?_
    (repeat first | refine HReg.step ?_ | refine HCode.step ?_)
    rw [w2, w3]
    exact ⟨m - 1, by omega, TsI1.mk ⟨i + 1, rfl, by omega, rfl⟩⟩
  have h1 := ltB_false.1 h1
  rw [List.take_of_length_le (by omega), ← htl]
  (repeat first | refine HReg.step ?_ | refine HCode.step ?_)
  refine HCall.mk ⟨Tryz.f85, Tryz.func85, by rfl, by rfl⟩ ?_
  refine room_t (n := (textsB l).length) d (fun h2 h3 => ?_) fun H2 hn d2 f2 => ?_
  rotate_left
  · rw [lay_no hn] at hk
    (repeat first | refine HReg.step ?_ | refine HCode.step ?_)
    exact hk S H2 d2 f2
  rw [lay_yes h2 h3] at hk
  have hle := d.ok.le
  have w1 : wr .u64 (nl : Int) = (l.length : Int) := by rw [wr_u64]; omega
  (repeat first | refine HReg.step ?_ | refine HCode.step ?_)
  rw [w1]
  refine HCall.mk ⟨Tryz.f86, Tryz.func86, by rfl, by rfl⟩ ?_
  refine number_t (n := 4) d (by decide) (by omega) (by omega) fun S3 H3 d3 f3 => ?_
  (repeat first | refine HReg.step ?_ | refine HCode.step ?_)
  refine hloopC [8, 32, 33, 34, 35, 36, 37, 38, 39] [32] (TsI2 l H0 g S w H) rfl (by repeat' first | exact Resp.retD | exact Resp1.valuesK | refine Resp.blockD ?_ | refine Resp.thenD ?_ ?_ | refine Resp.hcode ?_) ?_ ?_
  · exact ⟨l.length, TsI2.mk ⟨0, S3, rfl, rfl, by rw [List.take_zero, List.flatMap_nil, List.append_nil]; exact d3, f3⟩⟩
  rintro m _ fe H4 ⟨i, S4, rfl, hmi, d4, f4⟩
  (repeat first | refine HReg.step ?_ | refine HCode.step ?_)
  refine hif (fun h4 => ?_) (fun h4 => ?_)
  · have h4 := ltB_true.1 h4
    have hr4 := hr.upd (S := []) d4.base (.inr (Off.nil _))
    obtain ⟨s, hs⟩ : ∃ s, l[i]? = some s := ⟨l[i]'(by omega), by simp⟩
    obtain ⟨ba, bo, rfl, _⟩ := hr4 i _ (txts_get hs)
    have hft := flat_take hs
    have hfl := flat_le l (i + 1)
    have hfl' := congrArg List.length hft
    rw [List.length_append, textB_length] at hfl'
    have hol : (w.out ++ num l.length 4 ++ (l.take i).flatMap textB).length = w.out.length + 4 + ((l.take i).flatMap textB).length := by rw [List.length_append, List.length_append, num_length]
    have w2 : wr .i64 ((i : Int) + 1) = ((i + 1 : Nat) : Int) := by rw [wr_i64 (by omega) (by omega)]; omega
    (repeat first | refine HReg.step ?_ | refine HCode.step ?_)
    refine HReq.mk ⟨by omega, by omega⟩ ?_
    (repeat first | refine HReg.step ?_ | refine HCode.step ?_)
    refine HLoad.one (v := .string (bs s)) (by exact hr4.get (txts_get hs)) ?_
    (repeat first | refine HReg.step ?_ | refine HCode.step ?_)
    refine HCall.mk ⟨Tryz.f59, Tryz.func59, by rfl, by rfl⟩ ?_
    refine text_t (s := s) d4 (by show (w.out ++ num l.length 4 ++ (l.take i).flatMap textB).length + _ ≤ _; omega) fun S5 H5 d5 f5 => ?_
    rw [lay_yes (w := { w with out := w.out ++ num l.length 4 ++ (l.take i).flatMap textB }) (by exact h2) (by rw [textB_length]; show _ ≤ w.lim - (w.out ++ num l.length 4 ++ (l.take i).flatMap textB).length; omega)] at d5
    (repeat first | refine HReg.step ?_ | refine HCode.step ?_)
    rw [w2]
    exact ⟨m - 1, by omega, TsI2.mk ⟨i + 1, S5, rfl, by omega, by rw [hft, ← List.append_assoc]; exact d5, f4.trans f5⟩⟩
  · have h4 := ltB_false.1 h4
    rw [List.take_of_length_le (by omega), List.append_assoc] at d4
    (repeat first | refine HReg.step ?_ | refine HCode.step ?_)
    exact hk S4 H4 d4 f4
def W.told (w : W) : List UInt8 := if w.err = 0 then w.out else []
theorem out_t (d : WAt H0 H g S w) (hlim : w.out.length ≤ 140737488355328) (hk : ∀ a c H', Made H H' 5 1 a w.told.length c (u8s w.told) → K (.tuple #[.slice a w.told.length c, .int .i64 w.err]) H') : HCalls Tryz.prog 60 [.pointer (some ⟨g, 0, none⟩)] H K := by
  refine hcalls (fn := Tryz.f60) [(2, [(0, 0), (1, 0), (2, 0), (3, 0), (4, 0), (5, 0)])] mixed Tryz.func60 rfl rfl (by decide +kernel) ?_
  obtain ⟨a, c, rfl, o, r⟩ := d.ex
  (repeat first | refine HReg.step ?_ | refine HCode.step ?_)
  refine HLoad.one (v := .int .i64 w.err) (by exact o.rows.get (i := 2) rfl) ?_
  (repeat first | refine HReg.step ?_ | refine HCode.step ?_)
  refine hif (fun h1 => ?_) (fun h1 => ?_)
  · have h1 := not_eqB_true.1 h1
    have e : w.told = [] := if_neg h1
    rw [e] at hk
    (repeat first | refine HReg.step ?_ | refine HCode.step ?_)
    refine HLoad.one (v := .int .i64 w.err) (by exact o.rows.get (i := 2) rfl) ?_
    (repeat first | refine HReg.step ?_ | refine HCode.step ?_)
    exact hk none 0 H ⟨OwnRow.nil _ _ _, Upd.refl _ _, fun p hp => by cases hp⟩
  · have h1 := not_eqB_false.1 h1
    have e : w.told = w.out := if_pos h1
    rw [e, h1] at hk
    (repeat first | refine HReg.step ?_ | refine HCode.step ?_)
    refine HLoad.one (v := .slice a w.out.length c) (by exact o.rows.get (i := 1) rfl) ?_
    (repeat first | refine HReg.step ?_ | refine HCode.step ?_)
    refine HCall.mk ⟨Tryz.f43, Tryz.func43, by rfl, by rfl⟩ ?_
    refine clone_t r.rows rfl hlim fun a' c' H' m => ?_
    (repeat first | refine HReg.step ?_ | refine HCode.step ?_)
    exact hk a' c' H' m
end
end Go.Proofs.YtfcmjomnpahllaaGreat
namespace Go.Proofs.YtfcmjomnpahllaaGreat
open Go Hv
set_option linter.unusedVariables false
set_option linter.unusedSimpArgs false
set_option maxRecDepth 10000
set_option maxHeartbeats 1000000
/-! Readers in memory -/
structure RAt (H0 H : Heap) (g : Nat) (S : List Nat) (r : R) : Prop where
  lim : r.rest.length ≤ 140737488355328
  er : r.err = 0 ∨ r.err = 3 ∨ r.err = 4
  base : Upd [] H0 H
  new : ∀ b ∈ S, H0 b = none
  ex : ∃ a c, S = g :: blk a ∧ OwnRow H 141 1 (some ⟨g, 0, none⟩) 2 2 [.slice a r.rest.length c, .int .i64 r.err] ∧ RowAt H a (u8s r.rest) ∧ r.rest.length ≤ c ∧ (∀ b ∈ blk a, ∃ cu z, H b = some (.cells cu 5 z))
theorem RAt.upd {H0 H H' : Heap} {T : List Nat} {g : Nat} {S : List Nat} {r : R} (d : RAt H0 H g S r) (u : Upd T H H') (hT : ∀ b ∈ S, b ∉ T) (hn : ∀ b ∈ T, H0 b = none) : RAt H0 H' g S r := by
  obtain ⟨a, c, rfl, o, w, hc, hl⟩ := d.ex
  refine ⟨d.lim, d.er, Upd.drop d.base u hn, d.new, a, c, rfl, o.upd u (fun p hp => by cases hp; exact hT g List.mem_cons_self), w.upd u (.inr (off_notin fun b hb => hT b (List.mem_cons_of_mem _ hb))), hc, fun b hb => ?_⟩
  obtain ⟨cu, z, h⟩ := hl b hb
  exact ⟨cu, z, by rw [u b (hT b (List.mem_cons_of_mem _ hb)) (by rw [h]; simp), h]⟩
theorem RAt.upd0 {H0 H H' : Heap} {g : Nat} {S : List Nat} {r : R} (d : RAt H0 H g S r) (u : Upd [] H H') : RAt H0 H' g S r := d.upd u (by simp) (by simp)
theorem RAt.live {H0 H : Heap} {g : Nat} {S : List Nat} {r : R} (d : RAt H0 H g S r) : ∀ b ∈ S, H b ≠ none := by
  obtain ⟨a, c, rfl, o, w, hc, hl⟩ := d.ex
  intro b hb
  rcases List.mem_cons.1 hb with rfl | h
  · exact o.there rfl
  · obtain ⟨cu, z, h⟩ := hl b h; rw [h]; simp
theorem newR_t {a : Option Addr} {n c : Nat} {l : List UInt8} {H : Heap} {K : Value → Heap → Prop} (hr : RowAt H a (u8s l)) (hl : l.length = n) (hlim : n ≤ 140737488355328) (hk : ∀ g S H', RAt H H' g S ⟨l, 0⟩ → K (.pointer (some ⟨g, 0, none⟩)) H') : HCalls Tryz.prog 71 [.slice a n c] H K := by
  refine hcalls (fn := Tryz.f71) [] mixed Tryz.func71 rfl rfl rfl ?_
  (repeat first | refine HReg.step ?_ | refine HCode.step ?_)
  refine HCall.mk ⟨Tryz.f43, Tryz.func43, by rfl, by rfl⟩ ?_
  refine clone_t hr hl hlim fun a1 c1 H1 m1 => ?_
  (repeat first | refine HReg.step ?_ | refine HCode.step ?_)
  refine HNew.mk fun g hg => ?_
  have ug : Upd [] H1 (H1.upd g (.cells [Value.slice a1 n c1, .int .i64 0].toArray 141)) := Upd.new hg _
  subst hl
  (repeat first | refine HReg.step ?_ | refine HCode.step ?_)
  refine hk g (g :: blk a1) _ ⟨hlim, .inl rfl, m1.upd.trans ug, fun b hb => ?_, a1, c1, rfl, OwnRow.lit (upd_same _ _ _) rfl, m1.own.rows.upd (S := []) ug (.inr (Off.nil _)), m1.own.le, fun b hb => ?_⟩
  · rcases List.mem_cons.1 hb with rfl | h
    · exact Upd.none (S := []) m1.upd (by simp) hg
    · obtain ⟨p, hp, rfl⟩ := blk_of h
      exact m1.new p hp
  · obtain ⟨p, hp, rfl⟩ := blk_of hb
    rcases m1.own.ok with ⟨ha, _⟩ | ⟨g', cur, ha, hg', _⟩
    · rw [ha] at hp; cases hp
    · rw [ha] at hp; cases hp
      exact ⟨cur, _, by rw [ug g' (by simp) (by rw [hg']; simp), hg']⟩
section
variable {H0 H : Heap} {g : Nat} {S : List Nat} {r : R} {K : Value → Heap → Prop}
theorem RAt.notin {a : Option Addr} {c : Nat} (o : OwnRow H 141 1 (some ⟨g, 0, none⟩) 2 2 [.slice a r.rest.length c, .int .i64 r.err]) (hl : ∀ b ∈ blk a, ∃ cu z, H b = some (.cells cu 5 z)) : g ∉ blk a := fun hb => by
  obtain ⟨cu, z, h⟩ := hl g hb
  obtain ⟨c', z', h'⟩ := own_cells o
  rw [h] at h'; cases h'
/-- The reader's own two fields change; the bytes stay. -/
theorem RAt.set {H' : Heap} {a a' : Option Addr} {c c' : Nat} {r' : R} (d : RAt H0 H g (g :: blk a) r) (o : OwnRow H 141 1 (some ⟨g, 0, none⟩) 2 2 [.slice a r.rest.length c, .int .i64 r.err]) (hl : ∀ b ∈ blk a, ∃ cu z, H b = some (.cells cu 5 z)) (he : r'.err = 0 ∨ r'.err = 3 ∨ r'.err = 4) (hle : r'.rest.length ≤ r.rest.length)
    (o' : OwnRow H' 141 1 (some ⟨g, 0, none⟩) 2 2 [.slice a' r'.rest.length c', .int .i64 r'.err]) (u : Upd [g] H H') (hb : blk a' = blk a) (hw : RowAt H a' (u8s r'.rest)) (hc : r'.rest.length ≤ c') : RAt H0 H' g (g :: blk a) r' ∧ Upd [g] H H' := by
  have hg := RAt.notin o hl
  have off : ∀ b ∈ blk a, b ∉ [g] := fun b hb hm => hg (by rw [← List.mem_singleton.1 hm]; exact hb)
  refine ⟨⟨Nat.le_trans hle d.lim, he, Upd.drop d.base u (fun b hb => by rw [List.mem_singleton.1 hb]; exact d.new g List.mem_cons_self), d.new, a', c', by rw [hb], o', hw.upd u (.inr (off_notin (by rw [hb]; exact off))), hc, fun b hb' => ?_⟩, u⟩
  rw [hb] at hb'
  obtain ⟨cu, z, h⟩ := hl b hb'
  exact ⟨cu, z, by rw [u b (off b hb') (by rw [h]; simp), h]⟩
theorem blk_sl (a : Option Addr) (l cap size : Nat) : blk (slAddr a l cap size) = blk a := by
  unfold slAddr
  split
  · rfl
  · cases a with
    | none => rfl
    | some p =>
      have e : ∀ k, (p.add k).block = p.block := fun k => by unfold Addr.add; split <;> rfl
      show [(p.add _).block] = [p.block]
      rw [e]
end
end Go.Proofs.YtfcmjomnpahllaaGreat
namespace Go.Proofs.YtfcmjomnpahllaaGreat
open Go Hv
set_option linter.unusedVariables false
set_option linter.unusedSimpArgs false
set_option maxRecDepth 10000
set_option maxHeartbeats 1000000
/-! The functions of readers -/
theorem or8 (v : Nat) (x : UInt8) (hv : v < 72057594037927936) : bitsS .or .u64 (shlS .u64 (v : Int) 8) (wr .u64 (x.toNat : Int)) = ((v * 256 + x.toNat : Nat) : Int) := by
  have hx := x.toNat_lt
  have w : wr .u64 (x.toNat : Int) = (x.toNat : Int) := by rw [wr_u64]; omega
  have s : shlS .u64 (v : Int) 8 = ((v * 256 : Nat) : Int) := by
    have e8 : min ((8 : Int).toNat) IntKind.u64.bits = 8 := by decide
    have e2 : (v : Int) * (2 : Int) ^ 8 = ((v * 256 : Nat) : Int) := by push_cast; rfl
    rw [shlS_eq, e8, e2]
    have := wr_u64 ((v * 256 : Nat) : Int)
    rw [wr_eq] at this
    rw [this]; omega
  rw [w, s, bitsS_eq, bits_or_u64_nat _ _ (by omega) (by omega)]
  congr 1
  have := Nat.two_pow_add_eq_or_of_lt (i := 8) (b := x.toNat) (by omega) v
  rw [Nat.mul_comm v 256]
  exact this.symm
theorem val_take {l : List UInt8} {i : Nat} {x : UInt8} (h : l[i]? = some x) : val (l.take (i + 1)) = val (l.take i) * 256 + x.toNat := by
  rw [take_get h, val_snoc]
section
variable {H0 H : Heap} {g : Nat} {S : List Nat} {r : R} {K : Value → Heap → Prop}
structure PkInv (l : List UInt8) (n : Nat) (H0 : Heap) (m : Nat) (vs : List Value) (H' : Heap) : Prop where
  ex : ∃ i : Nat, vs = [.int .u64 (val (l.take i) : Int), .int .i64 (i : Int)] ∧ m + i = n ∧ H0 = H'
theorem peek_t {n : Nat} (d : RAt H0 H g S r) (hn : n ≤ 8)
    (hyes : r.err = 0 → n ≤ r.rest.length → K (.tuple #[.int .u64 (val (r.rest.take n) : Int), .bool true]) H)
    (hno : ∀ H', ¬ (r.err = 0 ∧ n ≤ r.rest.length) → RAt H0 H' g S (if r.err = 0 then { r with err := 4 } else r) → Upd [g] H H' → K (.tuple #[.int .u64 0, .bool false]) H') :
    HCalls Tryz.prog 109 [.pointer (some ⟨g, 0, none⟩), .int .i64 (n : Int)] H K := by
  refine hcalls (fn := Tryz.f109) [] mixed Tryz.func109 rfl rfl (by decide +kernel) ?_
  obtain ⟨a, c, rfl, o, w, hc, hl⟩ := d.ex
  have hlim := d.lim
  (repeat first | refine HReg.step ?_ | refine HCode.step ?_)
  refine HLoad.one (v := .int .i64 r.err) (by exact o.rows.get (i := 1) rfl) ?_
  (repeat first | refine HReg.step ?_ | refine HCode.step ?_)
  refine hif (fun h1 => ?_) (fun h1 => ?_)
  rotate_left
  · have h1 := eqB_false.1 h1
    (repeat first | refine HReg.step ?_ | refine HCode.step ?_)
    refine HLoad.one (v := .int .i64 r.err) (by exact o.rows.get (i := 1) rfl) ?_
    (repeat first | refine HReg.step ?_ | refine HCode.step ?_)
    refine hif (fun _ => ?_) (fun h => absurd (not_eqB_false.1 h) h1)
    (repeat first | refine HReg.step ?_ | refine HCode.step ?_)
    exact hno H (fun h => h1 h.1) (by rw [if_neg h1]; exact d) (Upd.refl _ _)
  have h1 := eqB_true.1 h1
  (repeat first | refine HReg.step ?_ | refine HCode.step ?_)
  refine HLoad.one (v := .slice a r.rest.length c) (by exact o.rows.get (i := 0) rfl) ?_
  (repeat first | refine HReg.step ?_ | refine HCode.step ?_)
  refine hif (fun h2 => ?_) (fun h2 => ?_)
  · have h2 := ltB_true.1 h2
    (repeat first | refine HReg.step ?_ | refine HCode.step ?_)
    refine store_row o (v := .int .i64 4) rfl (i := 1) (by decide) (by rfl) fun H2 o2 u2 => ?_
    have o2 : OwnRow H2 141 1 (some ⟨g, 0, none⟩) 2 2 [.slice a r.rest.length c, .int .i64 4] := o2
    obtain ⟨d2, f2⟩ := d.set (r' := { r with err := 4 }) o hl (.inr (.inr rfl)) (Nat.le_refl _) o2 u2 rfl w hc
    (repeat first | refine HReg.step ?_ | refine HCode.step ?_)
    refine HLoad.one (v := .int .i64 4) (by exact o2.rows.get (i := 1) rfl) ?_
    (repeat first | refine HReg.step ?_ | refine HCode.step ?_)
    refine hif (fun _ => ?_) (fun h => absurd (not_eqB_false.1 h) (by decide))
    (repeat first | refine HReg.step ?_ | refine HCode.step ?_)
    exact hno H2 (fun h => by omega) (by rw [if_pos h1]; exact d2) f2
  have h2 := ltB_false.1 h2
  (repeat first | refine HReg.step ?_ | refine HCode.step ?_)
  refine HLoad.one (v := .int .i64 r.err) (by exact o.rows.get (i := 1) rfl) ?_
  (repeat first | refine HReg.step ?_ | refine HCode.step ?_)
  refine hif (fun h => absurd h1 (not_eqB_true.1 h)) (fun _ => ?_)
  (repeat first | refine HReg.step ?_ | refine HCode.step ?_)
  refine HLoad.one (v := .slice a r.rest.length c) (by exact o.rows.get (i := 0) rfl) ?_
  (repeat first | refine HReg.step ?_ | refine HCode.step ?_)
  refine HReq.mk ⟨by omega, by omega⟩ ?_
  (repeat first | refine HReg.step ?_ | refine HCode.step ?_)
  refine hloopC [6, 8, 38, 39, 40, 41, 42, 43, 44, 45, 46, 47] [6, 38] (PkInv r.rest n H) rfl (by repeat' first | exact Resp.retD | exact Resp1.valuesK | refine Resp.blockD ?_ | refine Resp.thenD ?_ ?_ | refine Resp.hcode ?_) ?_ ?_
  · exact ⟨n, PkInv.mk ⟨0, by rw [List.take_zero]; rfl, rfl, rfl⟩⟩
  rintro m _ fe H' ⟨i, rfl, hmi, rfl⟩
  (repeat first | refine HReg.step ?_ | refine HCode.step ?_)
  refine hif (fun h3 => ?_) (fun h3 => ?_)
  · have h3 := ltB_true.1 h3
    obtain ⟨x, hx⟩ : ∃ x, r.rest[i]? = some x := ⟨r.rest[i]'(by omega), by simp⟩
    obtain ⟨ba, bo, rfl, _⟩ := w i _ (u8s_get hx)
    have hv : val (r.rest.take i) < 72057594037927936 := by
      have h4 := val_lt (r.rest.take i)
      have h5 : (r.rest.take i).length = i := by rw [List.length_take]; omega
      have h6 : 256 ^ i ≤ 256 ^ 7 := Nat.pow_le_pow_right (by decide) (by omega)
      rw [h5] at h4; omega
    have e := or8 (val (r.rest.take i)) x hv
    rw [← val_take hx] at e
    have w2 : wr .i64 ((i : Int) + 1) = ((i + 1 : Nat) : Int) := by rw [wr_i64 (by omega) (by omega)]; omega
    (repeat first | refine HReg.step ?_ | refine HCode.step ?_)
    refine HReq.mk ⟨by omega, by omega⟩ ?_
    (repeat first | refine HReg.step ?_ | refine HCode.step ?_)
    refine HLoad.one (v := u8 x) (by exact w.get (u8s_get hx)) ?_
    (repeat first | refine HReg.step ?_ | refine HCode.step ?_)
    refine HReq.mk (by decide) ?_
    (repeat first | refine HReg.step ?_ | refine HCode.step ?_)
    rw [e, w2]
    exact ⟨m - 1, by omega, PkInv.mk ⟨i + 1, rfl, by omega, rfl⟩⟩
  · have h3 := ltB_false.1 h3
    have : i = n := by omega
    subst this
    (repeat first | refine HReg.step ?_ | refine HCode.step ?_)
    exact hyes h1 (by omega)
theorem number_yes {n : Nat} (h1 : r.err = 0) (h2 : n ≤ r.rest.length) : r.number n = (val (r.rest.take n), { r with rest := r.rest.drop n }) := by
  unfold R.number; rw [if_neg (by rw [h1]; simp), if_neg (by omega)]
theorem number_no {n : Nat} (h : ¬ (r.err = 0 ∧ n ≤ r.rest.length)) : r.number n = (0, if r.err = 0 then { r with err := 4 } else r) := by
  unfold R.number
  by_cases h1 : r.err = 0
  · rw [if_neg (by rw [h1]; simp), if_pos (by omega), if_pos h1]
  · rw [if_pos h1, if_neg h1]
/-- The first bytes are read. -/
theorem RAt.adv {H' : Heap} {a : Option Addr} {c n : Nat} (d : RAt H0 H g (g :: blk a) r) (o : OwnRow H 141 1 (some ⟨g, 0, none⟩) 2 2 [.slice a r.rest.length c, .int .i64 r.err]) (w : RowAt H a (u8s r.rest)) (hc : r.rest.length ≤ c) (hl : ∀ b ∈ blk a, ∃ cu z, H b = some (.cells cu 5 z)) (hn : n ≤ r.rest.length)
    (o' : OwnRow H' 141 1 (some ⟨g, 0, none⟩) 2 2 [.slice (slAddr a n c 1) (r.rest.length - n) (c - n), .int .i64 r.err]) (u : Upd [g] H H') : RAt H0 H' g (g :: blk a) { r with rest := r.rest.drop n } ∧ Upd [g] H H' := by
  refine d.set (r' := { r with rest := r.rest.drop n }) (a' := slAddr a n c 1) (c' := c - n) o hl d.er (by simp) ?_ u (blk_sl _ _ _ _) ?_ (by simp; omega)
  · show OwnRow H' 141 1 _ 2 2 [.slice (slAddr a n c 1) (r.rest.drop n).length (c - n), _]
    rw [List.length_drop]; exact o'
  · have := w.sl (l := n) (cap := c) (size := 1) (by rw [u8s_length]; omega)
    rw [Nat.mul_one] at this
    show RowAt H _ (u8s (r.rest.drop n))
    unfold u8s at this ⊢
    rw [List.map_drop]; exact this
theorem rnumber_t {n : Nat} (d : RAt H0 H g S r) (hn : n ≤ 8)
    (hk : ∀ H', RAt H0 H' g S (r.number n).2 → Upd [g] H H' → K (.int .u64 ((r.number n).1 : Int)) H') : HCalls Tryz.prog 94 [.pointer (some ⟨g, 0, none⟩), .int .i64 (n : Int)] H K := by
  refine hcalls (fn := Tryz.f94) [] mixed Tryz.func94 rfl rfl (by decide +kernel) ?_
  (repeat first | refine HReg.step ?_ | refine HCode.step ?_)
  refine HCall.mk ⟨Tryz.f109, Tryz.func109, by rfl, by rfl⟩ ?_
  refine peek_t d hn (fun h1 h2 => ?_) fun H2 hno d2 f2 => ?_
  · rw [number_yes h1 h2] at hk
    obtain ⟨a, c, rfl, o, w, hc, hl⟩ := d.ex
    have hlim := d.lim
    (repeat first | refine HReg.step ?_ | refine HCode.step ?_)
    refine HLoad.one (v := .slice a r.rest.length c) (by exact o.rows.get (i := 0) rfl) ?_
    (repeat first | refine HReg.step ?_ | refine HCode.step ?_)
    refine HReq.mk ⟨by omega, by omega⟩ ?_
    (repeat first | refine HReg.step ?_ | refine HCode.step ?_)
    refine store_row o (v := .slice (slAddr a n c 1) (r.rest.length - n) (c - n)) rfl (i := 0) (by decide) (by rfl) fun H2 o2 u2 => ?_
    obtain ⟨d2, f2⟩ := d.adv (n := n) o w hc hl h2 o2 u2
    (repeat first | refine HReg.step ?_ | refine HCode.step ?_)
    exact hk H2 d2 f2
  · rw [number_no hno] at hk
    (repeat first | refine HReg.step ?_ | refine HCode.step ?_)
    exact hk H2 d2 f2
theorem number_lt (n : Nat) : (r.number n).1 < 256 ^ n := by
  unfold R.number
  have : 0 < 256 ^ n := Nat.pos_of_ne_zero (by intro h; have := Nat.pow_eq_zero.1 h; omega)
  split
  · exact this
  · split
    · exact this
    · have h := val_lt (r.rest.take n)
      rename_i h2
      have e : (r.rest.take n).length = n := by rw [List.length_take]; omega
      rwa [e] at h
theorem ru8_t (d : RAt H0 H g S r) (hk : ∀ H', RAt H0 H' g S (r.number 1).2 → Upd [g] H H' → K (.int .u8 ((r.number 1).1 : Int)) H') : HCalls Tryz.prog 95 [.pointer (some ⟨g, 0, none⟩)] H K := by
  refine hcalls (fn := Tryz.f95) [] mixed Tryz.func95 rfl rfl rfl ?_
  (repeat first | refine HReg.step ?_ | refine HCode.step ?_)
  refine HCall.mk ⟨Tryz.f94, Tryz.func94, by rfl, by rfl⟩ ?_
  refine rnumber_t (n := 1) d (by decide) fun H2 d2 f2 => ?_
  have := number_lt (r := r) 1
  have e : wr .u8 ((r.number 1).1 : Int) = ((r.number 1).1 : Int) := by rw [wr_u8]; omega
  (repeat first | refine HReg.step ?_ | refine HCode.step ?_)
  refine (show K (.int .u8 (wr .u8 ((r.number 1).1 : Int))) H2 from ?_)
  rw [e]
  exact hk H2 d2 f2
theorem ru32_t (d : RAt H0 H g S r) (hk : ∀ H', RAt H0 H' g S (r.number 4).2 → Upd [g] H H' → K (.int .u32 ((r.number 4).1 : Int)) H') : HCalls Tryz.prog 72 [.pointer (some ⟨g, 0, none⟩)] H K := by
  refine hcalls (fn := Tryz.f72) [] mixed Tryz.func72 rfl rfl rfl ?_
  (repeat first | refine HReg.step ?_ | refine HCode.step ?_)
  refine HCall.mk ⟨Tryz.f94, Tryz.func94, by rfl, by rfl⟩ ?_
  refine rnumber_t (n := 4) d (by decide) fun H2 d2 f2 => ?_
  have := number_lt (r := r) 4
  have e : wr .u32 ((r.number 4).1 : Int) = ((r.number 4).1 : Int) := by
    have h : IntKind.u32.wrap ((r.number 4).1 : Int) = ((r.number 4).1 : Int) % 4294967296 := rfl
    rw [wr_eq, h]; omega
  (repeat first | refine HReg.step ?_ | refine HCode.step ?_)
  refine (show K (.int .u32 (wr .u32 ((r.number 4).1 : Int))) H2 from ?_)
  rw [e]
  exact hk H2 d2 f2
theorem ru64_t (d : RAt H0 H g S r) (hk : ∀ H', RAt H0 H' g S (r.number 8).2 → Upd [g] H H' → K (.int .u64 ((r.number 8).1 : Int)) H') : HCalls Tryz.prog 96 [.pointer (some ⟨g, 0, none⟩)] H K := by
  refine hcalls (fn := Tryz.f96) [] mixed Tryz.func96 rfl rfl rfl ?_
  (repeat first | refine HReg.step ?_ | refine HCode.step ?_)
  refine HCall.mk ⟨Tryz.f94, Tryz.func94, by rfl, by rfl⟩ ?_
  refine rnumber_t (n := 8) d (by decide) fun H2 d2 f2 => ?_
  (repeat first | refine HReg.step ?_ | refine HCode.step ?_)
  exact hk H2 d2 f2
theorem err_t (d : RAt H0 H g S r) (hk : K (.int .i64 r.err) H) : HCalls Tryz.prog 98 [.pointer (some ⟨g, 0, none⟩)] H K := by
  refine hcalls (fn := Tryz.f98) [] mixed Tryz.func98 rfl rfl rfl ?_
  obtain ⟨a, c, rfl, o, w, hc, hl⟩ := d.ex
  (repeat first | refine HReg.step ?_ | refine HCode.step ?_)
  refine HLoad.one (v := .int .i64 r.err) (by exact o.rows.get (i := 1) rfl) ?_
  (repeat first | refine HReg.step ?_ | refine HCode.step ?_)
  exact hk
theorem end_t (d : RAt H0 H g S r) (hk : K (.int .i64 r.fin) H) : HCalls Tryz.prog 101 [.pointer (some ⟨g, 0, none⟩)] H K := by
  refine hcalls (fn := Tryz.f101) [] mixed Tryz.func101 rfl rfl rfl ?_
  obtain ⟨a, c, rfl, o, w, hc, hl⟩ := d.ex
  (repeat first | refine HReg.step ?_ | refine HCode.step ?_)
  refine HLoad.one (v := .int .i64 r.err) (by exact o.rows.get (i := 1) rfl) ?_
  (repeat first | refine HReg.step ?_ | refine HCode.step ?_)
  refine hif (fun h1 => ?_) (fun h1 => ?_)
  · have h1 := eqB_true.1 h1
    (repeat first | refine HReg.step ?_ | refine HCode.step ?_)
    refine HLoad.one (v := .slice a r.rest.length c) (by exact o.rows.get (i := 0) rfl) ?_
    (repeat first | refine HReg.step ?_ | refine HCode.step ?_)
    refine hif (fun h2 => ?_) (fun h2 => ?_)
    · have h2 := ltB_true.1 h2
      have e : r.fin = 5 := by unfold R.fin; rw [if_pos ⟨h1, by omega⟩]
      rw [e] at hk
      (repeat first | refine HReg.step ?_ | refine HCode.step ?_)
      exact hk
    · have h2 := ltB_false.1 h2
      have e : r.fin = r.err := by unfold R.fin; rw [if_neg (by omega)]
      rw [e] at hk
      (repeat first | refine HReg.step ?_ | refine HCode.step ?_)
      refine HLoad.one (v := .int .i64 r.err) (by exact o.rows.get (i := 1) rfl) ?_
      (repeat first | refine HReg.step ?_ | refine HCode.step ?_)
      exact hk
  · have h1 := eqB_false.1 h1
    have e : r.fin = r.err := by unfold R.fin; rw [if_neg (fun h => h1 h.1)]
    rw [e] at hk
    (repeat first | refine HReg.step ?_ | refine HCode.step ?_)
    refine HLoad.one (v := .int .i64 r.err) (by exact o.rows.get (i := 1) rfl) ?_
    (repeat first | refine HReg.step ?_ | refine HCode.step ?_)
    exact hk
end
end Go.Proofs.YtfcmjomnpahllaaGreat
namespace Go.Proofs.YtfcmjomnpahllaaGreat
open Go Hv
set_option linter.unusedVariables false
set_option linter.unusedSimpArgs false
set_option maxRecDepth 10000
set_option maxHeartbeats 1000000
/-! Counts and texts of readers -/
def R.bnd (r : R) (most : Int) : Option Nat × R :=
  if r.err ≠ 0 then (none, r) else if r.rest.length < 4 then (none, { r with err := 4 }) else if (val (r.rest.take 4) : Int) > max most 0 then (none, { r with err := 3 }) else (some (val (r.rest.take 4)), r)
theorem count_bnd (r : R) (most : Int) : r.count most = match r.bnd most with
    | (none, r') => (0, r')
    | (some n, r') => (n, { r' with rest := r'.rest.drop 4 }) := by
  unfold R.count R.bnd
  split
  · rfl
  · split
    · rfl
    · split <;> rfl
theorem text_bnd (r : R) (most : Int) : r.text most = match r.bnd most with
    | (none, r') => ([], r')
    | (some n, r') => if r'.rest.length - 4 < n then ([], { r' with err := 4 }) else ((r'.rest.drop 4).take n, { r' with rest := r'.rest.drop (4 + n) }) := by
  unfold R.text R.bnd
  split
  · rfl
  · split
    · rfl
    · split <;> rfl
theorem bnd_some {r r' : R} {most : Int} {n : Nat} (h : r.bnd most = (some n, r')) : r' = r ∧ r.err = 0 ∧ 4 ≤ r.rest.length ∧ n < 4294967296 ∧ (n : Int) ≤ max most 0 := by
  unfold R.bnd at h
  split at h
  · cases h
  · rename_i h1
    split at h
    · cases h
    · rename_i h2
      split at h
      · cases h
      · rename_i h3
        obtain ⟨e1, e2⟩ := Prod.mk.inj h
        cases e1
        have h4 := val_lt (r.rest.take 4)
        rw [List.length_take] at h4
        have h5 : 256 ^ (min 4 r.rest.length) ≤ 256 ^ 4 := Nat.pow_le_pow_right (by decide) (by omega)
        exact ⟨e2.symm, by simpa using h1, by omega, by omega, by omega⟩
theorem bnd_none {r r' : R} {most : Int} (h : r.bnd most = (none, r')) : r'.err ≠ 0 ∧ r'.rest = r.rest := by
  unfold R.bnd at h
  split at h
  · rename_i h1; cases h; exact ⟨h1, rfl⟩
  · split at h
    · cases h; exact ⟨by show (4 : Int) ≠ 0; decide, rfl⟩
    · split at h
      · cases h; exact ⟨by show (3 : Int) ≠ 0; decide, rfl⟩
      · cases h
section
variable {H0 H : Heap} {g : Nat} {S : List Nat} {r : R} {K : Value → Heap → Prop}
theorem bounded_t {most : Int} (d : RAt H0 H g S r) (hm : most ≤ 9223372036854775807)
    (hyes : ∀ n : Nat, r.bnd most = (some n, r) → K (.tuple #[.int .i64 (n : Int), .bool true]) H)
    (hno : ∀ r' H', r.bnd most = (none, r') → RAt H0 H' g S r' → Upd [g] H H' → K (.tuple #[.int .i64 0, .bool false]) H') :
    HCalls Tryz.prog 110 [.pointer (some ⟨g, 0, none⟩), .int .i64 most] H K := by
  refine hcalls (fn := Tryz.f110) [] mixed Tryz.func110 rfl rfl (by decide +kernel) ?_
  (repeat first | refine HReg.step ?_ | refine HCode.step ?_)
  refine HCall.mk ⟨Tryz.f109, Tryz.func109, by rfl, by rfl⟩ ?_
  refine peek_t (n := 4) d (by decide) (fun h1 h2 => ?_) fun H2 hn d2 f2 => ?_
  · have hv : val (r.rest.take 4) < 4294967296 := by
      have h4 := val_lt (r.rest.take 4)
      have h5 : (r.rest.take 4).length = 4 := by rw [List.length_take]; omega
      rw [h5] at h4; omega
    have w : wr .u64 (max most 0) = max most 0 := by rw [wr_u64]; omega
    have w2 : wr .i64 (val (r.rest.take 4) : Int) = (val (r.rest.take 4) : Int) := wr_i64 (by omega) (by omega)
    (repeat first | refine HReg.step ?_ | refine HCode.step ?_)
    rw [ite_mx, ite_max, w]
    refine hif (fun h3 => ?_) (fun h3 => ?_)
    · have h3 := ltB_true.1 h3
      have e : r.bnd most = (none, { r with err := 3 }) := by unfold R.bnd; rw [if_neg (by rw [h1]; simp), if_neg (by omega), if_pos (by omega)]
      obtain ⟨a, c, rfl, o, wd, hc, hl⟩ := d.ex
      (repeat first | refine HReg.step ?_ | refine HCode.step ?_)
      refine store_row o (v := .int .i64 3) rfl (i := 1) (by decide) (by rfl) fun H2 o2 u2 => ?_
      have o2 : OwnRow H2 141 1 (some ⟨g, 0, none⟩) 2 2 [.slice a r.rest.length c, .int .i64 3] := o2
      obtain ⟨d2, f2⟩ := d.set (r' := { r with err := 3 }) o hl (.inr (.inl rfl)) (Nat.le_refl _) o2 u2 rfl wd hc
      (repeat first | refine HReg.step ?_ | refine HCode.step ?_)
      exact hno _ H2 e d2 f2
    · have h3 := ltB_false.1 h3
      have e : r.bnd most = (some (val (r.rest.take 4)), r) := by unfold R.bnd; rw [if_neg (by rw [h1]; simp), if_neg (by omega), if_neg (by omega)]
      have := hyes _ e
      (repeat first | refine HReg.step ?_ | refine HCode.step ?_)
      refine (show K (.tuple #[.int .i64 (wr .i64 (val (r.rest.take 4) : Int)), .bool true]) H from ?_)
      rw [w2]; exact this
  · have e : r.bnd most = (none, if r.err = 0 then { r with err := 4 } else r) := by
      unfold R.bnd
      by_cases h1 : r.err = 0
      · rw [if_neg (by rw [h1]; simp), if_pos (by omega), if_pos h1]
      · rw [if_pos h1, if_neg h1]
    have w0 : wr .i64 0 = 0 := wr_i64 (by decide) (by decide)
    have := hno _ H2 e d2 f2
    (repeat first | refine HReg.step ?_ | refine HCode.step ?_)
    refine (show K (.tuple #[.int .i64 (wr .i64 0), .bool false]) H2 from ?_)
    rw [w0]; exact this
theorem count_t {most : Int} (d : RAt H0 H g S r) (hm : most ≤ 9223372036854775807)
    (hk : ∀ H', RAt H0 H' g S (r.count most).2 → Upd [g] H H' → K (.int .i64 ((r.count most).1 : Int)) H') : HCalls Tryz.prog 97 [.pointer (some ⟨g, 0, none⟩), .int .i64 most] H K := by
  refine hcalls (fn := Tryz.f97) [] mixed Tryz.func97 rfl rfl (by decide +kernel) ?_
  rw [count_bnd] at hk
  (repeat first | refine HReg.step ?_ | refine HCode.step ?_)
  refine HCall.mk ⟨Tryz.f110, Tryz.func110, by rfl, by rfl⟩ ?_
  refine bounded_t d hm (fun n e => ?_) fun r' H2 e d2 f2 => ?_
  · rw [e] at hk
    obtain ⟨_, h1, h2, h3, h4⟩ := bnd_some e
    obtain ⟨a, c, rfl, o, w, hc, hl⟩ := d.ex
    (repeat first | refine HReg.step ?_ | refine HCode.step ?_)
    refine HLoad.one (v := .slice a r.rest.length c) (by exact o.rows.get (i := 0) rfl) ?_
    (repeat first | refine HReg.step ?_ | refine HCode.step ?_)
    refine HReq.mk ⟨by omega, by omega⟩ ?_
    (repeat first | refine HReg.step ?_ | refine HCode.step ?_)
    refine store_row o (v := .slice (slAddr a 4 c 1) (r.rest.length - 4) (c - 4)) rfl (i := 0) (by decide) (by rfl) fun H2 o2 u2 => ?_
    obtain ⟨d2, f2⟩ := d.adv (n := 4) o w hc hl h2 o2 u2
    (repeat first | refine HReg.step ?_ | refine HCode.step ?_)
    exact hk H2 d2 f2
  · rw [e] at hk
    (repeat first | refine HReg.step ?_ | refine HCode.step ?_)
    exact hk H2 d2 f2
theorem rtext_t {most : Int} (d : RAt H0 H g S r) (hm : most ≤ 9223372036854775807)
    (hk : ∀ H', RAt H0 H' g S (r.text most).2 → Upd [g] H H' → K (.string (bs (r.text most).1)) H') : HCalls Tryz.prog 99 [.pointer (some ⟨g, 0, none⟩), .int .i64 most] H K := by
  refine hcalls (fn := Tryz.f99) [] mixed Tryz.func99 rfl rfl (by decide +kernel) ?_
  rw [text_bnd] at hk
  (repeat first | refine HReg.step ?_ | refine HCode.step ?_)
  refine HCall.mk ⟨Tryz.f110, Tryz.func110, by rfl, by rfl⟩ ?_
  refine bounded_t d hm (fun n e => ?_) fun r' H2 e d2 f2 => ?_
  rotate_left
  · rw [e] at hk
    (repeat first | refine HReg.step ?_ | refine HCode.step ?_)
    exact hk H2 d2 f2
  rw [e] at hk
  obtain ⟨_, h1, h2, h3, h4⟩ := bnd_some e
  obtain ⟨a, c, rfl, o, w, hc, hl⟩ := d.ex
  have hlim := d.lim
  have w1 : wr .i64 ((r.rest.length : Int) - 4) = (r.rest.length : Int) - 4 := wr_i64 (by omega) (by omega)
  have w2 : wr .i64 (4 + (n : Int)) = ((4 + n : Nat) : Int) := by rw [wr_i64 (by omega) (by omega)]; omega
  dsimp only at hk
  (repeat first | refine HReg.step ?_ | refine HCode.step ?_)
  refine HLoad.one (v := .slice a r.rest.length c) (by exact o.rows.get (i := 0) rfl) ?_
  (repeat first | refine HReg.step ?_ | refine HCode.step ?_)
  rw [w1]
  refine hif (fun h5 => ?_) (fun h5 => ?_)
  · have h5 := ltB_true.1 h5
    rw [if_pos (by omega)] at hk
    (repeat first | refine HReg.step ?_ | refine HCode.step ?_)
    refine store_row o (v := .int .i64 4) rfl (i := 1) (by decide) (by rfl) fun H2 o2 u2 => ?_
    have o2 : OwnRow H2 141 1 (some ⟨g, 0, none⟩) 2 2 [.slice a r.rest.length c, .int .i64 4] := o2
    obtain ⟨d2, f2⟩ := d.set (r' := { r with err := 4 }) o hl (.inr (.inr rfl)) (Nat.le_refl _) o2 u2 rfl w hc
    (repeat first | refine HReg.step ?_ | refine HCode.step ?_)
    exact hk H2 d2 f2
  · have h5 := ltB_false.1 h5
    rw [if_neg (by omega)] at hk
    (repeat first | refine HReg.step ?_ | refine HCode.step ?_)
    refine HLoad.one (v := .slice a r.rest.length c) (by exact o.rows.get (i := 0) rfl) ?_
    (repeat first | refine HReg.step ?_ | refine HCode.step ?_)
    rw [w2]
    refine HReq.mk ⟨by omega, by omega⟩ ?_
    (repeat first | refine HReg.step ?_ | refine HCode.step ?_)
    refine HReq.mk ⟨by omega, by omega⟩ ?_
    have hrow : RowAt H (slAddr a 4 c 1) (u8s ((r.rest.drop 4).take n)) := by
      have := (w.sl (l := 4) (cap := c) (size := 1) (by rw [u8s_length]; omega)).take n
      rw [Nat.mul_one] at this
      unfold u8s at this ⊢
      rw [List.map_take, List.map_drop]; exact this
    (repeat first | refine HReg.step ?_ | refine HCode.step ?_)
    refine HBytes.row ((r.rest.drop 4).take n) (by rw [List.length_take, List.length_drop]; omega) (fun Hx hx => by rw [List.mem_singleton.1 hx]; exact hrow) ?_ (by simp)
    (repeat first | refine HReg.step ?_ | refine HCode.step ?_)
    refine HLoad.one (v := .slice a r.rest.length c) (by exact o.rows.get (i := 0) rfl) ?_
    (repeat first | refine HReg.step ?_ | refine HCode.step ?_)
    rw [w2]
    refine HReq.mk ⟨by omega, by omega⟩ ?_
    (repeat first | refine HReg.step ?_ | refine HCode.step ?_)
    refine store_row o (v := .slice (slAddr a (4 + n) c 1) (r.rest.length - (4 + n)) (c - (4 + n))) rfl (i := 0) (by decide) (by rfl) fun H2 o2 u2 => ?_
    obtain ⟨d2, f2⟩ := d.adv (n := 4 + n) o w hc hl (by omega) o2 u2
    (repeat first | refine HReg.step ?_ | refine HCode.step ?_)
    exact hk H2 d2 f2
end
end Go.Proofs.YtfcmjomnpahllaaGreat
namespace Go.Proofs.YtfcmjomnpahllaaGreat
open Go Hv
set_option linter.unusedVariables false
set_option linter.unusedSimpArgs false
set_option maxRecDepth 10000
set_option maxHeartbeats 1000000
/-! Texts -/
theorem plain_txts (ls : List (List UInt8)) : ∀ v ∈ txts ls, Value.plain v = true := fun v hv => by
  obtain ⟨b, _, rfl⟩ := List.mem_map.1 hv; rfl
theorem txts_append (a b : List (List UInt8)) : txts (a ++ b) = txts a ++ txts b := by simp [txts]
theorem app_txts {a b : Option Addr} {k cap m c : Nat} {xs ys : List (List UInt8)} {H0 H : Heap} {K : Value → Heap → Prop} (hm : Made H0 H 9 1 a k cap (txts xs)) (hy : RowAt H b (txts ys)) (hyl : ys.length = m) (hb : k + m ≤ 8589934592)
    (hk : ∀ a' cap' H', Made H0 H' 9 1 a' (k + m) cap' (txts (xs ++ ys)) → Upd (blk a) H H' → K (.slice a' (k + m) cap') H') :
    HSem Tryz.prog (Builtin.append_ #[39, 39] 39 [.slice a k cap, .slice b m c].toArray) H K := by
  refine append_rows (ie := Tryz.t9) (z := .string ⟨#[]⟩) (xs := txts xs) (ys := txts ys) Tryz.underlying39 rfl rfl rfl (by decide) hm.own hy ?_ (plain_txts _) ?_ (by omega) fun a' cap' H' o u f => hk a' cap' H' ⟨?_, ?_, ?_⟩ u
  · rw [txts_length, hyl]; exact (Nat.mul_one _).symm
  · show (k + m) * 16 ≤ _; omega
  · rw [txts_append]; exact o
  · refine Upd.drop hm.upd u fun b hb => ?_
    obtain ⟨p, hp, rfl⟩ := blk_of hb
    exact hm.new p hp
  · intro p hp
    rcases f p hp with h | h
    · exact hm.new p h
    · exact Upd.none (S := []) hm.upd (by simp) h
theorem count_lt (r : R) (most : Int) : (r.count most).1 < 4294967296 := by
  rw [count_bnd]
  cases h : r.bnd most with
  | mk o r' =>
    cases o with
    | none => exact (by decide : 0 < 4294967296)
    | some n => exact (bnd_some h).2.2.2.1
structure TxInv (H0 Hb : Heap) (g : Nat) (S : List Nat) (each : Int) (n : Nat) (r0 : R) (a0 : Option Addr) (w0 : List UInt8) (m : Nat) (vs : List Value) (H' : Heap) : Prop where
  ex : ∃ (i : Nat) (a : Option Addr) (c : Nat) (ts : List (List UInt8)) (r : R), vs = [.slice a i c, .int .i64 (i : Int)] ∧ m + i = n ∧ RAt H0 H' g S r ∧ OwnRow H' 9 1 a i c (txts ts) ∧ (∀ p, a = some p → Hb p.block = none) ∧ RowAt H' a0 (u8s w0) ∧ Upd [g] Hb H' ∧ R.many each n r0 = (ts ++ (R.many each m r).1, (R.many each m r).2)
theorem many_step (each : Int) (m : Nat) (r : R) (h : (r.text each).2.err = 0) : R.many each (m + 1) r = ((r.text each).1 :: (R.many each m (r.text each).2).1, (R.many each m (r.text each).2).2) := by
  show (if _ then _ else _) = _
  rw [if_neg (by rw [h]; simp)]
theorem many_stop (each : Int) (m : Nat) (r : R) (h : (r.text each).2.err ≠ 0) : R.many each (m + 1) r = ([(r.text each).1], (r.text each).2) := by
  show (if _ then _ else _) = _
  rw [if_pos h]
section
variable {H0 H : Heap} {g : Nat} {S : List Nat} {r : R} {K : Value → Heap → Prop}
theorem rtexts_t {most each : Int} (d : RAt H0 H g S r) (hm : most ≤ 9223372036854775807) (he : each ≤ 9223372036854775807)
    (hk : ∀ a c H', RAt H0 H' g S (r.texts most each).2 → Upd [g] H H' → OwnRow H' 9 1 a (r.texts most each).1.length c (txts (r.texts most each).1) → (∀ p, a = some p → H p.block = none) → K (.slice a (r.texts most each).1.length c) H') :
    HCalls Tryz.prog 100 [.pointer (some ⟨g, 0, none⟩), .int .i64 most, .int .i64 each] H K := by
  refine hcalls (fn := Tryz.f100) [] mixed Tryz.func100 rfl rfl (by decide +kernel) ?_
  obtain ⟨a0, c0, rfl, o0, w0, hc0, hl0⟩ := d.ex
  have hg0 := RAt.notin o0 hl0
  have off0 : Off [g] a0 := off_notin fun b hb hm => hg0 (by rw [← List.mem_singleton.1 hm]; exact hb)
  (repeat first | refine HReg.step ?_ | refine HCode.step ?_)
  refine HLoad.one (v := .slice a0 r.rest.length c0) (by exact o0.rows.get (i := 0) rfl) ?_
  (repeat first | refine HReg.step ?_ | refine HCode.step ?_)
  refine HCall.mk ⟨Tryz.f97, Tryz.func97, by rfl, by rfl⟩ ?_
  refine count_t d hm fun H1 d1 u1 => ?_
  have hn := count_lt r most
  have w1 := w0.upd u1 (.inr off0)
  -- behind the loop
  have tail : ∀ (a : Option Addr) (i c : Nat) (ts : List (List UInt8)) (rn : R) (H2 : Heap), RAt H0 H2 g (g :: blk a0) rn → OwnRow H2 9 1 a i c (txts ts) → (∀ p, a = some p → H p.block = none) → RowAt H2 a0 (u8s r.rest) → Upd [g] H H2 → R.many each (r.count most).1 (r.count most).2 = (ts, rn) →
      (rn.err ≠ 0 → ∀ H3, RAt H0 H3 g (g :: blk a0) ⟨r.rest, rn.err⟩ → Upd [g] H H3 → K (.slice none 0 0) H3) ∧ (rn.err = 0 → K (.slice a i c) H2) := by
    intro a i c ts rn H2 dn ro hnew wn un hmany
    have e : r.texts most each = if rn.err ≠ 0 then ([], ⟨r.rest, rn.err⟩) else (ts, rn) := by unfold R.texts; rw [hmany]
    constructor
    · intro hne H3 d3 u3
      rw [if_pos hne] at e
      rw [e] at hk
      exact hk none 0 H3 d3 u3 (OwnRow.nil _ _ _) (fun p hp => by cases hp)
    · intro h0
      rw [if_neg (by rw [h0]; simp)] at e
      rw [e] at hk
      have hl : ts.length = i := by
        have := ro.len
        rw [txts_length, Nat.mul_one] at this; exact this
      subst hl
      exact hk a c H2 dn un ro hnew
  (repeat first | refine HReg.step ?_ | refine HCode.step ?_)
  refine hloopC [9, 18, 19, 20, 21, 22, 23, 24, 25, 26, 27, 28, 29, 30, 31] [9, 18] (TxInv H0 H g (g :: blk a0) each (r.count most).1 (r.count most).2 a0 r.rest) rfl (by repeat' first | exact Resp.retD | exact Resp1.valuesK | refine Resp.blockD ?_ | refine Resp.thenD ?_ ?_ | refine Resp.hcode ?_) ?_ ?_
  · exact ⟨(r.count most).1, TxInv.mk ⟨0, none, 0, [], (r.count most).2, rfl, rfl, d1, OwnRow.nil _ _ _, fun p hp => (by cases hp), w1, u1, rfl⟩⟩
  rintro m _ fe H2 ⟨i, a, c, ts, rn, rfl, hmi, d2, ro, hnew, w2, u2, hmany⟩
  (repeat first | refine HReg.step ?_ | refine HCode.step ?_)
  refine hif (fun h1 => ?_) (fun h1 => ?_)
  · have h1 := ltB_true.1 h1
    obtain ⟨k, rfl⟩ : ∃ k, m = k + 1 := ⟨m - 1, by omega⟩
    (repeat first | refine HReg.step ?_ | refine HCode.step ?_)
    refine HCall.mk ⟨Tryz.f99, Tryz.func99, by rfl, by rfl⟩ ?_
    refine rtext_t d2 he fun H3 d3 u3 => ?_
    have hga : g ∉ blk a := fun hb => by
      obtain ⟨p, hp, hpe⟩ := blk_of hb
      have h2 := hnew p hp
      rw [hpe] at h2
      exact d.live g List.mem_cons_self h2
    have ro3 := ro.upd u3 (off_notin fun b hb hm => hga (by rw [← List.mem_singleton.1 hm]; exact hb))
    have w3 := w2.upd u3 (.inr off0)
    have u23 := u2.trans u3
    (repeat first | refine HReg.step ?_ | refine HCode.step ?_)
    refine HReq.mk (by decide) ?_
    (repeat first | refine HReg.step ?_ | refine HCode.step ?_)
    refine HNew.mk fun b hb => ?_
    have ub : Upd [] H3 (H3.upd b (.cells [Value.string (bs (rn.text each).1)].toArray 9)) := Upd.new hb _
    have rb : RowAt (H3.upd b (.cells [Value.string (bs (rn.text each).1)].toArray 9)) (some ⟨b, 0, none⟩) (txts [(rn.text each).1]) := RowAt.of_cells (upd_same _ _ _)
    (repeat first | refine HReg.step ?_ | refine HCode.step ?_)
    refine append_rows (ie := Tryz.t9) (z := .string ⟨#[]⟩) (xs := txts ts) (ys := txts [(rn.text each).1]) Tryz.underlying39 rfl rfl rfl (by decide) (ro3.upd ub (Off.nil _)) rb rfl (plain_txts _) (by show (i + 1) * 16 ≤ _; omega) (by omega) fun a4 c4 H4 o4 u4 f4 => ?_
    rw [← txts_append] at o4
    have hbl : ∀ b' ∈ blk a, H b' = none := fun b' hb' => by
      obtain ⟨p, hp, rfl⟩ := blk_of hb'
      exact hnew p hp
    have d4 : RAt H0 H4 g (g :: blk a0) (rn.text each).2 := (d3.upd0 ub).upd u4 (fun b' hb' hm => d.live b' hb' (hbl b' hm)) (fun b' hb' => by
      have h5 := hbl b' hb'
      exact Upd.none (S := []) d.base (by simp) h5)
    have u4' : Upd [g] H H4 := fun x hx hn => by
      have e1 := u23 x hx hn
      have e2 := ub x (by simp) (by rw [e1]; exact hn)
      have e3 := u4 x (fun hm => hn (hbl x hm)) (by rw [e2, e1]; exact hn)
      rw [e3, e2, e1]
    have w4 : RowAt H4 a0 (u8s r.rest) := (w3.upd (S := []) ub (.inr (Off.nil _))).upd u4 (.inr (off_notin fun b' hb' hm => d.live b' (List.mem_cons_of_mem _ hb') (hbl b' hm)))
    have hnew4 : ∀ p, a4 = some p → H p.block = none := fun p hp => by
      rcases f4 p hp with h | h
      · exact hnew p h
      · refine Classical.byContradiction fun hne => ?_
        have hx : p.block ≠ g := fun e => by
          have := d3.live g List.mem_cons_self
          rw [← e] at this
          have h7 := Upd.none (S := []) ub (by simp) h
          exact this h7
        have e1 := u23 p.block (by simpa using hx) hne
        have h7 := Upd.none (S := []) ub (by simp) h
        rw [e1] at h7; exact hne h7
    obtain ⟨aa, cc, eS, o5, _⟩ := d4.ex
    have w8 : wr .i64 ((i : Int) + 1) = ((i + 1 : Nat) : Int) := by rw [wr_i64 (by omega) (by omega)]; omega
    (repeat first | refine HReg.step ?_ | refine HCode.step ?_)
    refine HLoad.one (v := .int .i64 (rn.text each).2.err) (by exact o5.rows.get (i := 1) rfl) ?_
    (repeat first | refine HReg.step ?_ | refine HCode.step ?_)
    refine hif (fun h2 => ?_) (fun h2 => ?_)
    · have h2 := not_eqB_true.1 h2
      rw [many_stop each k rn h2] at hmany
      have T := (tail a4 (i + 1) c4 (ts ++ [(rn.text each).1]) (rn.text each).2 H4 d4 o4 hnew4 w4 u4' hmany).1 h2
      (repeat first | refine HReg.step ?_ | refine HCode.step ?_)
      refine HLoad.one (v := .int .i64 (rn.text each).2.err) (by exact o5.rows.get (i := 1) rfl) ?_
      (repeat first | refine HReg.step ?_ | refine HCode.step ?_)
      refine hif (fun _ => ?_) (fun h => absurd (not_eqB_false.1 h) h2)
      (repeat first | refine HReg.step ?_ | refine HCode.step ?_)
      refine store_row o5 (v := .slice a0 r.rest.length c0) rfl (i := 0) (by decide) (by rfl) fun H6 o6 u6 => ?_
      have hba : blk a0 = blk aa := by injection eS
      have o6' : OwnRow H6 141 1 (some ⟨g, 0, none⟩) 2 2 [.slice a0 r.rest.length c0, .int .i64 (rn.text each).2.err] := o6
      have d6 : RAt H0 H6 g (g :: blk a0) ⟨r.rest, (rn.text each).2.err⟩ := by
        refine ⟨d.lim, d4.er, Upd.drop d4.base u6 (fun b hb => by rw [List.mem_singleton.1 hb]; exact d.new g List.mem_cons_self), d.new, a0, c0, rfl, o6', w4.upd u6 (.inr off0), hc0, fun b hb => ?_⟩
        obtain ⟨cu, z, h⟩ := hl0 b hb
        have hbg : b ∉ [g] := fun hm => hg0 (by rw [← List.mem_singleton.1 hm]; exact hb)
        exact ⟨cu, z, by rw [(u4'.trans u6) b hbg (by rw [h]; simp), h]⟩
      (repeat first | refine HReg.step ?_ | refine HCode.step ?_)
      exact T H6 d6 (u4'.trans u6)
    · have h2 := not_eqB_false.1 h2
      rw [many_step each k rn h2] at hmany
      (repeat first | refine HReg.step ?_ | refine HCode.step ?_)
      rw [w8]
      exact ⟨k, by omega, TxInv.mk ⟨i + 1, a4, c4, ts ++ [(rn.text each).1], (rn.text each).2, rfl, by omega, d4, o4, hnew4, w4, u4', by rw [hmany]; simp⟩⟩
  · have h1 := ltB_false.1 h1
    obtain rfl : m = 0 := by omega
    have hmany' : R.many each (r.count most).1 (r.count most).2 = (ts, rn) := by rw [hmany]; show (ts ++ [], rn) = _; rw [List.append_nil]
    obtain ⟨T1, T2⟩ := tail a i c ts rn H2 d2 ro hnew w2 u2 hmany'
    obtain ⟨aa, cc, eS, o5, _⟩ := d2.ex
    (repeat first | refine HReg.step ?_ | refine HCode.step ?_)
    refine HLoad.one (v := .int .i64 rn.err) (by exact o5.rows.get (i := 1) rfl) ?_
    (repeat first | refine HReg.step ?_ | refine HCode.step ?_)
    refine hif (fun h2 => ?_) (fun h2 => ?_)
    · have h2 := not_eqB_true.1 h2
      (repeat first | refine HReg.step ?_ | refine HCode.step ?_)
      refine store_row o5 (v := .slice a0 r.rest.length c0) rfl (i := 0) (by decide) (by rfl) fun H6 o6 u6 => ?_
      have o6' : OwnRow H6 141 1 (some ⟨g, 0, none⟩) 2 2 [.slice a0 r.rest.length c0, .int .i64 rn.err] := o6
      have d6 : RAt H0 H6 g (g :: blk a0) ⟨r.rest, rn.err⟩ := by
        refine ⟨d.lim, d2.er, Upd.drop d2.base u6 (fun b hb => by rw [List.mem_singleton.1 hb]; exact d.new g List.mem_cons_self), d.new, a0, c0, rfl, o6', w2.upd u6 (.inr off0), hc0, fun b hb => ?_⟩
        obtain ⟨cu, z, h⟩ := hl0 b hb
        have hbg : b ∉ [g] := fun hm => hg0 (by rw [← List.mem_singleton.1 hm]; exact hb)
        exact ⟨cu, z, by rw [(u2.trans u6) b hbg (by rw [h]; simp), h]⟩
      (repeat first | refine HReg.step ?_ | refine HCode.step ?_)
      exact T1 h2 H6 d6 (u2.trans u6)
    · have h2 := not_eqB_false.1 h2
      (repeat first | refine HReg.step ?_ | refine HCode.step ?_)
      exact T2 h2
end
end Go.Proofs.YtfcmjomnpahllaaGreat
namespace Go.Proofs.YtfcmjomnpahllaaGreat
open Go Hv Go.RowKit Go.Shelf Go.Sort
set_option linter.unusedVariables false
set_option linter.unusedSimpArgs false
set_option maxRecDepth 10000
set_option maxHeartbeats 1000000
/-! From the kit's contracts to calls over heaps; slices.Sorted(slices.Values(l)). -/
theorem txts_enc (ls : List (List UInt8)) : txts ls = ls.map encStr := rfl
theorem made_calls {P : Program} {f : FuncId} {args : List Value} {H : Heap} {K : Value → Heap → Prop} {e : TypeId} {size n : Nat} {xs : List Value}
    (h : ∀ w, Sat H w → Calls P f args.toArray w fun e' w' => ∃ v, e' = .returned v ∧ w'.ownsRow w.heap.size e size v n xs ∧ Below w.heap.size w w')
    (hk : ∀ a c H', Made H H' e size a n c xs → K (.slice a n c) H') : HCalls P f args H K := by
  intro w hs
  refine (h w hs).mono ?_
  rintro e' w' ⟨v, rfl, ⟨hl, ho⟩, hb⟩
  rcases ho with ⟨rfl, h0⟩ | ⟨g, cap, cur, rfl, hg, hgb, h1, h2, h3, h4⟩
  · subst h0
    have hx : xs = [] := List.eq_nil_of_length_eq_zero (by rw [hl]; simp)
    subst hx
    refine ⟨_, H, rfl, hk none 0 H ⟨OwnRow.nil _ _ _, Upd.refl _ _, fun p hp => by cases hp⟩, fun b o hbo => ?_, ⟨hb.os, hb.tape, hb.output, hb.size, fun b hlt _ => hb.block b hlt, fun b h1 h2 => absurd h1 h2⟩⟩
    rw [hb.block b (hs.lt (by rw [hbo]; simp))]; exact hs b o hbo
  · have hn : H g = none := Classical.byContradiction fun hne => by have := hs.lt hne; omega
    refine ⟨_, H.upd g (.cells cur e (0, 0)), rfl, hk (some ⟨g, 0, none⟩) cap _ ⟨OwnRow.made (upd_same _ _ _) h3 h1 hl fun i v hv => ?_, Upd.new hn _, fun p hp => by cases hp; exact hn⟩, fun b o hbo => ?_, ⟨hb.os, hb.tape, hb.output, hb.size, fun b hlt _ => hb.block b hlt, fun b h1 h2 => ?_⟩⟩
    · have hi : i < n * size := by rw [← hl]; exact (List.getElem?_eq_some_iff.1 hv).1
      rw [← h4, List.getElem?_take_of_lt hi, Array.getElem?_toList] at hv; exact hv
    · by_cases e1 : b = g
      · subst e1; rw [upd_same] at hbo; cases hbo; exact hgb
      · rw [upd_ne _ _ e1] at hbo
        rw [hb.block b (hs.lt (by rw [hbo]; simp))]; exact hs b o hbo
    · by_cases e1 : b = g
      · subst e1; exact hg
      · rw [upd_ne _ _ e1] at h2; exact absurd h1 h2
/-- A call of the kit's that sorts a row in its place. -/
theorem sort_calls {P : Program} {f : FuncId} {H : Heap} {K : Value → Heap → Prop} {e : TypeId} {g n cap : Nat} {ls ts : List (List UInt8)} (ho : OwnRow H e 1 (some ⟨g, 0, none⟩) n cap (txts ls)) (hts : ts.length = n)
    (h : ∀ w, Sort.Holds encStr w g 0 ls.toArray → g < w.heap.size → Calls P f #[.slice (some ⟨g, 0, none⟩) ls.length cap] w fun e' w' => e' = .returned (.tuple #[]) ∧ ∃ m os, w' = grow (putRow encStr (Sort.ahead w m) g 0 ts.toArray) os)
    (hk : ∀ H', OwnRow H' e 1 (some ⟨g, 0, none⟩) n cap (txts ts) → Upd [g] H H' → K (.tuple #[]) H') : HCalls P f [.slice (some ⟨g, 0, none⟩) n cap] H K := by
  intro w hs
  rcases ho.ok with ⟨ha, _⟩ | ⟨g', cur, ha, hg, hsz, hle, hc⟩
  · cases ha
  cases ha
  have hw := hs g _ hg
  have hlt : g < w.heap.size := (Array.getElem?_eq_some_iff.1 hw).1
  have hl : ls.length = n := by have := ho.len; simpa [txts] using this
  subst hl
  have hh : Sort.Holds encStr w g 0 ls.toArray := by
    refine holds_of_block hw ?_
    apply List.ext_getElem?
    intro i
    by_cases hi : i < ls.length
    · rw [List.getElem?_take_of_lt hi, Array.getElem?_toList]
      obtain ⟨s, hs'⟩ : ∃ s, ls[i]? = some s := ⟨ls[i], by simp [hi]⟩
      rw [hc i (.string (bs s)) (by simp [txts, hs']), List.getElem?_map, hs']; rfl
    · rw [List.getElem?_eq_none (by simp; omega), List.getElem?_eq_none (by simp; omega)]
  refine (h w hh hlt).mono ?_
  rintro e' w' ⟨rfl, m, os, rfl⟩
  have hhs := heap_sorted (w := w) (n := m) (os := os) ts.toArray hw
  have hgb := grownBy_sorted (w := w) (g := g) (n := m) (os := os) ts.toArray
  refine ⟨_, H.upd g (.cells (putCells encStr 0 ts.toArray cur) e (0, 0)), rfl, hk _ (OwnRow.made (upd_same _ _ _) (by simpa [putCells] using hsz) hle (by simp [txts, hts]) fun i v hv => ?_) (Upd.upd (by simp) _), fun b o hbo => ?_, ⟨hgb.os, hgb.tape, hgb.output, hgb.size, fun b hlt' hb => ?_, fun b h1 h2 => ?_⟩⟩
  · have hi : i < ts.length := by have := (List.getElem?_eq_some_iff.1 hv).1; simpa [txts] using this
    have ht := take_putCells cur ts (by omega)
    have h5 : ((putCells encStr 0 ts.toArray cur).toList.take ts.length)[i]? = (ts.map encStr)[i]? := by rw [ht]
    rw [List.getElem?_take_of_lt hi, Array.getElem?_toList] at h5
    rw [h5]; exact hv
  · by_cases e1 : b = g
    · subst e1; rw [upd_same] at hbo; cases hbo; exact hhs
    · rw [upd_ne _ _ e1] at hbo
      rw [hgb.block b (hs.lt (by rw [hbo]; simp)) (fun e => e1 (by cases e; rfl))]; exact hs b o hbo
  · have e1 : b ≠ g := fun e => by rw [e, hg] at hb; cases hb
    exact hgb.block b hlt' (fun e => e1 (by cases e; rfl))
  · by_cases e1 : b = g
    · subst e1; rw [hg] at h1; cases h1
    · rw [upd_ne _ _ e1] at h2; exact absurd h1 h2
def sortT (ls : List (List UInt8)) : List (List UInt8) := ls.mergeSort fun x y => decide (x ≤ y)
theorem sort_t {H : Heap} {K : Value → Heap → Prop} {g n cap : Nat} {ls : List (List UInt8)} (ho : OwnRow H 9 1 (some ⟨g, 0, none⟩) n cap (txts ls)) (hn : n < 4611686018427387904)
    (hk : ∀ H', OwnRow H' 9 1 (some ⟨g, 0, none⟩) n cap (txts (sortT ls)) → Upd [g] H H' → K (.tuple #[]) H') : HCalls Tryz.prog 92 [.slice (some ⟨g, 0, none⟩) n cap] H K := by
  have hl : ls.length = n := by have := ho.len; simpa [txts] using this
  exact sort_calls (ts := sortT ls) ho (by unfold sortT; rw [List.length_mergeSort]; exact hl) (fun w hh hlt => Any.slices_Sort_string Vals.Sk g 0 cap ls w hh hlt (by omega)) hk
theorem cell_sat {H : Heap} {w : World} (hs : Sat H w) {a : Addr} {v : Value} (h : H.cell? a = some v) : a.block < w.heap.size := hs.lt fun e => by
  unfold Heap.cell? at h; rw [e] at h; cases h
theorem appendSeq_t {a : Option Addr} {n c Bs : Nat} {l : List (List UInt8)} {H : Heap} {K : Value → Heap → Prop} (hr : RowAt H a (txts l)) (hl : l.length = n) (h0 : 0 < n) (hn : n ≤ 8796093021952) (hb : H.cell? ⟨Bs, 0, none⟩ = some (.slice a n c))
    (hk : ∀ a' c' H', Made H H' 9 1 a' n c' (txts l) → K (.slice a' n c') H') : HCalls Tryz.prog 106 [.slice none 0 0, .func (.func 125) #[] #[.pointer (some ⟨Bs, 0, none⟩)]] H K := by
  subst hl
  refine made_calls (fun w hs => ?_) hk
  have hcell : ∀ i s, l[i]? = some s → (txts l)[i]? = some (Value.string (bs s)) := fun i s h => by unfold txts; rw [List.getElem?_map, h]; rfl
  obtain ⟨s0, hs0⟩ : ∃ s, l[0]? = some s := ⟨l[0], by simp [h0]⟩
  obtain ⟨b, off, rfl, hc0⟩ := hr 0 _ (hcell 0 s0 hs0)
  have hI : Vals.Holds w.heap.size w (.slice (some ⟨b, off, none⟩) l.length c) l := by
    refine .inr ⟨b, off, c, rfl, cell_sat hs hc0, fun j hj => ?_⟩
    obtain ⟨s, hs'⟩ : ∃ s, l[j]? = some s := ⟨l[j], by simp [hj]⟩
    rw [hs']
    exact hs.cell (hr.get (hcell j s hs'))
  refine ((callsIn_wide (n := 5)).1 (Vals.append_in Fence.wide 5 trivial trivial rfl (by decide) Bs _ l (by omega) (by unfold maxLen; omega) w (cell_sat hs hb) (hs.cell hb) hI)).mono ?_
  rintro e w' ⟨v, h1, h2, _, h3⟩
  exact ⟨v, h1, h2, h3⟩
theorem collect_t {a : Option Addr} {n c Bs : Nat} {l : List (List UInt8)} {H : Heap} {K : Value → Heap → Prop} (hr : RowAt H a (txts l)) (hl : l.length = n) (h0 : 0 < n) (hn : n ≤ 8796093021952) (hb : H.cell? ⟨Bs, 0, none⟩ = some (.slice a n c))
    (hk : ∀ a' c' H', Made H H' 9 1 a' n c' (txts l) → K (.slice a' n c') H') : HCalls Tryz.prog 91 [.func (.func 125) #[] #[.pointer (some ⟨Bs, 0, none⟩)]] H K := by
  refine hcalls (fn := Tryz.f91) [] mixed Tryz.func91 rfl rfl rfl ?_
  (repeat first | refine HReg.step ?_ | refine HCode.step ?_)
  refine HCall.mk ⟨Tryz.f106, Tryz.func106, by rfl, by rfl⟩ ?_
  refine appendSeq_t hr hl h0 hn hb fun a' c' H' m => ?_
  (repeat first | refine HReg.step ?_ | refine HCode.step ?_)
  exact hk a' c' H' m
theorem sorted_t {a : Option Addr} {n c Bs : Nat} {l : List (List UInt8)} {H : Heap} {K : Value → Heap → Prop} (hr : RowAt H a (txts l)) (hl : l.length = n) (h0 : 0 < n) (hn : n ≤ 8796093021952) (hb : H.cell? ⟨Bs, 0, none⟩ = some (.slice a n c))
    (hk : ∀ a' c' H', Made H H' 9 1 a' n c' (txts (sortT l)) → K (.slice a' n c') H') : HCalls Tryz.prog 69 [.func (.func 125) #[] #[.pointer (some ⟨Bs, 0, none⟩)]] H K := by
  refine hcalls (fn := Tryz.f69) [] mixed Tryz.func69 rfl rfl rfl ?_
  (repeat first | refine HReg.step ?_ | refine HCode.step ?_)
  refine HCall.mk ⟨Tryz.f91, Tryz.func91, by rfl, by rfl⟩ ?_
  refine collect_t hr hl h0 hn hb fun a1 c1 H1 m1 => ?_
  obtain ⟨g, rfl⟩ := m1.own.addr h0
  (repeat first | refine HReg.step ?_ | refine HCode.step ?_)
  refine HCall.mk ⟨Tryz.f92, Tryz.func92, by rfl, by rfl⟩ ?_
  refine sort_t m1.own (by omega) fun H2 o2 u2 => ?_
  (repeat first | refine HReg.step ?_ | refine HCode.step ?_)
  exact hk _ _ H2 ⟨o2, Upd.drop m1.upd u2 fun b hb => by rw [List.mem_singleton.1 hb]; exact m1.new _ rfl, m1.new⟩
theorem values_t {a : Option Addr} {n c : Nat} {H : Heap} {K : Value → Heap → Prop} (hk : ∀ b H', H b = none → Upd [] H H' → H'.cell? ⟨b, 0, none⟩ = some (.slice a n c) → K (.func (.func 125) #[] #[.pointer (some ⟨b, 0, none⟩)]) H') : HCalls Tryz.prog 111 [.slice a n c] H K := by
  refine hcalls (fn := Tryz.f111) [] mixed Tryz.func111 rfl rfl rfl ?_
  (repeat first | refine HReg.step ?_ | refine HCode.step ?_)
  refine HNew.mk fun b hb => ?_
  (repeat first | refine HReg.step ?_ | refine HCode.step ?_)
  exact hk b _ hb (Upd.new hb _) (by rw [cell_of (upd_same _ _ _)]; rfl)
end Go.Proofs.YtfcmjomnpahllaaGreat
namespace Go.Proofs.YtfcmjomnpahllaaGreat
open Go Hv
set_option linter.unusedVariables false
set_option linter.unusedSimpArgs false
set_option maxRecDepth 10000
/-! Texts in order, plainly. -/
theorem bytesLess_lt : ∀ (x y : List UInt8), Op.bytesLess x y = decide (x < y)
  | x, [] => by
    have h : ¬ x < [] := List.not_lt_nil x
    rw [decide_eq_false h]; cases x <;> rfl
  | [], b :: y => by
    have h : ([] : List UInt8) < b :: y := List.nil_lt_cons b y
    rw [decide_eq_true h]; rfl
  | a :: x, b :: y => by
    have ih := bytesLess_lt x y
    show (decide (a < b) || (a == b && Op.bytesLess x y)) = _
    rw [ih]
    by_cases h1 : a < b
    · have h : a :: x < b :: y := List.cons_lt_cons_iff.2 (.inl h1)
      rw [decide_eq_true h1, decide_eq_true h]; rfl
    · by_cases h2 : a = b
      · subst h2
        by_cases h3 : x < y
        · have h : a :: x < a :: y := List.cons_lt_cons_iff.2 (.inr ⟨rfl, h3⟩)
          rw [decide_eq_true h3, decide_eq_true h]; simp
        · have h : ¬ a :: x < a :: y := fun h => by
            rcases List.cons_lt_cons_iff.1 h with h | h
            · exact h1 h
            · exact h3 h.2
          rw [decide_eq_false h3, decide_eq_false h]; simp [h1]
      · have h : ¬ a :: x < b :: y := fun h => by
          rcases List.cons_lt_cons_iff.1 h with h | h
          · exact h1 h
          · exact h2 h.1
        rw [decide_eq_false h1, decide_eq_false h]; simp [h2]
theorem sltB_bs (a b : List UInt8) : sltB (bs a) (bs b) = decide (a < b) := by
  rw [sltB_eq, ByteArray.toList_eq, ByteArray.toList_eq]
  exact bytesLess_lt a b
abbrev Txt := List UInt8
theorem lt_irr (a : Txt) : ¬ a < a := List.lt_irrefl a
theorem lt_tr {a b c : Txt} (h : a < b) (k : b < c) : a < c := List.lt_trans h k
theorem lt_or (a b : Txt) : a < b ∨ a = b ∨ b < a := by
  by_cases h : a < b
  · exact .inl h
  · by_cases k : b < a
    · exact .inr (.inr k)
    · exact .inr (.inl (List.le_antisymm (List.not_lt.1 k) (List.not_lt.1 h)))
/-- In order, none twice. -/
def Rising (l : List Txt) : Prop := ∀ (i : Nat) a b, l[i]? = some a → l[i + 1]? = some b → a < b
theorem Rising.lt {l : List Txt} (h : Rising l) : ∀ {i j : Nat} {a b : Txt}, i < j → l[i]? = some a → l[j]? = some b → a < b := by
  intro i j
  induction j with
  | zero => intro a b hij; omega
  | succ j ih =>
    intro a b hij ha hb
    obtain ⟨c, hc⟩ : ∃ c, l[j]? = some c := ⟨l[j]'(by have := (List.getElem?_eq_some_iff.1 hb).1; omega), by simp⟩
    have h1 := h j c b hc hb
    by_cases e : i = j
    · subst e; rw [ha] at hc; cases hc; exact h1
    · exact lt_tr (ih (by omega) ha hc) h1
theorem Rising.pairwise {l : List Txt} (h : Rising l) : l.Pairwise (· < ·) := by
  rw [List.pairwise_iff_getElem]
  intro i j hi hj hij
  exact h.lt hij (by simp [hi]) (by simp [hj])
theorem Rising.of_pairwise {l : List Txt} (h : l.Pairwise (· < ·)) : Rising l := fun i a b ha hb => by
  rw [List.pairwise_iff_getElem] at h
  obtain ⟨h1, rfl⟩ := List.getElem?_eq_some_iff.1 ha
  obtain ⟨h2, rfl⟩ := List.getElem?_eq_some_iff.1 hb
  exact h i (i + 1) h1 h2 (by omega)
theorem Rising.nodup {l : List Txt} (h : Rising l) : l.Nodup := by
  refine h.pairwise.imp ?_
  intro a b hab e
  subst e; exact lt_irr _ hab
theorem Rising.sorted {l : List Txt} (h : Rising l) : sortT l = l := by
  unfold sortT
  apply List.mergeSort_of_pairwise
  refine h.pairwise.imp ?_
  intro a b hab
  exact decide_eq_true (List.le_of_lt hab)
theorem Rising.mem_iff {l : List Txt} (h : Rising l) {k : Txt} {i : Nat} (h1 : ∀ j a, j < i → l[j]? = some a → a < k) (h2 : ∀ j a, i ≤ j → l[j]? = some a → ¬ a < k) : k ∈ l ↔ l[i]? = some k := by
  refine ⟨fun hm => ?_, fun hi => List.mem_of_getElem? hi⟩
  obtain ⟨j, hj⟩ := List.getElem?_of_mem hm
  by_cases e : j < i
  · exact absurd (h1 j k e hj) (lt_irr k)
  · by_cases e2 : j = i
    · rw [← e2]; exact hj
    · obtain ⟨a, ha⟩ : ∃ a, l[i]? = some a := ⟨l[i]'(by have := (List.getElem?_eq_some_iff.1 hj).1; omega), by simp⟩
      exact absurd (h.lt (by omega) ha hj) (h2 i a (Nat.le_refl _) ha)
/-- 1 to 1024 keys, none too long. -/
def Lens (l : List Txt) : Prop := 1 ≤ l.length ∧ l.length ≤ 1024 ∧ ∀ s ∈ l, s.length ≤ 65535
def Whole (l : List Txt) : Prop := Lens l ∧ Rising l
end Go.Proofs.YtfcmjomnpahllaaGreat
namespace Go.Proofs.YtfcmjomnpahllaaGreat
open Go Hv
set_option linter.unusedVariables false
set_option linter.unusedSimpArgs false
set_option maxRecDepth 10000
set_option maxHeartbeats 1000000
/-! keys: Rising, has, Has, Valid, Names; whole -/
section
variable {H : Heap} {K : Value → Heap → Prop}
structure RsInv (l : List Txt) (n : Nat) (H : Heap) (m : Nat) (vs : List Value) (H' : Heap) : Prop where
  ex : ∃ i : Nat, vs = [.int .i64 (i : Int)] ∧ 1 ≤ i ∧ m + i = n + 1 ∧ H' = H ∧ ∀ j a b, j + 1 < i → l[j]? = some a → l[j + 1]? = some b → a < b
theorem rising_t {a : Option Addr} {n c : Nat} {l : List Txt} (hr : RowAt H a (txts l)) (hl : l.length = n) (hn : n ≤ 9000000000000000000)
    (hk : ∀ t : Bool, (t = true ↔ Rising l) → K (.bool t) H) : HCalls Tryz.prog 79 [.slice a n c] H K := by
  refine hcalls (fn := Tryz.f79) [(4, [(0, 0), (1, 0), (2, 0), (3, 0), (4, 0), (5, 0), (6, 0), (7, 0), (8, 0), (9, 0)])] mixed Tryz.func79 rfl rfl (by decide +kernel) ?_
  (repeat first | refine HReg.step ?_ | refine HCode.step ?_)
  refine hloopC [2, 3, 4, 5, 6, 7, 8, 9, 10, 11, 12, 13, 14, 15, 16, 17, 18, 19] [3] (RsInv l n H) rfl (by repeat' first | exact Resp.retD | exact Resp1.valuesK | refine Resp.blockD ?_ | refine Resp.thenD ?_ ?_ | refine Resp.hcode ?_) ?_ ?_
  · exact ⟨n, RsInv.mk ⟨1, rfl, Nat.le_refl _, rfl, rfl, fun j a b hj => by omega⟩⟩
  rintro m _ fe H1 ⟨i, rfl, hi1, hmi, rfl, hall⟩
  (repeat first | refine HReg.step ?_ | refine HCode.step ?_)
  refine hif (fun h1 => ?_) (fun h1 => ?_)
  · have h1 := ltB_true.1 h1
    have w1 : wr .i64 ((i : Int) - 1) = ((i - 1 : Nat) : Int) := by rw [wr_i64 (by omega) (by omega)]; omega
    have w2 : wr .i64 ((i : Int) + 1) = ((i + 1 : Nat) : Int) := by rw [wr_i64 (by omega) (by omega)]; omega
    obtain ⟨x, hx⟩ : ∃ s, l[i - 1]? = some s := ⟨l[i - 1]'(by omega), by simp⟩
    obtain ⟨y, hy⟩ : ∃ s, l[i]? = some s := ⟨l[i]'(by omega), by simp⟩
    obtain ⟨ba, bo, rfl, _⟩ := hr _ _ (txts_get hx)
    (repeat first | refine HReg.step ?_ | refine HCode.step ?_)
    rw [w1]
    refine HReq.mk ⟨by omega, by omega⟩ ?_
    (repeat first | refine HReg.step ?_ | refine HCode.step ?_)
    refine HLoad.one (v := .string (bs x)) (by exact hr.get (txts_get hx)) ?_
    (repeat first | refine HReg.step ?_ | refine HCode.step ?_)
    refine HReq.mk ⟨by omega, by omega⟩ ?_
    (repeat first | refine HReg.step ?_ | refine HCode.step ?_)
    refine HLoad.one (v := .string (bs y)) (by exact hr.get (txts_get hy)) ?_
    (repeat first | refine HReg.step ?_ | refine HCode.step ?_)
    rw [sltB_bs]
    refine hif (fun h2 => ?_) (fun h2 => ?_)
    · have h2 := not_dec_true h2
      (repeat first | refine HReg.step ?_ | refine HCode.step ?_)
      refine hk false ⟨fun h => (by cases h), fun h => ?_⟩
      exact absurd (h (i - 1) x y hx (by rw [Nat.sub_add_cancel hi1]; exact hy)) h2
    · have h2 := not_dec_false h2
      (repeat first | refine HReg.step ?_ | refine HCode.step ?_)
      rw [w2]
      refine ⟨m - 1, by omega, RsInv.mk ⟨i + 1, rfl, by omega, by omega, rfl, fun j a b hj ha hb => ?_⟩⟩
      by_cases e : j + 1 = i
      · have e2 : j = i - 1 := by omega
        subst e2
        rw [Nat.sub_add_cancel hi1] at hb
        rw [hx] at ha; rw [hy] at hb; cases ha; cases hb; exact h2
      · exact hall j a b (by omega) ha hb
  · have h1 := ltB_false.1 h1
    (repeat first | refine HReg.step ?_ | refine HCode.step ?_)
    refine hk true ⟨fun _ j a b ha hb => hall j a b ?_ ha hb, fun _ => rfl⟩
    have := (List.getElem?_eq_some_iff.1 hb).1
    omega
theorem less_t {x y : Txt} (hk : K (.bool (decide (x < y))) H) : HCalls Tryz.prog 120 [.string (bs x), .string (bs y)] H K := by
  refine hcalls (fn := Tryz.f120) [] mixed Tryz.func120 rfl rfl (by decide +kernel) ?_
  have hnan : ∀ (z : Txt) {K' : Value → Heap → Prop}, K' (.bool false) H → HCalls Tryz.prog 132 [.string (bs z)] H K' := fun z K' hk' => by
    refine hcalls (fn := Tryz.f132) [] mixed Tryz.func132 rfl rfl rfl ?_
    (repeat first | refine HReg.step ?_ | refine HCode.step ?_)
    rw [seqB_bs, decide_eq_true rfl]
    exact hk'
  (repeat first | refine HReg.step ?_ | refine HCode.step ?_)
  refine HCall.mk ⟨Tryz.f132, Tryz.func132, by rfl, by rfl⟩ ?_
  refine hnan x ?_
  (repeat first | refine HReg.step ?_ | refine HCode.step ?_)
  rw [sltB_bs]
  exact hk
theorem nan_t (z : Txt) (hk : K (.bool false) H) : HCalls Tryz.prog 126 [.string (bs z)] H K := by
  refine hcalls (fn := Tryz.f126) [] mixed Tryz.func126 rfl rfl rfl ?_
  (repeat first | refine HReg.step ?_ | refine HCode.step ?_)
  rw [seqB_bs, decide_eq_true rfl]
  exact hk
structure BsInv (l : List Txt) (k : Txt) (n : Nat) (H : Heap) (m : Nat) (vs : List Value) (H' : Heap) : Prop where
  ex : ∃ i j : Nat, vs = [.int .i64 (i : Int), .int .i64 (j : Int)] ∧ i + m = j ∧ j ≤ n ∧ H' = H ∧ (∀ q a, q < i → l[q]? = some a → a < k) ∧ (∀ q a, j ≤ q → l[q]? = some a → ¬ a < k)
theorem search_t {a : Option Addr} {n c : Nat} {l : List Txt} {k : Txt} (hr : RowAt H a (txts l)) (hl : l.length = n) (hn : n ≤ 4000000000000000000) (hri : Rising l)
    (hk : ∀ (i : Nat) (t : Bool), (t = true ↔ k ∈ l) → K (.tuple #[.int .i64 (i : Int), .bool t]) H) : HCalls Tryz.prog 112 [.slice a n c, .string (bs k)] H K := by
  refine hcalls (fn := Tryz.f112) [] mixed Tryz.func112 rfl rfl (by decide +kernel) ?_
  (repeat first | refine HReg.step ?_ | refine HCode.step ?_)
  refine hloopC [7, 8, 9, 13, 14, 15, 16, 17, 18, 19, 20, 21, 22, 23, 24, 25, 26, 27, 28, 29, 30] [7, 8] (BsInv l k n H) rfl (by repeat' first | exact Resp.retD | exact Resp1.valuesK | refine Resp.blockD ?_ | refine Resp.thenD ?_ ?_ | refine Resp.hcode ?_) ?_ ?_
  · exact ⟨n, BsInv.mk ⟨0, n, rfl, Nat.zero_add _, Nat.le_refl _, rfl, fun q a hq => by omega, fun q a hq ha => by have := (List.getElem?_eq_some_iff.1 ha).1; omega⟩⟩
  rintro m _ fe H1 ⟨i, j, rfl, hij, hjn, rfl, hlo, hhi⟩
  (repeat first | refine HReg.step ?_ | refine HCode.step ?_)
  refine hif (fun h1 => ?_) (fun h1 => ?_)
  · have h1 := ltB_true.1 h1
    have w1 : wr .i64 ((i : Int) + (j : Int)) = ((i + j : Nat) : Int) := by rw [wr_i64 (by omega) (by omega)]; omega
    have w2 : wr .u64 ((i + j : Nat) : Int) = ((i + j : Nat) : Int) := by rw [wr_u64]; omega
    have w3 : shrS .u64 ((i + j : Nat) : Int) 1 = (((i + j) / 2 : Nat) : Int) := by
      rw [shrS_eq]
      have e8 : min (1 : Int).toNat IntKind.u64.bits = 1 := by decide
      rw [e8, Int.fdiv_eq_ediv_of_nonneg _ (by decide)]
      norm_cast
    have w4 : wr .i64 (((i + j) / 2 : Nat) : Int) = (((i + j) / 2 : Nat) : Int) := by rw [wr_i64 (by omega) (by omega)]
    obtain ⟨q, hq, hqi, hqj⟩ : ∃ q, q = (i + j) / 2 ∧ i ≤ q ∧ q < j := ⟨(i + j) / 2, rfl, by omega, by omega⟩
    rw [← hq] at w3 w4
    obtain ⟨x, hx⟩ : ∃ s, l[q]? = some s := ⟨l[q]'(by omega), by simp⟩
    obtain ⟨ba, bo, rfl, _⟩ := hr _ _ (txts_get hx)
    (repeat first | refine HReg.step ?_ | refine HCode.step ?_)
    rw [w1, w2]
    refine HReq.mk (by decide) ?_
    (repeat first | refine HReg.step ?_ | refine HCode.step ?_)
    rw [w3, w4]
    (repeat first | refine HReg.step ?_ | refine HCode.step ?_)
    refine HReq.mk ⟨by omega, by omega⟩ ?_
    (repeat first | refine HReg.step ?_ | refine HCode.step ?_)
    refine HLoad.one (v := .string (bs x)) (by exact hr.get (txts_get hx)) ?_
    (repeat first | refine HReg.step ?_ | refine HCode.step ?_)
    refine HCall.mk ⟨Tryz.f120, Tryz.func120, by rfl, by rfl⟩ ?_
    refine less_t ?_
    have w5 : wr .i64 ((q : Int) + 1) = ((q + 1 : Nat) : Int) := by rw [wr_i64 (by omega) (by omega)]; omega
    by_cases hxk : x < k
    · rw [decide_eq_true hxk]
      (repeat first | refine HReg.step ?_ | refine HCode.step ?_)
      rw [w5]
      refine ⟨j - (q + 1), by omega, BsInv.mk ⟨q + 1, j, rfl, by omega, hjn, rfl, fun p a hp ha => ?_, hhi⟩⟩
      by_cases e : p = q
      · subst e; rw [hx] at ha; cases ha; exact hxk
      · exact lt_tr (hri.lt (by omega) ha hx) hxk
    · rw [decide_eq_false hxk]
      (repeat first | refine HReg.step ?_ | refine HCode.step ?_)
      refine ⟨q - i, by omega, BsInv.mk ⟨i, q, rfl, by omega, by omega, rfl, hlo, fun p a hp ha hak => ?_⟩⟩
      by_cases e : p = q
      · subst e; rw [hx] at ha; cases ha; exact hxk hak
      · exact hxk (lt_tr (hri.lt (by omega) hx ha) hak)
  · have h1 := ltB_false.1 h1
    have hij : i = j := by omega
    subst hij
    have hmem := hri.mem_iff hlo hhi
    (repeat first | refine HReg.step ?_ | refine HCode.step ?_)
    refine hif (fun h2 => ?_) (fun h2 => ?_)
    · have h2 := ltB_true.1 h2
      obtain ⟨x, hx⟩ : ∃ s, l[i]? = some s := ⟨l[i]'(by omega), by simp⟩
      obtain ⟨ba, bo, rfl, _⟩ := hr _ _ (txts_get hx)
      (repeat first | refine HReg.step ?_ | refine HCode.step ?_)
      refine HReq.mk ⟨by omega, by omega⟩ ?_
      (repeat first | refine HReg.step ?_ | refine HCode.step ?_)
      refine HLoad.one (v := .string (bs x)) (by exact hr.get (txts_get hx)) ?_
      (repeat first | refine HReg.step ?_ | refine HCode.step ?_)
      rw [seqB_bs]
      by_cases hxk : x = k
      · rw [decide_eq_true hxk]
        (repeat first | refine HReg.step ?_ | refine HCode.step ?_)
        exact hk i true ⟨fun _ => hmem.2 (by rw [hx, hxk]), fun _ => rfl⟩
      · rw [decide_eq_false hxk]
        (repeat first | refine HReg.step ?_ | refine HCode.step ?_)
        refine HReq.mk ⟨by omega, by omega⟩ ?_
        (repeat first | refine HReg.step ?_ | refine HCode.step ?_)
        refine HLoad.one (v := .string (bs x)) (by exact hr.get (txts_get hx)) ?_
        (repeat first | refine HReg.step ?_ | refine HCode.step ?_)
        refine HCall.mk ⟨Tryz.f126, Tryz.func126, by rfl, by rfl⟩ ?_
        refine nan_t x ?_
        (repeat first | refine HReg.step ?_ | refine HCode.step ?_)
        refine hk i false ⟨fun h => (by cases h), fun h => ?_⟩
        have := hmem.1 h
        rw [hx] at this; cases this; exact absurd rfl hxk
    · have h2 := ltB_false.1 h2
      (repeat first | refine HReg.step ?_ | refine HCode.step ?_)
      refine hk i false ⟨fun h => (by cases h), fun h => ?_⟩
      have := (List.getElem?_eq_some_iff.1 (hmem.1 h)).1
      omega
theorem has_t {a : Option Addr} {n c : Nat} {l : List Txt} {k : Txt} (hr : RowAt H a (txts l)) (hl : l.length = n) (hn : n ≤ 4000000000000000000) (hri : Rising l)
    (hk : ∀ (t : Bool), (t = true ↔ k ∈ l) → K (.bool t) H) : HCalls Tryz.prog 104 [.slice a n c, .string (bs k)] H K := by
  refine hcalls (fn := Tryz.f104) [] mixed Tryz.func104 rfl rfl rfl ?_
  (repeat first | refine HReg.step ?_ | refine HCode.step ?_)
  refine HCall.mk ⟨Tryz.f112, Tryz.func112, by rfl, by rfl⟩ ?_
  refine search_t hr hl hn hri fun i t ht => ?_
  (repeat first | refine HReg.step ?_ | refine HCode.step ?_)
  exact hk t ht
theorem Has_t {a : Option Addr} {n c : Nat} {l : List Txt} {k : Txt} (hr : RowAt H a (txts l)) (hl : l.length = n) (hn : n ≤ 4000000000000000000)
    (hk : ∀ (t : Bool), (t = true ↔ Rising l ∧ k ∈ l) → K (.bool t) H) : HCalls Tryz.prog 80 [.slice a n c, .string (bs k)] H K := by
  refine hcalls (fn := Tryz.f80) [] mixed Tryz.func80 rfl rfl (by decide +kernel) ?_
  (repeat first | refine HReg.step ?_ | refine HCode.step ?_)
  refine HCall.mk ⟨Tryz.f79, Tryz.func79, by rfl, by rfl⟩ ?_
  refine rising_t hr hl (by omega) fun t ht => ?_
  cases t with
  | false =>
    (repeat first | refine HReg.step ?_ | refine HCode.step ?_)
    refine hk false ⟨fun h => (by cases h), fun h => ?_⟩
    exact (ht.2 h.1)
  | true =>
    have hri := ht.1 rfl
    (repeat first | refine HReg.step ?_ | refine HCode.step ?_)
    refine HCall.mk ⟨Tryz.f104, Tryz.func104, by rfl, by rfl⟩ ?_
    refine has_t hr hl hn hri fun t2 ht2 => ?_
    (repeat first | refine HReg.step ?_ | refine HCode.step ?_)
    exact hk t2 ⟨fun h => ⟨hri, ht2.1 h⟩, fun h => ht2.2 h.2⟩
structure VaInv (l : List Txt) (n : Nat) (H : Heap) (m : Nat) (vs : List Value) (H' : Heap) : Prop where
  ex : ∃ i : Nat, vs = [.int .i64 (i : Int)] ∧ m + i = n ∧ H' = H ∧ ∀ j a, j < i → l[j]? = some a → a.length ≤ 65535
theorem valid_t {a : Option Addr} {n c : Nat} {l : List Txt} (hr : RowAt H a (txts l)) (hl : l.length = n)
    (hk : ∀ (t : Bool) H', (t = true ↔ Lens l ∧ Rising (sortT l)) → Upd [] H H' → K (.bool t) H') : HCalls Tryz.prog 103 [.slice a n c] H K := by
  refine hcalls (fn := Tryz.f103) [] mixed Tryz.func103 rfl rfl (by decide +kernel) ?_
  (repeat first | refine HReg.step ?_ | refine HCode.step ?_)
  refine hif (fun h1 => ?_) (fun h1 => ?_)
  · have h1 := ltB_true.1 h1
    (repeat first | refine HReg.step ?_ | refine HCode.step ?_)
    refine hk false H ⟨fun h => (by cases h), fun h => ?_⟩ (Upd.refl _ _)
    have := h.1.1; omega
  have h1 := ltB_false.1 h1
  (repeat first | refine HReg.step ?_ | refine HCode.step ?_)
  refine hif (fun h2 => ?_) (fun h2 => ?_)
  · have h2 := ltB_true.1 h2
    (repeat first | refine HReg.step ?_ | refine HCode.step ?_)
    refine hk false H ⟨fun h => (by cases h), fun h => ?_⟩ (Upd.refl _ _)
    have := h.1.2.1; omega
  have h2 := ltB_false.1 h2
  (repeat first | refine HReg.step ?_ | refine HCode.step ?_)
  refine hloopC [2, 4, 15, 16, 17, 18, 19, 20, 21, 22] [15] (VaInv l n H) rfl (by repeat' first | exact Resp.retD | exact Resp1.valuesK | refine Resp.blockD ?_ | refine Resp.thenD ?_ ?_ | refine Resp.hcode ?_) ?_ ?_
  · exact ⟨n, VaInv.mk ⟨0, rfl, rfl, rfl, fun j a hj => by omega⟩⟩
  rintro m _ fe H1 ⟨i, rfl, hmi, rfl, hall⟩
  (repeat first | refine HReg.step ?_ | refine HCode.step ?_)
  refine hif (fun h3 => ?_) (fun h3 => ?_)
  · have h3 := ltB_true.1 h3
    have w2 : wr .i64 ((i : Int) + 1) = ((i + 1 : Nat) : Int) := by rw [wr_i64 (by omega) (by omega)]; omega
    obtain ⟨x, hx⟩ : ∃ s, l[i]? = some s := ⟨l[i]'(by omega), by simp⟩
    obtain ⟨ba, bo, rfl, _⟩ := hr _ _ (txts_get hx)
    (repeat first | refine HReg.step ?_ | refine HCode.step ?_)
    refine HReq.mk ⟨by omega, by omega⟩ ?_
    (repeat first | refine HReg.step ?_ | refine HCode.step ?_)
    refine HLoad.one (v := .string (bs x)) (by exact hr.get (txts_get hx)) ?_
    (repeat first | refine HReg.step ?_ | refine HCode.step ?_)
    rw [bs_size]
    refine hif (fun h4 => ?_) (fun h4 => ?_)
    · have h4 := ltB_true.1 h4
      (repeat first | refine HReg.step ?_ | refine HCode.step ?_)
      refine hk false H1 ⟨fun h => (by cases h), fun h => ?_⟩ (Upd.refl _ _)
      have := h.1.2.2 x (List.mem_of_getElem? hx); omega
    · have h4 := ltB_false.1 h4
      (repeat first | refine HReg.step ?_ | refine HCode.step ?_)
      rw [w2]
      refine ⟨m - 1, by omega, VaInv.mk ⟨i + 1, rfl, by omega, rfl, fun j a hj ha => ?_⟩⟩
      by_cases e : j = i
      · subst e; rw [hx] at ha; cases ha; omega
      · exact hall j a (by omega) ha
  · have h3 := ltB_false.1 h3
    have hlens : Lens l := ⟨by omega, by omega, fun s hs => by
      obtain ⟨j, hj⟩ := List.getElem?_of_mem hs
      have := (List.getElem?_eq_some_iff.1 hj).1
      exact hall j s (by omega) hj⟩
    (repeat first | refine HReg.step ?_ | refine HCode.step ?_)
    refine HCall.mk ⟨Tryz.f111, Tryz.func111, by rfl, by rfl⟩ ?_
    refine values_t (a := a) (n := n) (c := c) fun b H2 hb u2 hc2 => ?_
    (repeat first | refine HReg.step ?_ | refine HCode.step ?_)
    refine HCall.mk ⟨Tryz.f69, Tryz.func69, by rfl, by rfl⟩ ?_
    refine sorted_t (hr.upd (S := []) u2 (.inr (Off.nil _))) hl (by omega) (by omega) hc2 fun a3 c3 H3 m3 => ?_
    have hsl : (sortT l).length = n := by unfold sortT; rw [List.length_mergeSort]; exact hl
    (repeat first | refine HReg.step ?_ | refine HCode.step ?_)
    refine HCall.mk ⟨Tryz.f79, Tryz.func79, by rfl, by rfl⟩ ?_
    refine rising_t m3.own.rows hsl (by omega) fun t ht => ?_
    (repeat first | refine HReg.step ?_ | refine HCode.step ?_)
    exact hk t H3 ⟨fun h => ⟨hlens, ht.1 h⟩, fun h => ht.2 h.2⟩ (u2.trans m3.upd)
theorem whole_t {a : Option Addr} {n c : Nat} {l : List Txt} (hr : RowAt H a (txts l)) (hl : l.length = n)
    (hk : ∀ (t : Bool) H', (t = true ↔ Whole l) → Upd [] H H' → K (.bool t) H') : HCalls Tryz.prog 77 [.slice a n c] H K := by
  refine hcalls (fn := Tryz.f77) [] mixed Tryz.func77 rfl rfl (by decide +kernel) ?_
  (repeat first | refine HReg.step ?_ | refine HCode.step ?_)
  refine HCall.mk ⟨Tryz.f103, Tryz.func103, by rfl, by rfl⟩ ?_
  refine valid_t hr hl fun t H2 ht u2 => ?_
  cases t with
  | false =>
    (repeat first | refine HReg.step ?_ | refine HCode.step ?_)
    refine hk false H2 ⟨fun h => (by cases h), fun h => ?_⟩ u2
    exact ht.2 ⟨h.1, by rw [h.2.sorted]; exact h.2⟩
  | true =>
    have h1 := ht.1 rfl
    have h2 := h1.1.2.1
    (repeat first | refine HReg.step ?_ | refine HCode.step ?_)
    refine HCall.mk ⟨Tryz.f79, Tryz.func79, by rfl, by rfl⟩ ?_
    refine rising_t (hr.upd (S := []) u2 (.inr (Off.nil _))) hl (by omega) fun t2 ht2 => ?_
    (repeat first | refine HReg.step ?_ | refine HCode.step ?_)
    exact hk t2 H2 ⟨fun h => ⟨h1.1, ht2.1 h⟩, fun h => ht2.2 h.2⟩ u2
end
end Go.Proofs.YtfcmjomnpahllaaGreat
