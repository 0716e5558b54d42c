import Derived.Test.YtfcmjomnpahllaaProg
import Derived.Test.YtfcmjomnpahllaaHvA
import Derived.Laws.Bits64b
namespace Go.Proofs.Ytfcmjomnpahllaa
open Go Hv
set_option linter.unusedVariables false
set_option linter.unusedSimpArgs false
set_option maxRecDepth 10000
set_option maxHeartbeats 1000000
theorem mixed : Try.prog.follows .mixedOrders = true := by kernel_rfl
theorem ite_mx {α : Type} [inst : Decidable (Builtin.max = Builtin.max)] (a b : α) : @ite α (Builtin.max = Builtin.max) inst a b = a := if_pos rfl
theorem ite_mn {α : Type} [inst : Decidable (Builtin.min = Builtin.max)] (a b : α) : @ite α (Builtin.min = Builtin.max) inst a b = b := if_neg (by intro h; cases h)
theorem ite_max (x y : Int) [inst : Decidable (y > x)] : @ite Int (y > x) inst y x = max x y := by
  by_cases h : y > x
  · rw [if_pos h]; omega
  · rw [if_neg h]; omega
theorem ite_min (x y : Int) [inst : Decidable (y < x)] : @ite Int (y < x) inst y x = min x y := by
  by_cases h : y < x
  · rw [if_pos h]; omega
  · rw [if_neg h]; omega
theorem own_upto {H : Heap} {e : TypeId} {size : Nat} {a : Option Addr} {n cap i : Nat} {xs : List Value} (h : OwnRow H e size a n cap xs) (hi : i ≤ n) : OwnRow H e size a i cap (xs.take (i * size)) := by
  refine ⟨by rw [List.length_take, h.len]; exact Nat.min_eq_left (Nat.mul_le_mul_right _ hi), ?_⟩
  rcases h.ok with ⟨ha, hn, hc⟩ | ⟨g, cur, ha, hg, h1, h2, h3⟩
  · exact .inl ⟨ha, by omega, hc⟩
  · refine .inr ⟨g, cur, ha, hg, h1, by omega, fun j v hj => ?_⟩
    rw [List.getElem?_take] at hj
    split at hj
    · exact h3 j v hj
    · cases hj
def isSl (v : Value) : Prop := ∃ a n c, v = .slice a n c
theorem isSl.plain {v : Value} (h : isSl v) : Value.plain v = true := by obtain ⟨a, n, c, rfl⟩ := h; rfl
theorem HLoad_all {Hs : List Heap} {a : Addr} {K : Value → Prop} {v : Value} (h : ∀ H ∈ Hs, H.cell? a = some v) (hk : K v) : HLoad Hs a K := ⟨v, h, hk⟩
theorem upd_join {S T : List Nat} {H H1 H2 : Heap} (h : Upd S H H1) (k : Upd T H1 H2) (hT : ∀ b ∈ T, b ∈ S ∨ H b = none) : Upd S H H2 := fun b hb hn => by
  have e := h b hb hn
  have : b ∉ T := fun hbT => by
    rcases hT b hbT with h1 | h1
    · exact hb h1
    · exact hn h1
  rw [k b this (by rw [e]; exact hn)]; exact e
theorem HLoad_two {H H' : Heap} {a : Addr} {K : Value → Prop} {v : Value} (h : H.cell? a = some v) (h' : H'.cell? a = some v) (hk : K v) : HLoad [H, H'] a K := ⟨v, fun Hx hx => by
  simp only [List.mem_cons, List.not_mem_nil, or_false] at hx
  rcases hx with rfl | rfl
  · exact h
  · exact h', hk⟩
theorem HLoad_three {H H' H'' : Heap} {a : Addr} {K : Value → Prop} {v : Value} (h : H.cell? a = some v) (h' : H'.cell? a = some v) (h'' : H''.cell? a = some v) (hk : K v) : HLoad [H, H', H''] a K := ⟨v, fun Hx hx => by
  simp only [List.mem_cons, List.not_mem_nil, or_false] at hx
  rcases hx with rfl | rfl | rfl
  · exact h
  · exact h'
  · exact h'', hk⟩
/-- A copy by append: onto a new row without cells. -/
theorem copy_sem {a : Option Addr} {b n c : Nat} {ys : List UInt8} {H : Heap} {K : Value → Heap → Prop} (hb : H b = none) (hy : RowAt H a (u8s ys)) (hn : ys.length = n) (hlim : n ≤ 140737488355328)
    (hk : ∀ a' cap' H', Made H H' 5 1 a' n cap' (u8s ys) → K (.slice a' n cap') H') :
    HSem Try.prog (Builtin.append_ #[32, 32] 32 [.slice (some ⟨b, 0, none⟩) 0 0, .slice a n c].toArray) (H.upd b (.cells [].toArray 5)) K := by
  (repeat first | refine HReg.step ?_ | refine HCode.step ?_)
  refine append_rows (ie := Try.t5) (z := .int .u8 0) (ys := u8s ys) (xs := []) Try.underlying32 rfl rfl rfl (by decide) ?_ ?_ ?_ (plain_u8s _) ?_ ?_ ?_
  · exact OwnRow.lit (upd_same _ _ _) rfl
  · exact hy.upd (S := []) (Upd.new hb _) (.inr (Off.nil _))
  · rw [u8s_length, hn]; exact (Nat.mul_one _).symm
  · show (0 + n) * 1 ≤ _; omega
  · omega
  · intro a' cap' H' h1 h2 h3
    rw [Nat.zero_add] at h1 ⊢
    have hb1 : ∀ p : Addr, some p = some (⟨b, 0, none⟩ : Addr) → p.block = b := by rintro p h; cases h; rfl
    refine hk a' cap' H' ⟨h1, Upd.drop (Upd.new hb _) h2 (by intro k hk; simp [blk] at hk; subst hk; exact hb), fun p hp => ?_⟩
    rcases h3 p hp with h | h
    · rw [hb1 p h.symm]; exact hb
    · refine Classical.byContradiction fun hne => ?_
      have : p.block ≠ b := fun e => hne (by rw [e]; exact hb)
      rw [upd_ne _ _ this] at h; exact hne h

theorem clone_t {a : Option Addr} {n c : Nat} {ys : List UInt8} {H : Heap} {K : Value → Heap → Prop} (hy : RowAt H a (u8s ys)) (hn : ys.length = n) (hlim : n ≤ 140737488355328)
    (hk : ∀ a' cap' H', Made H H' 5 1 a' n cap' (u8s ys) → K (.slice a' n cap') H') : HCalls Try.prog 41 [.slice a n c] H K := by
  refine hcalls (fn := Try.f41) [] mixed Try.func41 rfl rfl rfl ?_
  (repeat first | refine HReg.step ?_ | refine HCode.step ?_)
  cases a with
  | none =>
    have : ys = [] := by
      cases ys with
      | nil => rfl
      | cons y ys => obtain ⟨_, _, hh, _⟩ := hy 0 _ rfl; cases hh
    subst this
    have : n = 0 := by simpa using hn.symm
    subst this
    (repeat first | refine HReg.step ?_ | refine HCode.step ?_)
    exact hk none 0 H ⟨OwnRow.nil _ _ _, Upd.refl _ _, fun p hp => by cases hp⟩
  | some p =>
    (repeat first | refine HReg.step ?_ | refine HCode.step ?_)
    refine HReq.mk (by decide) ?_
    (repeat first | refine HReg.step ?_ | refine HCode.step ?_)
    refine HNew.mk fun b hb => ?_
    (repeat first | refine HReg.step ?_ | refine HCode.step ?_)
    refine copy_sem hb hy hn hlim fun a' cap' H' h => ?_
    (repeat first | refine HReg.step ?_ | refine HCode.step ?_)
    exact hk a' cap' H' h

theorem append_own {a b : Option Addr} {n cap m c : Nat} {xs ys : List UInt8} {H : Heap} {K : Value → Heap → Prop} (ho : OwnRow H 5 1 a n cap (u8s xs)) (hy : RowAt H b (u8s ys)) (hm : ys.length = m) (hlim : n + m ≤ 140737488355328)
    (hk : ∀ a' cap' H', OwnRow H' 5 1 a' (n + m) cap' (u8s (xs ++ ys)) → Upd (blk a) H H' → (∀ p, a' = some p → a = some p ∨ H p.block = none) → K (.slice a' (n + m) cap') H') :
    HSem Try.prog (Builtin.append_ #[32, 32] 32 [.slice a n cap, .slice b m c].toArray) H K := by
  refine append_rows (ie := Try.t5) (z := .int .u8 0) (ys := u8s ys) (xs := u8s xs) Try.underlying32 rfl rfl rfl (by decide) ho hy ?_ (plain_u8s _) ?_ ?_ ?_
  · rw [u8s_length, hm]; exact (Nat.mul_one _).symm
  · show (n + m) * 1 ≤ _; omega
  · omega
  · intro a' cap' H' h1 h2 h3
    rw [← u8s_append] at h1
    exact hk a' cap' H' h1 h2 h3
theorem append_made {a b : Option Addr} {n cap m c : Nat} {xs ys : List UInt8} {H0 H : Heap} {K : Value → Heap → Prop} (hm : Made H0 H 5 1 a n cap (u8s xs)) (hy : RowAt H b (u8s ys)) (hml : ys.length = m) (hlim : n + m ≤ 140737488355328)
    (hk : ∀ a' cap' H', Made H0 H' 5 1 a' (n + m) cap' (u8s (xs ++ ys)) → K (.slice a' (n + m) cap') H') :
    HSem Try.prog (Builtin.append_ #[32, 32] 32 [.slice a n cap, .slice b m c].toArray) H K := by
  refine append_own hm.own hy hml hlim fun a' cap' H' o u f => hk a' cap' H' ⟨o, ?_, ?_⟩
  · refine Upd.drop hm.upd u fun b hb => ?_
    obtain ⟨p, hp, rfl⟩ := blk_of hb
    exact hm.new p hp
  · intro p hp
    rcases f p hp with h | h
    · exact hm.new p h
    · exact Upd.none (S := []) hm.upd (by simp) h
theorem row_lit {H : Heap} {b : Nat} {l : List UInt8} {cur : Array Value} {e : TypeId} {f : Nat × Nat} (h : H b = some (.cells cur e f)) (hl : cur.toList = u8s l) : RowAt H (some ⟨b, 0, none⟩) (u8s l) := by
  rw [← hl]; exact RowAt.of_cells h

theorem upd_none' {S : List Nat} {H H' : Heap} (h : Upd S H H') (hS : ∀ b ∈ S, H' b ≠ none) {b : Nat} (hb : H' b = none) : H b = none := by
  refine Classical.byContradiction fun hne => ?_
  by_cases hm : b ∈ S
  · exact hS b hm hb
  · rw [h b hm hne] at hb; exact hne hb
theorem HLoadN_row {H : Heap} {b off n : Nat} {vs : List Value} {K : List Value → Prop} (h : RowAt H (some ⟨b, off, none⟩) vs) (hl : vs.length = n) (hk : K vs) : HLoadN [H] b off n K :=
  ⟨vs, fun H' hH j v hv => by rw [List.mem_singleton.1 hH]; exact h.get hv, hl, hk⟩
theorem own_cells {H : Heap} {e : TypeId} {g n cap size : Nat} {xs : List Value} (h : OwnRow H e size (some ⟨g, 0, none⟩) n cap xs) : ∃ c f, H g = some (.cells c e f) := by
  rcases h.ok with ⟨ha, _⟩ | ⟨g', cur, ha, hg, _⟩
  · cases ha
  · cases ha; exact ⟨_, _, hg⟩
theorem not_dec_true {p : Prop} [Decidable p] (h : (!decide p) = true) : ¬ p := fun hp => by rw [decide_eq_true hp] at h; cases h
theorem not_dec_false {p : Prop} [Decidable p] (h : (!decide p) = false) : p := by
  refine Classical.byContradiction fun hp => ?_
  rw [decide_eq_false hp] at h; cases h
theorem drop_get {α : Type} {l : List α} {i : Nat} {x : α} (h : l[i]? = some x) : l.drop i = x :: l.drop (i + 1) := by
  obtain ⟨h1, h2⟩ := List.getElem?_eq_some_iff.1 h
  rw [List.drop_eq_getElem_cons h1, h2]
theorem take_get {α : Type} {l : List α} {i : Nat} {x : α} (h : l[i]? = some x) : l.take (i + 1) = l.take i ++ [x] := by
  rw [List.take_add_one, h]; rfl
theorem own_apart {H : Heap} {e e' : TypeId} {g n cap size n' cap' size' : Nat} {a : Option Addr} {xs ys : List Value} (o : OwnRow H e size (some ⟨g, 0, none⟩) n cap xs) (r : OwnRow H e' size' a n' cap' ys) (hne : e ≠ e') : g ∉ blk a := fun hb => by
  obtain ⟨p, hp, hpe⟩ := blk_of hb
  obtain ⟨c, z, hg⟩ := own_cells o
  rcases r.ok with ⟨ha, _⟩ | ⟨g', cur, ha, hg', _⟩
  · rw [ha] at hp; cases hp
  · rw [ha] at hp; cases hp
    have e1 : g' = g := hpe
    rw [e1, hg] at hg'; cases hg'; exact hne rfl
/-! Footprints: what an object's blocks are, and become. -/
structure Foot (S S' : List Nat) (H H' : Heap) : Prop where
  upd : Upd S H H'
  sub : ∀ b ∈ S', b ∈ S ∨ H b = none
theorem Foot.refl (S : List Nat) (H : Heap) : Foot S S H H := ⟨Upd.refl _ _, fun b h => .inl h⟩
theorem Foot.trans {S S' S'' : List Nat} {H H' H'' : Heap} (h : Foot S S' H H') (k : Foot S' S'' H' H'') : Foot S S'' H H'' := by
  refine ⟨upd_join h.upd k.upd h.sub, fun b hb => ?_⟩
  rcases k.sub b hb with h1 | h1
  · exact h.sub b h1
  · refine Classical.byContradiction fun hn => ?_
    rw [not_or] at hn
    rw [h.upd b hn.1 hn.2] at h1; exact hn.2 h1
theorem Foot.fwd0 {S S' : List Nat} {H H' H'' : Heap} (h : Foot S S' H H') (u : Upd [] H' H'') : Foot S S' H H'' := ⟨h.upd.trans (u.mono (by simp)), h.sub⟩
theorem Foot.back0 {S S' : List Nat} {H0 H H' : Heap} (h : Foot S S' H H') (u : Upd [] H0 H) : Foot S S' H0 H' := by
  refine ⟨(u.mono (by simp)).trans h.upd, fun b hb => ?_⟩
  rcases h.sub b hb with h1 | h1
  · exact .inl h1
  · exact .inr (Upd.none (S := []) u (by simp) h1)
theorem Foot.of0 {S : List Nat} {H H' : Heap} (u : Upd [] H H') : Foot S S H H' := ⟨u.mono (by simp), fun b h => .inl h⟩
/-- Two objects apart. -/
def Apart (S T : List Nat) : Prop := ∀ b ∈ S, b ∉ T
theorem Apart.symm {S T : List Nat} (h : Apart S T) : Apart T S := fun b hb hs => h b hs hb
theorem Apart.foot {S S' T : List Nat} {H H' : Heap} (h : Apart S T) (f : Foot S S' H H') (live : ∀ b ∈ T, H b ≠ none) : Apart S' T := fun b hb ht => by
  rcases f.sub b hb with h1 | h1
  · exact h b h1 ht
  · exact live b ht h1
theorem Apart.new {S T : List Nat} {H : Heap} (hn : ∀ b ∈ S, H b = none) (live : ∀ b ∈ T, H b ≠ none) : Apart S T := fun b hb ht => live b ht (hn b hb)
end Go.Proofs.Ytfcmjomnpahllaa
