import Derived.Test.YtocejipjnklieaaE5
namespace Go.Proofs.Ytocejipjnklieaa
open Go Hv
set_option linter.unusedVariables false
set_option linter.unusedSimpArgs false
set_option maxRecDepth 10000
set_option maxHeartbeats 4000000
/-! marks: lists of bytes, marked and lengthened. CUT2 -/
theorem Hv.OwnRow.pre {H : Heap} {e : TypeId} {size n m cap : Nat} {a : Option Addr} {xs ys : List Value} (h : OwnRow H e size a (n + m) cap (xs ++ ys)) (hl : xs.length = n * size) : OwnRow H e size a n cap xs := by
  refine ⟨hl, ?_⟩
  rcases h.ok with ⟨h1, h2, h3⟩ | ⟨g, cur, ha, hg, h1, h2, h3⟩
  · exact .inl ⟨h1, by omega, h3⟩
  · exact .inr ⟨g, cur, ha, hg, h1, by omega, fun i v hi => h3 i v (by rw [List.getElem?_append_left (List.getElem?_eq_some_iff.1 hi).1]; exact hi)⟩
theorem set_slf {α : Type} {l : List α} {i : Nat} {x : α} (h : l[i]? = some x) : l.set i x = l := by
  apply List.ext_getElem?
  intro j
  rw [List.getElem?_set]
  split
  · rename_i e; subst e
    have := (List.getElem?_eq_some_iff.1 h).1
    rw [if_pos this, h]
  · rfl
def mk6 (j : Nat) : UInt8 := UInt8.ofNat (j + 1)
theorem mk6_val {i : Nat} (h : i ≤ 100) : Value.int .u8 (wr .u8 (wr .i64 ((i : Int) + 1))) = u8 (mk6 i) := by
  rw [wr_i64 (by omega) (by omega), wr_u8]
  unfold u8 mk6
  rw [UInt8.toNat_ofNat']
  have e : ((i : Int) + 1) % 256 = (((i + 1) % 2 ^ 8 : Nat) : Int) := by omega
  rw [e]
def AllM (i : Nat) (ls : List (List UInt8)) : Prop := ∀ (j : Nat) (l : List UInt8), j < i → ls[j]? = some l → l = List.replicate l.length (mk6 j)
/-- A list that is lengthened: in its own place, or away from all. -/
structure ExG (H1 H : Heap) (vs : List Value) (a : Option Addr) (c : Nat) (a' : Option Addr) (n' c' : Nat) (xs : List UInt8) : Prop where
  own : OwnRow H 5 1 a' n' c' (u8s xs)
  new : ∀ b ∈ blk a', H1 b = none
  at_ : (a' = a ∧ c' = c) ∨ ∀ v ∈ vs, ∀ b ∈ vblk v, b ∉ blk a'
/-- A lengthened list that is kept: its first bytes are still those of list j. -/
def Sd (H : Heap) (vs : List Value) (ls : List (List UInt8)) (j : Nat) (w : Value) : Prop :=
  ∃ a n c l, w = .slice a n c ∧ ls[j]? = some l ∧ l.length ≤ n ∧ RowAt H a (u8s l) ∧ (∀ b ∈ blk a, ∃ c f, H b = some (.cells c 5 f)) ∧ ∀ (k : Nat) v, k ≠ j → vs[k]? = some v → ∀ b ∈ blk a, b ∉ vblk v
theorem Sd.upd {H H' : Heap} {vs : List Value} {ls : List (List UInt8)} {j : Nat} {w : Value} {T : List Nat} (h : Sd H vs ls j w) (u : Upd T H H') (hT : ∀ b ∈ vblk w, b ∉ T) : Sd H' vs ls j w := by
  obtain ⟨a, n, c, l, rfl, h1, h2, h3, h4, h5⟩ := h
  rw [vblk_slice] at hT
  refine ⟨a, n, c, l, rfl, h1, h2, h3.upd u (.inr (off_notin hT)), fun b hb => ?_, h5⟩
  obtain ⟨c', f, e⟩ := h4 b hb
  exact ⟨c', f, by rw [u b (hT b hb) (by rw [e]; simp)]; exact e⟩
theorem Sd.off {H : Heap} {vs : List Value} {ls : List (List UInt8)} {j : Nat} {w : Value} {T : List Nat} (h : Sd H vs ls j w) (hT : ∀ b ∈ T, ∀ c f, H b ≠ some (.cells c 5 f)) : ∀ b ∈ vblk w, b ∉ T := by
  obtain ⟨a, n, c, l, rfl, _, _, _, h4, _⟩ := h
  intro b hb hm
  rw [vblk_slice] at hb
  obtain ⟨c', f, e⟩ := h4 b hb
  exact hT b hm _ _ e
section
variable {H1 H : Heap} {K : Value → Heap → Prop}
theorem exg_app {vs : List Value} {ls : List (List UInt8)} {i c x c' d : Nat} {l zs : List UInt8} {a a' b : Option Addr} {t : UInt8} (G : GrpM 5 H1 H vs ls) (hi : vs[i]? = some (.slice a l.length c)) (hl : ls[i]? = some l)
    (E : ExG H1 H vs a c a' (l.length + x) c' (l ++ zs)) (hz : zs.length = x) (hy : RowAt H b (u8s [t])) (hlim : l.length + x + 1 ≤ 140737488355328)
    (hk : ∀ a'' c'' H', GrpM 5 H1 H' vs ls → ExG H1 H' vs a c a'' (l.length + (x + 1)) c'' (l ++ (zs ++ [t])) → Upd (blk a') H H' → (∀ b ∈ blk a'', b ∈ blk a' ∨ H b = none) → K (.slice a'' (l.length + (x + 1)) c'') H') :
    HSem Try.prog (Builtin.append_ #[22, 22] 22 [.slice a' (l.length + x) c', .slice b 1 d].toArray) H K := by
  refine append_rows' (ie := Try.t5) (z := .int .u8 0) (ys := u8s [t]) (xs := u8s (l ++ zs)) Try.underlying22 rfl rfl rfl (by decide) E.own hy rfl (plain_u8s _) (by show (l.length + x + 1) * 1 ≤ _; omega) (by omega) fun a'' c'' H' o u f ⟨h1, h2⟩ => ?_
  rw [← u8s_append, List.append_assoc] at o
  have hsub : ∀ b ∈ blk a'', b ∈ blk a' ∨ H b = none := fun b hb => by
    obtain ⟨p, hp, rfl⟩ := blk_of hb
    rcases f p hp with h | h
    · exact .inl (by rw [h]; simp [blk])
    · exact .inr h
  by_cases hc : l.length + x + 1 ≤ c'
  · obtain ⟨rfl, rfl⟩ := h1 hc
    refine hk a'' c'' H' ?_ ⟨o, E.new, E.at_⟩ u hsub
    rcases E.at_ with ⟨rfl, rfl⟩ | off
    · have op : OwnRow H' 5 1 a'' l.length c'' (u8s l) := by
        rw [u8s_append] at o
        exact OwnRow.pre (m := x + 1) o (by rw [u8s_length, Nat.mul_one])
      have := G.change (v' := .slice a'' l.length c'') (l' := l) hi (by rw [vblk_slice]; exact u) ⟨a'', c'', rfl, op⟩ (fun b hb => .inl hb)
      rwa [set_slf hi, set_slf hl] at this
    · exact grpM_upd G u off E.new
  · obtain ⟨v0, nw⟩ := h2 hc
    refine hk a'' c'' H' (G.step0 v0) ⟨o, fun b hb => ?_, .inr fun v hv b hb hm => ?_⟩ u hsub
    · obtain ⟨p, hp, rfl⟩ := blk_of hb
      exact Upd.none (S := []) G.upd (by simp) (nw p hp)
    · obtain ⟨p, hp, rfl⟩ := blk_of hm
      obtain ⟨k, hk'⟩ := List.getElem?_of_mem hv
      obtain ⟨c0, f0, e⟩ := G.grp.live hk' hb
      rw [nw p hp] at e; cases e
end
structure MaInv (H1 : Heap) (aL : Option Addr) (cL : Nat) (vs0 : List Value) (ns : List Nat) (m : Nat) (vs : List Value) (H' : Heap) : Prop where
  ex : ∃ (i : Nat) (ls : List (List UInt8)), vs = [.int .i64 (i : Int)] ∧ m + i = vs0.length ∧ GrpM 5 H1 H' vs0 ls ∧ ls.map List.length = ns ∧ AllM i ls ∧ OwnRow H' 22 1 aL vs0.length cL vs0
structure MaJ (H1 : Heap) (aL : Option Addr) (cL : Nat) (vs0 : List Value) (ns : List Nat) (vs : List Value) (H' : Heap) : Prop where
  ex : ∃ (ls : List (List UInt8)), vs = [] ∧ GrpM 5 H1 H' vs0 ls ∧ ls.map List.length = ns ∧ AllM vs0.length ls ∧ OwnRow H' 22 1 aL vs0.length cL vs0
structure MbInv (H1 : Heap) (aL : Option Addr) (cL : Nat) (vs0 : List Value) (ls : List (List UInt8)) (i : Nat) (l : List UInt8) (m : Nat) (vs : List Value) (H' : Heap) : Prop where
  ex : ∃ (k : Nat), vs = [.int .i64 (k : Int)] ∧ m + k = l.length ∧ GrpM 5 H1 H' vs0 (ls.set i (List.replicate k (mk6 i) ++ l.drop k)) ∧ OwnRow H' 22 1 aL vs0.length cL vs0
structure MmS (H1 : Heap) (aL : Option Addr) (cL : Nat) (vs0 : List Value) (ls : List (List UInt8)) (i : Nat) (aM : Option Addr) (cM : Nat) (ws : List Value) (H' : Heap) : Prop where
  G : GrpM 5 H1 H' vs0 ls
  L : OwnRow H' 22 1 aL vs0.length cL vs0
  M : OwnRow H' 22 1 aM i cM ws
  ML : ∀ b ∈ blk aL, b ∉ blk aM
  Mn : ∀ b ∈ blk aM, H1 b = none
  sd : ∀ (j : Nat) w, ws[j]? = some w → Sd H' vs0 ls j w
structure McInv (H1 : Heap) (aL : Option Addr) (cL : Nat) (vs0 : List Value) (ls : List (List UInt8)) (m : Nat) (vs : List Value) (H' : Heap) : Prop where
  ex : ∃ (i : Nat) (aM : Option Addr) (cM : Nat) (ws : List Value), vs = [.slice aM i cM, .int .i64 (i : Int)] ∧ m + i = vs0.length ∧ MmS H1 aL cL vs0 ls i aM cM ws H'
structure McJ (H1 : Heap) (aL : Option Addr) (cL : Nat) (vs0 : List Value) (ls : List (List UInt8)) (vs : List Value) (H' : Heap) : Prop where
  ex : ∃ (aM : Option Addr) (cM : Nat) (ws : List Value), vs = [.slice aM vs0.length cM] ∧ MmS H1 aL cL vs0 ls vs0.length aM cM ws H'
structure MdInv (H1 : Heap) (aL : Option Addr) (cL : Nat) (vs0 : List Value) (ls : List (List UInt8)) (i : Nat) (aM : Option Addr) (cM : Nat) (ws : List Value) (a : Option Addr) (c : Nat) (l : List UInt8) (m : Nat) (vs : List Value) (H' : Heap) : Prop where
  ex : ∃ (x : Nat) (a' : Option Addr) (c' : Nat), vs = [.slice a' (l.length + x) c', .int .i64 (x : Int)] ∧ m + x = 80 ∧ MmS H1 aL cL vs0 ls i aM cM ws H' ∧ ExG H1 H' vs0 a c a' (l.length + x) c' (l ++ List.replicate x 251) ∧ ∀ (j : Nat) w, ws[j]? = some w → ∀ b ∈ vblk w, b ∉ blk a'
structure MdJ (H1 : Heap) (aL : Option Addr) (cL : Nat) (vs0 : List Value) (ls : List (List UInt8)) (i : Nat) (aM : Option Addr) (cM : Nat) (ws : List Value) (a : Option Addr) (c : Nat) (l : List UInt8) (vs : List Value) (H' : Heap) : Prop where
  ex : ∃ (a' : Option Addr) (c' : Nat), vs = [.slice a' (l.length + 80) c'] ∧ MmS H1 aL cL vs0 ls i aM cM ws H' ∧ ExG H1 H' vs0 a c a' (l.length + 80) c' (l ++ List.replicate 80 251)
structure MeInv (H1 : Heap) (n m : Nat) (vs : List Value) (H' : Heap) : Prop where
  ex : ∃ i : Nat, vs = [.int .i64 (i : Int)] ∧ m + i = n ∧ H' = H1
end Go.Proofs.Ytocejipjnklieaa
