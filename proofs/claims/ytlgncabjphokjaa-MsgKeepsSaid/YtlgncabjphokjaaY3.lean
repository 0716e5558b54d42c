import Derived.Test.YtlgncabjphokjaaY2
namespace Go.Proofs.Ytlgncabjphokjaa
open Go Hv
set_option linter.unusedVariables false
set_option linter.unusedSimpArgs false
set_option maxRecDepth 10000
set_option maxHeartbeats 1000000
/-! Groups of lists that share nothing, marked and lengthened: any kind of cells. -/
def Slv (e : TypeId) (H : Heap) (v : Value) (l : List Value) : Prop := ∃ a c, v = .slice a l.length c ∧ OwnRow H e 1 a l.length c l
theorem Slv.live {e : TypeId} {H : Heap} {v : Value} {l : List Value} (h : Slv e H v l) {b : Nat} (hb : b ∈ vblk v) : ∃ c f, H b = some (.cells c e f) := by
  obtain ⟨a, c, rfl, ho⟩ := h
  rw [vblk_slice] at hb
  obtain ⟨p, hp, rfl⟩ := blk_of hb
  rcases ho.ok with ⟨ha, _⟩ | ⟨g, cur, ha, hg, _⟩
  · rw [ha] at hp; cases hp
  · rw [ha] at hp; cases hp; exact ⟨_, _, hg⟩
theorem Slv.upd {e : TypeId} {S : List Nat} {H H' : Heap} {v : Value} {l : List Value} (h : Slv e H v l) (hu : Upd S H H') (ho : ∀ b ∈ vblk v, b ∉ S) : Slv e H' v l := by
  obtain ⟨a, c, rfl, ho'⟩ := h
  refine ⟨a, c, rfl, ho'.upd hu fun p hp hS => ho p.block ?_ hS⟩
  rw [vblk_slice, hp]; simp [blk]
theorem live_cells {H : Heap} {e : TypeId} {size n cap : Nat} {a : Option Addr} {xs : List Value} (h : OwnRow H e size a n cap xs) : ∀ b ∈ blk a, ∃ c f, H b = some (.cells c e f) := fun b hb => by
  obtain ⟨p, hp, rfl⟩ := blk_of hb
  rcases h.ok with ⟨ha, _⟩ | ⟨g, cur, ha, hg, _⟩
  · rw [ha] at hp; cases hp
  · rw [ha] at hp; cases hp; exact ⟨_, _, hg⟩
/-- A group all of whose blocks are newer than H1. -/
structure Grv (e : TypeId) (H1 H : Heap) (vs : List Value) (ls : List (List Value)) : Prop where
  len : vs.length = ls.length
  ok : ∀ (i : Nat) v l, vs[i]? = some v → ls[i]? = some l → Slv e H v l
  apart : ∀ (i j : Nat) v w, i ≠ j → vs[i]? = some v → vs[j]? = some w → ∀ b ∈ vblk v, b ∉ vblk w
  new : ∀ v ∈ vs, ∀ b ∈ vblk v, H1 b = none
  upd : Upd [] H1 H
theorem Grv.nil (e : TypeId) {H1 H : Heap} (u : Upd [] H1 H) : Grv e H1 H [] [] := ⟨rfl, fun i v l h => by simp at h, fun i j v w _ h => by simp at h, fun v hv => by simp at hv, u⟩
section
variable {e : TypeId} {H1 H H' : Heap} {vs : List Value} {ls : List (List Value)}
theorem Grv.get (h : Grv e H1 H vs ls) {i : Nat} {l : List Value} (hi : ls[i]? = some l) : ∃ v, vs[i]? = some v ∧ Slv e H v l := by
  have h1 := (List.getElem?_eq_some_iff.1 hi).1
  have h2 : i < vs.length := by rw [h.len]; exact h1
  exact ⟨vs[i], by simp [h2], h.ok i _ l (by simp [h2]) hi⟩
theorem Grv.val (h : Grv e H1 H vs ls) {i : Nat} {v : Value} (hi : vs[i]? = some v) : ∃ l, ls[i]? = some l ∧ Slv e H v l := by
  have h1 := (List.getElem?_eq_some_iff.1 hi).1
  have h2 : i < ls.length := by rw [← h.len]; exact h1
  exact ⟨ls[i], by simp [h2], h.ok i v _ hi (by simp [h2])⟩
theorem Grv.live (h : Grv e H1 H vs ls) {i : Nat} {v : Value} (hi : vs[i]? = some v) {b : Nat} (hb : b ∈ vblk v) : ∃ c f, H b = some (.cells c e f) := by
  obtain ⟨l, _, hs⟩ := h.val hi
  exact hs.live hb
theorem Grv.step {S : List Nat} (h : Grv e H1 H vs ls) (hu : Upd S H H') (hS : ∀ b ∈ S, ∀ c f, H b ≠ some (.cells c e f)) (hn : ∀ b ∈ S, H1 b = none) : Grv e H1 H' vs ls := by
  refine ⟨h.len, fun i v l hv hl => ?_, h.apart, h.new, Upd.drop h.upd hu hn⟩
  have := h.ok i v l hv hl
  refine this.upd hu fun b hb hs => ?_
  obtain ⟨c, f, hc⟩ := this.live hb
  exact hS b hs c f hc
theorem Grv.step0 (h : Grv e H1 H vs ls) (hu : Upd [] H H') : Grv e H1 H' vs ls := h.step hu (by simp) (by simp)
/-- One more slice, of a new block. -/
theorem Grv.add {a : Option Addr} {n cap : Nat} {l : List Value} (h0 : Grv e H1 H vs ls) (m : Made H H' e 1 a n cap l) : Grv e H1 H' (vs ++ [.slice a n cap]) (ls ++ [l]) := by
  have hn : l.length = n := by have := m.own.len; omega
  subst hn
  have h := h0.step0 m.upd
  have hb0 : ∀ b ∈ vblk (.slice a l.length cap), H b = none := m.vnew
  have hx : ∀ (i : Nat) v, vs[i]? = some v → ∀ b ∈ vblk v, b ∉ vblk (.slice a l.length cap) := by
    intro i v hv b hb hb'
    obtain ⟨c, f, hc⟩ := h0.live hv hb
    rw [hb0 b hb'] at hc; cases hc
  have one : ∀ {α : Type} (x : α) {xs : List α} {i : Nat} {y : α}, (xs ++ [x])[i]? = some y → xs[i]? = some y ∨ (i = xs.length ∧ y = x) := by
    intro α x xs i y hi
    by_cases h1 : i < xs.length
    · rw [List.getElem?_append_left h1] at hi; exact .inl hi
    · rw [List.getElem?_append_right (by omega)] at hi
      obtain ⟨k, hk⟩ : ∃ k, i - xs.length = k := ⟨_, rfl⟩
      rw [hk] at hi
      cases k with
      | zero => exact .inr ⟨by omega, by simpa using hi.symm⟩
      | succ k => simp at hi
  refine ⟨by rw [List.length_append, List.length_append, h.len]; rfl, fun i v l' hv hl => ?_, fun i j v w hij hv hw => ?_, fun v hv b hb => ?_, h.upd⟩
  · rcases one _ hv with hv | ⟨h1, rfl⟩
    · have h2 := (List.getElem?_eq_some_iff.1 hv).1
      rw [List.getElem?_append_left (by rw [← h.len]; exact h2)] at hl
      exact h.ok i v l' hv hl
    · rcases one _ hl with hl | ⟨h2, rfl⟩
      · have h2 := (List.getElem?_eq_some_iff.1 hl).1
        have := h.len; omega
      · exact ⟨a, cap, rfl, m.own⟩
  · rcases one _ hv with hv | ⟨h1, rfl⟩ <;> rcases one _ hw with hw | ⟨h2, rfl⟩
    · exact h.apart i j v w hij hv hw
    · exact hx i v hv
    · exact fun b hb hb' => hx j w hw b hb' hb
    · omega
  · rcases List.mem_append.1 hv with hv | hv
    · exact h.new v hv b hb
    · rw [List.mem_singleton.1 hv] at hb
      exact Upd.none (S := []) h0.upd (by simp) (hb0 b hb)
/-- One slice changes; its new block is its old one or a new one. -/
theorem Grv.change {v v' : Value} {l' : List Value} {i : Nat} (h : Grv e H1 H vs ls) (hi : vs[i]? = some v) (hu : Upd (vblk v) H H') (h' : Slv e H' v' l') (hn : ∀ b ∈ vblk v', b ∈ vblk v ∨ H b = none) : Grv e H1 H' (vs.set i v') (ls.set i l') := by
  have hx : ∀ (j : Nat) w, i ≠ j → vs[j]? = some w → ∀ b ∈ vblk v', b ∉ vblk w := by
    intro j w hij hw b hb hb'
    rcases hn b hb with h1 | h1
    · exact h.apart i j v w hij hi hw b h1 hb'
    · obtain ⟨c, f, hc⟩ := h.live hw hb'
      rw [h1] at hc; cases hc
  have hv := h.new v (List.mem_of_getElem? hi)
  refine ⟨by simp [h.len], fun j w l hw hl => ?_, fun j k w x hjk hw hx' => ?_, fun w hw b hb => ?_, Upd.drop h.upd hu hv⟩
  · rw [List.getElem?_set] at hw hl
    split at hw
    · rename_i hij; subst hij
      rw [if_pos rfl] at hl
      split at hw
      · cases hw
        split at hl
        · cases hl; exact h'
        · cases hl
      · cases hw
    · rename_i hij
      rw [if_neg hij] at hl
      have := h.ok j w l hw hl
      refine this.upd hu fun b hb hb' => h.apart i j v w hij hi hw b hb' hb
  · rw [List.getElem?_set] at hw hx'
    split at hw
    · rename_i hij; subst hij
      rw [if_neg hjk] at hx'
      split at hw
      · cases hw; exact hx k x hjk hx'
      · cases hw
    · rename_i hij
      split at hx'
      · rename_i hik; subst hik
        split at hx'
        · cases hx'
          intro b hb hb'
          exact hx j w hij hw b hb' hb
        · cases hx'
      · exact h.apart j k w x hjk hw hx'
  · rcases List.mem_or_eq_of_mem_set hw with h1 | h1
    · exact h.new w h1 b hb
    · subst h1
      rcases hn b hb with h2 | h2
      · exact hv b h2
      · exact Upd.none (S := []) h.upd (by simp) h2
theorem set_selfV {α : Type} {l : List α} {i : Nat} {x : α} (h : l[i]? = some x) : l.set i x = l := by
  apply List.ext_getElem?
  intro k
  rw [List.getElem?_set]
  split
  · rename_i e; subst e
    have := (List.getElem?_eq_some_iff.1 h).1
    rw [if_pos this, h]
  · rfl
theorem get_setV {α : Type} {l : List α} {i : Nat} {x y : α} (h : l[i]? = some x) : (l.set i y)[i]? = some y := by
  have := (List.getElem?_eq_some_iff.1 h).1
  rw [List.getElem?_set]; simp [this]
theorem set_setV {α : Type} (l : List α) (i : Nat) (x y : α) : (l.set i x).set i y = l.set i y := by
  apply List.ext_getElem?
  intro k
  simp only [List.getElem?_set, List.length_set]
  split <;> rfl
theorem take_setV {α : Type} (l : List α) (i : Nat) (x : α) : (l.set i x).take i = l.take i := by
  apply List.ext_getElem?
  intro k
  rw [List.getElem?_take, List.getElem?_take]
  by_cases h : k < i
  · rw [if_pos h, if_pos h, List.getElem?_set, if_neg (by omega)]
  · rw [if_neg h, if_neg h]
theorem set_repV {α : Type} {l : List α} {c : α} {j : Nat} (h : j < l.length) : (List.replicate j c ++ l.drop j).set j c = List.replicate (j + 1) c ++ l.drop (j + 1) := by
  apply List.ext_getElem?
  intro k
  rw [List.getElem?_set]
  by_cases h1 : j = k
  · subst h1
    rw [if_pos rfl, if_pos (by simp; omega)]
    rw [List.getElem?_append_left (by simp)]
    simp
  · rw [if_neg h1]
    by_cases h2 : k < j
    · rw [List.getElem?_append_left (by simpa using h2), List.getElem?_append_left (by simp; omega)]
      rw [List.getElem?_replicate, List.getElem?_replicate, if_pos h2, if_pos (by omega)]
    · rw [List.getElem?_append_right (by simp; omega), List.getElem?_append_right (by simp; omega)]
      simp only [List.length_replicate, List.getElem?_drop]
      congr 1; omega
/-- A cell of one of a group's slices is written. -/
theorem Grv.store {i b n c k j : Nat} {l : List Value} {x : Value} {K : Heap → Prop} (h : Grv e H1 H vs ls) (hi : vs[i]? = some (.slice (some ⟨b, 0, none⟩) n c)) (hl : ls[i]? = some l) (hp : Value.plain x = true) (hk : k < l.length) (hj : j = k)
    (hK : ∀ H', Grv e H1 H' vs (ls.set i (l.set k x)) → Upd [b] H H' → K H') : HStore H ⟨b, j, none⟩ x K := by
  obtain ⟨a', c', he, ho⟩ := h.ok i _ l hi hl
  cases he
  refine store_row ho hp hk hj fun H' ho' hu => ?_
  refine hK H' ?_ hu
  have hvs := set_selfV hi
  have := h.change (v' := .slice (some ⟨b, 0, none⟩) l.length c) (l' := l.set k x) hi hu ⟨some ⟨b, 0, none⟩, c, by rw [List.length_set], by rw [List.length_set]; exact ho'⟩ fun b hb => .inl hb
  rw [hvs] at this
  exact this
end
section
variable {mk : Nat → Value}
def MarkedV (mk : Nat → Value) (i : Nat) (ns : List Nat) (ls : List (List Value)) : Prop := ls.length = ns.length ∧ ∀ (k : Nat) (l : List Value), ls[k]? = some l → ns[k]? = some l.length ∧ (k < i → l = List.replicate l.length (mk k))
theorem MarkedV.step {ns : List Nat} {i : Nat} {ls : List (List Value)} {l : List Value} (h : MarkedV mk i ns ls) (hi : ls[i]? = some l) : MarkedV mk (i + 1) ns (ls.set i (List.replicate l.length (mk i))) := by
  refine ⟨by simpa using h.1, fun k l' hk => ?_⟩
  rw [List.getElem?_set] at hk
  split at hk
  · rename_i e; subst e
    split at hk
    · cases hk
      have h1 := h.2 i l hi
      rw [List.length_replicate]
      exact ⟨h1.1, fun _ => rfl⟩
    · cases hk
  · rename_i e
    have h1 := h.2 k l' hk
    exact ⟨h1.1, fun hlt => h1.2 (by omega)⟩
theorem MarkedV.len {i j : Nat} {ns : List Nat} {lj : List (List Value)} {l : List Value} {B : Nat} (h : MarkedV mk i ns lj) (hl : ∀ n ∈ ns, n ≤ B) (hj : lj[j]? = some l) : l.length ≤ B :=
  hl _ (List.mem_of_getElem? (h.2 j l hj).1)
def ContV (mk : Nat → Value) (i t : Nat) (ns : List Nat) (ls : List (List Value)) : Prop := ls.length = ns.length ∧ ∀ (k : Nat) (l : List Value), ls[k]? = some l → ∃ m, ns[k]? = some m ∧ l = List.replicate (m + (if k < i then 40 else if k = i then t else 0)) (mk k)
theorem ContV.of {n : Nat} {ns : List Nat} {ls : List (List Value)} (h : MarkedV mk n ns ls) (hn : ns.length ≤ n) : ContV mk 0 0 ns ls := by
  refine ⟨h.1, fun k l hk => ?_⟩
  obtain ⟨h1, h2⟩ := h.2 k l hk
  have : k < ls.length := (List.getElem?_eq_some_iff.1 hk).1
  refine ⟨l.length, h1, ?_⟩
  have e : l.length + (if k < 0 then 40 else if k = 0 then 0 else 0) = l.length := by rw [if_neg (by omega)]; split <;> rfl
  rw [e]; exact h2 (by have := h.1; omega)
theorem ContV.next {i : Nat} {ns : List Nat} {ls : List (List Value)} (h : ContV mk i 40 ns ls) : ContV mk (i + 1) 0 ns ls := by
  refine ⟨h.1, fun k l hk => ?_⟩
  obtain ⟨m, h1, h2⟩ := h.2 k l hk
  refine ⟨m, h1, ?_⟩
  rw [h2]
  congr 2
  by_cases h3 : k < i
  · rw [if_pos h3, if_pos (by omega)]
  · rw [if_neg h3]
    by_cases h4 : k = i
    · rw [if_pos h4, if_pos (by omega)]
    · rw [if_neg h4, if_neg (by omega)]; split <;> rfl
theorem ContV.more {i t : Nat} {ns : List Nat} {ls : List (List Value)} {l : List Value} (h : ContV mk i t ns ls) (hi : ls[i]? = some l) : ContV mk i (t + 1) ns (ls.set i (l ++ [mk i])) := by
  refine ⟨by rw [List.length_set]; exact h.1, fun k l' hk => ?_⟩
  rw [List.getElem?_set] at hk
  split at hk
  · rename_i e; subst e
    split at hk
    · cases hk
      obtain ⟨m, h1, h2⟩ := h.2 i l hi
      refine ⟨m, h1, ?_⟩
      rw [if_neg (by omega), if_pos rfl] at h2 ⊢
      rw [h2, ← Nat.add_assoc, List.replicate_succ']
    · cases hk
  · rename_i e
    obtain ⟨m, h1, h2⟩ := h.2 k l' hk
    refine ⟨m, h1, ?_⟩
    rw [h2]
    congr 2
    by_cases h3 : k < i
    · rw [if_pos h3, if_pos h3]
    · rw [if_neg h3, if_neg h3, if_neg (by omega), if_neg (by omega)]
/-- The lists as they were handed in: marked, beside what they have become. -/
structure HeldV (mk : Nat → Value) (e : TypeId) (H : Heap) (V : List Value) (ns : List Nat) (Y : List Value) : Prop where
  ok : ∀ (k : Nat) v, V[k]? = some v → ∃ a c m, ns[k]? = some m ∧ v = .slice a m c ∧ RowAt H a (List.replicate m (mk k)) ∧ (∀ b ∈ blk a, ∃ c f, H b = some (.cells c e f)) ∧ (∀ j y, Y[j]? = some y → (∀ b ∈ blk a, b ∉ vblk y) ∨ (j = k ∧ ∃ m' c', y = .slice a m' c'))
variable {e eL : TypeId} {H1 H H' : Heap} {V Y : List Value} {ns : List Nat}
theorem HeldV.of {ls : List (List Value)} {n : Nat} (G : Grv e H1 H V ls) (h : MarkedV mk n ns ls) (hn : ns.length ≤ n) : HeldV mk e H V ns V := by
  refine ⟨fun k v hv => ?_⟩
  obtain ⟨l, hl, a, c, rfl, o⟩ := G.val hv
  obtain ⟨h1, h2⟩ := h.2 k l hl
  have hk : k < ls.length := (List.getElem?_eq_some_iff.1 hl).1
  have h2 := h2 (by have := h.1; omega)
  refine ⟨a, c, l.length, h1, rfl, by rw [← h2]; exact o.rows, live_cells o, fun j y hy => ?_⟩
  by_cases e : j = k
  · subst e; rw [hv] at hy; cases hy; exact .inr ⟨rfl, _, _, rfl⟩
  · refine .inl fun b hb hb' => ?_
    exact G.apart k j _ _ (fun e' => e e'.symm) hv hy b (by rw [vblk_slice]; exact hb) hb'
theorem HeldV.upd {S : List Nat} (h : HeldV mk e H V ns Y) (u : Upd S H H') (hS : ∀ b ∈ S, ∀ c f, H b ≠ some (.cells c e f)) : HeldV mk e H' V ns Y := by
  refine ⟨fun k v hv => ?_⟩
  obtain ⟨a, c, m, h1, rfl, h2, h3, h4⟩ := h.ok k v hv
  have hb : ∀ b ∈ blk a, b ∉ S := fun b hb hs => by
    obtain ⟨c, f, hc⟩ := h3 b hb
    exact hS b hs c f hc
  refine ⟨a, c, m, h1, rfl, h2.upd u (.inr (off_notin hb)), fun b hb' => ?_, h4⟩
  obtain ⟨c, f, hc⟩ := h3 b hb'
  exact ⟨c, f, by rw [u b (hb b hb') (by rw [hc]; simp)]; exact hc⟩
theorem held_pushV {i t c0 c' : Nat} {a0 a' : Option Addr} {m : Nat} (h : HeldV mk e H V ns Y) (hm : ns[i]? = some m) (hY : Y[i]? = some (.slice a0 (m + t) c0))
    (o : OwnRow H' e 1 a' (m + t + 1) c' (List.replicate (m + t) (mk i) ++ [mk i])) (u : Upd (blk a0) H H') (f : ∀ p, a' = some p → a0 = some p ∨ H p.block = none)
    (f1 : m + t + 1 ≤ c0 → a' = a0) (f2 : ¬ m + t + 1 ≤ c0 → Upd [] H H' ∧ ∀ p, a' = some p → H p.block = none) : HeldV mk e H' V ns (Y.set i (.slice a' (m + t + 1) c')) := by
  refine ⟨fun k v hv => ?_⟩
  obtain ⟨a, c, mk', h1, rfl, h2, h3, h4⟩ := h.ok k v hv
  have h3' : ∀ b ∈ blk a, H b ≠ none := fun b hb hn => by
    obtain ⟨c, f, hc⟩ := h3 b hb
    rw [hn] at hc; cases hc
  have hnew : (∀ b ∈ blk a, b ∉ blk a0) → ∀ b ∈ blk a, b ∉ blk a' := fun ha b hb hb' => by
    obtain ⟨p, hp, rfl⟩ := blk_of hb'
    rcases f p hp with h5 | h5
    · exact ha _ hb (by rw [h5]; simp [blk])
    · exact h3' _ hb h5
  rcases h4 i _ hY with h5 | ⟨rfl, m', c'', h5⟩
  · rw [vblk_slice] at h5
    refine ⟨a, c, mk', h1, rfl, h2.upd u (.inr (off_notin h5)), fun b hb => by rw [u b (h5 b hb) (h3' b hb)]; exact h3 b hb, fun j y hy => ?_⟩
    rw [List.getElem?_set] at hy
    split at hy
    · split at hy
      · cases hy; left; rw [vblk_slice]; exact hnew h5
      · cases hy
    · exact h4 j y hy
  · injection h5 with e1 e2 e3
    subst e1
    rw [hm] at h1; cases h1
    by_cases hc : m + t + 1 ≤ c0
    · have := f1 hc
      subst this
      refine ⟨a', c, m, hm, rfl, ?_, live_cells o, fun j y hy => ?_⟩
      · have h6 := o.rows.take m
        have e : (List.replicate (m + t) (mk i) ++ [mk i]).take m = List.replicate m (mk i) := by
          rw [List.take_append_of_le_length (by rw [List.length_replicate]; omega), List.take_replicate, Nat.min_eq_left (by omega)]
        rw [e] at h6; exact h6
      · rw [List.getElem?_set] at hy
        split at hy
        · rename_i e; subst e
          split at hy
          · cases hy; exact .inr ⟨rfl, _, _, rfl⟩
          · cases hy
        · exact h4 j y hy
    · obtain ⟨u0, f0⟩ := f2 hc
      refine ⟨a0, c, m, hm, rfl, h2.upd u0 (.inr (Off.nil _)), fun b hb => by rw [u0 b (by simp) (h3' b hb)]; exact h3 b hb, fun j y hy => ?_⟩
      rw [List.getElem?_set] at hy
      split at hy
      · split at hy
        · cases hy; left; rw [vblk_slice]
          intro b hb hb'
          obtain ⟨p, hp, rfl⟩ := blk_of hb'
          exact h3' _ hb (f0 p hp)
        · cases hy
      · exact h4 j y hy
/-- Lists that are being lengthened. -/
structure MSv (mk : Nat → Value) (e eL : TypeId) (H1 : Heap) (a : Option Addr) (n c : Nat) (V : List Value) (ns : List Nat) (i t : Nat) (aL : Option Addr) (cL : Nat) (Y : List Value) (lY : List (List Value)) (H' : Heap) : Prop where
  G : Grv e H1 H' Y lY
  C : ContV mk i t ns lY
  D : HeldV mk e H' V ns Y
  L : OwnRow H' eL 1 aL i cL (Y.take i)
  Ln : ∀ b ∈ blk aL, H1 b = none
  Lo : Off (blk aL) a
  o : OwnRow H' eL 1 a n c V
variable {a aL : Option Addr} {n c i t cL : Nat} {lY ls : List (List Value)}
theorem MSv.start (G : Grv e H1 H V ls) (h : MarkedV mk n ns ls) (hn : ns.length ≤ n) (o : OwnRow H eL 1 a n c V) : MSv mk e eL H1 a n c V ns 0 0 none 0 V ls H :=
  ⟨G, ContV.of h hn, HeldV.of G h hn, by rw [List.take_zero]; exact OwnRow.nil _ _ _, fun b hb => by simp [blk] at hb, fun p hp => by simp [blk], o⟩
theorem MSv.off {S : List Nat} (s : MSv mk e eL H1 a n c V ns i t aL cL Y lY H) (u : Upd S H H') (hS : ∀ b ∈ S, (∀ c f, H b ≠ some (.cells c e f)) ∧ (∀ c f, H b ≠ some (.cells c eL f))) (hn : ∀ b ∈ S, H1 b = none) : MSv mk e eL H1 a n c V ns i t aL cL Y lY H' := by
  have off : ∀ {a : Option Addr} {n c : Nat} {xs : List Value}, OwnRow H eL 1 a n c xs → Off S a := fun {a n c xs} o p hp hs => by
    obtain ⟨c, f, hc⟩ := live_cells o p.block (by rw [hp]; simp [blk])
    exact (hS _ hs).2 c f hc
  exact ⟨s.G.step u (fun b hb => (hS b hb).1) hn, s.C, s.D.upd u (fun b hb => (hS b hb).1), s.L.upd u (off s.L), s.Ln, s.Lo, s.o.upd u (off s.o)⟩
theorem MSv.step0 (s : MSv mk e eL H1 a n c V ns i t aL cL Y lY H) (u : Upd [] H H') : MSv mk e eL H1 a n c V ns i t aL cL Y lY H' := s.off u (by simp) (by simp)
theorem MSv.push {a5 a8 : Option Addr} {m c5 c8 : Nat} (hne : e ≠ eL) (s : MSv mk e eL H1 a n c V ns i t aL cL Y lY H) (hm : ns[i]? = some m) (hy : Y[i]? = some (.slice a5 (m + t) c5))
    (o5 : OwnRow H e 1 a5 (m + t) c5 (List.replicate (m + t) (mk i)))
    (o : OwnRow H' e 1 a8 (m + t + 1) c8 (List.replicate (m + t) (mk i) ++ [mk i])) (u : Upd (blk a5) H H') (f : ∀ p, a8 = some p → a5 = some p ∨ H p.block = none)
    (q : (m + t + 1 ≤ c5 → a8 = a5 ∧ c8 = c5) ∧ (¬ m + t + 1 ≤ c5 → Upd [] H H' ∧ ∀ p, a8 = some p → H p.block = none)) :
    MSv mk e eL H1 a n c V ns i (t + 1) aL cL (Y.set i (.slice a8 (m + t + 1) c8)) (lY.set i (List.replicate (m + t) (mk i) ++ [mk i])) H' := by
  have hi : lY[i]? = some (List.replicate (m + t) (mk i)) := by
    obtain ⟨l, hl, _⟩ := s.G.val hy
    obtain ⟨m', hm', hl'⟩ := s.C.2 i l hl
    rw [hm] at hm'; cases hm'
    rw [if_neg (by omega), if_pos rfl] at hl'
    rw [hl, hl']
  have hlen : (List.replicate (m + t) (mk i) ++ [mk i]).length = m + t + 1 := by simp
  refine ⟨s.G.change hy (by rw [vblk_slice]; exact u) ⟨a8, c8, by rw [hlen], by rw [hlen]; exact o⟩ (fun b hb => ?_), s.C.more hi, held_pushV s.D hm hy o u f (fun h => (q.1 h).1) q.2, ?_, s.Ln, s.Lo, s.o.upd u (o5.offT s.o hne)⟩
  · rw [vblk_slice] at hb ⊢
    obtain ⟨p, hp, rfl⟩ := blk_of hb
    rcases f p hp with h | h
    · left; rw [h]; simp [blk]
    · exact .inr h
  · rw [take_setV]; exact s.L.upd u (o5.offT s.L hne)
theorem MSv.next {a8 : Option Addr} {c8 : Nat} {y : Value} (hne : e ≠ eL) (s : MSv mk e eL H1 a n c V ns i 40 aL cL Y lY H) (hy : Y[i]? = some y)
    (o : OwnRow H' eL 1 a8 (i + 1) c8 (Y.take i ++ [y])) (u : Upd (blk aL) H H') (f : ∀ p, a8 = some p → aL = some p ∨ H p.block = none) :
    MSv mk e eL H1 a n c V ns (i + 1) 0 a8 c8 Y lY H' := by
  have etk : Y.take (i + 1) = Y.take i ++ [y] := by rw [List.take_add_one, hy]; rfl
  refine ⟨s.G.step u (s.L.notT (Ne.symm hne)) s.Ln, s.C.next, s.D.upd u (s.L.notT (Ne.symm hne)), by rw [etk]; exact o, fun b hb => ?_, fun p hp hb => ?_, s.o.upd u s.Lo⟩
  · obtain ⟨p, hp, rfl⟩ := blk_of hb
    rcases f p hp with h | h
    · exact s.Ln _ (by rw [h]; simp [blk])
    · exact Upd.none (S := []) s.G.upd (by simp) h
  · obtain ⟨q, hq, hb⟩ := blk_of hb
    rcases f q hq with h | h
    · exact s.Lo p hp (by rw [h]; simp [blk, hb])
    · rw [hb] at h; exact s.o.there hp h
/-- What is read of a list of the group at last. -/
theorem MSv.read {k : Nat} {lv : Value} (s : MSv mk e eL H1 a n c V ns i t aL cL Y lY H) (hV : V[k]? = some lv) (hk : k < i) : ∃ m a5 c5 av cv, ns[k]? = some m ∧ Y[k]? = some (.slice a5 (m + 40) c5) ∧ OwnRow H e 1 a5 (m + 40) c5 (List.replicate (m + 40) (mk k)) ∧ lv = .slice av m cv ∧ RowAt H av (List.replicate m (mk k)) := by
  obtain ⟨av, cv, m, hm, rfl, r, _, _⟩ := s.D.ok k _ hV
  have hkn : k < ns.length := (List.getElem?_eq_some_iff.1 hm).1
  have hkl : k < lY.length := by rw [s.C.1]; exact hkn
  obtain ⟨y, hy, a5, c5, rfl, o5⟩ := s.G.get (List.getElem?_eq_getElem hkl)
  obtain ⟨m', hm', hl⟩ := s.C.2 k _ (List.getElem?_eq_getElem hkl)
  rw [hm] at hm'; cases hm'
  rw [if_pos hk] at hl
  rw [hl, List.length_replicate] at o5 hy
  exact ⟨m, a5, c5, av, cv, hm, hy, o5, rfl, r⟩
end
end Go.Proofs.Ytlgncabjphokjaa
