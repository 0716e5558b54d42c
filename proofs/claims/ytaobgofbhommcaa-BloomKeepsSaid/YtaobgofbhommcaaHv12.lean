import Derived.Test.YtaobgofbhommcaaHv11
namespace Go.Proofs.Ytaobgofbhommcaa.Hv
open Go
set_option linter.unusedVariables false
set_option linter.unusedSimpArgs false

/-! ## Stores into rows of one's own; groups of slices of bytes, each with a block of its own -/
theorem store_row {H : Heap} {b i j n cap : Nat} {e : TypeId} {xs : List Value} {v : Value} {K : Heap → Prop} (ho : OwnRow H e 1 (some ⟨b, 0, none⟩) n cap xs) (hv : Value.plain v = true) (hi : i < n) (hj : j = i)
    (hk : ∀ H', OwnRow H' e 1 (some ⟨b, 0, none⟩) n cap (xs.set i v) → Upd [b] H H' → K H') : HStore H ⟨b, j, none⟩ v K := by
  subst hj
  rcases ho.ok with ⟨h, _⟩ | ⟨g, cur, ha, hg, hs, hn, hc⟩
  · cases h
  · cases ha
    have hsz : j < cur.size := by omega
    have hl := ho.len
    refine HStore.mk hv ⟨cur[j], ?_⟩ ?_ ?_
    · rw [cell_of hg]; simp [hsz]
    · unfold Heap.frozen?; rw [hg]; simp
    · rw [setCell_own hg]
      refine hk _ (OwnRow.made (upd_same _ _ _) (by simpa using hs) hn (by rw [List.length_set]; exact hl) ?_) (Upd.upd (by simp) _)
      intro k w hk
      rw [List.getElem?_set] at hk
      rw [Array.getElem?_setIfInBounds]
      split at hk
      · rename_i h; subst h
        rw [if_pos rfl, if_pos hsz]
        rw [if_pos (by omega)] at hk; exact hk
      · rename_i h
        rw [if_neg h]; exact hc k w hk
def vblk : Value → List Nat
  | .slice (some p) _ _ => [p.block]
  | _ => []
theorem vblk_slice (a : Option Addr) (n c : Nat) : vblk (.slice a n c) = blk a := by cases a <;> rfl
def Sle (e : TypeId) (H : Heap) (v : Value) (l : List UInt8) : Prop := ∃ a c, v = .slice a l.length c ∧ OwnRow H e 1 a l.length c (u8s l)
theorem Sle.live {e : TypeId} {H : Heap} {v : Value} {l : List UInt8} (h : Sle e H v l) {b : Nat} (hb : b ∈ vblk v) : ∃ c f, H b = some (.cells c e f) := by
  obtain ⟨a, c, rfl, ho⟩ := h
  rw [vblk_slice] at hb
  obtain ⟨p, hp, rfl⟩ := blk_of hb
  rcases ho.ok with ⟨ha, _⟩ | ⟨g, cur, ha, hg, _⟩
  · rw [ha] at hp; cases hp
  · rw [ha] at hp; cases hp; exact ⟨_, _, hg⟩
theorem Sle.upd {e : TypeId} {S : List Nat} {H H' : Heap} {v : Value} {l : List UInt8} (h : Sle e H v l) (hu : Upd S H H') (ho : ∀ b ∈ vblk v, b ∉ S) : Sle e H' v l := by
  obtain ⟨a, c, rfl, ho'⟩ := h
  refine ⟨a, c, rfl, ho'.upd hu fun p hp hS => ho p.block ?_ hS⟩
  rw [vblk_slice, hp]; simp [blk]
structure Grp (e : TypeId) (H : Heap) (vs : List Value) (ls : List (List UInt8)) : Prop where
  len : vs.length = ls.length
  ok : ∀ (i : Nat) v l, vs[i]? = some v → ls[i]? = some l → Sle e H v l
  apart : ∀ (i j : Nat) v w, i ≠ j → vs[i]? = some v → vs[j]? = some w → ∀ b ∈ vblk v, b ∉ vblk w
theorem Grp.nil (e : TypeId) (H : Heap) : Grp e H [] [] := ⟨rfl, fun i v l h => by simp at h, fun i j v w _ h => by simp at h⟩
theorem Grp.get {e : TypeId} {H : Heap} {vs : List Value} {ls : List (List UInt8)} (h : Grp e H vs ls) {i : Nat} {l : List UInt8} (hi : ls[i]? = some l) : ∃ v, vs[i]? = some v ∧ Sle e H v l := by
  have h1 := (List.getElem?_eq_some_iff.1 hi).1
  have h2 : i < vs.length := by rw [h.len]; exact h1
  exact ⟨vs[i], by simp [h2], h.ok i _ l (by simp [h2]) hi⟩
theorem Grp.val {e : TypeId} {H : Heap} {vs : List Value} {ls : List (List UInt8)} (h : Grp e H vs ls) {i : Nat} {v : Value} (hi : vs[i]? = some v) : ∃ l, ls[i]? = some l ∧ Sle e H v l := by
  have h1 := (List.getElem?_eq_some_iff.1 hi).1
  have h2 : i < ls.length := by rw [← h.len]; exact h1
  exact ⟨ls[i], by simp [h2], h.ok i v _ hi (by simp [h2])⟩
theorem Grp.upd {e : TypeId} {S : List Nat} {H H' : Heap} {vs : List Value} {ls : List (List UInt8)} (h : Grp e H vs ls) (hu : Upd S H H') (ho : ∀ b ∈ S, ∀ c f, H b ≠ some (.cells c e f)) : Grp e H' vs ls := by
  refine ⟨h.len, fun i v l hv hl => ?_, h.apart⟩
  have := h.ok i v l hv hl
  refine this.upd hu fun b hb hS => ?_
  obtain ⟨c, f, hc⟩ := this.live hb
  exact ho b hS c f hc
theorem Grp.live {e : TypeId} {H : Heap} {vs : List Value} {ls : List (List UInt8)} (h : Grp e H vs ls) {i : Nat} {v : Value} (hi : vs[i]? = some v) {b : Nat} (hb : b ∈ vblk v) : ∃ c f, H b = some (.cells c e f) := by
  obtain ⟨l, _, hs⟩ := h.val hi
  exact hs.live hb
/-- Two groups, the second of new blocks. -/
theorem Grp.join {e : TypeId} {H0 H : Heap} {vs vs' : List Value} {ls ls' : List (List UInt8)} (h0 : Grp e H0 vs ls) (hu : Upd [] H0 H) (h' : Grp e H vs' ls') (hn : ∀ v ∈ vs', ∀ b ∈ vblk v, H0 b = none) : Grp e H (vs ++ vs') (ls ++ ls') := by
  have h := h0.upd hu (by simp)
  have hx : ∀ (i j : Nat) v w, vs[i]? = some v → vs'[j]? = some w → ∀ b ∈ vblk v, b ∉ vblk w := by
    intro i j v w hv hw b hb hb'
    obtain ⟨c, f, hc⟩ := h0.live hv hb
    rw [hn w (List.mem_of_getElem? hw) b hb'] at hc; cases hc
  refine ⟨by rw [List.length_append, List.length_append, h.len, h'.len], fun i v l hv hl => ?_, fun i j v w hij hv hw => ?_⟩
  · by_cases hi : i < vs.length
    · rw [List.getElem?_append_left hi] at hv
      rw [List.getElem?_append_left (by rw [← h.len]; exact hi)] at hl
      exact h.ok i v l hv hl
    · rw [List.getElem?_append_right (by omega)] at hv
      rw [List.getElem?_append_right (by rw [← h.len]; omega), ← h.len] at hl
      exact h'.ok _ v l hv hl
  · by_cases hi : i < vs.length
    · rw [List.getElem?_append_left hi] at hv
      by_cases hj : j < vs.length
      · rw [List.getElem?_append_left hj] at hw
        exact h.apart i j v w hij hv hw
      · rw [List.getElem?_append_right (by omega)] at hw
        exact hx i _ v w hv hw
    · rw [List.getElem?_append_right (by omega)] at hv
      by_cases hj : j < vs.length
      · rw [List.getElem?_append_left hj] at hw
        intro b hb hb'
        exact hx j _ w v hw hv b hb' hb
      · rw [List.getElem?_append_right (by omega)] at hw
        exact h'.apart _ _ v w (by omega) hv hw
theorem Grp.one {e : TypeId} {H : Heap} {v : Value} {l : List UInt8} (h : Sle e H v l) : Grp e H [v] [l] := by
  refine ⟨rfl, fun i v' l' hv hl => ?_, fun i j v' w hij hv hw => ?_⟩
  · cases i with
    | zero => cases hv; cases hl; exact h
    | succ i => simp at hv
  · have h1 := (List.getElem?_eq_some_iff.1 hv).1
    have h2 := (List.getElem?_eq_some_iff.1 hw).1
    simp at h1 h2; omega
/-- One more slice, of a new block. -/
theorem Grp.add {e : TypeId} {H0 H : Heap} {vs : List Value} {v : Value} {ls : List (List UInt8)} {l : List UInt8} (h0 : Grp e H0 vs ls) (hu : Upd [] H0 H) (h' : Sle e H v l) (hn : ∀ b ∈ vblk v, H0 b = none) : Grp e H (vs ++ [v]) (ls ++ [l]) :=
  h0.join hu (.one h') fun w hw => by rw [List.mem_singleton.1 hw]; exact hn
/-- One slice changes; its new block is its old one or a new one. -/
theorem Grp.change {e : TypeId} {H H' : Heap} {vs : List Value} {v v' : Value} {ls : List (List UInt8)} {l' : List UInt8} {i : Nat} (h : Grp e H vs ls) (hi : vs[i]? = some v) (hu : Upd (vblk v) H H') (h' : Sle e H' v' l') (hn : ∀ b ∈ vblk v', b ∈ vblk v ∨ H b = none) : Grp e H' (vs.set i v') (ls.set i l') := by
  have hx : ∀ (j : Nat) w, i ≠ j → vs[j]? = some w → ∀ b ∈ vblk v', b ∉ vblk w := by
    intro j w hij hw b hb hb'
    rcases hn b hb with h1 | h1
    · exact h.apart i j v w hij hi hw b h1 hb'
    · obtain ⟨c, f, hc⟩ := h.live hw hb'
      rw [h1] at hc; cases hc
  refine ⟨by simp [h.len], fun j w l hw hl => ?_, fun j k w x hjk hw hx' => ?_⟩
  · rw [List.getElem?_set] at hw hl
    split at hw
    · rename_i hij; subst hij
      rw [if_pos rfl] at hl
      split at hw
      · cases hw
        split at hl
        · cases hl; exact h'
        · cases hl
      · cases hw
    · rename_i hij
      rw [if_neg hij] at hl
      have := h.ok j w l hw hl
      refine this.upd hu fun b hb hb' => h.apart i j v w hij hi hw b hb' hb
  · rw [List.getElem?_set] at hw hx'
    split at hw
    · rename_i hij; subst hij
      rw [if_neg hjk] at hx'
      split at hw
      · cases hw; exact hx k x hjk hx'
      · cases hw
    · rename_i hij
      split at hx'
      · rename_i hik; subst hik
        split at hx'
        · cases hx'
          intro b hb hb'
          exact hx j w hij hw b hb' hb
        · cases hx'
      · exact h.apart j k w x hjk hw hx'
/-- Some of a group, in another order. -/
theorem Grp.pick {e : TypeId} {H : Heap} {vs : List Value} {ls : List (List UInt8)} (h : Grp e H vs ls) (is : List Nat) (hd : is.Nodup) (hb : ∀ i ∈ is, i < vs.length) (v0 : Value) (l0 : List UInt8) : Grp e H (is.map fun i => vs.getD i v0) (is.map fun i => ls.getD i l0) := by
  have key : ∀ (i : Nat) v, (is.map fun i => vs.getD i v0)[i]? = some v → ∃ k, is[i]? = some k ∧ vs[k]? = some v := by
    intro i v hv
    rw [List.getElem?_map] at hv
    cases hk : is[i]? with
    | none => rw [hk] at hv; cases hv
    | some k =>
      rw [hk] at hv
      have hk' := hb k (List.mem_of_getElem? hk)
      refine ⟨k, rfl, ?_⟩
      simp [List.getD, hk'] at hv
      rw [List.getElem?_eq_getElem hk', hv]
  refine ⟨by simp, fun i v l hv hl => ?_, fun i j v w hij hv hw => ?_⟩
  · obtain ⟨k, hk, hv'⟩ := key i v hv
    refine h.ok k v l hv' ?_
    rw [List.getElem?_map, hk] at hl
    have hk' := hb k (List.mem_of_getElem? hk)
    have hk2 : k < ls.length := by rw [← h.len]; exact hk'
    simp [List.getD, hk2] at hl
    rw [List.getElem?_eq_getElem hk2, hl]
  · obtain ⟨k, hk, hv'⟩ := key i v hv
    obtain ⟨m, hm, hw'⟩ := key j w hw
    refine h.apart k m v w (fun e => hij ?_) hv' hw'
    subst e
    exact (List.getElem?_inj (List.getElem?_eq_some_iff.1 hk).1 hd).1 (hk.trans hm.symm)
theorem Grp.own {e : TypeId} {H : Heap} {vs : List Value} {ls : List (List UInt8)} {i n c : Nat} {a : Option Addr} {l : List UInt8} (h : Grp e H vs ls) (hi : vs[i]? = some (.slice a n c)) (hl : ls[i]? = some l) : l.length = n ∧ OwnRow H e 1 a n c (u8s l) := by
  obtain ⟨a', c', he, ho⟩ := h.ok i _ l hi hl
  obtain ⟨h1, h2, h3⟩ := Value.slice.inj he
  subst h1; subst h2; subst h3
  exact ⟨rfl, ho⟩
/-- A byte of one of a group's slices is written. -/
theorem Grp.store {e : TypeId} {H : Heap} {vs : List Value} {ls : List (List UInt8)} {i b n c k j : Nat} {l : List UInt8} {x : UInt8} {K : Heap → Prop} (h : Grp e H vs ls) (hi : vs[i]? = some (.slice (some ⟨b, 0, none⟩) n c)) (hl : ls[i]? = some l) (hk : k < l.length) (hj : j = k)
    (hK : ∀ H', Grp e H' vs (ls.set i (l.set k x)) → Upd [b] H H' → K H') : HStore H ⟨b, j, none⟩ (u8 x) K := by
  obtain ⟨a', c', he, ho⟩ := h.ok i _ l hi hl
  cases he
  refine store_row ho rfl hk hj fun H' ho' hu => ?_
  refine hK H' ?_ hu
  have hvs : vs.set i (.slice (some ⟨b, 0, none⟩) l.length c) = vs := by
    apply List.ext_getElem?
    intro m
    rw [List.getElem?_set]
    split
    · rename_i h1; subst h1
      have := (List.getElem?_eq_some_iff.1 hi).1
      rw [if_pos this, hi]
    · rfl
  have := h.change (v' := .slice (some ⟨b, 0, none⟩) l.length c) (l' := l.set k x) hi hu ⟨some ⟨b, 0, none⟩, c, by rw [List.length_set], by
    have e1 : u8s (l.set k x) = (u8s l).set k (u8 x) := by unfold u8s; rw [List.map_set]
    rw [e1, List.length_set]; exact ho'⟩ fun b hb => .inl hb
  rw [hvs] at this
  exact this
theorem Made.step {H0 H H' : Heap} {e : TypeId} {size : Nat} {a : Option Addr} {n cap : Nat} {xs : List Value} (h : Made H0 H e size a n cap xs) (hu : Upd [] H H') : Made H0 H' e size a n cap xs :=
  ⟨h.own.upd hu (Off.nil _), h.upd.trans hu, h.new⟩
theorem Made.back {H0 H1 H : Heap} {e : TypeId} {size : Nat} {a : Option Addr} {n cap : Nat} {xs : List Value} (h : Made H1 H e size a n cap xs) (hu : Upd [] H0 H1) : Made H0 H e size a n cap xs :=
  ⟨h.own, hu.trans h.upd, fun p hp => Upd.none (S := []) hu (by simp) (h.new p hp)⟩
theorem Made.sle {H0 H : Heap} {e : TypeId} {a : Option Addr} {cap : Nat} {l : List UInt8} {n : Nat} (h : Made H0 H e 1 a n cap (u8s l)) (hn : l.length = n) : Sle e H (.slice a n cap) l := by
  subst hn; exact ⟨a, cap, rfl, h.own⟩
theorem Made.vnew {H0 H : Heap} {e : TypeId} {size : Nat} {a : Option Addr} {n cap m c : Nat} {xs : List Value} (h : Made H0 H e size a n cap xs) : ∀ b ∈ vblk (.slice a m c), H0 b = none := by
  intro b hb
  rw [vblk_slice] at hb
  obtain ⟨p, hp, rfl⟩ := blk_of hb
  exact h.new p hp
theorem OwnRow.notE {H : Heap} {e e' : TypeId} {size g n cap : Nat} {xs : List Value} (h : OwnRow H e' size (some ⟨g, 0, none⟩) n cap xs) (hne : e' ≠ e) : ∀ b ∈ [g], ∀ c f, H b ≠ some (.cells c e f) := by
  intro b hb c f he
  rw [List.mem_singleton.1 hb] at he
  rcases h.ok with ⟨ha, _⟩ | ⟨g', cur, ha, hg, _⟩
  · cases ha
  · cases ha; rw [hg] at he; cases he; exact hne rfl
theorem OwnRow.apart {H : Heap} {e e' : TypeId} {size n cap i : Nat} {a : Option Addr} {xs vs : List Value} {ls : List (List UInt8)} {v : Value} (h : OwnRow H e' size a n cap xs) (G : Grp e H vs ls) (hne : e' ≠ e) (hi : vs[i]? = some v) : Off (vblk v) a := by
  intro p hp hb
  obtain ⟨c, f, hc⟩ := G.live hi hb
  rcases h.ok with ⟨ha, _⟩ | ⟨g', cur, ha, hg, _⟩
  · rw [ha] at hp; cases hp
  · rw [ha] at hp; cases hp; rw [hg] at hc; cases hc; exact hne rfl
/-- A group all of whose blocks are newer than H1. -/
structure GrpM (e : TypeId) (H1 H : Heap) (vs : List Value) (ls : List (List UInt8)) : Prop where
  grp : Grp e H vs ls
  new : ∀ v ∈ vs, ∀ b ∈ vblk v, H1 b = none
  upd : Upd [] H1 H
theorem GrpM.step {e : TypeId} {H1 H H' : Heap} {vs : List Value} {ls : List (List UInt8)} {S : List Nat} (G : GrpM e H1 H vs ls) (hu : Upd S H H') (hS : ∀ b ∈ S, ∀ c f, H b ≠ some (.cells c e f)) (hn : ∀ b ∈ S, H1 b = none) : GrpM e H1 H' vs ls :=
  ⟨G.grp.upd hu hS, G.new, Upd.drop G.upd hu hn⟩
theorem GrpM.step0 {e : TypeId} {H1 H H' : Heap} {vs : List Value} {ls : List (List UInt8)} (G : GrpM e H1 H vs ls) (hu : Upd [] H H') : GrpM e H1 H' vs ls := G.step hu (by simp) (by simp)
theorem GrpM.add {e : TypeId} {H1 H0 H : Heap} {vs : List Value} {a : Option Addr} {n cap : Nat} {ls : List (List UInt8)} {l : List UInt8} (G : GrpM e H1 H0 vs ls) (m : Made H0 H e 1 a n cap (u8s l)) (hn : l.length = n) : GrpM e H1 H (vs ++ [.slice a n cap]) (ls ++ [l]) :=
  ⟨G.grp.add m.upd (m.sle hn) m.vnew, fun v hv b hb => by
    rcases List.mem_append.1 hv with h | h
    · exact G.new v h b hb
    · rw [List.mem_singleton.1 h] at hb; exact Upd.none (S := []) G.upd (by simp) (m.vnew b hb), G.upd.trans m.upd⟩
theorem GrpM.join {e : TypeId} {H1 H0 H : Heap} {vs vs' : List Value} {ls ls' : List (List UInt8)} (G : GrpM e H1 H0 vs ls) (hu : Upd [] H0 H) (h' : Grp e H vs' ls') (hn : ∀ v ∈ vs', ∀ b ∈ vblk v, H0 b = none) : GrpM e H1 H (vs ++ vs') (ls ++ ls') :=
  ⟨G.grp.join hu h' hn, fun v hv b hb => by
    rcases List.mem_append.1 hv with h | h
    · exact G.new v h b hb
    · exact Upd.none (S := []) G.upd (by simp) (hn v h b hb), G.upd.trans hu⟩
theorem GrpM.pick {e : TypeId} {H1 H : Heap} {vs : List Value} {ls : List (List UInt8)} (G : GrpM e H1 H vs ls) (is : List Nat) (hd : is.Nodup) (hb : ∀ i ∈ is, i < vs.length) (v0 : Value) (l0 : List UInt8) : GrpM e H1 H (is.map fun i => vs.getD i v0) (is.map fun i => ls.getD i l0) :=
  ⟨G.grp.pick is hd hb v0 l0, fun v hv b hb' => by
    obtain ⟨i, hi, rfl⟩ := List.mem_map.1 hv
    have h1 := hb i hi
    refine G.new _ ?_ b hb'
    simp [List.getD, h1], G.upd⟩
theorem GrpM.store {e : TypeId} {H1 H : Heap} {vs : List Value} {ls : List (List UInt8)} {i b n c k j : Nat} {l : List UInt8} {x : UInt8} {K : Heap → Prop} (h : GrpM e H1 H vs ls) (hi : vs[i]? = some (.slice (some ⟨b, 0, none⟩) n c)) (hl : ls[i]? = some l) (hk : k < l.length) (hj : j = k)
    (hK : ∀ H', GrpM e H1 H' vs (ls.set i (l.set k x)) → Upd [b] H H' → K H') : HStore H ⟨b, j, none⟩ (u8 x) K := by
  refine h.grp.store hi hl hk hj fun H' G' u => hK H' ⟨G', h.new, Upd.drop h.upd u fun b' hb' => ?_⟩ u
  rw [List.mem_singleton.1 hb']
  exact h.new _ (List.mem_of_getElem? hi) b (by simp [vblk])
theorem GrpM.change {e : TypeId} {H1 H H' : Heap} {vs : List Value} {v v' : Value} {ls : List (List UInt8)} {l' : List UInt8} {i : Nat} (h : GrpM e H1 H vs ls) (hi : vs[i]? = some v) (hu : Upd (vblk v) H H') (h' : Sle e H' v' l') (hn : ∀ b ∈ vblk v', b ∈ vblk v ∨ H b = none) : GrpM e H1 H' (vs.set i v') (ls.set i l') := by
  have hv := h.new v (List.mem_of_getElem? hi)
  refine ⟨h.grp.change hi hu h' hn, fun w hw b hb => ?_, Upd.drop h.upd hu hv⟩
  rcases List.mem_or_eq_of_mem_set hw with h1 | h1
  · exact h.new w h1 b hb
  · subst h1
    rcases hn b hb with h2 | h2
    · exact hv b h2
    · exact Upd.none (S := []) h.upd (by simp) h2
theorem set_rep {l : List UInt8} {c : UInt8} {j : Nat} (h : j < l.length) : (List.replicate j c ++ l.drop j).set j c = List.replicate (j + 1) c ++ l.drop (j + 1) := by
  apply List.ext_getElem?
  intro k
  rw [List.getElem?_set]
  by_cases h1 : j = k
  · subst h1
    rw [if_pos rfl, if_pos (by simp; omega)]
    rw [List.getElem?_append_left (by simp)]
    simp
  · rw [if_neg h1]
    by_cases h2 : k < j
    · rw [List.getElem?_append_left (by simpa using h2), List.getElem?_append_left (by simp; omega)]
      rw [List.getElem?_replicate, List.getElem?_replicate, if_pos h2, if_pos (by omega)]
    · rw [List.getElem?_append_right (by simp; omega), List.getElem?_append_right (by simp; omega)]
      simp only [List.length_replicate, List.getElem?_drop]
      congr 1; omega
theorem GrpM.nil (e : TypeId) (H : Heap) : GrpM e H H [] [] := ⟨Grp.nil e H, fun v hv => by simp at hv, Upd.refl _ _⟩
theorem OwnRow.notT {H : Heap} {e e' : TypeId} {size n cap : Nat} {a : Option Addr} {xs : List Value} (h : OwnRow H e' size a n cap xs) (hne : e' ≠ e) : ∀ b ∈ blk a, ∀ c f, H b ≠ some (.cells c e f) := by
  intro b hb c f he
  obtain ⟨p, hp, rfl⟩ := blk_of hb
  rcases h.ok with ⟨ha, _⟩ | ⟨g', cur, ha, hg, _⟩
  · rw [ha] at hp; cases hp
  · rw [ha] at hp; cases hp; rw [hg] at he; cases he; exact hne rfl
theorem OwnRow.offT {H : Heap} {e e' : TypeId} {size size' n cap n' cap' : Nat} {a b : Option Addr} {xs ys : List Value} (h : OwnRow H e size a n cap xs) (h' : OwnRow H e' size' b n' cap' ys) (hne : e ≠ e') : Off (blk a) b := by
  intro p hp hb
  rcases h'.ok with ⟨ha, _⟩ | ⟨g', cur, ha, hg, _⟩
  · rw [ha] at hp; cases hp
  · rw [ha] at hp; cases hp; exact h.notT hne _ hb _ _ hg
end Go.Proofs.Ytaobgofbhommcaa.Hv
