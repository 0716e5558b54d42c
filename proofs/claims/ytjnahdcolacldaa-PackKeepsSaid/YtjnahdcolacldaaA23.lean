import Derived.Test.YtjnahdcolacldaaA22
namespace Go.Proofs.Ytjnahdcolacldaa
open Go Hv
set_option linter.unusedVariables false
set_option linter.unusedSimpArgs false
set_option maxRecDepth 10000
set_option maxHeartbeats 1000000
theorem set_self {α : Type} {l : List α} {i : Nat} {x : α} (h : l[i]? = some x) : l.set i x = l := by
  apply List.ext_getElem?
  intro k
  rw [List.getElem?_set]
  split
  · rename_i e; subst e
    have := (List.getElem?_eq_some_iff.1 h).1
    rw [if_pos this, h]
  · rfl
theorem get_set {α : Type} {l : List α} {i : Nat} {x y : α} (h : l[i]? = some x) : (l.set i y)[i]? = some y := by
  have := (List.getElem?_eq_some_iff.1 h).1
  rw [List.getElem?_set]; simp [this]
theorem set_set' {α : Type} (l : List α) (i : Nat) (x y : α) : (l.set i x).set i y = l.set i y := by
  apply List.ext_getElem?
  intro k
  simp only [List.getElem?_set, List.length_set]
  split <;> rfl
/-- every copy reads as its original. -/
def Copies (H : Heap) (us : List Value) (ls : List (List UInt8)) : Prop := ∀ (i : Nat) l, ls[i]? = some l → ∃ a c, us[i]? = some (.slice a l.length c) ∧ RowAt H a (u8s l)
theorem marked_len {i j : Nat} {ls lj : List (List UInt8)} {l : List UInt8} {B : Nat} (h : Marked i (ls.map List.length) lj) (hl : ∀ l ∈ ls, l.length ≤ B) (hj : lj[j]? = some l) : l.length ≤ B := by
  have h1 := (h.2 j l hj).1
  rw [List.getElem?_map] at h1
  cases h2 : ls[j]? with
  | none => rw [h2] at h1; cases h1
  | some x => rw [h2] at h1; have e : x.length = l.length := Option.some.inj h1; rw [← e]; exact hl x (List.mem_of_getElem? h2)
/-- What is lengthened: list k has 40 marks more if it stands ahead of i, t more at i. -/
def Cont (i t : Nat) (ns : List Nat) (ls : List (List UInt8)) : Prop := ls.length = ns.length ∧ ∀ (k : Nat) (l : List UInt8), ls[k]? = some l → ∃ m, ns[k]? = some m ∧ l = List.replicate (m + (if k < i then 40 else if k = i then t else 0)) (mk k)
theorem Cont.of {n : Nat} {ns : List Nat} {ls : List (List UInt8)} (h : Marked n ns ls) (hn : ns.length ≤ n) : Cont 0 0 ns ls := by
  refine ⟨h.1, fun k l hk => ?_⟩
  obtain ⟨h1, h2⟩ := h.2 k l hk
  have : k < ls.length := (List.getElem?_eq_some_iff.1 hk).1
  refine ⟨l.length, h1, ?_⟩
  have e : l.length + (if k < 0 then 40 else if k = 0 then 0 else 0) = l.length := by rw [if_neg (by omega)]; split <;> rfl
  rw [e]; exact h2 (by have := h.1; omega)
theorem Cont.next {i : Nat} {ns : List Nat} {ls : List (List UInt8)} (h : Cont i 40 ns ls) : Cont (i + 1) 0 ns ls := by
  refine ⟨h.1, fun k l hk => ?_⟩
  obtain ⟨m, h1, h2⟩ := h.2 k l hk
  refine ⟨m, h1, ?_⟩
  rw [h2]
  congr 2
  by_cases h3 : k < i
  · rw [if_pos h3, if_pos (by omega)]
  · rw [if_neg h3]
    by_cases h4 : k = i
    · rw [if_pos h4, if_pos (by omega)]
    · rw [if_neg h4, if_neg (by omega)]; split <;> rfl
theorem Cont.more {i t : Nat} {ns : List Nat} {ls : List (List UInt8)} {l : List UInt8} (h : Cont i t ns ls) (hi : ls[i]? = some l) : Cont i (t + 1) ns (ls.set i (l ++ [mk i])) := by
  refine ⟨by rw [List.length_set]; exact h.1, fun k l' hk => ?_⟩
  rw [List.getElem?_set] at hk
  split at hk
  · rename_i e; subst e
    split at hk
    · cases hk
      obtain ⟨m, h1, h2⟩ := h.2 i l hi
      refine ⟨m, h1, ?_⟩
      rw [if_neg (by omega), if_pos rfl] at h2 ⊢
      rw [h2, ← Nat.add_assoc, List.replicate_succ']
    · cases hk
  · rename_i e
    obtain ⟨m, h1, h2⟩ := h.2 k l' hk
    refine ⟨m, h1, ?_⟩
    rw [h2]
    congr 2
    by_cases h3 : k < i
    · rw [if_pos h3, if_pos h3]
    · rw [if_neg h3, if_neg h3, if_neg (by omega), if_neg (by omega)]
/-- The lists as they were handed in: marked, beside what they have become. -/
structure Held (H : Heap) (V : List Value) (ns : List Nat) (Y : List Value) : Prop where
  ok : ∀ (k : Nat) v, V[k]? = some v → ∃ a c m, ns[k]? = some m ∧ v = .slice a m c ∧ RowAt H a (u8s (List.replicate m (mk k))) ∧ (∀ b ∈ blk a, H b ≠ none) ∧ (∀ j y, Y[j]? = some y → (∀ b ∈ blk a, b ∉ vblk y) ∨ (j = k ∧ ∃ m' c', y = .slice a m' c'))
theorem Held.of {H : Heap} {V : List Value} {ns : List Nat} {ls : List (List UInt8)} {n : Nat} (G : Grp 5 H V ls) (h : Marked n ns ls) (hn : ns.length ≤ n) : Held H V ns V := by
  refine ⟨fun k v hv => ?_⟩
  obtain ⟨l, hl, a, c, rfl, o⟩ := G.val hv
  obtain ⟨h1, h2⟩ := h.2 k l hl
  have hk : k < ls.length := (List.getElem?_eq_some_iff.1 hl).1
  have h2 := h2 (by have := h.1; omega)
  refine ⟨a, c, l.length, h1, rfl, by rw [← h2]; exact o.rows, fun b hb => ?_, fun j y hy => ?_⟩
  · obtain ⟨p, hp, rfl⟩ := blk_of hb
    exact o.there hp
  · by_cases e : j = k
    · subst e; rw [hv] at hy; cases hy; exact .inr ⟨rfl, _, _, rfl⟩
    · refine .inl fun b hb hb' => ?_
      exact G.apart k j _ _ (fun e' => e e'.symm) hv hy b (by rw [vblk_slice]; exact hb) hb'
theorem Held.upd {H H' : Heap} {V Y : List Value} {ns : List Nat} {S : List Nat} (h : Held H V ns Y) (u : Upd S H H') (hS : ∀ b ∈ S, H b = none ∨ ∀ v ∈ V, b ∉ vblk v) : Held H' V ns Y := by
  refine ⟨fun k v hv => ?_⟩
  obtain ⟨a, c, m, h1, rfl, h2, h3, h4⟩ := h.ok k v hv
  have hb : ∀ b ∈ blk a, b ∉ S := fun b hb hs => by
    rcases hS b hs with h5 | h5
    · exact h3 b hb h5
    · exact h5 _ (List.mem_of_getElem? hv) (by rw [vblk_slice]; exact hb)
  exact ⟨a, c, m, h1, rfl, h2.upd u (.inr (off_notin hb)), fun b hb' => by rw [u b (hb b hb') (h3 b hb')]; exact h3 b hb', h4⟩
theorem held_push {H H' : Heap} {V Y : List Value} {ns : List Nat} {i t c0 c' : Nat} {a0 a' : Option Addr} {m : Nat} (h : Held H V ns Y) (hm : ns[i]? = some m) (hY : Y[i]? = some (.slice a0 (m + t) c0))
    (o : OwnRow H' 5 1 a' (m + t + 1) c' (u8s (List.replicate (m + t) (mk i) ++ [mk i]))) (u : Upd (blk a0) H H') (f : ∀ p, a' = some p → a0 = some p ∨ H p.block = none)
    (f1 : m + t + 1 ≤ c0 → a' = a0) (f2 : ¬ m + t + 1 ≤ c0 → Upd [] H H' ∧ ∀ p, a' = some p → H p.block = none) : Held H' V ns (Y.set i (.slice a' (m + t + 1) c')) := by
  refine ⟨fun k v hv => ?_⟩
  obtain ⟨a, c, mk', h1, rfl, h2, h3, h4⟩ := h.ok k v hv
  have hnew : (∀ b ∈ blk a, b ∉ blk a0) → ∀ b ∈ blk a, b ∉ blk a' := fun ha b hb hb' => by
    obtain ⟨p, hp, rfl⟩ := blk_of hb'
    rcases f p hp with h5 | h5
    · exact ha _ hb (by rw [h5]; simp [blk])
    · exact h3 _ hb h5
  rcases h4 i _ hY with h5 | ⟨rfl, m', c'', h5⟩
  · rw [vblk_slice] at h5
    refine ⟨a, c, mk', h1, rfl, h2.upd u (.inr (off_notin h5)), fun b hb => by rw [u b (h5 b hb) (h3 b hb)]; exact h3 b hb, fun j y hy => ?_⟩
    rw [List.getElem?_set] at hy
    split at hy
    · split at hy
      · cases hy; left; rw [vblk_slice]; exact hnew h5
      · cases hy
    · exact h4 j y hy
  · injection h5 with e1 e2 e3
    subst e1
    rw [hm] at h1; cases h1
    by_cases hc : m + t + 1 ≤ c0
    · have := f1 hc
      subst this
      refine ⟨a', c, m, hm, rfl, ?_, fun b hb => ?_, fun j y hy => ?_⟩
      · have h6 := o.rows.take m
        rw [← u8s_take] at h6
        have e : (List.replicate (m + t) (mk i) ++ [mk i]).take m = List.replicate m (mk i) := by
          rw [List.take_append_of_le_length (by rw [List.length_replicate]; omega), List.take_replicate, Nat.min_eq_left (by omega)]
        rw [e] at h6; exact h6
      · obtain ⟨p, hp, rfl⟩ := blk_of hb
        exact o.there hp
      · rw [List.getElem?_set] at hy
        split at hy
        · rename_i e; subst e
          split at hy
          · cases hy; exact .inr ⟨rfl, _, _, rfl⟩
          · cases hy
        · exact h4 j y hy
    · obtain ⟨u0, f0⟩ := f2 hc
      refine ⟨a0, c, m, hm, rfl, h2.upd u0 (.inr (Off.nil _)), fun b hb => by rw [u0 b (by simp) (h3 b hb)]; exact h3 b hb, fun j y hy => ?_⟩
      rw [List.getElem?_set] at hy
      split at hy
      · split at hy
        · cases hy; left; rw [vblk_slice]
          intro b hb hb'
          obtain ⟨p, hp, rfl⟩ := blk_of hb'
          exact h3 _ hb (f0 p hp)
        · cases hy
      · exact h4 j y hy
end Go.Proofs.Ytjnahdcolacldaa
