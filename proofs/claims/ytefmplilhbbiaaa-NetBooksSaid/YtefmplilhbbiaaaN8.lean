import Derived.Test.YtefmplilhbbiaaaN7
namespace Go.Proofs.Ytefmplilhbbiaaa
open Go Hv
set_option linter.unusedVariables false
set_option maxRecDepth 10000
set_option maxHeartbeats 1000000
theorem own_flat {H : Heap} {e : TypeId} {size : Nat} {a : Option Addr} {n cap : Nat} {xs : List Value} (h : OwnRow H e size a n cap xs) : OwnRow H e 1 a (n * size) (cap * size) xs := by
  refine ⟨by rw [h.len, Nat.mul_one], ?_⟩
  rcases h.ok with ⟨ha, hn, hc⟩ | ⟨g, cur, ha, hg, h1, h2, h3⟩
  · exact .inl ⟨ha, by rw [hn, Nat.zero_mul], by rw [hc, Nat.zero_mul]⟩
  · exact .inr ⟨g, cur, ha, hg, by rw [Nat.mul_one]; exact h1, Nat.mul_le_mul_right _ h2, h3⟩
theorem own_unflat {H : Heap} {e : TypeId} {size : Nat} {a : Option Addr} {n cap : Nat} {xs : List Value} (hs : 0 < size) (h : OwnRow H e 1 a (n * size) (cap * size) xs) : OwnRow H e size a n cap xs := by
  refine ⟨by rw [h.len, Nat.mul_one], ?_⟩
  rcases h.ok with ⟨ha, hn, hc⟩ | ⟨g, cur, ha, hg, h1, h2, h3⟩
  · refine .inl ⟨ha, ?_, ?_⟩
    · rcases Nat.mul_eq_zero.1 hn with h | h <;> omega
    · rcases Nat.mul_eq_zero.1 hc with h | h <;> omega
  · exact .inr ⟨g, cur, ha, hg, by rw [Nat.mul_one] at h1; exact h1, Nat.le_of_mul_le_mul_right h2 hs, h3⟩
theorem frow_set : ∀ {l : List Fr} {i k : Nat} {f f' : Fr} {v : Value}, l[i]? = some f → k < 4 → (fcells f).set k v = fcells f' → (frow l).set (i * 4 + k) v = frow (l.set i f')
  | [], i, k, f, f', v, h, _, _ => by simp at h
  | g :: l, 0, k, f, f', v, h, hk, hv => by
    simp at h; subst h
    show (fcells g ++ frow l).set (0 * 4 + k) v = fcells f' ++ frow l
    rw [Nat.zero_mul, Nat.zero_add, List.set_append_left _ _ (by show k < 4; exact hk), hv]
  | g :: l, i + 1, k, f, f', v, h, hk, hv => by
    have e : (i + 1) * 4 + k = 4 + (i * 4 + k) := by omega
    show (fcells g ++ frow l).set ((i + 1) * 4 + k) v = fcells g ++ frow (l.set i f')
    rw [e, List.set_append_right _ _ (by show 4 ≤ _; omega)]
    show fcells g ++ (frow l).set (4 + (i * 4 + k) - 4) v = _
    rw [Nat.add_sub_cancel_left, frow_set (by simpa using h) hk hv]
theorem store_fr {H : Heap} {F : TypeId} {gx n cap i k j : Nat} {l : List Fr} {f f' : Fr} {v : Value} {K : Heap → Prop} (r : OwnRow H F 4 (some ⟨gx, 0, none⟩) n cap (frow l)) (hf : l[i]? = some f) (hk4 : k < 4) (hv : (fcells f).set k v = fcells f') (hp : Value.plain v = true) (hj : j = i * 4 + k)
    (hk : ∀ H', OwnRow H' F 4 (some ⟨gx, 0, none⟩) n cap (frow (l.set i f')) → Upd [gx] H H' → K H') : HStore H ⟨gx, j, none⟩ v K := by
  have hl := r.len
  rw [frow_length] at hl
  have hi := (List.getElem?_eq_some_iff.1 hf).1
  refine store_row (own_flat r) hp (i := i * 4 + k) (by omega) hj fun H' r' u => hk H' ?_ u
  rw [frow_set hf hk4 hv] at r'
  exact own_unflat (by decide) r'
theorem fr_get {H : Heap} {F : TypeId} {gx n cap i k : Nat} {l : List Fr} {f : Fr} {v : Value} (r : OwnRow H F 4 (some ⟨gx, 0, none⟩) n cap (frow l)) (hf : l[i]? = some f) (hv : (fcells f)[k]? = some v) : H.cell? ⟨gx, 0 + i * 4 + k, none⟩ = some v := by
  have := r.rows.get (frow_get hf hv)
  rw [← Nat.add_assoc] at this
  exact this
theorem grp_join2 {e : TypeId} {H : Heap} {vs vs' : List Value} {ls ls' : List (List UInt8)} (h : Grp e H vs ls) (h' : Grp e H vs' ls') (hx : ∀ v ∈ vs, ∀ w ∈ vs', ∀ b ∈ vblk v, b ∉ vblk w) : Grp e H (vs ++ vs') (ls ++ ls') := by
  refine ⟨by rw [List.length_append, List.length_append, h.len, h'.len], fun i v l hv hl => ?_, fun i j v w hij hv hw => ?_⟩
  · by_cases hi : i < vs.length
    · rw [List.getElem?_append_left hi] at hv
      rw [List.getElem?_append_left (by rw [← h.len]; exact hi)] at hl
      exact h.ok i v l hv hl
    · rw [List.getElem?_append_right (by omega)] at hv
      rw [List.getElem?_append_right (by rw [← h.len]; omega), ← h.len] at hl
      exact h'.ok _ v l hv hl
  · by_cases hi : i < vs.length
    · rw [List.getElem?_append_left hi] at hv
      by_cases hj : j < vs.length
      · rw [List.getElem?_append_left hj] at hw
        exact h.apart i j v w hij hv hw
      · rw [List.getElem?_append_right (by omega)] at hw
        exact hx v (List.mem_of_getElem? hv) w (List.mem_of_getElem? hw)
    · rw [List.getElem?_append_right (by omega)] at hv
      by_cases hj : j < vs.length
      · rw [List.getElem?_append_left hj] at hw
        intro b hb hb'
        exact hx w (List.mem_of_getElem? hw) v (List.mem_of_getElem? hv) b hb' hb
      · rw [List.getElem?_append_right (by omega)] at hw
        exact h'.apart _ _ v w (by omega) hv hw
theorem grpM_grow {e : TypeId} {H1 H H' : Heap} {vs : List Value} {v : Value} {ls : List (List UInt8)} {l : List UInt8} {S : List Nat} (G : GrpM e H1 H vs ls) (hu : Upd S H H') (hS : ∀ b ∈ S, ∀ c f, H b ≠ some (.cells c e f)) (hn : ∀ b ∈ S, H1 b = none) (s : Sle e H' v l) (hv : ∀ b ∈ vblk v, H b = none) : GrpM e H1 H' (vs ++ [v]) (ls ++ [l]) := by
  have G' := G.step hu hS hn
  refine ⟨grp_join2 G'.grp (Grp.one s) fun x hx w hw b hb hb' => ?_, fun w hw b hb => ?_, G'.upd⟩
  · rw [List.mem_singleton.1 hw] at hb'
    obtain ⟨i, hi⟩ := List.getElem?_of_mem hx
    obtain ⟨c, f, hc⟩ := G.grp.live hi hb
    rw [hv b hb'] at hc; cases hc
  · rcases List.mem_append.1 hw with h | h
    · exact G.new w h b hb
    · rw [List.mem_singleton.1 h] at hb
      exact Upd.none (S := []) G.upd (by simp) (hv b hb)
/-- A group of two parts. -/
theorem grpM_split {e : TypeId} {H1 H : Heap} {vs vs' : List Value} {ls ls' : List (List UInt8)} (G : GrpM e H1 H (vs ++ vs') (ls ++ ls')) (hl : vs.length = ls.length) : GrpM e H1 H vs ls ∧ GrpM e H1 H vs' ls' ∧ ∀ v ∈ vs', ∀ b ∈ vblk v, b ∉ vall vs := by
  have hlen := G.grp.len
  rw [List.length_append, List.length_append] at hlen
  have hgl : ∀ {i : Nat} {v : Value}, vs[i]? = some v → (vs ++ vs')[i]? = some v := fun h => by rw [List.getElem?_append_left (List.getElem?_eq_some_iff.1 h).1]; exact h
  have hgr : ∀ {i : Nat} {v : Value}, vs'[i]? = some v → (vs ++ vs')[vs.length + i]? = some v := fun h => by rw [List.getElem?_append_right (by omega), Nat.add_sub_cancel_left]; exact h
  refine ⟨⟨⟨hl, fun i v l hv hl' => ?_, fun i j v w hij hv hw => ?_⟩, fun v hv => G.new v (List.mem_append_left _ hv), G.upd⟩, ⟨⟨by omega, fun i v l hv hl' => ?_, fun i j v w hij hv hw => ?_⟩, fun v hv => G.new v (List.mem_append_right _ hv), G.upd⟩, fun v hv b hb hb' => ?_⟩
  · exact G.grp.ok i v l (hgl hv) (by rw [List.getElem?_append_left (List.getElem?_eq_some_iff.1 hl').1]; exact hl')
  · exact G.grp.apart i j v w hij (hgl hv) (hgl hw)
  · exact G.grp.ok (vs.length + i) v l (hgr hv) (by rw [hl, List.getElem?_append_right (by omega), Nat.add_sub_cancel_left]; exact hl')
  · exact G.grp.apart (vs.length + i) (vs.length + j) v w (by omega) (hgr hv) (hgr hw)
  · obtain ⟨w, hw, hbw⟩ := List.mem_flatMap.1 hb'
    obtain ⟨i, hi⟩ := List.getElem?_of_mem hv
    obtain ⟨j, hj⟩ := List.getElem?_of_mem hw
    have := (List.getElem?_eq_some_iff.1 hj).1
    exact G.grp.apart (vs.length + i) j v w (by omega) (hgr hi) (hgl hj) b hb hbw
theorem grpM_laid {T F : TypeId} {H1 H H' : Heap} {g : Nat} {P C L : Int} {a : Option Addr} {n cap : Nat} {fs : List Fr} {vs : List Value} {ls : List (List UInt8)} {v : Value} {l : List UInt8} (G : GrpM 5 H1 H vs ls) (N : NetAt T F H1 H g P C L a n cap fs) (hT : T ≠ 5) (hF : F ≠ 5) (u : Upd (nblk g a) H H') (s : Sle 5 H' v l) (w : ∀ b ∈ vblk v, H b = none) : GrpM 5 H1 H' (vs ++ [v]) (ls ++ [l]) :=
  grpM_grow G u (N.notE hT hF) N.old s w
theorem grpM_net {T F : TypeId} {H1 H H' : Heap} {g : Nat} {P C L : Int} {a : Option Addr} {n cap : Nat} {fs : List Fr} {vs : List Value} {ls : List (List UInt8)} (G : GrpM 5 H1 H vs ls) (N : NetAt T F H1 H g P C L a n cap fs) (hT : T ≠ 5) (hF : F ≠ 5) (u : Upd (nblk g a) H H') : GrpM 5 H1 H' vs ls :=
  G.step u (N.notE hT hF) N.old
theorem grpM_all {H1 H : Heap} {vs : List Value} {ls : List (List UInt8)} (G : GrpM 5 H1 H vs ls) : All2 (Sle 5 H) vs ls := by
  have : ∀ (vs : List Value) (ls : List (List UInt8)), vs.length = ls.length → (∀ (i : Nat) v l, vs[i]? = some v → ls[i]? = some l → Sle 5 H v l) → All2 (Sle 5 H) vs ls := by
    intro vs
    induction vs with
    | nil => intro ls hl _; cases ls with
      | nil => trivial
      | cons y ys => cases hl
    | cons x xs ih => intro ls hl h; cases ls with
      | nil => cases hl
      | cons y ys => exact ⟨h 0 x y rfl rfl, ih ys (by simpa using hl) fun i v l hv hl => h (i + 1) v l (by simpa using hv) (by simpa using hl)⟩
  exact this vs ls G.grp.len G.grp.ok
end Go.Proofs.Ytefmplilhbbiaaa
