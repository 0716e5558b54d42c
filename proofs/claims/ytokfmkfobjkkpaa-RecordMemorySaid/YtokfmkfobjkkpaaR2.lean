import Derived.Test.YtokfmkfobjkkpaaR1
namespace Go.Proofs.Ytokfmkfobjkkpaa
open Go Hv
set_option linter.unusedVariables false
set_option linter.unusedSimpArgs false
set_option maxRecDepth 10000
set_option maxHeartbeats 4000000
/-! RecordMemory: what stands beside the lists -/
theorem RecsNew.join {H0 H1 H : Heap} {qs qs' : List PRec} (h : RecsNew H0 H1 qs) (h0 : Upd [] H0 H1) (u : Upd [] H1 H) (h' : RecsNew H1 H qs') : RecsNew H0 H (qs ++ qs') := by
  have h1 : RecsNew H0 H qs := h.upd u fun q hq b hb => by simp
  have lv : ∀ q ∈ qs, ∀ b ∈ q.bl, H1 b ≠ none := fun q hq b hb e => by
    rcases (h.each q hq).live b hb with ⟨_, _, e1⟩ | ⟨_, _, e1⟩ <;> (rw [e] at e1; cases e1)
  refine ⟨fun q hq => ?_, fun i j q q' hij hi hj b hb hb' => ?_⟩
  · rcases List.mem_append.1 hq with hq | hq
    · exact h1.each q hq
    · have n := h'.each q hq
      exact ⟨n.p, n.k, fun p hp => Upd.none (S := []) h0 (by simp) (n.pn p hp), fun p hp => Upd.none (S := []) h0 (by simp) (n.kn p hp), n.np, n.nk⟩
  · rw [List.getElem?_append] at hi hj
    split at hi
    · split at hj
      · exact h.apart i j q q' hij hi hj b hb hb'
      · exact lv q (List.mem_of_getElem? hi) b hb ((h'.each q' (List.mem_of_getElem? hj)).away b hb')
    · split at hj
      · exact lv q' (List.mem_of_getElem? hj) b hb' ((h'.each q (List.mem_of_getElem? hi)).away b hb)
      · exact h'.apart _ _ q q' (by omega) hi hj b hb hb'
theorem scan_two {r s : Rec} (hr : Mr r) (hs : Mr s) : scanR (frameR (pay r) ++ frameR (pay s)) = ([r, s], (frameR (pay r) ++ frameR (pay s)).length) := by
  have p1 := hr.parsed (frameR (pay s))
  have p2 := hs.parsed []
  rw [List.append_nil] at p2
  have e1 : (frameR (pay r) ++ frameR (pay s)).drop (8 + (pay r).length) = frameR (pay s) := by rw [← frame_len, List.drop_left]
  have e2 : (frameR (pay s)).drop (8 + (pay s).length) = [] := by rw [← frame_len]; exact List.drop_length
  rw [scan_yes (by rw [p1]), p1]
  simp only [e1]
  rw [scan_yes (by rw [p2]), p2]
  simp only [e2]
  rw [scan_no (by rw [parse_nil]; decide)]
  simp only [List.length_append, frame_len]
  congr 1
/-- What stands beside: four rows of bytes, six records. -/
structure St (H1 : Heap) (vs : List Value) (ls : List (List UInt8)) (q0 q1 q2 q3 q4 q5 : PRec) (al am : Option Addr) (cl cm b4 b5 : Nat) (H : Heap) : Prop where
  g : GrpM 5 H1 H vs ls
  rs : RecsNew H1 H [q0, q1, q2, q3, q4, q5]
  l : OwnRow H 27 4 al 2 cl (recsV [q0, q1])
  m : OwnRow H 27 4 am 2 cm (recsV [q2, q3])
  p : OwnRow H 27 1 (some ⟨b4, 0, none⟩) 4 4 q4.cells
  q : OwnRow H 27 1 (some ⟨b5, 0, none⟩) 4 4 q5.cells
theorem St.upd5 {H1 : Heap} {vs : List Value} {ls ls' : List (List UInt8)} {q0 q1 q2 q3 q4 q5 : PRec} {al am : Option Addr} {cl cm b4 b5 : Nat} {H H' : Heap} {T : List Nat} (s : St H1 vs ls q0 q1 q2 q3 q4 q5 al am cl cm b4 b5 H)
    (u : Upd T H H') (hT : ∀ b ∈ T, ∃ c f, H b = some (.cells c 5 f)) (g : GrpM 5 H1 H' vs ls') : St H1 vs ls' q0 q1 q2 q3 q4 q5 al am cl cm b4 b5 H' := by
  have off : ∀ {e size n c : Nat} {a : Option Addr} {xs : List Value}, OwnRow H e size a n c xs → e ≠ 5 → Off T a := fun o he p hp hb => by
    obtain ⟨c, f, e1⟩ := hT _ hb
    exact o.notT he p.block (by rw [hp]; simp [blk]) _ _ e1
  refine ⟨g, s.rs.upd u fun q hq b hb hm => ?_, s.l.upd u (off s.l (by decide)), s.m.upd u (off s.m (by decide)), s.p.upd u (off s.p (by decide)), s.q.upd u (off s.q (by decide))⟩
  obtain ⟨c, f, e1⟩ := hT _ hm
  rcases (s.rs.each q hq).live b hb with ⟨c', f', e2⟩ | ⟨c', f', e2⟩ <;> (rw [e1] at e2; cases e2)
theorem St.upd0 {H1 : Heap} {vs : List Value} {ls : List (List UInt8)} {q0 q1 q2 q3 q4 q5 : PRec} {al am : Option Addr} {cl cm b4 b5 : Nat} {H H' : Heap} (s : St H1 vs ls q0 q1 q2 q3 q4 q5 al am cl cm b4 b5 H)
    (u : Upd [] H H') : St H1 vs ls q0 q1 q2 q3 q4 q5 al am cl cm b4 b5 H' := s.upd5 u (fun b hb => by simp at hb) (s.g.step0 u)
theorem St.store {H1 : Heap} {vs : List Value} {ls : List (List UInt8)} {q0 q1 q2 q3 q4 q5 : PRec} {al am : Option Addr} {cl cm b4 b5 : Nat} {H : Heap} {i b n c k j : Nat} {l : List UInt8} {x : UInt8} {K : Heap → Prop}
    (s : St H1 vs ls q0 q1 q2 q3 q4 q5 al am cl cm b4 b5 H) (hi : vs[i]? = some (.slice (some ⟨b, 0, none⟩) n c)) (hl : ls[i]? = some l) (hk : k < l.length) (hj : j = k)
    (hK : ∀ H', St H1 vs (ls.set i (l.set k x)) q0 q1 q2 q3 q4 q5 al am cl cm b4 b5 H' → K H') : HStore H ⟨b, j, none⟩ (u8 x) K :=
  s.g.store hi hl hk hj fun H' g u => hK H' (s.upd5 u (fun b' hb' => by
    rw [List.mem_singleton.1 hb']
    exact s.g.grp.live hi (by rw [vblk_slice]; simp [blk])) g)
theorem St.app {H1 : Heap} {vs : List Value} {ls : List (List UInt8)} {q0 q1 q2 q3 q4 q5 : PRec} {al am : Option Addr} {cl cm b4 b5 : Nat} {H : Heap} {i n c m d : Nat} {a b : Option Addr} {l ys : List UInt8} {K : Value → Heap → Prop}
    (s : St H1 vs ls q0 q1 q2 q3 q4 q5 al am cl cm b4 b5 H) (hi : vs[i]? = some (.slice a n c)) (hl : ls[i]? = some l) (hy : RowAt H b (u8s ys)) (hm : ys.length = m) (hlim : n + m ≤ 140737488355328)
    (hk : ∀ a' c' H', St H1 vs ls q0 q1 q2 q3 q4 q5 al am cl cm b4 b5 H' → RowAt H' a' (u8s (l ++ ys)) → Upd (blk a) H H' → (∀ j v, j ≠ i → vs[j]? = some v → Off (vblk v) a') → K (.slice a' (n + m) c') H') :
    HSem Try.prog (Builtin.append_ #[31, 31] 31 [.slice a n c, .slice b m d].toArray) H K := by
  obtain ⟨hn, o⟩ := s.g.grp.own hi hl
  refine append_rows' (ie := Try.t5) (z := .int .u8 0) (ys := u8s ys) (xs := u8s l) Try.underlying31 rfl rfl rfl (by decide) o hy ?_ (plain_u8s _) ?_ ?_ fun a' c' H' o' u f ⟨h1, h2⟩ => ?_
  · rw [u8s_length, hm]; exact (Nat.mul_one _).symm
  · show (n + m) * 1 ≤ _; omega
  · omega
  have live : ∀ b ∈ blk a, ∃ c f, H b = some (.cells c 5 f) := fun b hb => s.g.grp.live hi (by rw [vblk_slice]; exact hb)
  have ho := o'.rows
  rw [← u8s_append] at ho
  by_cases hc : n + m ≤ c
  · obtain ⟨rfl, rfl⟩ := h1 hc
    have op : OwnRow H' 5 1 a' l.length c' (u8s l) := by rw [hn]; exact o'.pre (by rw [u8s_length, hn]; exact (Nat.mul_one _).symm)
    have g : GrpM 5 H1 H' vs ls := by
      have := s.g.change (v' := .slice a' n c') (l' := l) hi (by rw [vblk_slice]; exact u) ⟨a', c', by rw [hn], op⟩ (fun b hb => .inl hb)
      rwa [set_self hi, set_self hl] at this
    refine hk a' c' H' (s.upd5 u live g) ho u fun j v hj hv => off_notin fun b hb => ?_
    exact s.g.grp.apart i j _ _ hj.symm hi hv b (by rw [vblk_slice]; exact hb)
  · obtain ⟨v0, nw⟩ := h2 hc
    refine hk a' c' H' (s.upd0 v0) ho u fun j v hj hv => off_notin fun b hb hm => ?_
    obtain ⟨p, hp, rfl⟩ := blk_of hb
    obtain ⟨c, f, e1⟩ := s.g.grp.live hv hm
    rw [nw p hp] at e1; cases e1
end Go.Proofs.Ytokfmkfobjkkpaa
