import Derived.Test.YtfcmjomnpahllaaDk4
namespace Go.Proofs.Ytfcmjomnpahllaa
open Go Hv
set_option linter.unusedVariables false
set_option linter.unusedSimpArgs false
set_option maxRecDepth 10000
set_option maxHeartbeats 1000000
/-! Files that come, go and take other names. -/
structure Far (f f' : Fl) : Prop where
  p : f.p ≠ f'.p
  born : f.born ≠ f'.born
  name : f.name ≠ f'.name
  v : ∀ b ∈ vblk f.v, b ∉ vblk f'.v
theorem Far.symm {f f' : Fl} (h : Far f f') : Far f' f := ⟨Ne.symm h.p, Ne.symm h.born, Ne.symm h.name, fun b hb hb' => h.v b hb' hb⟩
theorem perm_erase {α : Type} : ∀ {l : List α} {i : Nat} {x : α}, l[i]? = some x → l.Perm (x :: l.eraseIdx i)
  | [], i, x, h => by simp at h
  | y :: l, 0, x, h => by cases h; exact List.Perm.refl _
  | y :: l, i + 1, x, h => by
    have h : l[i]? = some x := h
    exact ((perm_erase h).cons y).trans (List.Perm.swap x y _)
theorem perm_set {α : Type} : ∀ {l : List α} {i : Nat} (x : α), i < l.length → (l.set i x).Perm (x :: l.eraseIdx i)
  | [], i, x, h => by simp at h
  | y :: l, 0, x, h => List.Perm.refl _
  | y :: l, i + 1, x, h => by
    have h : i < l.length := by simpa using h
    exact ((perm_set x h).cons y).trans (List.Perm.swap x y _)
structure Each (H1 H : Heap) (f : Fl) : Prop where
  str : OwnRow H 84 1 (some ⟨f.p, 0, none⟩) 2 2 (scells f)
  sle : Sle 5 H f.v f.bytes
  syn : f.synced ≤ f.bytes.length
  lim : f.bytes.length ≤ 140737488355328
  newp : H1 f.p = none
  newv : ∀ b ∈ vblk f.v, H1 b = none
theorem pw_inj {β : Type} (h : Fl → β) : ∀ {fl : List Fl}, (fl.map h).Nodup ↔ fl.Pairwise fun f f' => h f ≠ h f'
  | fl => List.pairwise_map
theorem DiskP.pw {H1 H : Heap} {g r : Nat} {d : Fd} {fl : List Fl} (D : DiskP H1 H g r d fl) : fl.Pairwise Far := by
  have h1 := (pw_inj Fl.p).1 D.np
  have h2 := (pw_inj Fl.born).1 D.nb
  have h3 := (pw_inj Fl.name).1 D.nn
  have h4 : fl.Pairwise fun f f' => ∀ b ∈ vblk f.v, b ∉ vblk f'.v := by
    rw [List.pairwise_iff_getElem]
    intro i j hi hj hij
    exact D.grp.grp.apart i j fl[i].v fl[j].v (by omega) (by simp [hi]) (by simp [hj])
  exact (((h1.and h2).and h3).and h4).imp fun ⟨⟨⟨a, b⟩, c⟩, d⟩ => ⟨a, b, c, d⟩
theorem DiskP.each {H1 H : Heap} {g r : Nat} {d : Fd} {fl : List Fl} (D : DiskP H1 H g r d fl) : ∀ f ∈ fl, Each H1 H f := fun f hf => by
  obtain ⟨i, hi⟩ := List.getElem?_of_mem hf
  exact ⟨D.str f hf, D.grp.grp.ok i f.v f.bytes (by rw [List.getElem?_map, hi]; rfl) (by rw [List.getElem?_map, hi]; rfl), D.syn f hf, D.lim f hf, D.newp f hf, D.grp.new f.v (List.mem_map_of_mem hf)⟩
theorem DiskP.of {H1 H : Heap} {g r c : Nat} {d : Fd} {fl : List Fl} (obj : OwnRow H 70 1 (some ⟨g, 0, none⟩) 6 6 (dcells r d)) (hm : MapAt H r (fl.map Fl.ent) c) (hb : ∀ f ∈ fl, f.born < c) (each : ∀ f ∈ fl, Each H1 H f) (pw : fl.Pairwise Far) (base : Upd [] H1 H) (hg : H1 g = none) (hr : H1 r = none) : DiskP H1 H g r d fl := by
  have hat : ∀ {i : Nat} {v : Value}, (fl.map Fl.v)[i]? = some v → ∃ f, fl[i]? = some f ∧ f.v = v := fun {i v} h => by
    rw [List.getElem?_map] at h
    cases hf : fl[i]? with
    | none => rw [hf] at h; cases h
    | some f => rw [hf] at h; cases h; exact ⟨f, rfl, rfl⟩
  refine ⟨obj, ⟨c, hm, hb⟩, fun f hf => (each f hf).str, ⟨⟨by simp, fun i v l hv hl => ?_, fun i j v w hij hv hw => ?_⟩, fun v hv => ?_, base⟩, (pw_inj _).2 (pw.imp fun h => h.p), (pw_inj _).2 (pw.imp fun h => h.born), (pw_inj _).2 (pw.imp fun h => h.name), fun f hf => (each f hf).syn, fun f hf => (each f hf).lim, hg, hr, fun f hf => (each f hf).newp⟩
  · obtain ⟨f, hf, rfl⟩ := hat hv
    rw [List.getElem?_map, hf] at hl
    cases hl
    exact (each f (List.mem_of_getElem? hf)).sle
  · obtain ⟨f, hf, rfl⟩ := hat hv
    obtain ⟨f', hf', rfl⟩ := hat hw
    obtain ⟨h1, e1⟩ := List.getElem?_eq_some_iff.1 hf
    obtain ⟨h2, e2⟩ := List.getElem?_eq_some_iff.1 hf'
    have := List.pairwise_iff_getElem.1 pw
    rcases Nat.lt_or_gt_of_ne hij with h | h
    · have := this i j h1 h2 h
      rw [e1, e2] at this; exact this.v
    · have := this j i h2 h1 h
      rw [e1, e2] at this; exact this.symm.v
  · obtain ⟨f, hf, rfl⟩ := List.mem_map.1 hv
    exact (each f hf).newv
theorem Each.upd {H1 H H' : Heap} {S : List Nat} {f : Fl} (h : Each H1 H f) (u : Upd S H H') (hp : f.p ∉ S) (hv : ∀ b ∈ vblk f.v, b ∉ S) : Each H1 H' f :=
  ⟨h.str.upd u fun p hp' hb => by cases hp'; exact hp hb, h.sle.upd u hv, h.syn, h.lim, h.newp, h.newv⟩
/-- Only the map's own block is written: the files' blocks stay. -/
theorem DiskP.offr {H1 H H' : Heap} {g r : Nat} {d : Fd} {fl : List Fl} (D : DiskP H1 H g r d fl) (u : Upd [r] H H') : OwnRow H' 70 1 (some ⟨g, 0, none⟩) 6 6 (dcells r d) ∧ (∀ f ∈ fl, Each H1 H' f) ∧ Upd [] H1 H' := by
  obtain ⟨es, c, hr⟩ := D.mapc
  refine ⟨D.obj.upd u fun p hp hb => ?_, fun f hf => (D.each f hf).upd u (fun hb => ?_) (fun b hv hb => ?_), Upd.drop D.grp.upd u fun b hb => by rw [List.mem_singleton.1 hb]; exact D.newr⟩
  · cases hp
    obtain ⟨_, _, h⟩ := own_live D.obj
    have h2 : g = r := List.mem_singleton.1 hb
    rw [h2, hr] at h; cases h
  · obtain ⟨_, _, h⟩ := own_live (D.str f hf)
    rw [List.mem_singleton.1 hb, hr] at h; cases h
  · obtain ⟨_, _, h⟩ := D.vlive hf hv
    rw [List.mem_singleton.1 hb, hr] at h; cases h
theorem Stp.r {H H' : Heap} {g r : Nat} {fl fl' : List Fl} (u : Upd [r] H H') (hp : ∀ f' ∈ fl', ∃ f ∈ fl, f'.p = f.p ∧ f'.v = f.v) : Stp H H' g r fl fl' := by
  refine ⟨u.mono fun k hk => by rw [List.mem_singleton.1 hk]; exact mem_dblk.2 (.inr (.inl rfl)), fun b hb => .inl ?_⟩
  rcases mem_dblk.1 hb with h | h | ⟨f', hf', h⟩ | ⟨f', hf', h⟩
  · exact mem_dblk.2 (.inl h)
  · exact mem_dblk.2 (.inr (.inl h))
  · obtain ⟨f, hf, e1, e2⟩ := hp f' hf'
    exact mem_dblk.2 (.inr (.inr (.inl ⟨f, hf, by rw [h, e1]⟩)))
  · obtain ⟨f, hf, e1, e2⟩ := hp f' hf'
    exact mem_dblk.2 (.inr (.inr (.inr ⟨f, hf, by rw [← e2]; exact h⟩)))
/-- A file goes. -/
theorem DiskP.del {H1 H H' : Heap} {g r j c : Nat} {d : Fd} {fl : List Fl} (D : DiskP H1 H g r d fl) (hb : ∀ f ∈ fl, f.born < c) (hm : MapAt H' r ((fl.map Fl.ent).eraseIdx j) c) (u : Upd [r] H H') : DiskP H1 H' g r d (fl.eraseIdx j) ∧ Stp H H' g r fl (fl.eraseIdx j) := by
  obtain ⟨o, e, b⟩ := D.offr u
  have hs : ∀ f ∈ fl.eraseIdx j, f ∈ fl := fun f hf => List.mem_of_mem_eraseIdx hf
  exact ⟨DiskP.of o (by rw [map_eraseIdx]; exact hm) (fun f hf => hb f (hs f hf)) (fun f hf => e f (hs f hf)) (D.pw.sublist (List.eraseIdx_sublist _ _)) b D.newg D.newr, Stp.r u fun f hf => ⟨f, hs f hf, rfl, rfl⟩⟩
/-- A file comes. -/
theorem DiskP.add {H1 H H2 H' : Heap} {g r c p : Nat} {d : Fd} {fl : List Fl} {n : ByteArray} (D : DiskP H1 H g r d fl) (hb : ∀ f ∈ fl, f.born < c) (hp : H p = none) (o2 : OwnRow H2 84 1 (some ⟨p, 0, none⟩) 2 2 [.slice none 0 0, .int .i64 0]) (u2 : Upd [] H H2) (hm : MapAt H' r (fl.map Fl.ent ++ [⟨n, .pointer (some ⟨p, 0, none⟩), c⟩]) (c + 1)) (u : Upd [r] H2 H') (hn : ∀ f ∈ fl, f.name ≠ n) :
    DiskP H1 H' g r d (fl ++ [⟨n, p, .slice none 0 0, [], 0, c⟩]) ∧ Stp H H' g r fl (fl ++ [⟨n, p, .slice none 0 0, [], 0, c⟩]) := by
  have D2 := D.upd0 u2
  obtain ⟨o, e, b⟩ := D2.offr u
  obtain ⟨es, cc, hr⟩ := D2.mapc
  have hnp : ∀ b ∈ dblk g r fl, b ≠ p := fun b hb h => D.live b hb (by rw [h]; exact hp)
  refine ⟨DiskP.of o (by rw [List.map_append]; exact hm) (fun f hf => ?_) (fun f hf => ?_) ?_ b D.newg D.newr, ⟨?_, fun b hb => ?_⟩⟩
  · rcases List.mem_append.1 hf with h | h
    · have := hb f h; omega
    · rw [List.mem_singleton.1 h]; exact Nat.lt_succ_self c
  · rcases List.mem_append.1 hf with h | h
    · exact e f h
    · rw [List.mem_singleton.1 h]
      refine ⟨o2.upd u fun p' hp' hb' => ?_, ⟨none, 0, rfl, OwnRow.nil _ _ _⟩, Nat.le_refl _, by show 0 ≤ _; omega, Upd.none (S := []) D.grp.upd (by simp) hp, by simp [vblk]⟩
      cases hp'
      have : p = r := List.mem_singleton.1 hb'
      exact hnp r (mem_dblk.2 (.inr (.inl rfl))) this.symm
  · rw [List.pairwise_append]
    refine ⟨D.pw, by simp, fun f hf f' hf' => ?_⟩
    rw [List.mem_singleton.1 hf']
    exact ⟨hnp _ (mem_dblk.2 (.inr (.inr (.inl ⟨f, hf, rfl⟩)))), by have := hb f hf; show f.born ≠ c; omega, hn f hf, by simp [vblk]⟩
  · exact (u2.mono (by simp)).trans (u.mono fun k hk => by rw [List.mem_singleton.1 hk]; exact mem_dblk.2 (.inr (.inl rfl)))
  · rcases mem_dblk.1 hb with h | h | ⟨f, hf, h⟩ | ⟨f, hf, h⟩
    · exact .inl (mem_dblk.2 (.inl h))
    · exact .inl (mem_dblk.2 (.inr (.inl h)))
    · rcases List.mem_append.1 hf with h2 | h2
      · exact .inl (mem_dblk.2 (.inr (.inr (.inl ⟨f, h2, h⟩))))
      · rw [List.mem_singleton.1 h2] at h; rw [h]; exact .inr hp
    · rcases List.mem_append.1 hf with h2 | h2
      · exact .inl (mem_dblk.2 (.inr (.inr (.inr ⟨f, h2, h⟩))))
      · rw [List.mem_singleton.1 h2] at h; simp [vblk] at h
/-- A file takes another name: behind the others, or in another's place. -/
theorem DiskP.ren {H1 H H2 H' : Heap} {g r c j : Nat} {d : Fd} {fl : List Fl} {f : Fl} {n : ByteArray} (D : DiskP H1 H g r d fl) (hb : ∀ f ∈ fl, f.born < c) (hj : fl[j]? = some f) (u2 : Upd [r] H H2) (u : Upd [r] H2 H') (hm : MapAt H' r ((fl.map Fl.ent).eraseIdx j ++ [⟨n, .pointer (some ⟨f.p, 0, none⟩), c⟩]) (c + 1)) (hn : ∀ f ∈ fl.eraseIdx j, f.name ≠ n) :
    DiskP H1 H' g r d (fl.eraseIdx j ++ [{ f with name := n, born := c }]) ∧ Stp H H' g r fl (fl.eraseIdx j ++ [{ f with name := n, born := c }]) := by
  obtain ⟨o, e, b⟩ := D.offr (u2.trans u)
  have hs : ∀ f ∈ fl.eraseIdx j, f ∈ fl := fun f hf => List.mem_of_mem_eraseIdx hf
  have hf := List.mem_of_getElem? hj
  have pw := (perm_erase hj).pairwise_iff (fun h => Far.symm h) |>.1 D.pw
  rw [List.pairwise_cons] at pw
  refine ⟨DiskP.of o (by rw [List.map_append, map_eraseIdx]; exact hm) (fun f' hf' => ?_) (fun f' hf' => ?_) ?_ b D.newg D.newr, Stp.r (u2.trans u) fun f' hf' => ?_⟩
  · rcases List.mem_append.1 hf' with h | h
    · have := hb f' (hs f' h); omega
    · rw [List.mem_singleton.1 h]; exact Nat.lt_succ_self c
  · rcases List.mem_append.1 hf' with h | h
    · exact e f' (hs f' h)
    · rw [List.mem_singleton.1 h]
      have := e f hf
      exact ⟨this.str, this.sle, this.syn, this.lim, this.newp, this.newv⟩
  · rw [List.pairwise_append]
    refine ⟨D.pw.sublist (List.eraseIdx_sublist _ _), by simp, fun x hx y hy => ?_⟩
    rw [List.mem_singleton.1 hy]
    have h := (pw.1 x hx).symm
    exact ⟨h.p, by have := hb x (hs x hx); show x.born ≠ c; omega, hn x hx, h.v⟩
  · rcases List.mem_append.1 hf' with h | h
    · exact ⟨f', hs f' h, rfl, rfl⟩
    · rw [List.mem_singleton.1 h]; exact ⟨f, hf, rfl, rfl⟩
theorem DiskP.renIn {H1 H H2 H' : Heap} {g r c j k : Nat} {d : Fd} {fl : List Fl} {f q : Fl} {n : ByteArray} (D : DiskP H1 H g r d fl) (hb : ∀ f ∈ fl, f.born < c) (hj : fl[j]? = some f) (hk : (fl.eraseIdx j)[k]? = some q) (hq : q.name = n) (u2 : Upd [r] H H2) (u : Upd [r] H2 H') (hm : MapAt H' r (((fl.map Fl.ent).eraseIdx j).set k ⟨n, .pointer (some ⟨f.p, 0, none⟩), q.born⟩) c) :
    DiskP H1 H' g r d ((fl.eraseIdx j).set k { f with name := n, born := q.born }) ∧ Stp H H' g r fl ((fl.eraseIdx j).set k { f with name := n, born := q.born }) := by
  obtain ⟨o, e, b⟩ := D.offr (u2.trans u)
  have hs : ∀ f ∈ fl.eraseIdx j, f ∈ fl := fun f hf => List.mem_of_mem_eraseIdx hf
  have hf := List.mem_of_getElem? hj
  have hl := (List.getElem?_eq_some_iff.1 hk).1
  have pw := (perm_erase hj).pairwise_iff (fun h => Far.symm h) |>.1 D.pw
  rw [List.pairwise_cons] at pw
  have pw2 := (perm_erase hk).pairwise_iff (fun h => Far.symm h) |>.1 pw.2
  rw [List.pairwise_cons] at pw2
  have hmem : ∀ x ∈ (fl.eraseIdx j).set k { f with name := n, born := q.born }, x = { f with name := n, born := q.born } ∨ x ∈ fl := fun x hx => by
    rcases List.mem_or_eq_of_mem_set hx with h | h
    · exact .inr (hs x h)
    · exact .inl h
  refine ⟨DiskP.of o (by rw [List.map_set, map_eraseIdx]; exact hm) (fun f' hf' => ?_) (fun f' hf' => ?_) ?_ b D.newg D.newr, Stp.r (u2.trans u) fun f' hf' => ?_⟩
  · rcases hmem f' hf' with rfl | h
    · exact hb q (hs q (List.mem_of_getElem? hk))
    · exact hb f' h
  · rcases hmem f' hf' with rfl | h
    · have := e f hf
      exact ⟨this.str, this.sle, this.syn, this.lim, this.newp, this.newv⟩
    · exact e f' h
  · refine ((perm_set _ hl).pairwise_iff (fun h => Far.symm h)).2 ?_
    rw [List.pairwise_cons]
    refine ⟨fun x hx => ?_, pw2.2⟩
    have h1 := pw.1 x (List.mem_of_mem_eraseIdx hx)
    have h2 := pw2.1 x hx
    exact ⟨h1.p, h2.born, by show n ≠ x.name; rw [← hq]; exact h2.name, h1.v⟩
  · rcases hmem f' hf' with rfl | h
    · exact ⟨f, hf, rfl, rfl⟩
    · exact ⟨f', h, rfl, rfl⟩
end Go.Proofs.Ytfcmjomnpahllaa
