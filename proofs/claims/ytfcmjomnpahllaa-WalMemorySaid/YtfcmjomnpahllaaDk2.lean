import Derived.Test.YtfcmjomnpahllaaA1
namespace Go.Proofs.Ytfcmjomnpahllaa
open Go Hv
set_option linter.unusedVariables false
set_option linter.unusedSimpArgs false
set_option maxRecDepth 10000
set_option maxHeartbeats 1000000
/-! A disk: what it is in memory, and what it stands for. -/
structure Fl where
  name : ByteArray
  p : Nat
  v : Value
  bytes : List UInt8
  synced : Nat
  born : Nat
def Fl.ent (f : Fl) : Ent := ⟨f.name, .pointer (some ⟨f.p, 0, none⟩), f.born⟩
structure Fd where
  off : Bool
  armed : Bool
  refuses : Int
  calls : Int
  keep : Int
structure St where
  d : Fd
  fs : ByteArray → Option (List UInt8 × Nat)
  cnt : Nat
def dcells (r : Nat) (d : Fd) : List Value := [.map (some r), .bool d.off, .int .i64 d.refuses, .bool d.armed, .int .i64 d.calls, .int .i64 d.keep]
def scells (f : Fl) : List Value := [f.v, .int .i64 (f.synced : Int)]
structure DiskP (H1 H : Heap) (g r : Nat) (d : Fd) (fl : List Fl) : Prop where
  obj : OwnRow H 70 1 (some ⟨g, 0, none⟩) 6 6 (dcells r d)
  map : ∃ c, MapAt H r (fl.map Fl.ent) c ∧ ∀ f ∈ fl, f.born < c
  str : ∀ f ∈ fl, OwnRow H 84 1 (some ⟨f.p, 0, none⟩) 2 2 (scells f)
  grp : GrpM 5 H1 H (fl.map Fl.v) (fl.map Fl.bytes)
  np : (fl.map Fl.p).Nodup
  nb : (fl.map Fl.born).Nodup
  nn : (fl.map Fl.name).Nodup
  syn : ∀ f ∈ fl, f.synced ≤ f.bytes.length
  lim : ∀ f ∈ fl, f.bytes.length ≤ 140737488355328
  newg : H1 g = none
  newr : H1 r = none
  newp : ∀ f ∈ fl, H1 f.p = none
structure DiskAt (H1 H : Heap) (g r : Nat) (s : St) (fl : List Fl) : Prop where
  phys : DiskP H1 H g r s.d fl
  get : ∀ f ∈ fl, s.fs f.name = some (f.bytes, f.synced)
  all : ∀ k x, s.fs k = some x → ∃ f ∈ fl, f.name = k
  cnt : s.cnt = fl.length
  arm : s.d.armed = true → 0 ≤ s.d.calls
  lo : -9223372036854775808 ≤ s.d.calls
  hi : s.d.calls ≤ 9223372036854775807
  rhi : s.d.refuses ≤ 9223372036854775807
def dblk (g r : Nat) (fl : List Fl) : List Nat := g :: r :: (fl.map Fl.p ++ fl.flatMap fun f => vblk f.v)
theorem mem_dblk {g r b : Nat} {fl : List Fl} : b ∈ dblk g r fl ↔ b = g ∨ b = r ∨ (∃ f ∈ fl, b = f.p) ∨ (∃ f ∈ fl, b ∈ vblk f.v) := by
  unfold dblk
  simp only [List.mem_cons, List.mem_append, List.mem_map, List.mem_flatMap]
  constructor
  · rintro (h | h | ⟨f, hf, rfl⟩ | h)
    · exact .inl h
    · exact .inr (.inl h)
    · exact .inr (.inr (.inl ⟨f, hf, rfl⟩))
    · exact .inr (.inr (.inr h))
  · rintro (h | h | ⟨f, hf, rfl⟩ | h)
    · exact .inl h
    · exact .inr (.inl h)
    · exact .inr (.inr (.inl ⟨f, hf, rfl⟩))
    · exact .inr (.inr (.inr h))
/-- From one state of a disk to the next. -/
structure Stp (H H' : Heap) (g r : Nat) (fl fl' : List Fl) : Prop where
  upd : Upd (dblk g r fl) H H'
  sub : ∀ b ∈ dblk g r fl', b ∈ dblk g r fl ∨ H b = none
theorem Stp.refl (H : Heap) (g r : Nat) (fl : List Fl) : Stp H H g r fl fl := ⟨Upd.refl _ _, fun b h => .inl h⟩
theorem own_live {H : Heap} {e : TypeId} {g n cap size : Nat} {xs : List Value} (h : OwnRow H e size (some ⟨g, 0, none⟩) n cap xs) : ∃ c f, H g = some (.cells c e f) := by
  rcases h.ok with ⟨ha, _⟩ | ⟨g', cur, ha, hg, _⟩
  · cases ha
  · cases ha; exact ⟨_, _, hg⟩
theorem DiskP.mapc {H1 H : Heap} {g r : Nat} {d : Fd} {fl : List Fl} (D : DiskP H1 H g r d fl) : ∃ es c, H r = some (.map es c) := by obtain ⟨c, hm, _⟩ := D.map; exact ⟨_, _, hm⟩
theorem DiskP.vlive {H1 H : Heap} {g r : Nat} {d : Fd} {fl : List Fl} (D : DiskP H1 H g r d fl) {f : Fl} (hf : f ∈ fl) {b : Nat} (hb : b ∈ vblk f.v) : ∃ c z, H b = some (.cells c 5 z) := by
  obtain ⟨i, hi⟩ := List.getElem?_of_mem hf
  exact D.grp.grp.live (i := i) (v := f.v) (by rw [List.getElem?_map, hi]; rfl) hb
theorem DiskP.live {H1 H : Heap} {g r : Nat} {d : Fd} {fl : List Fl} (D : DiskP H1 H g r d fl) : ∀ b ∈ dblk g r fl, H b ≠ none := by
  intro b hb
  rcases mem_dblk.1 hb with rfl | rfl | ⟨f, hf, rfl⟩ | ⟨f, hf, hv⟩
  · exact D.obj.there rfl
  · obtain ⟨es, c, h⟩ := D.mapc; rw [h]; simp
  · exact (D.str f hf).there rfl
  · obtain ⟨c, z, h⟩ := D.vlive hf hv; rw [h]; simp
theorem DiskP.old {H1 H : Heap} {g r : Nat} {d : Fd} {fl : List Fl} (D : DiskP H1 H g r d fl) : ∀ b ∈ dblk g r fl, H1 b = none := by
  intro b hb
  rcases mem_dblk.1 hb with rfl | rfl | ⟨f, hf, rfl⟩ | ⟨f, hf, hv⟩
  · exact D.newg
  · exact D.newr
  · exact D.newp f hf
  · exact D.grp.new f.v (List.mem_map_of_mem hf) b hv
theorem Stp.trans {H H' H'' : Heap} {g r : Nat} {fl fl' fl'' : List Fl} (h : Stp H H' g r fl fl') (k : Stp H' H'' g r fl' fl'') : Stp H H'' g r fl fl'' := by
  refine ⟨upd_join h.upd k.upd h.sub, fun b hb => ?_⟩
  rcases k.sub b hb with h1 | h1
  · exact h.sub b h1
  · refine Classical.byContradiction fun hn => ?_
    rw [not_or] at hn
    rw [h.upd b hn.1 hn.2] at h1; exact hn.2 h1
theorem Stp.back0 {H0 H H' : Heap} {g r : Nat} {fl fl' : List Fl} (h : Stp H H' g r fl fl') (u : Upd [] H0 H) : Stp H0 H' g r fl fl' := by
  refine ⟨(u.mono (by simp)).trans h.upd, fun b hb => ?_⟩
  rcases h.sub b hb with h1 | h1
  · exact .inl h1
  · exact .inr (Upd.none (S := []) u (by simp) h1)
theorem Stp.fwd0 {H H' H2 : Heap} {g r : Nat} {fl fl' : List Fl} (h : Stp H H' g r fl fl') (u : Upd [] H' H2) : Stp H H2 g r fl fl' := ⟨h.upd.trans (u.mono (by simp)), h.sub⟩
/-- Grp, by blocks. -/
theorem grp_upd {e : TypeId} {S : List Nat} {H H' : Heap} {vs : List Value} {ls : List (List UInt8)} (h : Grp e H vs ls) (hu : Upd S H H') (ho : ∀ v ∈ vs, ∀ b ∈ vblk v, b ∉ S) : Grp e H' vs ls :=
  ⟨h.len, fun i v l hv hl => (h.ok i v l hv hl).upd hu (ho v (List.mem_of_getElem? hv)), h.apart⟩
theorem grpM_upd {e : TypeId} {S : List Nat} {H1 H H' : Heap} {vs : List Value} {ls : List (List UInt8)} (h : GrpM e H1 H vs ls) (hu : Upd S H H') (ho : ∀ v ∈ vs, ∀ b ∈ vblk v, b ∉ S) (hn : ∀ b ∈ S, H1 b = none) : GrpM e H1 H' vs ls :=
  ⟨grp_upd h.grp hu ho, h.new, Upd.drop h.upd hu hn⟩
theorem mapAt_upd {S : List Nat} {H H' : Heap} {r c : Nat} {es : List Ent} (h : MapAt H r es c) (hu : Upd S H H') (hr : r ∉ S) : MapAt H' r es c := by
  unfold MapAt at h ⊢
  rw [hu r hr (by rw [h]; simp), h]
theorem DiskP.upd {S : List Nat} {H1 H H' : Heap} {g r : Nat} {d : Fd} {fl : List Fl} (D : DiskP H1 H g r d fl) (u : Upd S H H') (hd : ∀ b ∈ S, b ∉ dblk g r fl) (hn : ∀ b ∈ S, H1 b = none) : DiskP H1 H' g r d fl := by
  have hg : g ∉ S := fun h => hd g h (mem_dblk.2 (.inl rfl))
  have hr : r ∉ S := fun h => hd r h (mem_dblk.2 (.inr (.inl rfl)))
  have hp : ∀ f ∈ fl, f.p ∉ S := fun f hf h => hd f.p h (mem_dblk.2 (.inr (.inr (.inl ⟨f, hf, rfl⟩))))
  have hv : ∀ f ∈ fl, ∀ b ∈ vblk f.v, b ∉ S := fun f hf b hb h => hd b h (mem_dblk.2 (.inr (.inr (.inr ⟨f, hf, hb⟩))))
  refine ⟨D.obj.upd u fun p hp hb => by cases hp; exact hg hb, ?_, fun f hf => (D.str f hf).upd u fun p hp' hb => by cases hp'; exact hp f hf hb, grpM_upd D.grp u (fun v hv' => ?_) hn, D.np, D.nb, D.nn, D.syn, D.lim, D.newg, D.newr, D.newp⟩
  · obtain ⟨c, hm, hb⟩ := D.map; exact ⟨c, mapAt_upd hm u hr, hb⟩
  · obtain ⟨f, hf, rfl⟩ := List.mem_map.1 hv'; exact hv f hf
theorem DiskP.upd0 {H1 H H' : Heap} {g r : Nat} {d : Fd} {fl : List Fl} (D : DiskP H1 H g r d fl) (u : Upd [] H H') : DiskP H1 H' g r d fl := D.upd u (by simp) (by simp)
theorem DiskAt.upd {S : List Nat} {H1 H H' : Heap} {g r : Nat} {s : St} {fl : List Fl} (D : DiskAt H1 H g r s fl) (u : Upd S H H') (hd : ∀ b ∈ S, b ∉ dblk g r fl) (hn : ∀ b ∈ S, H1 b = none) : DiskAt H1 H' g r s fl :=
  ⟨D.phys.upd u hd hn, D.get, D.all, D.cnt, D.arm, D.lo, D.hi, D.rhi⟩
theorem DiskAt.upd0 {H1 H H' : Heap} {g r : Nat} {s : St} {fl : List Fl} (D : DiskAt H1 H g r s fl) (u : Upd [] H H') : DiskAt H1 H' g r s fl := D.upd u (by simp) (by simp)
/-- The struct's own fields change. -/
theorem DiskP.setd {H1 H H' : Heap} {g r : Nat} {d d' : Fd} {fl : List Fl} (D : DiskP H1 H g r d fl) (o : OwnRow H' 70 1 (some ⟨g, 0, none⟩) 6 6 (dcells r d')) (u : Upd [g] H H') : DiskP H1 H' g r d' fl := by
  obtain ⟨cg, zg, hg⟩ := own_live D.obj
  refine ⟨o, ?_, fun f hf => (D.str f hf).upd u fun p hp hb => ?_, grpM_upd D.grp u (fun v hv b hb hbg => ?_) (fun b hb => by rw [List.mem_singleton.1 hb]; exact D.newg), D.np, D.nb, D.nn, D.syn, D.lim, D.newg, D.newr, D.newp⟩
  · obtain ⟨c, hm, hb⟩ := D.map
    refine ⟨c, mapAt_upd hm u fun h => ?_, hb⟩
    rw [List.mem_singleton.1 h] at hm
    unfold MapAt at hm; rw [hg] at hm; cases hm
  · cases hp
    have h1 := List.mem_singleton.1 hb
    obtain ⟨c, z, h2⟩ := own_live (D.str f hf)
    have h1 : f.p = g := h1
    rw [h1, hg] at h2; cases h2
  · obtain ⟨f, hf, rfl⟩ := List.mem_map.1 hv
    obtain ⟨c, z, h2⟩ := D.vlive hf hb
    rw [List.mem_singleton.1 hbg, hg] at h2; cases h2
theorem Stp.g {H H' : Heap} {g r : Nat} {fl : List Fl} (u : Upd [g] H H') : Stp H H' g r fl fl := ⟨u.mono fun k hk => by rw [List.mem_singleton.1 hk]; exact mem_dblk.2 (.inl rfl), fun b h => .inl h⟩
/-- One file changes. -/
theorem DiskP.put {S : List Nat} {H1 H H' : Heap} {g r j : Nat} {d : Fd} {fl : List Fl} {f f' : Fl} (D : DiskP H1 H g r d fl) (hj : fl[j]? = some f) (e1 : f'.name = f.name) (e2 : f'.p = f.p) (e3 : f'.born = f.born) (G : GrpM 5 H1 H' ((fl.set j f').map Fl.v) ((fl.set j f').map Fl.bytes)) (u : Upd S H H') (hS : ∀ b ∈ S, b = f.p ∨ ∃ c z, H b = some (.cells c 5 z)) (o : OwnRow H' 84 1 (some ⟨f.p, 0, none⟩) 2 2 (scells f')) (hs : f'.synced ≤ f'.bytes.length) (hl : f'.bytes.length ≤ 140737488355328) : DiskP H1 H' g r d (fl.set j f') := by
  have hf := List.mem_of_getElem? hj
  have hset : ∀ {β : Type} (h : Fl → β), h f' = h f → (fl.set j f').map h = fl.map h := by
    intro β h he
    rw [List.map_set, he]
    apply List.ext_getElem?
    intro i
    rw [List.getElem?_set]
    split
    · rename_i hji; subst hji
      have := (List.getElem?_eq_some_iff.1 hj).1
      rw [if_pos (by simpa using this), List.getElem?_map, hj]; rfl
    · rfl
  obtain ⟨cp, zp, hp⟩ := own_live (D.str f hf)
  obtain ⟨cg, zg, hg⟩ := own_live D.obj
  have hent : (fl.set j f').map Fl.ent = fl.map Fl.ent := hset Fl.ent (by unfold Fl.ent; rw [e1, e2, e3])
  have hmem : ∀ x ∈ fl.set j f', x = f' ∨ x ∈ fl := fun x hx => by
    rcases List.mem_or_eq_of_mem_set hx with h | h
    · exact .inr h
    · exact .inl h
  refine ⟨D.obj.upd u fun p hp' hb => ?_, ?_, fun x hx => ?_, G, by rw [hset Fl.p e2]; exact D.np, by rw [hset Fl.born e3]; exact D.nb, by rw [hset Fl.name e1]; exact D.nn, fun x hx => ?_, fun x hx => ?_, D.newg, D.newr, fun x hx => ?_⟩
  · cases hp'
    rcases hS _ hb with h | ⟨c, z, h⟩
    · have h : g = f.p := h
      rw [h, hp] at hg; cases hg
    · have h : H g = _ := h
      rw [hg] at h; cases h
  · obtain ⟨c, hm, hb⟩ := D.map
    rw [hent]
    refine ⟨c, mapAt_upd hm u fun hr => ?_, fun x hx => ?_⟩
    · unfold MapAt at hm
      rcases hS _ hr with h | ⟨c, z, h⟩
      · rw [h, hp] at hm; cases hm
      · rw [h] at hm; cases hm
    · rcases hmem x hx with rfl | h
      · rw [e3]; exact hb f hf
      · exact hb x h
  · obtain ⟨i, hi⟩ := List.getElem?_of_mem hx
    rw [List.getElem?_set] at hi
    split at hi
    · split at hi
      · cases hi; rw [e2]; exact o
      · cases hi
    · rename_i hji
      have hxm := List.mem_of_getElem? hi
      have hne : x.p ≠ f.p := fun he => hji (by
        have h1 := (List.getElem?_eq_some_iff.1 hj).1
        exact (List.getElem?_inj (i := j) (j := i) (by simpa using h1) D.np).1 (by rw [List.getElem?_map, List.getElem?_map, hi, hj]; show some f.p = some x.p; rw [he]))
      obtain ⟨c1, z1, h1⟩ := own_live (D.str x hxm)
      refine (D.str x hxm).upd u fun p hp' hb => ?_
      cases hp'
      rcases hS _ hb with h | ⟨c, z, h⟩
      · exact hne h
      · have h : H x.p = _ := h
        rw [h1] at h; cases h
  · rcases hmem x hx with rfl | h
    · exact hs
    · exact D.syn x h
  · rcases hmem x hx with rfl | h
    · exact hl
    · exact D.lim x h
  · rcases hmem x hx with rfl | h
    · rw [e2]; exact D.newp f hf
    · exact D.newp x h
end Go.Proofs.Ytfcmjomnpahllaa
