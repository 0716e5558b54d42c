import Derived.Test.YtaobgofbhommcaaB22
import Derived.Test.YtaobgofbhommcaaB20
namespace Go.Proofs.Ytaobgofbhommcaa
open Go Hv
set_option linter.unusedVariables false
set_option linter.unusedSimpArgs false
set_option maxRecDepth 10000
set_option maxHeartbeats 1000000
/-! BloomJust: what lies in memory -/
structure JuR where
  ga : Nat
  ba : Nat
  bo : Nat
  co : Nat
  bl : Nat
  al : Option Addr
  cl : Nat
  fs : List (Nat × Nat)
  Ls : List (List (List UInt8))
  Sa : List UInt8
  So : List UInt8
structure JuB (H0 : Heap) (n h : Nat) (sls : List Value) (H : Heap) (r : JuR) : Prop where
  A : Fil H r.ga r.ba n h r.Sa
  on : OwnRow H 4 1 (some ⟨r.bo, 0, none⟩) n r.co (boolsOf n r.So)
  ls : OwnRow H 54 1 (some ⟨r.bl, 0, none⟩) 3 3 sls
  l : OwnRow H 24 1 r.al r.fs.length r.cl (r.fs.map fun gb => ptr gb.1)
  len : r.fs.length = r.Ls.length
  fs : ∀ (j : Nat) g b L, r.fs[j]? = some (g, b) → r.Ls[j]? = some L → Fil H g b n h (addTexts n h (zerosL n) L)
  apart : ∀ gb ∈ r.fs, gb.2 ≠ r.ba
  base : Upd [] H0 H
  na : H0 r.ba = none
  no : H0 r.bo = none
  nl : ∀ p, r.al = some p → H0 p.block = none
  oo : FOk n h r.So
section
variable {H0 H H' : Heap} {n h : Nat} {sls : List Value} {r : JuR}
theorem JuB.upd0 (d : JuB H0 n h sls H r) (u : Upd [] H H') : JuB H0 n h sls H' r :=
  ⟨d.A.upd0 u, d.on.upd u (Off.nil _), d.ls.upd u (Off.nil _), d.l.upd u (Off.nil _), d.len, fun j g b L h1 h2 => (d.fs j g b L h1 h2).upd0 u, d.apart, d.base.trans u, d.na, d.no, d.nl, d.oo⟩
theorem JuB.fil (d : JuB H0 n h sls H r) {gb : Nat × Nat} (hm : gb ∈ r.fs) : ∃ S, Fil H gb.1 gb.2 n h S := by
  obtain ⟨j, hj⟩ := List.getElem?_of_mem hm
  have hl := (List.getElem?_eq_some_iff.1 hj).1
  obtain ⟨L, hL⟩ : ∃ L, r.Ls[j]? = some L := ⟨r.Ls[j]'(by rw [← d.len]; exact hl), by simp⟩
  exact ⟨_, d.fs j gb.1 gb.2 L hj hL⟩
/-- A write elsewhere. -/
theorem JuB.updx {T : List Nat} (d : JuB H0 n h sls H r) (u : Upd T H H') (hx : ∀ x ∈ T, x ≠ r.ga ∧ x ≠ r.ba ∧ x ≠ r.bo ∧ x ≠ r.bl ∧ (∀ p, r.al = some p → x ≠ p.block) ∧ ∀ gb ∈ r.fs, x ≠ gb.1 ∧ x ≠ gb.2) (hn : ∀ x ∈ T, H0 x = none) : JuB H0 n h sls H' r :=
  ⟨d.A.upd u (fun hm => (hx _ hm).1 rfl) (fun hm => (hx _ hm).2.1 rfl), d.on.upd u (fun p hp hm => by cases hp; exact (hx _ hm).2.2.1 rfl), d.ls.upd u (fun p hp hm => by cases hp; exact (hx _ hm).2.2.2.1 rfl), d.l.upd u (fun p hp hm => (hx _ hm).2.2.2.2.1 p hp rfl), d.len,
    fun j g b L h1 h2 => (d.fs j g b L h1 h2).upd u (fun hm => ((hx _ hm).2.2.2.2.2 _ (List.mem_of_getElem? h1)).1 rfl) (fun hm => ((hx _ hm).2.2.2.2.2 _ (List.mem_of_getElem? h1)).2 rfl), d.apart, Upd.drop d.base u hn, d.na, d.no, d.nl, d.oo⟩
theorem JuB.new (d : JuB H0 n h sls H r) {x : Nat} (hx : H x = none) : x ≠ r.ga ∧ x ≠ r.ba ∧ x ≠ r.bo ∧ x ≠ r.bl ∧ (∀ p, r.al = some p → x ≠ p.block) ∧ ∀ gb ∈ r.fs, x ≠ gb.1 ∧ x ≠ gb.2 := by
  have key : ∀ {y : Nat}, (∃ c e z, H y = some (.cells c e z)) → x ≠ y := fun hy e => by
    obtain ⟨c, e', z, hh⟩ := hy
    rw [← e, hx] at hh; cases hh
  refine ⟨key ?_, key ?_, key ?_, key ?_, fun p hp e => ?_, fun gb hm => ⟨key ?_, key ?_⟩⟩
  · obtain ⟨c, z, hh⟩ := d.A.liveG; exact ⟨c, _, z, hh⟩
  · obtain ⟨c, z, hh⟩ := d.A.liveB; exact ⟨c, _, z, hh⟩
  · obtain ⟨c, z, hh⟩ := own_cells d.on; exact ⟨c, _, z, hh⟩
  · obtain ⟨c, z, hh⟩ := own_cells d.ls; exact ⟨c, _, z, hh⟩
  · exact d.l.there hp (by rw [← e]; exact hx)
  · obtain ⟨S, f⟩ := d.fil hm
    obtain ⟨c, z, hh⟩ := f.liveG; exact ⟨c, _, z, hh⟩
  · obtain ⟨S, f⟩ := d.fil hm
    obtain ⟨c, z, hh⟩ := f.liveB; exact ⟨c, _, z, hh⟩
theorem own_live? {H : Heap} {e : TypeId} {size n cap : Nat} {a : Option Addr} {xs : List Value} (h : OwnRow H e size a n cap xs) {p : Addr} (hp : a = some p) : ∃ c z, H p.block = some (.cells c e z) := by
  rcases h.ok with ⟨ha, _⟩ | ⟨g', cur, ha, hg, _⟩
  · rw [ha] at hp; cases hp
  · rw [ha] at hp; cases hp; exact ⟨_, _, hg⟩
/-- The truths change. -/
theorem JuB.setOn {S : List UInt8} (d : JuB H0 n h sls H r) (o : OwnRow H' 4 1 (some ⟨r.bo, 0, none⟩) n r.co (boolsOf n S)) (u : Upd [r.bo] H H') (f : FOk n h S) : JuB H0 n h sls H' { r with So := S } := by
  obtain ⟨c, z, hb⟩ := own_cells d.on
  have one : ∀ {y : Nat} {c' : Array Value} {e' : TypeId} {z' : Nat × Nat}, H y = some (.cells c' e' z') → e' ≠ 4 → y ∉ [r.bo] := fun hy hne hm => ne_block hy hb hne (List.mem_singleton.1 hm)
  obtain ⟨c1, z1, h1⟩ := d.A.liveG
  obtain ⟨c2, z2, h2⟩ := d.A.liveB
  obtain ⟨c3, z3, h3⟩ := own_cells d.ls
  refine ⟨d.A.upd u (one h1 (by decide)) (one h2 (by decide)), o, d.ls.upd u (fun p hp => by cases hp; exact one h3 (by decide)), d.l.upd u (fun p hp => ?_), d.len, fun j g b L k1 k2 => ?_, d.apart, Upd.drop d.base u (fun k hk => by rw [List.mem_singleton.1 hk]; exact d.no), d.na, d.no, d.nl, f⟩
  · obtain ⟨c4, z4, h4⟩ := own_live? d.l hp
    exact one h4 (by decide)
  · have f := d.fs j g b L k1 k2
    obtain ⟨c5, z5, h5⟩ := f.liveG
    obtain ⟨c6, z6, h6⟩ := f.liveB
    exact f.upd u (one h5 (by decide)) (one h6 (by decide))
/-- The great filter changes. -/
theorem JuB.setA {S : List UInt8} (d : JuB H0 n h sls H r) (F : Fil H' r.ga r.ba n h S) (u : Upd [r.ba] H H') : JuB H0 n h sls H' { r with Sa := S } := by
  obtain ⟨c, z, hb⟩ := d.A.liveB
  have one : ∀ {y : Nat} {c' : Array Value} {e' : TypeId} {z' : Nat × Nat}, H y = some (.cells c' e' z') → e' ≠ 5 → y ∉ [r.ba] := fun hy hne hm => ne_block hy hb hne (List.mem_singleton.1 hm)
  obtain ⟨c2, z2, h2⟩ := own_cells d.on
  obtain ⟨c3, z3, h3⟩ := own_cells d.ls
  refine ⟨F, d.on.upd u (fun p hp => by cases hp; exact one h2 (by decide)), d.ls.upd u (fun p hp => by cases hp; exact one h3 (by decide)), d.l.upd u (fun p hp => ?_), d.len, fun j g b L k1 k2 => ?_, d.apart, Upd.drop d.base u (fun k hk => by rw [List.mem_singleton.1 hk]; exact d.na), d.na, d.no, d.nl, d.oo⟩
  · obtain ⟨c4, z4, h4⟩ := own_live? d.l hp
    exact one h4 (by decide)
  · have f := d.fs j g b L k1 k2
    obtain ⟨c5, z5, h5⟩ := f.liveG
    exact f.upd u (one h5 (by decide)) (fun hm => d.apart _ (List.mem_of_getElem? k1) (List.mem_singleton.1 hm))
/-- One more filter in the list. -/
theorem JuB.push {g b cl' : Nat} {al' : Option Addr} {L : List (List UInt8)} (d : JuB H0 n h sls H r) (F : Fil H g b n h (addTexts n h (zerosL n) L)) (hb : b ≠ r.ba) (o : OwnRow H' 24 1 al' (r.fs.length + 1) cl' ((r.fs.map fun gb => ptr gb.1) ++ [ptr g])) (u : Upd (blk r.al) H H') (hnew : ∀ p, al' = some p → H0 p.block = none) : JuB H0 n h sls H' { r with al := al', cl := cl', fs := r.fs ++ [(g, b)], Ls := r.Ls ++ [L] } := by
  have one : ∀ {y : Nat} {c' : Array Value} {e' : TypeId} {z' : Nat × Nat}, H y = some (.cells c' e' z') → e' ≠ 24 → y ∉ blk r.al := fun hy hne hm => by
    obtain ⟨p, hp, he⟩ := blk_of hm
    obtain ⟨c4, z4, h4⟩ := own_live? d.l hp
    exact ne_block hy h4 hne he.symm
  have fkeep : ∀ {g b : Nat} {S : List UInt8}, Fil H g b n h S → Fil H' g b n h S := fun f => by
    obtain ⟨c5, z5, h5⟩ := f.liveG
    obtain ⟨c6, z6, h6⟩ := f.liveB
    exact f.upd u (one h5 (by decide)) (one h6 (by decide))
  obtain ⟨c2, z2, h2⟩ := own_cells d.on
  obtain ⟨c3, z3, h3⟩ := own_cells d.ls
  refine ⟨fkeep d.A, d.on.upd u (fun p hp => by cases hp; exact one h2 (by decide)), d.ls.upd u (fun p hp => by cases hp; exact one h3 (by decide)), ?_, by simp [d.len], fun j g' b' L' k1 k2 => ?_, fun gb hm => ?_, Upd.drop d.base u (fun k hk => ?_), d.na, d.no, hnew, d.oo⟩
  · show OwnRow H' 24 1 al' (r.fs ++ [(g, b)]).length cl' _
    rw [List.length_append, List.map_append]; exact o
  · have k1 : (r.fs ++ [(g, b)])[j]? = some (g', b') := k1
    have k2 : (r.Ls ++ [L])[j]? = some L' := k2
    by_cases hj : j < r.fs.length
    · rw [List.getElem?_append_left hj] at k1
      rw [List.getElem?_append_left (by rw [← d.len]; exact hj)] at k2
      exact fkeep (d.fs j g' b' L' k1 k2)
    · have hj2 := (List.getElem?_eq_some_iff.1 k1).1
      simp at hj2
      have hje : j = r.fs.length := by omega
      subst hje
      rw [List.getElem?_append_right (Nat.le_refl _), Nat.sub_self] at k1
      rw [d.len, List.getElem?_append_right (Nat.le_refl _), Nat.sub_self] at k2
      cases k1; cases k2
      exact fkeep F
  · rcases List.mem_append.1 hm with h1 | h1
    · exact d.apart gb h1
    · rw [List.mem_singleton.1 h1]; exact hb
  · obtain ⟨p, hp, rfl⟩ := blk_of hk
    exact d.nl p hp
end
end Go.Proofs.Ytaobgofbhommcaa
