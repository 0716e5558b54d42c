import Derived.Test.YtaobgofbhommcaaB4
namespace Go.Proofs.Ytaobgofbhommcaa
open Go Hv
set_option linter.unusedVariables false
set_option linter.unusedSimpArgs false
set_option maxRecDepth 10000
set_option maxHeartbeats 4000000
theorem eqi {P : Program} (d : Nat) {t : TypeId} {k : IntKind} (hu : P.underlying t = some (.int k)) (a b : Int) (w : World) : (Op.equalIn (d + 1) t (.int k a) (.int k b)).run P w = .ok (a == b) w := by
  unfold Op.equalIn; simp [run_underlying hu]
theorem egi {P : Program} (d : Nat) {t : TypeId} {k : IntKind} (hu : P.underlying t = some (.int k)) (a b : Int) (w : World) : (Op.eqGuardIn (d + 1) t (.int k a) (.int k b)).run P w = .ok false w := by
  unfold Op.eqGuardIn; simp [run_underlying hu]
theorem shape_neq {x y : Operand} {n h n' h' : Int} {K : Value → Prop} (hk : K (.bool (!(decide (n = n') && decide (h = h'))))) : HBin Try.prog .neq 69 x y (shp n h) (shp n' h') K := by
  refine ⟨_, hk, fun w => ?_⟩
  have part0 : ∀ (a b : Int) (w : World), (part 3 [Value.int .i64 a, .int .i64 b].toArray 0).run Try.prog w = .ok (.int .i64 a) w := fun a b w => by kernel_rfl
  have part1 : ∀ (a b : Int) (w : World), (part 3 [Value.int .i64 a, .int .i64 b].toArray 1).run Try.prog w = .ok (.int .i64 b) w := fun a b w => by kernel_rfl
  have g : (eqGuard .neq 69 x y (shp n h) (shp n' h')).run Try.prog w = .ok () w := by
    kernel_rfl
  have e := (binOp_eq_ 69 (shp n h) (shp n' h') (by simp [shp]) (by simp [shp]) (by simp [shp]) (by simp [shp])).2
  rw [Sem.run_bind, g, Result.andThen_ok, e, Sem.run_bind]
  have : (Op.equalIn (9999 + 1) 69 (shp n h) (shp n' h')).run Try.prog w = .ok (decide (n = n') && decide (h = h')) w := by
    unfold Op.equalIn
    rw [Sem.run_bind, run_underlying Try.underlying69, Result.andThen_ok]
    have hst : Try.prog.stoodInHeld 69 = false := by kernel_rfl
    have q := fun a b w => eqi (P := Try.prog) 9998 Try.underlying3 a b w
    simp only [shp]
    simp [program, hst, part0, part1, q, Sem.run]
    by_cases e1 : n = n' <;> by_cases e2 : h = h' <;> simp [e1, e2]
  rw [this]; rfl
/-! Filters in memory -/
structure Fil (H : Heap) (g b n h : Nat) (S : List UInt8) : Prop where
  ok : FOk n h S
  ex : ∃ c, OwnRow H 71 1 (some ⟨g, 0, none⟩) 3 3 [.int .i64 (n : Int), .int .i64 (h : Int), .slice (some ⟨b, 0, none⟩) S.length c] ∧ OwnRow H 5 1 (some ⟨b, 0, none⟩) S.length c (u8s S)
structure FilNew (H0 H : Heap) (g b n h : Nat) (S : List UInt8) : Prop where
  fil : Fil H g b n h S
  upd : Upd [] H0 H
  ng : H0 g = none
  nb : H0 b = none
theorem Fil.upd {H H' : Heap} {T : List Nat} {g b n h : Nat} {S : List UInt8} (f : Fil H g b n h S) (u : Upd T H H') (hg : g ∉ T) (hb : b ∉ T) : Fil H' g b n h S := by
  obtain ⟨c, o, s⟩ := f.ex
  exact ⟨f.ok, c, o.upd u (fun p hp => by cases hp; exact hg), s.upd u (fun p hp => by cases hp; exact hb)⟩
theorem Fil.upd0 {H H' : Heap} {g b n h : Nat} {S : List UInt8} (f : Fil H g b n h S) (u : Upd [] H H') : Fil H' g b n h S := f.upd u (by simp) (by simp)
theorem FilNew.upd0 {H0 H H' : Heap} {g b n h : Nat} {S : List UInt8} (f : FilNew H0 H g b n h S) (u : Upd [] H H') : FilNew H0 H' g b n h S := ⟨f.fil.upd0 u, f.upd.trans u, f.ng, f.nb⟩
theorem FilNew.back {H0 H1 H : Heap} {g b n h : Nat} {S : List UInt8} (f : FilNew H1 H g b n h S) (u : Upd [] H0 H1) : FilNew H0 H g b n h S := ⟨f.fil, u.trans f.upd, Upd.none (S := []) u (by simp) f.ng, Upd.none (S := []) u (by simp) f.nb⟩
theorem Fil.liveG {H : Heap} {g b n h : Nat} {S : List UInt8} (f : Fil H g b n h S) : ∃ c z, H g = some (.cells c 71 z) := by
  obtain ⟨c, o, s⟩ := f.ex
  rcases o.ok with ⟨ha, _⟩ | ⟨g', cur, ha, hg, _⟩
  · cases ha
  · cases ha; exact ⟨_, _, hg⟩
theorem Fil.liveB {H : Heap} {g b n h : Nat} {S : List UInt8} (f : Fil H g b n h S) : ∃ c z, H b = some (.cells c 5 z) := by
  obtain ⟨c, o, s⟩ := f.ex
  rcases s.ok with ⟨ha, _⟩ | ⟨g', cur, ha, hg, _⟩
  · cases ha
  · cases ha; exact ⟨_, _, hg⟩
theorem Fil.gb {H : Heap} {g b g' b' n h n' h' : Nat} {S S' : List UInt8} (f : Fil H g b n h S) (f' : Fil H g' b' n' h' S') : g ≠ b' := fun e => by
  obtain ⟨c, z, h1⟩ := f.liveG
  obtain ⟨c', z', h2⟩ := f'.liveB
  rw [e, h2] at h1; cases h1
theorem made_fil {H0 H1 : Heap} {g n h c k : Nat} {a : Option Addr} {S : List UInt8} (ok : FOk n h S) (m : Made H0 H1 5 1 a k c (u8s S)) (hk : k = S.length) (hg : H1 g = none) :
    ∃ b, a = some ⟨b, 0, none⟩ ∧ FilNew H0 (H1.upd g (.cells [.int .i64 (n : Int), .int .i64 (h : Int), .slice (some ⟨b, 0, none⟩) S.length c].toArray 71)) g b n h S := by
  subst hk
  have hl : 0 < S.length := by have := ok.len; have := ok.n1; omega
  obtain ⟨b, rfl⟩ := m.own.addr hl
  have u : Upd [] H1 (H1.upd g (.cells [.int .i64 (n : Int), .int .i64 (h : Int), .slice (some ⟨b, 0, none⟩) S.length c].toArray 71)) := Upd.new hg _
  exact ⟨b, rfl, ⟨ok, c, OwnRow.lit (upd_same _ _ _) rfl, m.own.upd u (Off.nil _)⟩, m.upd.trans u, Upd.none (S := []) m.upd (by simp) hg, m.new _ rfl⟩
end Go.Proofs.Ytaobgofbhommcaa
