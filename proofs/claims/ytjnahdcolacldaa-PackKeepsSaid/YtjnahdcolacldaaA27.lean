import Derived.Test.YtjnahdcolacldaaA26
namespace Go.Proofs.Ytjnahdcolacldaa
open Go Hv
set_option linter.unusedVariables false
set_option linter.unusedSimpArgs false
set_option maxRecDepth 10000
set_option maxHeartbeats 1000000
/-! PackKeeps -/
theorem seqB_self (a : ByteArray) : seqB a a = true := by rw [seqB_eq]; simp
theorem sets_get {α : Type} {l : List α} {i k : Nat} {x : α} (h : k ≠ i) : (l.set i x)[k]? = l[k]? := by rw [List.getElem?_set, if_neg (fun e => h e.symm)]
theorem app_textsZ {a b : Option Addr} {k cap m c : Nat} {xs ys : List (List UInt8)} {H0 H : Heap} {K : Value → Heap → Prop} (hm : Made H0 H 9 1 a k cap (txts xs)) (hy : RowAt H b (txts ys)) (hyl : ys.length = m) (hb : k + m ≤ 8796093022208)
    (hk : ∀ a' cap' H', Made H0 H' 9 1 a' (k + m) cap' (txts (xs ++ ys)) → K (.slice a' (k + m) cap') H') :
    HSem Try.prog (Builtin.append_ #[32, 32] 32 [.slice a k cap, .slice b m c].toArray) H K := by
  refine append_madeG (ie := Try.t9) (z := .string ⟨#[]⟩) (xs := txts xs) (ys := txts ys) Try.underlying32 rfl rfl rfl (by decide) hm hy (by rw [txts_length, hyl]; exact (Nat.mul_one _).symm) (plain_txts _) (by show (k + m) * 16 ≤ _; omega) (by omega) fun a' cap' H' m' => ?_
  rw [← txts_append] at m'
  exact hk a' cap' H' m'
theorem Made.nil (H : Heap) (e : TypeId) (size : Nat) : Made H H e size none 0 0 [] := ⟨OwnRow.nil _ _ _, Upd.refl _ _, fun p hp => by cases hp⟩
theorem ZAt.offRow {H0 H : Heap} {g : Nat} {S : List Nat} {w : W} {B : Nat} {e : TypeId} {size n c : Nat} {a : Option Addr} {xs : List Value} (d : ZAt H0 H g S w B) (o : OwnRow H e size a n c xs) (h1 : e ≠ 65) (h2 : e ≠ 5) : Off S a := fun p hp hb => by
  obtain ⟨cu, e', f, h, he⟩ := d.cells _ hb
  rcases o.ok with ⟨ha, _⟩ | ⟨g', cur, ha, hg, _⟩
  · rw [ha] at hp; cases hp
  · rw [ha] at hp; cases hp
    rw [hg] at h
    have e2 : e = e' := by injection h with h; injection h
    rcases he with h3 | h3
    · exact h1 (e2.trans h3)
    · exact h2 (e2.trans h3)
structure Kp0 (H0 Hb : Heap) (r nb c : Nat) (m : Nat) (vs : List Value) (H' : Heap) : Prop where
  ex : ∃ (i : Nat) (X : List UInt8), vs = [.int .i64 (i : Int)] ∧ m + i = nb ∧ X.length = nb + 2 ∧ X[nb]? = some 171 ∧ X[nb + 1]? = some 172 ∧ OwnRow H' 5 1 (some ⟨r, 0, none⟩) (nb + 2) c (u8s X) ∧ Upd [r] Hb H'
structure Kp2 (H0 H7 : Heap) (g : Nat) (S : List Nat) (l : List UInt8) (nb : Nat) (Hb : Heap) (m : Nat) (vs : List Value) (H' : Heap) : Prop where
  ex : ∃ (i : Nat), vs = [.int .i64 (i : Int)] ∧ m + i = nb ∧ RAt H7 H' g S ⟨l.drop i, 0⟩ ∧ Upd [g] Hb H'
structure P4S (H0 : Heap) (B g1 g2 i : Nat) (aO aW : Option Addr) (cO cW : Nat) (S1 S2 : List Nat) (w1 w2 : W) (V U : List Value) (ls : List (List UInt8)) (H' : Heap) : Prop where
  d1 : ZAt H0 H' g1 S1 w1 B
  d2 : ZAt H0 H' g2 S2 w2 B
  ap : Apart S1 S2
  oO : OwnRow H' 23 1 aO (2 * i) cO V
  oW : OwnRow H' 23 1 aW (2 * i) cW U
  nO : ∀ p, aO = some p → H0 p.block = none
  nW : ∀ p, aW = some p → H0 p.block = none
  aOW : ∀ p q, aO = some p → aW = some q → p.block ≠ q.block
  G : Grp 5 H' V ls
  nV : ∀ v ∈ V, ∀ b ∈ vblk v, b ∉ S1 ∧ b ∉ S2 ∧ H0 b = none
  hl : ∀ l ∈ ls, l.length ≤ 2147483648
  C : Copies H' U ls
  nU : ∀ v ∈ U, ∀ b ∈ vblk v, b ∉ S1 ∧ b ∉ S2 ∧ H0 b = none ∧ ∃ c f, H' b = some (.cells c 5 f)
  u : Upd [] H0 H'
theorem P4S.upd {H0 H H' : Heap} {B g1 g2 i : Nat} {aO aW : Option Addr} {cO cW : Nat} {S1 S2 T : List Nat} {w1 w2 : W} {V U : List Value} {ls : List (List UInt8)} (s : P4S H0 B g1 g2 i aO aW cO cW S1 S2 w1 w2 V U ls H) (u : Upd T H H')
    (hT : ∀ b ∈ T, H0 b = none ∧ ∃ c e f, H b = some (.cells c e f) ∧ e ≠ 65 ∧ e ≠ 5 ∧ e ≠ 23) : P4S H0 B g1 g2 i aO aW cO cW S1 S2 w1 w2 V U ls H' := by
  have offS : ∀ {g S w B}, ZAt H0 H g S w B → ∀ b ∈ S, b ∉ T := fun d b hb hb' => by
    obtain ⟨cu, e', f, h, he⟩ := d.cells _ hb
    obtain ⟨_, c, e, f', h', h1, h2, _⟩ := hT b hb'
    rw [h] at h'
    have e2 : e' = e := by injection h' with h'; injection h'
    rcases he with h3 | h3
    · exact h1 (e2.symm.trans h3)
    · exact h2 (e2.symm.trans h3)
  have offR : ∀ {a n c xs}, OwnRow H 23 1 a n c xs → Off T a := fun {a n c xs} o p hp hb => by
    obtain ⟨_, c', e, f', h', _, _, h3⟩ := hT _ hb
    rcases o.ok with ⟨ha, _⟩ | ⟨g', cur, ha, hg, _⟩
    · rw [ha] at hp; cases hp
    · rw [ha] at hp; cases hp
      rw [hg] at h'
      injection h' with h'; injection h' with _ h'
      exact h3 h'.symm
  have off5 : ∀ b, (∃ c f, H b = some (.cells c 5 f)) → b ∉ T := fun b ⟨c, f, h⟩ hb => by
    obtain ⟨_, c', e, f', h', _, h2, _⟩ := hT _ hb
    rw [h] at h'
    injection h' with h'; injection h' with _ h'
    exact h2 h'.symm
  refine ⟨s.d1.upd u (offS s.d1) fun b hb => (hT b hb).1, s.d2.upd u (offS s.d2) fun b hb => (hT b hb).1, s.ap, s.oO.upd u (offR s.oO), s.oW.upd u (offR s.oW), s.nO, s.nW, s.aOW, ?_, s.nV, s.hl, fun k l hl => ?_, fun v hv b hb => ?_, Upd.drop s.u u fun b hb => (hT b hb).1⟩
  · exact s.G.upd u fun b hb c f h => off5 b ⟨c, f, h⟩ hb
  · obtain ⟨a, c, h1, h2⟩ := s.C k l hl
    exact ⟨a, c, h1, h2.upd u (.inr (off_notin fun b hb => off5 b (s.nU _ (List.mem_of_getElem? h1) b (by rw [vblk_slice]; exact hb)).2.2.2))⟩
  · obtain ⟨h1, h2, h3, c, f, h4⟩ := s.nU v hv b hb
    exact ⟨h1, h2, h3, c, f, by rw [u b (off5 b ⟨c, f, h4⟩) (by rw [h4]; simp), h4]⟩
/-- The first writer writes. -/
theorem P4S.one {H0 H H' : Heap} {B g1 g2 i : Nat} {aO aW : Option Addr} {cO cW : Nat} {S1 S1' S2 : List Nat} {w1 w1' w2 : W} {V U : List Value} {ls : List (List UInt8)} (s : P4S H0 B g1 g2 i aO aW cO cW S1 S2 w1 w2 V U ls H) (d : ZAt H0 H' g1 S1' w1' (B + 4)) (f : Foot S1 S1' H H') :
    P4S H0 (B + 4) g1 g2 i aO aW cO cW S1' S2 w1' w2 V U ls H' := by
  have hn : ∀ b, b ∉ S1 → H b ≠ none → b ∉ S1' := fun b h1 h2 h3 => by
    rcases f.sub b h3 with h | h
    · exact h1 h
    · exact h2 h
  refine ⟨d, (s.d2.upd f.upd (fun b hb hb' => s.ap b hb' hb) s.d1.new).wide (by omega), s.ap.foot f s.d2.live, s.oO.upd f.upd (s.d1.offRow s.oO (by decide) (by decide)), s.oW.upd f.upd (s.d1.offRow s.oW (by decide) (by decide)), s.nO, s.nW, s.aOW, ?_, fun v hv b hb => ?_, s.hl, fun k l hl => ?_, fun v hv b hb => ?_, Upd.drop s.u f.upd s.d1.new⟩
  · exact ⟨s.G.len, fun k v l hv hl => (s.G.ok k v l hv hl).upd f.upd fun b hb => (s.nV v (List.mem_of_getElem? hv) b hb).1, s.G.apart⟩
  · obtain ⟨h1, h2, h3⟩ := s.nV v hv b hb
    obtain ⟨k, hk⟩ := List.getElem?_of_mem hv
    obtain ⟨cu, z, h⟩ := s.G.live hk hb
    exact ⟨hn b h1 (by rw [h]; simp), h2, h3⟩
  · obtain ⟨a, c, h1, h2⟩ := s.C k l hl
    exact ⟨a, c, h1, h2.upd f.upd (.inr (off_notin fun b hb => (s.nU _ (List.mem_of_getElem? h1) b (by rw [vblk_slice]; exact hb)).1))⟩
  · obtain ⟨h1, h2, h3, c, f', h4⟩ := s.nU v hv b hb
    exact ⟨hn b h1 (by rw [h4]; simp), h2, h3, c, f', by rw [f.upd b h1 (by rw [h4]; simp), h4]⟩
theorem P4S.swap {H0 H : Heap} {B g1 g2 i : Nat} {aO aW : Option Addr} {cO cW : Nat} {S1 S2 : List Nat} {w1 w2 : W} {V U : List Value} {ls : List (List UInt8)} (s : P4S H0 B g1 g2 i aO aW cO cW S1 S2 w1 w2 V U ls H) : P4S H0 B g2 g1 i aO aW cO cW S2 S1 w2 w1 V U ls H :=
  ⟨s.d2, s.d1, s.ap.symm, s.oO, s.oW, s.nO, s.nW, s.aOW, s.G, fun v hv b hb => ⟨(s.nV v hv b hb).2.1, (s.nV v hv b hb).1, (s.nV v hv b hb).2.2⟩, s.hl, s.C, fun v hv b hb => ⟨(s.nU v hv b hb).2.1, (s.nU v hv b hb).1, (s.nU v hv b hb).2.2⟩, s.u⟩
theorem P4S.wide {H0 H : Heap} {B B' g1 g2 i : Nat} {aO aW : Option Addr} {cO cW : Nat} {S1 S2 : List Nat} {w1 w2 : W} {V U : List Value} {ls : List (List UInt8)} (s : P4S H0 B g1 g2 i aO aW cO cW S1 S2 w1 w2 V U ls H) (h : B ≤ B') : P4S H0 B' g1 g2 i aO aW cO cW S1 S2 w1 w2 V U ls H :=
  ⟨s.d1.wide h, s.d2.wide h, s.ap, s.oO, s.oW, s.nO, s.nW, s.aOW, s.G, s.nV, s.hl, s.C, s.nU, s.u⟩
theorem P4S.upd0 {H0 H H' : Heap} {B g1 g2 i : Nat} {aO aW : Option Addr} {cO cW : Nat} {S1 S2 : List Nat} {w1 w2 : W} {V U : List Value} {ls : List (List UInt8)} (s : P4S H0 B g1 g2 i aO aW cO cW S1 S2 w1 w2 V U ls H) (u : Upd [] H H') : P4S H0 B g1 g2 i aO aW cO cW S1 S2 w1 w2 V U ls H' := s.upd u (by simp)
theorem OpOk.off {H : Heap} {o : Opk} {S : List Nat} (h : OpOk H o) (hS : ∀ b ∈ S, H b = none) : o.l = [] ∨ ∀ b ∈ blk o.al, b ∉ S := by
  cases hl : o.l with
  | nil => exact .inl rfl
  | cons x xs =>
    right
    intro b hb hb'
    have hr := h.row
    rw [hl] at hr
    obtain ⟨p, hp, rfl⟩ := blk_of hb
    obtain ⟨b2, off, h2, h3⟩ := hr 0 _ rfl
    rw [hp] at h2; cases h2
    unfold Heap.cell? at h3
    rw [hS _ hb'] at h3
    cases h3
def Opk.lent (o : Opk) (a : Option Addr) (c : Nat) : Opk := { o with al := a, cl := c }
/-- The same without the rows. -/
structure P4P (H0 : Heap) (B g1 g2 : Nat) (S1 S2 : List Nat) (w1 w2 : W) (V U : List Value) (ls lu : List (List UInt8)) (H' : Heap) : Prop where
  d1 : ZAt H0 H' g1 S1 w1 B
  d2 : ZAt H0 H' g2 S2 w2 B
  G : Grp 5 H' V ls
  nV : ∀ v ∈ V, ∀ b ∈ vblk v, b ∉ S1 ∧ b ∉ S2 ∧ H0 b = none
  C : Copies H' U lu
  nU : ∀ v ∈ U, ∀ b ∈ vblk v, b ∉ S1 ∧ b ∉ S2 ∧ H0 b = none ∧ ∃ c f, H' b = some (.cells c 5 f)
  u : Upd [] H0 H'
theorem P4S.p {H0 H : Heap} {B g1 g2 i : Nat} {aO aW : Option Addr} {cO cW : Nat} {S1 S2 : List Nat} {w1 w2 : W} {V U : List Value} {ls : List (List UInt8)} (s : P4S H0 B g1 g2 i aO aW cO cW S1 S2 w1 w2 V U ls H) : P4P H0 B g1 g2 S1 S2 w1 w2 V U ls ls H := ⟨s.d1, s.d2, s.G, s.nV, s.C, s.nU, s.u⟩
theorem P4P.upd {H0 H H' : Heap} {B g1 g2 : Nat} {S1 S2 T : List Nat} {w1 w2 : W} {V U : List Value} {ls lu : List (List UInt8)} (s : P4P H0 B g1 g2 S1 S2 w1 w2 V U ls lu H) (u : Upd T H H')
    (hT : ∀ b ∈ T, H0 b = none ∧ ∃ c e f, H b = some (.cells c e f) ∧ e ≠ 65 ∧ e ≠ 5) : P4P H0 B g1 g2 S1 S2 w1 w2 V U ls lu H' := by
  have offS : ∀ {g S w B}, ZAt H0 H g S w B → ∀ b ∈ S, b ∉ T := fun d b hb hb' => by
    obtain ⟨cu, e', f, h, he⟩ := d.cells _ hb
    obtain ⟨_, c, e, f', h', h1, h2⟩ := hT b hb'
    rw [h] at h'
    have e2 : e' = e := by injection h' with h'; injection h'
    rcases he with h3 | h3
    · exact h1 (e2.symm.trans h3)
    · exact h2 (e2.symm.trans h3)
  have off5 : ∀ b, (∃ c f, H b = some (.cells c 5 f)) → b ∉ T := fun b ⟨c, f, h⟩ hb => by
    obtain ⟨_, c', e, f', h', _, h2⟩ := hT _ hb
    rw [h] at h'
    injection h' with h'; injection h' with _ h'
    exact h2 h'.symm
  refine ⟨s.d1.upd u (offS s.d1) fun b hb => (hT b hb).1, s.d2.upd u (offS s.d2) fun b hb => (hT b hb).1, ?_, s.nV, fun k l hl => ?_, fun v hv b hb => ?_, Upd.drop s.u u fun b hb => (hT b hb).1⟩
  · exact s.G.upd u fun b hb c f h => off5 b ⟨c, f, h⟩ hb
  · obtain ⟨a, c, h1, h2⟩ := s.C k l hl
    exact ⟨a, c, h1, h2.upd u (.inr (off_notin fun b hb => off5 b (s.nU _ (List.mem_of_getElem? h1) b (by rw [vblk_slice]; exact hb)).2.2.2))⟩
  · obtain ⟨h1, h2, h3, c, f, h4⟩ := s.nU v hv b hb
    exact ⟨h1, h2, h3, c, f, by rw [u b (off5 b ⟨c, f, h4⟩) (by rw [h4]; simp), h4]⟩
theorem made_blk {H H' : Heap} {e size n c m c' : Nat} {a : Option Addr} {xs : List Value} (h : Made H H' e size a n c xs) : ∀ b ∈ vblk (.slice a m c'), ∃ cu f, H' b = some (.cells cu e f) := fun b hb => by
  rw [vblk_slice] at hb
  obtain ⟨p, hp, rfl⟩ := blk_of hb
  rcases h.own.ok with ⟨ha, _⟩ | ⟨g', cur, ha, hg, _⟩
  · rw [ha] at hp; cases hp
  · rw [ha] at hp; cases hp; exact ⟨_, _, hg⟩
/-- A new list is told. -/
theorem P4P.tell {H0 H H' : Heap} {B g1 g2 n c : Nat} {a : Option Addr} {l : List UInt8} {S1 S2 : List Nat} {w1 w2 : W} {V U : List Value} {ls lu : List (List UInt8)} (s : P4P H0 B g1 g2 S1 S2 w1 w2 V U ls lu H) (m : Made H H' 5 1 a n c (u8s l)) (hn : l.length = n) : P4P H0 B g1 g2 S1 S2 w1 w2 (V ++ [.slice a n c]) U (ls ++ [l]) lu H' := by
  have s' := s.upd (T := []) m.upd (by simp)
  refine ⟨s'.d1, s'.d2, s.G.add m.upd (m.sle hn) m.vnew, fun v hv b hb => ?_, s'.C, s'.nU, s'.u⟩
  rcases List.mem_append.1 hv with hv | hv
  · exact s.nV v hv b hb
  · rw [List.mem_singleton.1 hv] at hb
    have h := m.vnew b hb
    exact ⟨fun h1 => s.d1.live b h1 h, fun h1 => s.d2.live b h1 h, Upd.none (S := []) s.u (by simp) h⟩
/-- A copy is kept. -/
theorem P4P.keep {H0 H H' : Heap} {B g1 g2 n c : Nat} {a : Option Addr} {l : List UInt8} {S1 S2 : List Nat} {w1 w2 : W} {V U : List Value} {ls lu : List (List UInt8)} (s : P4P H0 B g1 g2 S1 S2 w1 w2 V U ls lu H) (m : Made H H' 5 1 a n c (u8s l)) (hn : l.length = n) (hU : U.length = lu.length) : P4P H0 B g1 g2 S1 S2 w1 w2 V (U ++ [.slice a n c]) ls (lu ++ [l]) H' := by
  have s' := s.upd (T := []) m.upd (by simp)
  refine ⟨s'.d1, s'.d2, s'.G, s.nV, fun k x hx => ?_, fun v hv b hb => ?_, s'.u⟩
  · by_cases hk : k < lu.length
    · rw [List.getElem?_append_left hk] at hx
      rw [List.getElem?_append_left (by omega)]
      exact s'.C k x hx
    · rw [List.getElem?_append_right (by omega)] at hx
      have h0 : k - lu.length = 0 := Classical.byContradiction fun hne => by
        obtain ⟨q, hq⟩ : ∃ q, k - lu.length = q + 1 := ⟨k - lu.length - 1, by omega⟩
        rw [hq] at hx; simp at hx
      rw [h0] at hx
      have hx : l = x := by simpa using hx
      subst hx
      refine ⟨a, c, ?_, m.own.rows⟩
      rw [List.getElem?_append_right (by omega), hU, h0, hn]; rfl
  · rcases List.mem_append.1 hv with hv | hv
    · exact s'.nU v hv b hb
    · rw [List.mem_singleton.1 hv] at hb
      have h := m.vnew b hb
      exact ⟨fun h1 => s.d1.live b h1 h, fun h1 => s.d2.live b h1 h, Upd.none (S := []) s.u (by simp) h, made_blk m b hb⟩
structure Kp6 (Hb : Heap) (aL : Option Addr) (nl cL : Nat) (m : Nat) (vs : List Value) (H' : Heap) : Prop where
  ex : ∃ (j : Nat) (X : List (List UInt8)), vs = [.int .i64 (j : Int)] ∧ m + j = nl ∧ X.length = nl + 2 ∧ OwnRow H' 9 1 aL (nl + 2) cL (txts X) ∧ Upd (blk aL) Hb H'
structure P4Inv (H0 : Heap) (g1 g2 n : Nat) (m : Nat) (vs : List Value) (H' : Heap) : Prop where
  ex : ∃ (i : Nat) (aO aW : Option Addr) (cO cW : Nat) (S1 S2 : List Nat) (w1 w2 : W) (V U : List Value) (ls : List (List UInt8)), vs = [.slice aO (2 * i) cO, .slice aW (2 * i) cW, .int .i64 (i : Int)] ∧ m + i = n ∧ i ≤ 40 ∧ P4S H0 (1073741824 + 8 * i) g1 g2 i aO aW cO cW S1 S2 w1 w2 V U ls H'
structure P4J (H0 : Heap) (g1 g2 : Nat) (vs : List Value) (H' : Heap) : Prop where
  ex : ∃ (i : Nat) (aO aW : Option Addr) (cO cW : Nat) (S1 S2 : List Nat) (w1 w2 : W) (V U : List Value) (ls : List (List UInt8)), vs = [.slice aO (2 * i) cO, .slice aW (2 * i) cW] ∧ i ≤ 41 ∧ P4S H0 (1073741824 + 400) g1 g2 i aO aW cO cW S1 S2 w1 w2 V U ls H'
end Go.Proofs.Ytjnahdcolacldaa
