import Derived.Test.YtfcmjomnpahllaaA3
namespace Go.Proofs.Ytfcmjomnpahllaa
open Go Hv
set_option linter.unusedVariables false
set_option linter.unusedSimpArgs false
set_option maxRecDepth 10000
set_option maxHeartbeats 1000000
/-! Readers in memory -/
structure RAt (H0 H : Heap) (g : Nat) (S : List Nat) (r : R) : Prop where
  lim : r.rest.length ≤ 140737488355328
  er : r.err = 0 ∨ r.err = 3 ∨ r.err = 4
  base : Upd [] H0 H
  new : ∀ b ∈ S, H0 b = none
  ex : ∃ a c, S = g :: blk a ∧ OwnRow H 126 1 (some ⟨g, 0, none⟩) 2 2 [.slice a r.rest.length c, .int .i64 r.err] ∧ RowAt H a (u8s r.rest) ∧ r.rest.length ≤ c ∧ (∀ b ∈ blk a, ∃ cu z, H b = some (.cells cu 5 z))
theorem RAt.upd {H0 H H' : Heap} {T : List Nat} {g : Nat} {S : List Nat} {r : R} (d : RAt H0 H g S r) (u : Upd T H H') (hT : ∀ b ∈ S, b ∉ T) (hn : ∀ b ∈ T, H0 b = none) : RAt H0 H' g S r := by
  obtain ⟨a, c, rfl, o, w, hc, hl⟩ := d.ex
  refine ⟨d.lim, d.er, Upd.drop d.base u hn, d.new, a, c, rfl, o.upd u (fun p hp => by cases hp; exact hT g List.mem_cons_self), w.upd u (.inr (off_notin fun b hb => hT b (List.mem_cons_of_mem _ hb))), hc, fun b hb => ?_⟩
  obtain ⟨cu, z, h⟩ := hl b hb
  exact ⟨cu, z, by rw [u b (hT b (List.mem_cons_of_mem _ hb)) (by rw [h]; simp), h]⟩
theorem RAt.upd0 {H0 H H' : Heap} {g : Nat} {S : List Nat} {r : R} (d : RAt H0 H g S r) (u : Upd [] H H') : RAt H0 H' g S r := d.upd u (by simp) (by simp)
theorem RAt.live {H0 H : Heap} {g : Nat} {S : List Nat} {r : R} (d : RAt H0 H g S r) : ∀ b ∈ S, H b ≠ none := by
  obtain ⟨a, c, rfl, o, w, hc, hl⟩ := d.ex
  intro b hb
  rcases List.mem_cons.1 hb with rfl | h
  · exact o.there rfl
  · obtain ⟨cu, z, h⟩ := hl b h; rw [h]; simp
theorem newR_t {a : Option Addr} {n c : Nat} {l : List UInt8} {H : Heap} {K : Value → Heap → Prop} (hr : RowAt H a (u8s l)) (hl : l.length = n) (hlim : n ≤ 140737488355328) (hk : ∀ g S H', RAt H H' g S ⟨l, 0⟩ → K (.pointer (some ⟨g, 0, none⟩)) H') : HCalls Try.prog 64 [.slice a n c] H K := by
  refine hcalls (fn := Try.f64) [] mixed Try.func64 rfl rfl rfl ?_
  (repeat first | refine HReg.step ?_ | refine HCode.step ?_)
  refine HCall.mk ⟨Try.f41, Try.func41, by rfl, by rfl⟩ ?_
  refine clone_t hr hl hlim fun a1 c1 H1 m1 => ?_
  (repeat first | refine HReg.step ?_ | refine HCode.step ?_)
  refine HNew.mk fun g hg => ?_
  have ug : Upd [] H1 (H1.upd g (.cells [Value.slice a1 n c1, .int .i64 0].toArray 126)) := Upd.new hg _
  subst hl
  (repeat first | refine HReg.step ?_ | refine HCode.step ?_)
  refine hk g (g :: blk a1) _ ⟨hlim, .inl rfl, m1.upd.trans ug, fun b hb => ?_, a1, c1, rfl, OwnRow.lit (upd_same _ _ _) rfl, m1.own.rows.upd (S := []) ug (.inr (Off.nil _)), m1.own.le, fun b hb => ?_⟩
  · rcases List.mem_cons.1 hb with rfl | h
    · exact Upd.none (S := []) m1.upd (by simp) hg
    · obtain ⟨p, hp, rfl⟩ := blk_of h
      exact m1.new p hp
  · obtain ⟨p, hp, rfl⟩ := blk_of hb
    rcases m1.own.ok with ⟨ha, _⟩ | ⟨g', cur, ha, hg', _⟩
    · rw [ha] at hp; cases hp
    · rw [ha] at hp; cases hp
      exact ⟨cur, _, by rw [ug g' (by simp) (by rw [hg']; simp), hg']⟩
section
variable {H0 H : Heap} {g : Nat} {S : List Nat} {r : R} {K : Value → Heap → Prop}
theorem RAt.notin {a : Option Addr} {c : Nat} (o : OwnRow H 126 1 (some ⟨g, 0, none⟩) 2 2 [.slice a r.rest.length c, .int .i64 r.err]) (hl : ∀ b ∈ blk a, ∃ cu z, H b = some (.cells cu 5 z)) : g ∉ blk a := fun hb => by
  obtain ⟨cu, z, h⟩ := hl g hb
  obtain ⟨c', z', h'⟩ := own_cells o
  rw [h] at h'; cases h'
/-- The reader's own two fields change; the bytes stay. -/
theorem RAt.set {H' : Heap} {a a' : Option Addr} {c c' : Nat} {r' : R} (d : RAt H0 H g (g :: blk a) r) (o : OwnRow H 126 1 (some ⟨g, 0, none⟩) 2 2 [.slice a r.rest.length c, .int .i64 r.err]) (hl : ∀ b ∈ blk a, ∃ cu z, H b = some (.cells cu 5 z)) (he : r'.err = 0 ∨ r'.err = 3 ∨ r'.err = 4) (hle : r'.rest.length ≤ r.rest.length)
    (o' : OwnRow H' 126 1 (some ⟨g, 0, none⟩) 2 2 [.slice a' r'.rest.length c', .int .i64 r'.err]) (u : Upd [g] H H') (hb : blk a' = blk a) (hw : RowAt H a' (u8s r'.rest)) (hc : r'.rest.length ≤ c') : RAt H0 H' g (g :: blk a) r' ∧ Upd [g] H H' := by
  have hg := RAt.notin o hl
  have off : ∀ b ∈ blk a, b ∉ [g] := fun b hb hm => hg (by rw [← List.mem_singleton.1 hm]; exact hb)
  refine ⟨⟨Nat.le_trans hle d.lim, he, Upd.drop d.base u (fun b hb => by rw [List.mem_singleton.1 hb]; exact d.new g List.mem_cons_self), d.new, a', c', by rw [hb], o', hw.upd u (.inr (off_notin (by rw [hb]; exact off))), hc, fun b hb' => ?_⟩, u⟩
  rw [hb] at hb'
  obtain ⟨cu, z, h⟩ := hl b hb'
  exact ⟨cu, z, by rw [u b (off b hb') (by rw [h]; simp), h]⟩
theorem blk_sl (a : Option Addr) (l cap size : Nat) : blk (slAddr a l cap size) = blk a := by
  unfold slAddr
  split
  · rfl
  · cases a with
    | none => rfl
    | some p =>
      have e : ∀ k, (p.add k).block = p.block := fun k => by unfold Addr.add; split <;> rfl
      show [(p.add _).block] = [p.block]
      rw [e]
end
end Go.Proofs.Ytfcmjomnpahllaa
