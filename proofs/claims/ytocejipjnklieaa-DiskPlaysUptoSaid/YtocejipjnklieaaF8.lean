import Derived.Test.YtocejipjnklieaaF7
namespace Go.Proofs.Ytocejipjnklieaa
open Go Hv
set_option linter.unusedVariables false
set_option linter.unusedSimpArgs false
set_option maxRecDepth 10000
set_option maxHeartbeats 4000000
/-! The document's disk: Sync, Read. CUT2 -/
structure Cok (s : St) (N : Nat) : Prop where
  kl : -9223372036854775808 ≤ s.d.keep
  kh : s.d.keep ≤ 9223372036854775807
  lo : -9223372036854775808 ≤ s.d.calls
  ok : s.Ok N
  hN : N ≤ 140737488355328
section
variable {H1 H : Heap} {g N : Nat} {s : St} {B : List Nat} {K : Value → Heap → Prop}
theorem rsync_t {t : Txt} (R : RAt H1 H g s B) (c : Cok s N)
    (hk : ∀ H' B', RAt H1 H' g (s.sync (bs t)).2 B' → Stq H H' B B' → K (.int .i64 (s.sync (bs t)).1) H') : HCalls Try.prog 43 [.pointer (some ⟨g, 0, none⟩), .string (bs t)] H K := by
  refine hcalls (fn := Try.f43) [(6, [(0, 0), (1, 0), (2, 0), (3, 0), (4, 0), (5, 0), (6, 0), (7, 0), (8, 0), (9, 0), (10, 0), (11, 0), (12, 0), (13, 0), (14, 0), (15, 0), (16, 0)])] mixed Try.func43 rfl rfl (by decide +kernel) ?_
  (repeat first | refine HReg.step ?_ | refine HCode.step ?_)
  refine HCall.mk ⟨Try.f57, Try.func57, by rfl, by rfl⟩ ?_
  refine rcounted_t R c.kl c.kh c.lo c.ok (Nat.le_trans c.hN (by decide)) fun H2 R2 S2 => ?_
  (repeat first | refine HReg.step ?_ | refine HCode.step ?_)
  refine hif (fun h1 => ?_) (fun h1 => ?_)
  · have e : s.sync (bs t) = (62, s.call) := St.has_off h1
    rw [e] at hk
    (repeat first | refine HReg.step ?_ | refine HCode.step ?_)
    exact hk H2 B R2 S2
  · have R2' := R2
    obtain ⟨fs, aF, cF, cl, st, r, rfl⟩ := R2
    (repeat first | refine HReg.step ?_ | refine HCode.step ?_)
    refine HCall.mk ⟨Try.f59, Try.func59, by rfl, by rfl⟩ ?_
    refine rat_t r (by have := r.cnt; have := c.ok.call.few; omega) (fun i f hf hn => ?_) (fun i hi hlt hgt => ?_)
    · have hg := r.get f (List.mem_of_getElem? hf)
      rw [hn] at hg
      have e : s.sync (bs t) = (0, s.call.put (bs t) (f.bytes, f.bytes.length)) := St.has_yes h1 hg
      rw [e] at hk
      have hil := (List.getElem?_eq_some_iff.1 hf).1
      obtain ⟨bF, rfl⟩ := r.row.addr (by omega)
      have ob := r.obj.rows.get (i := 0) rfl
      have nm := r.row.rows.get (rfV_get hf 1 _ rfl)
      (repeat first | refine HReg.step ?_ | refine HCode.step ?_)
      rw [ltB_false.2 (by omega)]
      (repeat first | refine HReg.step ?_ | refine HCode.step ?_)
      refine HLoad.one (v := .slice (some ⟨bF, 0, none⟩) fs.length cF) (by exact ob) ?_
      (repeat first | refine HReg.step ?_ | refine HCode.step ?_)
      refine HLoad.one (v := .slice (some ⟨bF, 0, none⟩) fs.length cF) (by exact ob) ?_
      (repeat first | refine HReg.step ?_ | refine HCode.step ?_)
      refine HReq.mk ⟨by omega, by omega⟩ ?_
      (repeat first | refine HReg.step ?_ | refine HCode.step ?_)
      refine HLoad.one (v := .slice f.a f.bytes.length f.c) (by exact nm) ?_
      (repeat first | refine HReg.step ?_ | refine HCode.step ?_)
      refine HReq.mk ⟨by omega, by omega⟩ ?_
      (repeat first | refine HReg.step ?_ | refine HCode.step ?_)
      refine RPh.store r.ph (f' := { f with synced := f.bytes.length }) hf rfl (k := 2) (by decide) rfl rfl (r.byt f (List.mem_of_getElem? hf)) (by show 0 + (i : Int).toNat * 3 + 2 = _; omega) fun H3 P3 u3 => ?_
      have r3 := r.setf (f' := { f with synced := f.bytes.length }) hf rfl P3 (Nat.le_refl _)
      (repeat first | refine HReg.step ?_ | refine HCode.step ?_)
      rw [← hn] at hk
      refine hk H3 _ ⟨_, _, _, _, _, r3, rfl⟩ (S2.trans ?_)
      rw [rblk_set (f' := { f with synced := f.bytes.length }) hf rfl]
      exact ⟨u3.mono (fun k hk => by rw [List.mem_singleton.1 hk]; exact mem_rblk.2 (.inr (.inl (by simp [blk])))), fun b hb => .inl hb⟩
    · have hnn := r.none hlt hgt
      have e : s.sync (bs t) = (61, s.call) := St.has_no h1 hnn
      rw [e] at hk
      (repeat first | refine HReg.step ?_ | refine HCode.step ?_)
      rw [ltB_true.2 (by omega)]
      (repeat first | refine HReg.step ?_ | refine HCode.step ?_)
      exact hk H2 _ R2' S2
theorem rread_t {t : Txt} (R : RAt H1 H g s B) (c : Cok s N)
    (hk : ∀ a c H', RAt H1 H' g s.call B → Stq H H' B B → OwnRow H' 5 1 a (s.readF (bs t)).2.length c (u8s (s.readF (bs t)).2) → (∀ p, a = some p → H p.block = none ∧ p.block ∉ B) → K (.tuple #[.slice a (s.readF (bs t)).2.length c, .int .i64 (s.readF (bs t)).1]) H') : HCalls Try.prog 44 [.pointer (some ⟨g, 0, none⟩), .string (bs t)] H K := by
  refine hcalls (fn := Try.f44) [] mixed Try.func44 rfl rfl (by decide +kernel) ?_
  (repeat first | refine HReg.step ?_ | refine HCode.step ?_)
  refine HCall.mk ⟨Try.f57, Try.func57, by rfl, by rfl⟩ ?_
  refine rcounted_t R c.kl c.kh c.lo c.ok (Nat.le_trans c.hN (by decide)) fun H2 R2 S2 => ?_
  (repeat first | refine HReg.step ?_ | refine HCode.step ?_)
  refine hif (fun h1 => ?_) (fun h1 => ?_)
  · have e : s.readF (bs t) = (62, []) := by unfold St.readF; rw [if_pos h1]
    rw [e] at hk
    (repeat first | refine HReg.step ?_ | refine HCode.step ?_)
    exact hk none 0 H2 R2 S2 (OwnRow.nil _ _ _) (fun p hp => by cases hp)
  · have R2' := R2
    obtain ⟨fs, aF, cF, cl, st, r, rfl⟩ := R2
    (repeat first | refine HReg.step ?_ | refine HCode.step ?_)
    refine HCall.mk ⟨Try.f59, Try.func59, by rfl, by rfl⟩ ?_
    refine rat_t r (by have := r.cnt; have := c.ok.call.few; omega) (fun i f hf hn => ?_) (fun i hi hlt hgt => ?_)
    · have hg := r.get f (List.mem_of_getElem? hf)
      rw [hn] at hg
      have e : s.readF (bs t) = (0, f.bytes) := by unfold St.readF; rw [if_neg (by rw [h1]; decide), hg]
      rw [e] at hk
      have hil := (List.getElem?_eq_some_iff.1 hf).1
      obtain ⟨bF, rfl⟩ := r.row.addr (by omega)
      have ob := r.obj.rows.get (i := 0) rfl
      have nm := r.row.rows.get (rfV_get hf 1 _ rfl)
      (repeat first | refine HReg.step ?_ | refine HCode.step ?_)
      rw [ltB_false.2 (by omega)]
      (repeat first | refine HReg.step ?_ | refine HCode.step ?_)
      refine HLoad.one (v := .slice (some ⟨bF, 0, none⟩) fs.length cF) (by exact ob) ?_
      (repeat first | refine HReg.step ?_ | refine HCode.step ?_)
      refine HReq.mk ⟨by omega, by omega⟩ ?_
      (repeat first | refine HReg.step ?_ | refine HCode.step ?_)
      refine HLoad.one (v := .slice f.a f.bytes.length f.c) (by exact nm) ?_
      (repeat first | refine HReg.step ?_ | refine HCode.step ?_)
      refine append_own (xs := []) (OwnRow.nil _ _ _) (r.byt f (List.mem_of_getElem? hf)).rows rfl (by have := (c.ok.call.le _ _ hg).1; have := c.hN; simp only at *; omega) fun a6 c6 H6 o6 u6 f6 => ?_
      have u6' : Upd [] H2 H6 := u6
      rw [Nat.zero_add f.bytes.length, List.nil_append] at o6
      rw [Nat.zero_add f.bytes.length]
      (repeat first | refine HReg.step ?_ | refine HCode.step ?_)
      have hk := hk a6 c6 H6 (R2'.upd0 u6') (S2.trans (Stq.new0 u6')) o6
      refine hk fun p hp => ?_
      rcases f6 p hp with h | h
      · cases h
      · have hB : p.block ∉ rblk g (some ⟨bF, 0, none⟩) fs := fun hb => R2'.live _ hb h
        exact ⟨Classical.byContradiction fun hn => hn (by rw [← S2.upd _ hB hn]; exact h), hB⟩
    · have hnn := r.none hlt hgt
      have e : s.readF (bs t) = (61, []) := by unfold St.readF; rw [if_neg (by rw [h1]; decide), hnn]
      rw [e] at hk
      (repeat first | refine HReg.step ?_ | refine HCode.step ?_)
      rw [ltB_true.2 (by omega)]
      (repeat first | refine HReg.step ?_ | refine HCode.step ?_)
      exact hk none 0 H2 R2' S2 (OwnRow.nil _ _ _) (fun p hp => by cases hp)
theorem rsize_t {t : Txt} (R : RAt H1 H g s B) (c : Cok s N)
    (hk : ∀ H', RAt H1 H' g s.call B → Stq H H' B B → K (.tuple #[.int .i64 ((s.readF (bs t)).2.length : Int), .int .i64 (s.readF (bs t)).1]) H') : HCalls Try.prog 45 [.pointer (some ⟨g, 0, none⟩), .string (bs t)] H K := by
  refine hcalls (fn := Try.f45) [] mixed Try.func45 rfl rfl (by decide +kernel) ?_
  (repeat first | refine HReg.step ?_ | refine HCode.step ?_)
  refine HCall.mk ⟨Try.f44, Try.func44, by rfl, by rfl⟩ ?_
  refine rread_t R c fun a c H' R' S' o f => ?_
  (repeat first | refine HReg.step ?_ | refine HCode.step ?_)
  exact hk H' R' S'
end
end Go.Proofs.Ytocejipjnklieaa
