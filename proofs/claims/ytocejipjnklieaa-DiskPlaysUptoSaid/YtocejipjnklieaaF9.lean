import Derived.Test.YtocejipjnklieaaF8
namespace Go.Proofs.Ytocejipjnklieaa
open Go Hv
set_option linter.unusedVariables false
set_option linter.unusedSimpArgs false
set_option maxRecDepth 10000
set_option maxHeartbeats 4000000
/-! The document's disk: Cut. CUT2 -/
section
variable {H1 H : Heap} {g N : Nat} {s : St} {B : List Nat} {K : Value → Heap → Prop}
theorem rcut_t {t : Txt} {k : Int} (R : RAt H1 H g s B) (c : Cok s N)
    (hk : ∀ H' B', RAt H1 H' g (s.cut (bs t) k).2 B' → Stq H H' B B' → K (.int .i64 (s.cut (bs t) k).1) H') : HCalls Try.prog 46 [.pointer (some ⟨g, 0, none⟩), .string (bs t), .int .i64 k] H K := by
  refine hcalls (fn := Try.f46) [(8, [(0, 0), (1, 0), (2, 0), (3, 0), (4, 0), (5, 0), (6, 0), (7, 0), (8, 0), (9, 0), (10, 0), (11, 0), (12, 0), (13, 0), (14, 0), (15, 0), (16, 0), (17, 0), (18, 0)]), (9, [(0, 0), (1, 0), (2, 0), (3, 0), (4, 0), (5, 0), (6, 0), (7, 0), (8, 0), (9, 0), (10, 0), (11, 0), (12, 0), (13, 0), (14, 0), (15, 0), (16, 0), (17, 0)])] mixed Try.func46 rfl rfl (by decide +kernel) ?_
  (repeat first | refine HReg.step ?_ | refine HCode.step ?_)
  refine HCall.mk ⟨Try.f57, Try.func57, by rfl, by rfl⟩ ?_
  refine rcounted_t R c.kl c.kh c.lo c.ok (Nat.le_trans c.hN (by decide)) fun H2 R2 S2 => ?_
  (repeat first | refine HReg.step ?_ | refine HCode.step ?_)
  refine hif (fun h1 => ?_) (fun h1 => ?_)
  · have e : s.cut (bs t) k = (62, s.call) := St.has_off h1
    rw [e] at hk
    (repeat first | refine HReg.step ?_ | refine HCode.step ?_)
    exact hk H2 B R2 S2
  · have R2' := R2
    obtain ⟨fs, aF, cF, cl, st, r, rfl⟩ := R2
    (repeat first | refine HReg.step ?_ | refine HCode.step ?_)
    refine HCall.mk ⟨Try.f59, Try.func59, by rfl, by rfl⟩ ?_
    refine rat_t r (by have := r.cnt; have := c.ok.call.few; omega) (fun i f hf hn => ?_) (fun i hi hlt hgt => ?_)
    · have hg := r.get f (List.mem_of_getElem? hf)
      rw [hn] at hg
      have hm := List.mem_of_getElem? hf
      have hN := c.hN
      have hle := (c.ok.call.le _ _ hg).1
      have hsy := (c.ok.call.le _ _ hg).2
      simp only at hle hsy
      have e : s.cut (bs t) k = if 0 ≤ k ∧ k ≤ f.bytes.length then (0, s.call.put (bs t) (f.bytes.take k.toNat, min f.synced k.toNat)) else (1, s.call) := St.has_yes h1 hg
      have bad : ¬ (0 ≤ k ∧ k ≤ (f.bytes.length : Int)) → K (.int .i64 1) H2 := fun hb => by
        rw [e, if_neg hb] at hk
        exact hk H2 _ R2' S2
      have hil := (List.getElem?_eq_some_iff.1 hf).1
      obtain ⟨bF, rfl⟩ := r.row.addr (by omega)
      have ob := r.obj.rows.get (i := 0) rfl
      have nm := r.row.rows.get (rfV_get hf 1 _ rfl)
      (repeat first | refine HReg.step ?_ | refine HCode.step ?_)
      rw [ltB_false.2 (by omega)]
      (repeat first | refine HReg.step ?_ | refine HCode.step ?_)
      by_cases h2 : k < 0
      · rw [ltB_true.2 h2]
        (repeat first | refine HReg.step ?_ | refine HCode.step ?_)
        exact bad (by omega)
      rw [ltB_false.2 (by omega)]
      (repeat first | refine HReg.step ?_ | refine HCode.step ?_)
      refine HLoad.one (v := .slice (some ⟨bF, 0, none⟩) fs.length cF) (by exact ob) ?_
      (repeat first | refine HReg.step ?_ | refine HCode.step ?_)
      refine HReq.mk ⟨by omega, by omega⟩ ?_
      (repeat first | refine HReg.step ?_ | refine HCode.step ?_)
      refine HLoad.one (v := .slice f.a f.bytes.length f.c) (by exact nm) ?_
      (repeat first | refine HReg.step ?_ | refine HCode.step ?_)
      refine hif (fun h3 => ?_) (fun h3 => ?_)
      · have h3 := ltB_true.1 h3
        (repeat first | refine HReg.step ?_ | refine HCode.step ?_)
        exact bad (by omega)
      have h3 := ltB_false.1 h3
      rw [e, if_pos ⟨by omega, h3⟩] at hk
      generalize hq : k.toNat = q at hk
      obtain rfl : k = (q : Int) := by omega
      have tl1 : q ≤ f.bytes.length := by omega
      have hW := (r.byt f hm).cut tl1
      rw [Nat.mul_one, ← u8s_take] at hW
      (repeat first | refine HReg.step ?_ | refine HCode.step ?_)
      refine HLoad.one (v := .slice (some ⟨bF, 0, none⟩) fs.length cF) (by exact ob) ?_
      (repeat first | refine HReg.step ?_ | refine HCode.step ?_)
      refine HLoad.one (v := .slice (some ⟨bF, 0, none⟩) fs.length cF) (by exact ob) ?_
      (repeat first | refine HReg.step ?_ | refine HCode.step ?_)
      refine HReq.mk ⟨by omega, by omega⟩ ?_
      (repeat first | refine HReg.step ?_ | refine HCode.step ?_)
      refine HLoad.one (v := .slice f.a f.bytes.length f.c) (by exact nm) ?_
      (repeat first | refine HReg.step ?_ | refine HCode.step ?_)
      refine HReq.mk ⟨⟨by omega, by have := (r.byt f hm).le; omega⟩, ⟨by omega, by omega⟩⟩ ?_
      (repeat first | refine HReg.step ?_ | refine HCode.step ?_)
      refine HReq.mk ⟨by omega, by omega⟩ ?_
      (repeat first | refine HReg.step ?_ | refine HCode.step ?_)
      refine r.ph.store (k := 1) (f' := ⟨f.name, f.a, q, f.bytes.take q, f.synced⟩) hf rfl (by decide) (by unfold RFl.cells; simp only [List.set, List.length_take]; rw [Nat.min_eq_left tl1]; rfl) rfl (by rw [List.length_take, Nat.min_eq_left tl1]; exact hW) (by show 0 + (i : Int).toNat * 3 + 1 = _; omega) fun H5 ph5 u5 => ?_
      have hm5 : (⟨f.name, f.a, q, f.bytes.take q, f.synced⟩ : RFl) ∈ fs.set i ⟨f.name, f.a, q, f.bytes.take q, f.synced⟩ := List.mem_of_getElem? (i := i) (by rw [List.getElem?_set_self (by omega)])
      have w5 := ph5.byt _ hm5
      have ob5 := ph5.obj.rows.get (i := 0) rfl
      rw [List.length_set] at ob5
      have nm5 := ph5.row.rows.get (rfV_get (fs := fs.set i ⟨f.name, f.a, q, f.bytes.take q, f.synced⟩) (i := i) (by rw [List.getElem?_set_self (by omega)]) 2 _ rfl)
      (repeat first | refine HReg.step ?_ | refine HCode.step ?_)
      refine HLoad.one (v := .slice (some ⟨bF, 0, none⟩) fs.length cF) (by exact ob5) ?_
      (repeat first | refine HReg.step ?_ | refine HCode.step ?_)
      refine HLoad.one (v := .slice (some ⟨bF, 0, none⟩) fs.length cF) (by exact ob5) ?_
      (repeat first | refine HReg.step ?_ | refine HCode.step ?_)
      refine HReq.mk ⟨by omega, by omega⟩ ?_
      (repeat first | refine HReg.step ?_ | refine HCode.step ?_)
      refine HLoad.one (v := .int .i64 (f.synced : Int)) (by exact nm5) ?_
      (repeat first | refine HReg.step ?_ | refine HCode.step ?_)
      refine HReq.mk ⟨by omega, by omega⟩ ?_
      (repeat first | refine HReg.step ?_ | refine HCode.step ?_)
      rw [ite_mn, ite_min]
      have hmin : min (f.synced : Int) (q : Int) = ((min f.synced q : Nat) : Int) := by omega
      rw [hmin]
      refine ph5.store (k := 2) (f := ⟨f.name, f.a, q, f.bytes.take q, f.synced⟩) (f' := ⟨f.name, f.a, q, f.bytes.take q, min f.synced q⟩) (by rw [List.getElem?_set_self (by omega)]) rfl (by decide) rfl rfl w5 (by show 0 + (i : Int).toNat * 3 + 2 = _; omega) fun H6 ph6 u6 => ?_
      rw [List.set_set] at ph6
      have r6 := r.setf (f' := ⟨f.name, f.a, q, f.bytes.take q, min f.synced q⟩) hf rfl ph6 (by show min f.synced q ≤ (f.bytes.take q).length; rw [List.length_take]; omega)
      (repeat first | refine HReg.step ?_ | refine HCode.step ?_)
      rw [← hn] at hk
      refine hk H6 _ ⟨_, _, _, _, _, r6, rfl⟩ (S2.trans ?_)
      rw [rblk_set (f' := ⟨f.name, f.a, q, f.bytes.take q, min f.synced q⟩) hf rfl]
      exact ⟨(u5.trans u6).mono (fun k hk => by rw [List.mem_singleton.1 hk]; exact mem_rblk.2 (.inr (.inl (by simp [blk])))), fun b hb => .inl hb⟩
    · have hnn := r.none hlt hgt
      have e : s.cut (bs t) k = (61, s.call) := St.has_no h1 hnn
      rw [e] at hk
      (repeat first | refine HReg.step ?_ | refine HCode.step ?_)
      rw [ltB_true.2 (by omega)]
      (repeat first | refine HReg.step ?_ | refine HCode.step ?_)
      exact hk H2 _ R2' S2
end
end Go.Proofs.Ytocejipjnklieaa
