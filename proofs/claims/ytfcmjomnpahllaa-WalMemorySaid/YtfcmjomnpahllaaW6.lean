import Derived.Test.YtfcmjomnpahllaaW5
namespace Go.Proofs.Ytfcmjomnpahllaa
open Go Hv
set_option linter.unusedVariables false
set_option linter.unusedSimpArgs false
set_option maxRecDepth 10000
set_option maxHeartbeats 4000000
/-! sameRecords; a new disk. CUT2 -/
theorem Hv.GrpM.base' {e : Nat} {H1 H2 H : Heap} {vs : List Value} {ls : List (List UInt8)} (G : GrpM e H2 H vs ls) (hn : ∀ v ∈ vs, ∀ b ∈ vblk v, H1 b = none) (u : Upd [] H1 H) : GrpM e H1 H vs ls := ⟨G.grp, hn, u⟩
theorem DiskAt.rebase {H1 H2 H : Heap} {g r : Nat} {s : St} {fl : List Fl} (D : DiskAt H2 H g r s fl) (hn : ∀ b ∈ dblk g r fl, H1 b = none) (u : Upd [] H1 H) : DiskAt H1 H g r s fl := by
  have P := D.phys
  refine ⟨⟨P.obj, P.map, P.str, P.grp.base' (fun v hv b hb => ?_) u, P.np, P.nb, P.nn, P.syn, P.lim, hn g (mem_dblk.2 (.inl rfl)), hn r (mem_dblk.2 (.inr (.inl rfl))), fun f hf => hn _ (mem_dblk.2 (.inr (.inr (.inl ⟨f, hf, rfl⟩))))⟩, D.get, D.all, D.cnt, D.arm, D.lo, D.hi, D.rhi⟩
  obtain ⟨f, hf, rfl⟩ := List.mem_map.1 hv
  exact hn b (mem_dblk.2 (.inr (.inr (.inr ⟨f, hf, hb⟩))))
section
variable {H1 H : Heap} {g r N : Nat} {s : St} {fl : List Fl} {K : Value → Heap → Prop}
theorem size_f {n : ByteArray} (D : DiskAt H1 H g r s fl) (hk : ∀ fl' H', DiskAt H1 H' g r s.call fl' → Stp H H' g r fl fl' → K (.tuple #[.int .i64 ((s.readF n).2.length : Int), .int .i64 (s.readF n).1]) H') : HCalls Try.prog 14 [.pointer (some ⟨g, 0, none⟩), .string n] H K := by
  refine size_t D (fun e fl' H' D' S' h => ?_) (fun x y fl' H' ho hx D' S' => ?_)
  · rcases h with ⟨ho, rfl⟩ | ⟨ho, hn, rfl⟩
    · have e1 : s.readF n = (62, []) := by unfold St.readF; rw [if_pos ho]
      have := hk fl' H' D' S'
      rw [e1] at this; exact this
    · have e1 : s.readF n = (61, []) := by unfold St.readF; rw [if_neg (by rw [ho]; decide), hn]
      have := hk fl' H' D' S'
      rw [e1] at this; exact this
  · have e1 : s.readF n = (0, x) := by unfold St.readF; rw [if_neg (by rw [ho]; decide), hx]
    have := hk fl' H' D' S'
    rw [e1] at this; exact this
theorem wnew_t (hk : ∀ g r H', DiskAt eH H' g r St0 [] → Upd [] H (offD H' g r []) → K (.pointer (some ⟨g, 0, none⟩)) H') : HCalls Try.prog 8 [] H K := by
  refine new_t fun g r H' D u => ?_
  refine hk g r H' (D.rebase (fun b hb => rfl) (eH_upd _)) fun k hk hn => ?_
  have h : k ∉ dblk g r [] := fun hb => hn (D.phys.old k hb)
  unfold offD
  rw [lessH_of h, u k hk hn]
theorem offD_up (H : Heap) : Upd [] (offD H g r fl) H := less_upd _ _
end
theorem HLoadN_rec {H : Heap} {b off i : Nat} {qs : List PRec} {q : PRec} {K : List Value → Prop} (h : RowAt H (some ⟨b, off, none⟩) (recsV qs)) (hq : qs[i]? = some q) (hk : K q.cells) : HLoadN [H] b (off + i * 4) 4 K :=
  ⟨q.cells, fun H' hH j v hv => by
    rw [List.mem_singleton.1 hH, Nat.add_assoc]
    exact h.get (recsV_get hq j v hv), rfl, hk⟩
/-- Records in memory. -/
structure Recs (H : Heap) (a : Option Addr) (qs : List PRec) : Prop where
  row : RowAt H a (recsV qs)
  each : ∀ q ∈ qs, RecIn H q.r q.ap q.ak
theorem Recs.upd0 {H H' : Heap} {a : Option Addr} {qs : List PRec} (h : Recs H a qs) (u : Upd [] H H') : Recs H' a qs := ⟨h.row.upd (S := []) u (.inr (Off.nil _)), fun q hq => (h.each q hq).upd0 u⟩
theorem RecsAt.recs' {L L' : Heap} {qs : List PRec} {a : Option Addr} {c : Nat} (h : RecsAt L L' qs a c) : Recs L' a qs := ⟨h.row.rows, fun q hq => h.recIn hq⟩
section
variable {H : Heap} {K : Value → Heap → Prop}
theorem sameRs_t {a b : Option Addr} {n m c d : Nat} {qs ps : List PRec} (hq : Recs H a qs) (hp : Recs H b ps) (hn : qs.length = n) (hm : ps.length = m) (hlim : n ≤ 4000000000000000000) (he : qs.map PRec.r = ps.map PRec.r)
    (hk : ∀ H', Upd [] H H' → K (.bool true) H') : HCalls Try.prog 15 [.slice a n c, .slice b m d] H K := by
  have hl : ps.length = qs.length := by have := congrArg List.length he; simpa using this.symm
  subst hn
  obtain rfl : m = qs.length := by omega
  refine hcalls (fn := Try.f15) [(6, [(0, 0), (1, 0), (2, 0), (3, 0), (4, 0), (5, 0), (6, 0), (7, 0), (8, 0), (9, 0)])] mixed Try.func15 rfl rfl (by decide +kernel) ?_
  (repeat first | refine HReg.step ?_ | refine HCode.step ?_)
  rw [eqB_self ((qs.length : Nat) : Int)]
  (repeat first | refine HReg.step ?_ | refine HCode.step ?_)
  refine hloopC [4, 5, 11, 12, 13, 14, 15, 16, 17, 18, 19, 20, 21, 22, 23, 24, 25, 26] [5] (SnInv qs.length H) rfl (by repeat' first | exact Resp.retD | exact Resp1.valuesK | refine Resp.blockD ?_ | refine Resp.thenD ?_ ?_ | refine Resp.hcode ?_) ?_ ?_
  · exact ⟨qs.length, SnInv.mk ⟨0, rfl, rfl, Upd.refl _ _⟩⟩
  rintro q _ fe H1 ⟨i, rfl, hmi, u1⟩
  have w2 : wr .i64 ((i : Int) + 1) = ((i + 1 : Nat) : Int) := by rw [wr_i64 (by omega) (by omega)]; omega
  (repeat first | refine HReg.step ?_ | refine HCode.step ?_)
  refine hif (fun h1 => ?_) (fun h1 => ?_)
  · have h1 := ltB_true.1 h1
    obtain ⟨x, hx⟩ : ∃ s, qs[i]? = some s := ⟨qs[i]'(by omega), by simp⟩
    obtain ⟨y, hy⟩ : ∃ s, ps[i]? = some s := ⟨ps[i]'(by omega), by simp⟩
    have hxy : x.r = y.r := by
      have h2 : (qs.map PRec.r)[i]? = some x.r := by rw [List.getElem?_map, hx]; rfl
      have h3 : (ps.map PRec.r)[i]? = some y.r := by rw [List.getElem?_map, hy]; rfl
      rw [he, h3] at h2; exact (Option.some.inj h2).symm
    have rq := (hq.upd0 u1).row
    have rp := (hp.upd0 u1).row
    obtain ⟨ba, bo, rfl, _⟩ := rq _ _ (recsV_get hx 0 _ rfl)
    obtain ⟨bb, bo2, rfl, _⟩ := rp _ _ (recsV_get hy 0 _ rfl)
    (repeat first | refine HReg.step ?_ | refine HCode.step ?_)
    refine HReq.mk ⟨by omega, by omega⟩ ?_
    (repeat first | refine HReg.step ?_ | refine HCode.step ?_)
    refine HLoadN_rec rq hx ?_
    (repeat first | refine HReg.step ?_ | refine HCode.step ?_)
    refine HReq.mk ⟨by omega, by omega⟩ ?_
    (repeat first | refine HReg.step ?_ | refine HCode.step ?_)
    refine HLoadN_rec rp hy ?_
    (repeat first | refine HReg.step ?_ | refine HCode.step ?_)
    refine HCall.mk ⟨Try.f18, Try.func18, by rfl, by rfl⟩ ?_
    have ix := (hq.upd0 u1).each x (List.mem_of_getElem? hx)
    have iy := (hp.upd0 u1).each y (List.mem_of_getElem? hy)
    have e2 : rcells y.r y.ap y.cp y.ak y.ck = rcells x.r y.ap y.cp y.ak y.ck := by rw [hxy]
    rw [← hxy] at iy
    have key : HCalls Try.prog 18 [rv x.r x.ap x.cp x.ak x.ck, rv x.r y.ap y.cp y.ak y.ck] H1 (fun v H2 => v = .bool true ∧ Upd [] H1 H2) := sameR_t ix iy fun H2 u2 => ⟨rfl, u2⟩
    have e3 : (Value.agg y.cells.toArray) = rv x.r y.ap y.cp y.ak y.ck := by
      show Value.agg (rcells y.r y.ap y.cp y.ak y.ck).toArray = _
      rw [e2]; rfl
    rw [show (Value.agg y.cells.toArray) = rv x.r y.ap y.cp y.ak y.ck from e3]
    refine HCalls.mono key ?_
    rintro _ H2 ⟨rfl, u2⟩
    (repeat first | refine HReg.step ?_ | refine HCode.step ?_)
    rw [w2]
    exact ⟨q - 1, by omega, SnInv.mk ⟨i + 1, rfl, by omega, u1.trans u2⟩⟩
  · (repeat first | refine HReg.step ?_ | refine HCode.step ?_)
    exact hk H1 u1
end
end Go.Proofs.Ytfcmjomnpahllaa
