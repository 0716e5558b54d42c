import Derived.Test.YtjnahdcolacldaaA14
import Derived.Test.YtjnahdcolacldaaA10
import Derived.Test.YtjnahdcolacldaaA12
namespace Go.Proofs.Ytjnahdcolacldaa
open Go Hv
set_option linter.unusedVariables false
set_option linter.unusedSimpArgs false
set_option maxRecDepth 10000
set_option maxHeartbeats 1000000
/-! Both readers, one call -/
theorem eqB_self (a : Int) : eqB a a = true := eqB_true.2 rfl
theorem many_len (each : Int) : ∀ (n : Nat) (r : R), (R.many each n r).1.length ≤ n
  | 0, r => Nat.le_refl _
  | n + 1, r => by
    unfold R.many
    split
    · show 1 ≤ _; omega
    · have := many_len each n (r.text each).2
      show _ + 1 ≤ _; omega
theorem texts_len (r : R) (most each : Int) : (r.texts most each).1.length ≤ 4294967296 := by
  have h1 := many_len each (r.count most).1 (r.count most).2
  have h2 := count_lt r most
  unfold R.texts
  split
  · exact Nat.zero_le _
  · omega
structure StInv (n : Nat) (H : Heap) (m : Nat) (vs : List Value) (H' : Heap) : Prop where
  ex : ∃ i : Nat, vs = [.int .i64 (i : Int)] ∧ m + i = n ∧ H' = H
theorem sameTexts_eq {a b : Option Addr} {n c d : Nat} {x : List (List UInt8)} {H : Heap} {K : Value → Heap → Prop} (hx : RowAt H a (txts x)) (hy : RowAt H b (txts x)) (hn : x.length = n) (hlim : n ≤ 4611686018427387904)
    (hk : K (.bool true) H) : HCalls Try.prog 13 [.slice a n c, .slice b n d] H K := by
  refine hcalls (fn := Try.f13) [(6, [(0, 0), (1, 0), (2, 0), (3, 0), (4, 0), (5, 0), (6, 0), (7, 0), (8, 0)])] mixed Try.func13 rfl rfl (by decide +kernel) ?_
  (repeat first | refine HReg.step ?_ | refine HCode.step ?_)
  refine hif (fun h => absurd rfl (not_eqB_true.1 h)) (fun _ => ?_)
  (repeat first | refine HReg.step ?_ | refine HCode.step ?_)
  refine hloopC [4, 5, 11, 12, 13, 14, 15, 16, 17, 18, 19, 20, 21, 22, 23, 24, 25] [5] (StInv n H) rfl (by repeat' first | exact Resp.retD | exact Resp1.valuesK | refine Resp.blockD ?_ | refine Resp.thenD ?_ ?_ | refine Resp.hcode ?_) ?_ ?_
  · exact ⟨n, StInv.mk ⟨0, rfl, rfl, rfl⟩⟩
  rintro m _ fe H2 ⟨i, rfl, hmi, rfl⟩
  (repeat first | refine HReg.step ?_ | refine HCode.step ?_)
  refine hif (fun h1 => ?_) (fun h1 => ?_)
  · have h1 := ltB_true.1 h1
    obtain ⟨s, hs⟩ : ∃ s, x[i]? = some s := ⟨x[i]'(by omega), by simp⟩
    obtain ⟨ba, bo, rfl, _⟩ := hx i _ (txts_get hs)
    obtain ⟨bb, bp, rfl, _⟩ := hy i _ (txts_get hs)
    have w2 : wr .i64 ((i : Int) + 1) = ((i + 1 : Nat) : Int) := by rw [wr_i64 (by omega) (by omega)]; omega
    (repeat first | refine HReg.step ?_ | refine HCode.step ?_)
    refine HReq.mk ⟨by omega, by omega⟩ ?_
    (repeat first | refine HReg.step ?_ | refine HCode.step ?_)
    refine HLoad.one (v := .string (bs s)) (by exact hx.get (txts_get hs)) ?_
    (repeat first | refine HReg.step ?_ | refine HCode.step ?_)
    refine HReq.mk ⟨by omega, by omega⟩ ?_
    (repeat first | refine HReg.step ?_ | refine HCode.step ?_)
    refine HLoad.one (v := .string (bs s)) (by exact hy.get (txts_get hs)) ?_
    (repeat first | refine HReg.step ?_ | refine HCode.step ?_)
    refine hif (fun h => absurd rfl (not_dec_true (by rw [seqB_bs] at h; exact h))) (fun _ => ?_)
    (repeat first | refine HReg.step ?_ | refine HCode.step ?_)
    rw [w2]
    exact ⟨m - 1, by omega, StInv.mk ⟨i + 1, rfl, by omega, rfl⟩⟩
  · (repeat first | refine HReg.step ?_ | refine HCode.step ?_)
    exact hk
def R.op (r : R) (o : Opk) : R := if o.kind = 1 then (r.number 1).2 else if o.kind = 2 then (r.number 4).2 else if o.kind = 3 then (r.number 8).2 else if o.kind = 4 then (r.text o.n).2 else if o.kind = 5 then (r.texts o.n o.m).2 else if o.kind = 6 then (r.count o.n).2 else r
section
variable {H0 H1 H : Heap} {g g2 : Nat} {S T : List Nat} {r : R} {K : Value → Heap → Prop}
theorem read_t {o : Opk} (d : RAt H0 H g S r) (e : UAt H1 H g2 T r) (ap : Apart S T) (n1 : ∀ b ∈ S, H1 b = none) (n2 : ∀ b ∈ T, H0 b = none) (ok : OpOk H o)
    (hk : ∀ H', RAt H0 H' g S (r.op o) → UAt H1 H' g2 T (r.op o) → K (.bool true) H') : HCalls Try.prog 23 [.pointer (some ⟨g, 0, none⟩), .pointer (some ⟨g2, 0, none⟩), .agg (ocells o).toArray] H K := by
  refine hcalls (fn := Try.f23) [(9, [(0, 0), (1, 0), (2, 0), (3, 0), (4, 1), (5, 1), (6, 1), (7, 0), (8, 0), (9, 0)]), (11, [(0, 0), (1, 0), (2, 0), (3, 0), (4, 0), (5, 0), (6, 1), (7, 1), (8, 1), (9, 1), (10, 1), (11, 0), (12, 0), (13, 0)]), (13, [(0, 0), (1, 0), (2, 0), (3, 0), (4, 1), (5, 1), (6, 1), (7, 0), (8, 0), (9, 0)])] mixed Try.func23 rfl rfl (by decide +kernel) ?_
  have hg : g ∈ S := by obtain ⟨a, c, rfl, _⟩ := d.ex; exact List.mem_cons_self
  have hg2 : g2 ∈ T := by obtain ⟨a, c, rfl, _⟩ := e.ex; exact List.mem_cons_self
  have mvE : ∀ {r' H2 H3}, UAt H1 H2 g2 T r' → Upd [g] H2 H3 → UAt H1 H3 g2 T r' := fun {r' H2 H3} e u => e.upd u (fun b hb hm => ap.symm b hb (by rw [List.mem_singleton.1 hm]; exact hg)) (fun b hb => by rw [List.mem_singleton.1 hb]; exact n1 g hg)
  have mvD : ∀ {r' H2 H3}, RAt H0 H2 g S r' → Upd [g2] H2 H3 → RAt H0 H3 g S r' := fun {r' H2 H3} d u => d.upd u (fun b hb hm => ap b hb (by rw [List.mem_singleton.1 hm]; exact hg2)) (fun b hb => by rw [List.mem_singleton.1 hb]; exact n2 g2 hg2)
  (repeat first | refine HReg.step ?_ | refine HCode.step ?_)
  refine HNew.mk fun b hb => ?_
  have u : Upd [] H (H.upd b (.cells (ocells o).toArray 34)) := Upd.new hb _
  have rb : RowAt (H.upd b (.cells (ocells o).toArray 34)) (some ⟨b, 0, none⟩) (ocells o) := RowAt.of_cells (upd_same _ _ _)
  have d1 := d.upd0 u
  have e1 := e.upd0 u
  have bS : b ≠ g := fun h => d.live g hg (by rw [← h]; exact hb)
  have bT : b ≠ g2 := fun h => e.live g2 hg2 (by rw [← h]; exact hb)
  generalize hH1 : H.upd b (.cells (ocells o).toArray 34) = H2 at u rb d1 e1
  have hH1' : H.upd b (.cells [Value.int .i64 o.kind, .int .u64 (o.v : Int), .string (bs o.s), .slice o.al o.nl o.cl, .int .i64 o.n, .int .i64 o.m].toArray 34) = H2 := hH1
  rw [hH1']
  have mvB : ∀ {H3}, Upd [g] H2 H3 → RowAt H3 (some ⟨b, 0, none⟩) (ocells o) := fun {H3} u => rb.upd u (.inr (off_notin fun b' hb' hm => bS (by
    obtain ⟨p, hp, rfl⟩ := blk_of hb'
    cases hp; exact List.mem_singleton.1 hm)))
  (repeat first | refine HReg.step ?_ | refine HCode.step ?_)
  refine HLoad.one (v := .int .i64 o.kind) (by exact rb.get (i := 0) rfl) ?_
  (repeat first | refine HReg.step ?_ | refine HCode.step ?_)
  refine hif (fun k => ?_) (fun k1 => ?_)
  · have k := eqB_true.1 k
    have e0 : r.op o = (r.number 1).2 := by unfold R.op; rw [if_pos k]
    rw [e0] at hk
    (repeat first | refine HReg.step ?_ | refine HCode.step ?_)
    refine HCall.mk ⟨Try.f11, Try.func11, by rfl, by rfl⟩ ?_
    refine ru8_t d1 fun H3 d3 u3 => ?_
    (repeat first | refine HReg.step ?_ | refine HCode.step ?_)
    refine HCall.mk ⟨Try.f51, Try.func51, by rfl, by rfl⟩ ?_
    refine dru8_t (mvE e1 u3) fun H4 e4 u4 => ?_
    (repeat first | refine HReg.step ?_ | refine HCode.step ?_)
    rw [eqB_self]
    exact hk H4 (mvD d3 u4) e4
  have k1 := eqB_false.1 k1
  (repeat first | refine HReg.step ?_ | refine HCode.step ?_)
  refine hif (fun k => ?_) (fun k2 => ?_)
  · have k := eqB_true.1 k
    have e0 : r.op o = (r.number 4).2 := by unfold R.op; rw [if_neg k1, if_pos k]
    rw [e0] at hk
    (repeat first | refine HReg.step ?_ | refine HCode.step ?_)
    refine HCall.mk ⟨Try.f41, Try.func41, by rfl, by rfl⟩ ?_
    refine ru32_t d1 fun H3 d3 u3 => ?_
    (repeat first | refine HReg.step ?_ | refine HCode.step ?_)
    refine HCall.mk ⟨Try.f52, Try.func52, by rfl, by rfl⟩ ?_
    refine dru32_t (mvE e1 u3) fun H4 e4 u4 => ?_
    (repeat first | refine HReg.step ?_ | refine HCode.step ?_)
    rw [eqB_self]
    exact hk H4 (mvD d3 u4) e4
  have k2 := eqB_false.1 k2
  (repeat first | refine HReg.step ?_ | refine HCode.step ?_)
  refine hif (fun k => ?_) (fun k3 => ?_)
  · have k := eqB_true.1 k
    have e0 : r.op o = (r.number 8).2 := by unfold R.op; rw [if_neg k1, if_neg k2, if_pos k]
    rw [e0] at hk
    (repeat first | refine HReg.step ?_ | refine HCode.step ?_)
    refine HCall.mk ⟨Try.f34, Try.func34, by rfl, by rfl⟩ ?_
    refine ru64_t d1 fun H3 d3 u3 => ?_
    (repeat first | refine HReg.step ?_ | refine HCode.step ?_)
    refine HCall.mk ⟨Try.f53, Try.func53, by rfl, by rfl⟩ ?_
    refine dru64_t (mvE e1 u3) fun H4 e4 u4 => ?_
    (repeat first | refine HReg.step ?_ | refine HCode.step ?_)
    rw [eqB_self]
    exact hk H4 (mvD d3 u4) e4
  have k3 := eqB_false.1 k3
  (repeat first | refine HReg.step ?_ | refine HCode.step ?_)
  refine hif (fun k => ?_) (fun k4 => ?_)
  · have k := eqB_true.1 k
    have e0 : r.op o = (r.text o.n).2 := by unfold R.op; rw [if_neg k1, if_neg k2, if_neg k3, if_pos k]
    rw [e0] at hk
    (repeat first | refine HReg.step ?_ | refine HCode.step ?_)
    refine HLoad.one (v := .int .i64 o.n) (by exact rb.get (i := 4) rfl) ?_
    (repeat first | refine HReg.step ?_ | refine HCode.step ?_)
    refine HCall.mk ⟨Try.f35, Try.func35, by rfl, by rfl⟩ ?_
    refine rtext_t d1 ok.n fun H3 d3 u3 => ?_
    (repeat first | refine HReg.step ?_ | refine HCode.step ?_)
    refine HLoad_two (v := .int .i64 o.n) (by exact (mvB u3).get (i := 4) rfl) (by exact rb.get (i := 4) rfl) ?_
    (repeat first | refine HReg.step ?_ | refine HCode.step ?_)
    refine HCall.mk ⟨Try.f54, Try.func54, by rfl, by rfl⟩ ?_
    refine dtext_r (mvE e1 u3) ok.n fun H4 e4 u4 => ?_
    (repeat first | refine HReg.step ?_ | refine HCode.step ?_)
    rw [seqB_bs, decide_eq_true rfl]
    exact hk H4 (mvD d3 u4) e4
  have k4 := eqB_false.1 k4
  (repeat first | refine HReg.step ?_ | refine HCode.step ?_)
  refine hif (fun k => ?_) (fun k5 => ?_)
  · have k := eqB_true.1 k
    have e0 : r.op o = (r.texts o.n o.m).2 := by unfold R.op; rw [if_neg k1, if_neg k2, if_neg k3, if_neg k4, if_pos k]
    rw [e0] at hk
    (repeat first | refine HReg.step ?_ | refine HCode.step ?_)
    refine HLoad.one (v := .int .i64 o.n) (by exact rb.get (i := 4) rfl) ?_
    (repeat first | refine HReg.step ?_ | refine HCode.step ?_)
    refine HLoad.one (v := .int .i64 o.m) (by exact rb.get (i := 5) rfl) ?_
    (repeat first | refine HReg.step ?_ | refine HCode.step ?_)
    refine HCall.mk ⟨Try.f36, Try.func36, by rfl, by rfl⟩ ?_
    refine rtexts_t d1 ok.n ok.m fun a3 c3 H3 d3 u3 o3 f3 => ?_
    (repeat first | refine HReg.step ?_ | refine HCode.step ?_)
    refine HLoad_two (v := .int .i64 o.n) (by exact (mvB u3).get (i := 4) rfl) (by exact rb.get (i := 4) rfl) ?_
    (repeat first | refine HReg.step ?_ | refine HCode.step ?_)
    refine HLoad_two (v := .int .i64 o.m) (by exact (mvB u3).get (i := 5) rfl) (by exact rb.get (i := 5) rfl) ?_
    (repeat first | refine HReg.step ?_ | refine HCode.step ?_)
    refine HCall.mk ⟨Try.f55, Try.func55, by rfl, by rfl⟩ ?_
    refine dtexts_r (mvE e1 u3) ok.n ok.m fun a4 c4 H4 e4 u4 o4 f4 => ?_
    have o34 : RowAt H4 a3 (txts (r.texts o.n o.m).1) := o3.rows.upd u4 (.inr (off_notin fun b' hb' hm => by
      obtain ⟨p, hp, rfl⟩ := blk_of hb'
      have h2 := f3 p hp
      rw [List.mem_singleton.1 hm] at h2
      exact e1.live g2 hg2 h2))
    (repeat first | refine HReg.step ?_ | refine HCode.step ?_)
    refine HCall.mk ⟨Try.f13, Try.func13, by rfl, by rfl⟩ ?_
    refine sameTexts_eq o34 o4 rfl (by have := texts_len r o.n o.m; omega) ?_
    (repeat first | refine HReg.step ?_ | refine HCode.step ?_)
    exact hk H4 (mvD d3 u4) e4
  have k5 := eqB_false.1 k5
  (repeat first | refine HReg.step ?_ | refine HCode.step ?_)
  refine hif (fun k => ?_) (fun k6 => ?_)
  · have k := eqB_true.1 k
    have e0 : r.op o = (r.count o.n).2 := by unfold R.op; rw [if_neg k1, if_neg k2, if_neg k3, if_neg k4, if_neg k5, if_pos k]
    rw [e0] at hk
    (repeat first | refine HReg.step ?_ | refine HCode.step ?_)
    refine HLoad.one (v := .int .i64 o.n) (by exact rb.get (i := 4) rfl) ?_
    (repeat first | refine HReg.step ?_ | refine HCode.step ?_)
    refine HCall.mk ⟨Try.f37, Try.func37, by rfl, by rfl⟩ ?_
    refine count_t d1 ok.n fun H3 d3 u3 => ?_
    (repeat first | refine HReg.step ?_ | refine HCode.step ?_)
    refine HLoad_two (v := .int .i64 o.n) (by exact (mvB u3).get (i := 4) rfl) (by exact rb.get (i := 4) rfl) ?_
    (repeat first | refine HReg.step ?_ | refine HCode.step ?_)
    refine HCall.mk ⟨Try.f56, Try.func56, by rfl, by rfl⟩ ?_
    refine dcount_t (mvE e1 u3) ok.n fun H4 e4 u4 => ?_
    (repeat first | refine HReg.step ?_ | refine HCode.step ?_)
    rw [eqB_self]
    exact hk H4 (mvD d3 u4) e4
  have k6 := eqB_false.1 k6
  have e0 : r.op o = r := by unfold R.op; rw [if_neg k1, if_neg k2, if_neg k3, if_neg k4, if_neg k5, if_neg k6]
  rw [e0] at hk
  (repeat first | refine HReg.step ?_ | refine HCode.step ?_)
  exact hk H2 d1 e1
end
end Go.Proofs.Ytjnahdcolacldaa
