import Derived.Test.YtokfmkfobjkkpaaL3
namespace Go.Proofs.Ytokfmkfobjkkpaa
open Go Hv
set_option linter.unusedVariables false
set_option linter.unusedSimpArgs false
set_option maxRecDepth 10000
set_option maxHeartbeats 1000000
/-! sameS, sameP, sameR: at two that are alike -/
open Go.Op in
theorem eqs {P : Program} (d : Nat) {t : TypeId} (hu : P.underlying t = some .string) (a : ByteArray) (w : World) : (Op.equalIn (d + 1) t (.string a) (.string a)).run P w = .ok true w := by
  unfold Op.equalIn; simp [run_underlying hu]
  cases a with
  | mk d => show (d == d) = true; simp
def pv (p : Txt × Txt) : Value := .agg [Value.string (bs p.1), .string (bs p.2)].toArray
open Go.Op in
theorem pair_neq {x y : Operand} {p : Txt × Txt} {K : Value → Prop} (hk : K (.bool false)) : HBin Try.prog .neq 49 x y (pv p) (pv p) K := by
  refine ⟨_, hk, fun w => ?_⟩
  have part0 : ∀ (a b : ByteArray) (w : World), (part 9 [Value.string a, .string b].toArray 0).run Try.prog w = .ok (.string a) w := fun a b w => by kernel_rfl
  have part1 : ∀ (a b : ByteArray) (w : World), (part 9 [Value.string a, .string b].toArray 1).run Try.prog w = .ok (.string b) w := fun a b w => by kernel_rfl
  have g : (eqGuard .neq 49 x y (pv p) (pv p)).run Try.prog w = .ok () w := by
    kernel_rfl
  have e := (binOp_eq_ 49 (pv p) (pv p) (by simp [pv]) (by simp [pv]) (by simp [pv]) (by simp [pv])).2
  rw [Sem.run_bind, g, Result.andThen_ok, e, Sem.run_bind]
  have : (Op.equalIn (9999 + 1) 49 (pv p) (pv p)).run Try.prog w = .ok true w := by
    unfold Op.equalIn
    rw [Sem.run_bind, run_underlying Try.underlying49, Result.andThen_ok]
    have hst : Try.prog.stoodInHeld 49 = false := by kernel_rfl
    have q := fun a w => eqs (P := Try.prog) 9998 Try.underlying9 a w
    simp only [pv]
    simp [program, hst, part0, part1, q, Sem.run]
  rw [this]; rfl
structure SmInv (n : Nat) (H : Heap) (m : Nat) (vs : List Value) (H' : Heap) : Prop where
  ex : ∃ i : Nat, vs = [.int .i64 (i : Int)] ∧ m + i = n ∧ H' = H
section
variable {H : Heap} {K : Value → Heap → Prop}
theorem sameS_t {a b : Option Addr} {n m c d : Nat} {l : List Txt} (hx : RowAt H a (txts l)) (hy : RowAt H b (txts l)) (hn : l.length = n) (hm : l.length = m) (hlim : n ≤ 9000000000000000000)
    (hk : K (.bool true) H) : HCalls Try.prog 47 [.slice a n c, .slice b m d] H K := by
  refine hcalls (fn := Try.f47) [(6, [(0, 0), (1, 0), (2, 0), (3, 0), (4, 0), (5, 0), (6, 0), (7, 0), (8, 0)])] mixed Try.func47 rfl rfl (by decide +kernel) ?_
  subst hn hm
  (repeat first | refine HReg.step ?_ | refine HCode.step ?_)
  rw [eqB_self ((l.length : Nat) : Int)]
  (repeat first | refine HReg.step ?_ | refine HCode.step ?_)
  refine hloopC [4, 5, 11, 12, 13, 14, 15, 16, 17, 18, 19, 20, 21, 22, 23, 24, 25] [5] (SmInv l.length H) rfl (by repeat' first | exact Resp.retD | exact Resp1.valuesK | refine Resp.blockD ?_ | refine Resp.thenD ?_ ?_ | refine Resp.hcode ?_) ?_ ?_
  · exact ⟨l.length, SmInv.mk ⟨0, rfl, rfl, rfl⟩⟩
  rintro q _ fe H1 ⟨i, rfl, hmi, rfl⟩
  have w2 : wr .i64 ((i : Int) + 1) = ((i + 1 : Nat) : Int) := by rw [wr_i64 (by omega) (by omega)]; omega
  (repeat first | refine HReg.step ?_ | refine HCode.step ?_)
  refine hif (fun h1 => ?_) (fun h1 => ?_)
  · have h1 := ltB_true.1 h1
    obtain ⟨s, hs⟩ : ∃ s, l[i]? = some s := ⟨l[i]'(by omega), by simp⟩
    obtain ⟨ba, bo, rfl, _⟩ := hx i _ (txts_get hs)
    obtain ⟨bb, bo2, rfl, _⟩ := hy i _ (txts_get hs)
    (repeat first | refine HReg.step ?_ | refine HCode.step ?_)
    refine HReq.mk ⟨by omega, by omega⟩ ?_
    (repeat first | refine HReg.step ?_ | refine HCode.step ?_)
    refine HLoad.one (v := .string (bs s)) (by exact hx.get (txts_get hs)) ?_
    (repeat first | refine HReg.step ?_ | refine HCode.step ?_)
    refine HReq.mk ⟨by omega, by omega⟩ ?_
    (repeat first | refine HReg.step ?_ | refine HCode.step ?_)
    refine HLoad.one (v := .string (bs s)) (by exact hy.get (txts_get hs)) ?_
    (repeat first | refine HReg.step ?_ | refine HCode.step ?_)
    rw [seqB_bs, decide_eq_true rfl]
    (repeat first | refine HReg.step ?_ | refine HCode.step ?_)
    rw [w2]
    exact ⟨q - 1, by omega, SmInv.mk ⟨i + 1, rfl, by omega, rfl⟩⟩
  · (repeat first | refine HReg.step ?_ | refine HCode.step ?_)
    exact hk
theorem sameP_t {a b : Option Addr} {n m c d : Nat} {l : List (Txt × Txt)} (hx : RowAt H a (pairsV l)) (hy : RowAt H b (pairsV l)) (hn : l.length = n) (hm : l.length = m) (hlim : n ≤ 4000000000000000000)
    (hk : K (.bool true) H) : HCalls Try.prog 46 [.slice a n c, .slice b m d] H K := by
  refine hcalls (fn := Try.f46) [(6, [(0, 0), (1, 0), (2, 0), (3, 0), (4, 0), (5, 0), (6, 0), (7, 0), (8, 0)])] mixed Try.func46 rfl rfl (by decide +kernel) ?_
  subst hn hm
  (repeat first | refine HReg.step ?_ | refine HCode.step ?_)
  rw [eqB_self ((l.length : Nat) : Int)]
  (repeat first | refine HReg.step ?_ | refine HCode.step ?_)
  refine hloopC [4, 5, 11, 12, 13, 14, 15, 16, 17, 18, 19, 20, 21, 22, 23, 24, 25] [5] (SmInv l.length H) rfl (by repeat' first | exact Resp.retD | exact Resp1.valuesK | refine Resp.blockD ?_ | refine Resp.thenD ?_ ?_ | refine Resp.hcode ?_) ?_ ?_
  · exact ⟨l.length, SmInv.mk ⟨0, rfl, rfl, rfl⟩⟩
  rintro q _ fe H1 ⟨i, rfl, hmi, rfl⟩
  have w2 : wr .i64 ((i : Int) + 1) = ((i + 1 : Nat) : Int) := by rw [wr_i64 (by omega) (by omega)]; omega
  (repeat first | refine HReg.step ?_ | refine HCode.step ?_)
  refine hif (fun h1 => ?_) (fun h1 => ?_)
  · have h1 := ltB_true.1 h1
    obtain ⟨p, hp⟩ : ∃ s, l[i]? = some s := ⟨l[i]'(by omega), by simp⟩
    obtain ⟨ba, bo, rfl, _⟩ := hx _ _ (pairsV_get hp).1
    obtain ⟨bb, bo2, rfl, _⟩ := hy _ _ (pairsV_get hp).1
    (repeat first | refine HReg.step ?_ | refine HCode.step ?_)
    refine HReq.mk ⟨by omega, by omega⟩ ?_
    (repeat first | refine HReg.step ?_ | refine HCode.step ?_)
    refine HLoadN_pair hx hp ?_
    (repeat first | refine HReg.step ?_ | refine HCode.step ?_)
    refine HReq.mk ⟨by omega, by omega⟩ ?_
    (repeat first | refine HReg.step ?_ | refine HCode.step ?_)
    refine HLoadN_pair hy hp ?_
    (repeat first | refine HReg.step ?_ | refine HCode.step ?_)
    refine pair_neq (p := p) ?_
    (repeat first | refine HReg.step ?_ | refine HCode.step ?_)
    rw [w2]
    exact ⟨q - 1, by omega, SmInv.mk ⟨i + 1, rfl, by omega, rfl⟩⟩
  · (repeat first | refine HReg.step ?_ | refine HCode.step ?_)
    exact hk
theorem sameR_t {r : Rec} {ap ak bp bk : Option Addr} {cp ck dp dk : Nat} (hx : RecIn H r ap ak) (hy : RecIn H r bp bk)
    (hk : ∀ H', Upd [] H H' → K (.bool true) H') : HCalls Try.prog 21 [rv r ap cp ak ck, rv r bp dp bk dk] H K := by
  refine hcalls (fn := Try.f21) [] mixed Try.func21 rfl rfl (by decide +kernel) ?_
  have hnp := hx.np
  have hnk := hx.nk
  (repeat first | refine HReg.step ?_ | refine HCode.step ?_)
  refine HNew.mk fun b1 hb1 => ?_
  have u1 : Upd [] H (H.upd b1 (.cells (rcells r ap cp ak ck).toArray 27)) := Upd.new hb1 _
  have o1 : RowAt (H.upd b1 (.cells (rcells r ap cp ak ck).toArray 27)) (some ⟨b1, 0, none⟩) (rcells r ap cp ak ck) := RowAt.of_cells (upd_same _ _ _)
  have hH' : H.upd b1 (.cells [Value.int .i64 r.kind, .int .u64 (r.id : Int), .slice ap r.ps.length cp, .slice ak r.ks.length ck].toArray 27) = H.upd b1 (.cells (rcells r ap cp ak ck).toArray 27) := rfl
  rw [hH']
  generalize hH1 : H.upd b1 (.cells (rcells r ap cp ak ck).toArray 27) = H1 at u1 o1
  (repeat first | refine HReg.step ?_ | refine HCode.step ?_)
  refine HNew.mk fun b2 hb2 => ?_
  have u2 : Upd [] H1 (H1.upd b2 (.cells (rcells r bp dp bk dk).toArray 27)) := Upd.new hb2 _
  have o2 : RowAt (H1.upd b2 (.cells (rcells r bp dp bk dk).toArray 27)) (some ⟨b2, 0, none⟩) (rcells r bp dp bk dk) := RowAt.of_cells (upd_same _ _ _)
  have hH'' : H1.upd b2 (.cells [Value.int .i64 r.kind, .int .u64 (r.id : Int), .slice bp r.ps.length dp, .slice bk r.ks.length dk].toArray 27) = H1.upd b2 (.cells (rcells r bp dp bk dk).toArray 27) := rfl
  rw [hH'']
  generalize hH2 : H1.upd b2 (.cells (rcells r bp dp bk dk).toArray 27) = H2 at u2 o2
  have o1 := o1.upd (S := []) u2 (.inr (Off.nil _))
  have u := u1.trans u2
  have hx2 := hx.upd0 u
  have hy2 := hy.upd0 u
  (repeat first | refine HReg.step ?_ | refine HCode.step ?_)
  refine HLoad.one (v := .int .i64 r.kind) (by exact o1.get (i := 0) rfl) ?_
  (repeat first | refine HReg.step ?_ | refine HCode.step ?_)
  refine HLoad.one (v := .int .i64 r.kind) (by exact o2.get (i := 0) rfl) ?_
  (repeat first | refine HReg.step ?_ | refine HCode.step ?_)
  rw [eqB_self r.kind]
  (repeat first | refine HReg.step ?_ | refine HCode.step ?_)
  refine HLoad.one (v := .int .u64 (r.id : Int)) (by exact o1.get (i := 1) rfl) ?_
  (repeat first | refine HReg.step ?_ | refine HCode.step ?_)
  refine HLoad.one (v := .int .u64 (r.id : Int)) (by exact o2.get (i := 1) rfl) ?_
  (repeat first | refine HReg.step ?_ | refine HCode.step ?_)
  rw [eqB_self (r.id : Int)]
  (repeat first | refine HReg.step ?_ | refine HCode.step ?_)
  refine HLoad.one (v := .slice ap r.ps.length cp) (by exact o1.get (i := 2) rfl) ?_
  (repeat first | refine HReg.step ?_ | refine HCode.step ?_)
  refine HLoad.one (v := .slice bp r.ps.length dp) (by exact o2.get (i := 2) rfl) ?_
  (repeat first | refine HReg.step ?_ | refine HCode.step ?_)
  refine HCall.mk ⟨Try.f46, Try.func46, by rfl, by rfl⟩ ?_
  refine sameP_t hx2.rp hy2.rp rfl rfl (by omega) ?_
  (repeat first | refine HReg.step ?_ | refine HCode.step ?_)
  refine HLoad.one (v := .slice ak r.ks.length ck) (by exact o1.get (i := 3) rfl) ?_
  (repeat first | refine HReg.step ?_ | refine HCode.step ?_)
  refine HLoad.one (v := .slice bk r.ks.length dk) (by exact o2.get (i := 3) rfl) ?_
  (repeat first | refine HReg.step ?_ | refine HCode.step ?_)
  refine HCall.mk ⟨Try.f47, Try.func47, by rfl, by rfl⟩ ?_
  refine sameS_t hx2.rk hy2.rk rfl rfl (by omega) ?_
  (repeat first | refine HReg.step ?_ | refine HCode.step ?_)
  exact hk H2 u
end
end Go.Proofs.Ytokfmkfobjkkpaa
