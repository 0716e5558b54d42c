import Derived.Test.YtjnahdcolacldaaA18
namespace Go.Proofs.Ytjnahdcolacldaa
open Go Hv
set_option linter.unusedVariables false
set_option linter.unusedSimpArgs false
set_option maxRecDepth 10000
set_option maxHeartbeats 1000000
/-! PackBack -/
theorem opLen_le {os : List Opk} {i : Nat} {o : Opk} (h : os[i]? = some o) : opLen o ≤ opsLen os := by
  have h1 := opsLen_get h
  have h2 := opsLen_take os (i + 1)
  omega
theorem OpOk.fit {H : Heap} {o : Opk} (h : OpOk H o) (hb : opLen o ≤ 4194304) : OpFit o := by
  have h1 := textsB_length o.l
  have h2 := flat_sum o.l
  unfold opLen at hb
  refine ⟨h.v, by omega, by omega, fun s hs => ?_⟩
  obtain ⟨i, hi⟩ := List.getElem?_of_mem hs
  have h3 := flat_le o.l (i + 1)
  rw [flat_take hi, List.length_append, textB_length] at h3
  omega
structure P1Inv (H : Heap) (g : Nat) (w0 : W) (ops : List Opk) (m : Nat) (vs : List Value) (H' : Heap) : Prop where
  ex : ∃ (i : Nat) (S : List Nat), vs = [.int .i64 (i : Int)] ∧ m + i = ops.length ∧ WAt H H' g S (w0.ops (ops.take i))
structure P2Inv (H : Heap) (g9 g10 g11 g12 : Nat) (S9 S10 : List Nat) (r9 r10 : R) (w11 w12 : W) (ops : List Opk) (m : Nat) (vs : List Value) (H' : Heap) : Prop where
  ex : ∃ (i : Nat) (T11 T12 : List Nat), vs = [.int .i64 (i : Int)] ∧ m + i = ops.length ∧ RAt H H' g9 S9 (r9.readsAll (ops.take i)) ∧ RAt H H' g10 S10 (r10.readsAll (ops.take i)) ∧ WAt H H' g11 T11 (w11.ops (ops.take i)) ∧ WAt H H' g12 T12 (w12.ops (ops.take i)) ∧ Apart S9 T11 ∧ Apart S9 T12 ∧ Apart S10 T11 ∧ Apart S10 T12 ∧ Apart T11 T12
structure P3Inv (H : Heap) (g : Nat) (S : List Nat) (r : R) (ops : List Opk) (m : Nat) (vs : List Value) (H' : Heap) : Prop where
  ex : ∃ i : Nat, vs = [.int .i64 (i : Int)] ∧ m + i = ops.length ∧ RAt H H' g S (r.readsAll (ops.take i))
theorem RAt.mem {H0 H : Heap} {g : Nat} {S : List Nat} {r : R} (d : RAt H0 H g S r) : g ∈ S := by obtain ⟨a, c, rfl, _⟩ := d.ex; exact List.mem_cons_self
theorem RAt.back {H0 H1 H : Heap} {g : Nat} {S : List Nat} {r : R} (d : RAt H1 H g S r) (u : Upd [] H0 H1) : RAt H0 H g S r := ⟨d.lim, d.er, u.trans d.base, fun b hb => Upd.none (S := []) u (by simp) (d.new b hb), d.ex⟩
theorem notg {g : Nat} {S T : List Nat} (h : Apart T S) (hg : g ∈ S) : ∀ b ∈ T, b ∉ [g] := fun b hb hm => h b hb (by rw [List.mem_singleton.1 hm]; exact hg)
theorem noneg {g : Nat} {S : List Nat} {H : Heap} (h : ∀ b ∈ S, H b = none) (hg : g ∈ S) : ∀ b ∈ [g], H b = none := fun b hb => by rw [List.mem_singleton.1 hb]; exact h g hg
theorem packBack_t {cut : Int} {a : Option Addr} {k c : Nat} {ops : List Opk} {H : Heap} {K : Value → Heap → Prop} (ro : RowAt H a (orow ops)) (lo : ops.length = k) (bo : ∀ o ∈ ops, OpOk H o) (bk : opsLen ops ≤ 4194304) (bl : k ≤ 1048576)
    (hk : ∀ H', Upd [] H H' → K (.bool true) H') : HCalls Try.prog 6 [.slice a k c, .int .i64 cut] H K := by
  refine hcalls (fn := Try.f6) [] mixed Try.func6 rfl rfl (by decide +kernel) ?_
  have hfit : ∀ o ∈ ops, OpFit o := fun o ho => by
    obtain ⟨i, hi⟩ := List.getElem?_of_mem ho
    have := opLen_le hi
    exact (bo o ho).fit (by omega)
  have hall := allB_le ops
  (repeat first | refine HReg.step ?_ | refine HCode.step ?_)
  refine HCall.mk ⟨Try.f8, Try.func8, by rfl, by rfl⟩ ?_
  refine newW_t (n := 1099511627776) (by decide) fun g S1 H1 d1 => ?_
  have d1 : WAt H H1 g S1 ⟨1099511627776, [], 0⟩ := d1
  (repeat first | refine HReg.step ?_ | refine HCode.step ?_)
  refine HCall.mk ⟨Try.f10, Try.func10, by rfl, by rfl⟩ ?_
  refine known_t fun H2 u2 => ?_
  have d2 := d1.upd0 u2
  (repeat first | refine HReg.step ?_ | refine HCode.step ?_)
  refine hloopC [6, 27, 28, 29, 30, 31, 32, 33, 34, 35, 36, 37, 38] [6] (P1Inv H g ⟨1099511627776, [], 0⟩ ops) rfl (by repeat' first | exact Resp.retD | exact Resp1.valuesK | refine Resp.blockD ?_ | refine Resp.thenD ?_ ?_ | refine Resp.hcode ?_) ?_ ?_
  · exact ⟨ops.length, P1Inv.mk ⟨0, S1, rfl, rfl, d2⟩⟩
  rintro m _ fe H3 ⟨i, S3, rfl, hmi, d3⟩
  have hlen := ops_len (ops.take i) ⟨1099511627776, [], 0⟩
  have hlen0 : (⟨1099511627776, [], 0⟩ : W).out.length = 0 := rfl
  have htk := opsLen_take ops i
  (repeat first | refine HReg.step ?_ | refine HCode.step ?_)
  refine hif (fun h1 => ?_) (fun h1 => ?_)
  · have h1 := ltB_true.1 h1
    obtain ⟨o, ho⟩ : ∃ o, ops[i]? = some o := ⟨ops[i]'(by omega), by simp⟩
    have hom := bo o (List.mem_of_getElem? ho)
    have hol := opLen_le ho
    have ro3 := ro.upd (S := []) d3.base (.inr (Off.nil _))
    obtain ⟨ba, bo', rfl, _⟩ := ro3 _ _ (orow_get ho 0 _ rfl)
    have w2 : wr .i64 ((i : Int) + 1) = ((i + 1 : Nat) : Int) := by rw [wr_i64 (by omega) (by omega)]; omega
    (repeat first | refine HReg.step ?_ | refine HCode.step ?_)
    refine HReq.mk ⟨by omega, by omega⟩ ?_
    (repeat first | refine HReg.step ?_ | refine HCode.step ?_)
    refine HLoadN_op ro3 ho ?_
    (repeat first | refine HReg.step ?_ | refine HCode.step ?_)
    refine HCall.mk ⟨Try.f12, Try.func12, by rfl, by rfl⟩ ?_
    refine write_t d3 hom (by omega) fun S5 H5 d5 f5 => ?_
    rw [← ops_take ho] at d5
    (repeat first | refine HReg.step ?_ | refine HCode.step ?_)
    rw [w2]
    exact ⟨m - 1, by omega, P1Inv.mk ⟨i + 1, S5, rfl, by omega, d5⟩⟩
  have h1 := ltB_false.1 h1
  rw [List.take_of_length_le (by omega), ops_fit ops _ rfl (by show 0 + _ ≤ 1099511627776; omega)] at d3
  have d3 : WAt H H3 g S3 ⟨1099511627776, allB ops, 0⟩ := d3
  generalize hA : allB ops = all at *
  (repeat first | refine HReg.step ?_ | refine HCode.step ?_)
  refine HCall.mk ⟨Try.f14, Try.func14, by rfl, by rfl⟩ ?_
  refine out_t d3 (by show all.length ≤ _; omega) fun a7 c7 H7 m7 => ?_
  have htold : W.told ⟨1099511627776, all, 0⟩ = all := if_pos rfl
  have herr : W.err ⟨1099511627776, all, 0⟩ = 0 := rfl
  rw [htold] at m7
  rw [htold, herr]
  have d7 := d3.upd0 m7.upd
  have u7 : Upd [] H H7 := d7.base
  have ro7 := ro.upd (S := []) u7 (.inr (Off.nil _))
  have bo7 : ∀ o ∈ ops, OpOk H7 o := fun o ho => (bo o ho).upd0 u7
  have hlen7 : W.out ⟨1099511627776, all, 0⟩ = all := rfl
  generalize hn : all.length = n at *
  have row7 := m7.own.rows
  (repeat first | refine HReg.step ?_ | refine HCode.step ?_)
  rw [eqB_self]
  (repeat first | refine HReg.step ?_ | refine HCode.step ?_)
  refine HCall.mk ⟨Try.f19, Try.func19, by rfl, by rfl⟩ ?_
  refine len_t d7 ?_
  rw [hlen7, hn]
  (repeat first | refine HReg.step ?_ | refine HCode.step ?_)
  rw [eqB_self]
  (repeat first | refine HReg.step ?_ | refine HCode.step ?_)
  refine HCall.mk ⟨Try.f9, Try.func9, by rfl, by rfl⟩ ?_
  refine newR_t row7 hn (by omega) fun g9 S9 H9 d9 => ?_
  have row9 := row7.upd (S := []) d9.base (.inr (Off.nil _))
  (repeat first | refine HReg.step ?_ | refine HCode.step ?_)
  refine append_own (xs := []) (OwnRow.nil _ _ _) row9 hn (by omega) fun aA cA HA oA uA fA => ?_
  rw [List.nil_append] at oA
  have mA : Made H9 HA 5 1 aA (0 + n) cA (u8s all) := ⟨oA, uA, fun p hp => by
    rcases fA p hp with h | h
    · cases h
    · exact h⟩
  (repeat first | refine HReg.step ?_ | refine HCode.step ?_)
  refine HReq.mk (by decide) ?_
  (repeat first | refine HReg.step ?_ | refine HCode.step ?_)
  refine HNew.mk fun bB hB => ?_
  have uB : Upd [] HA (HA.upd bB (.cells (u8s [9]).toArray 5)) := Upd.new hB _
  have rB : RowAt (HA.upd bB (.cells (u8s [9]).toArray 5)) (some ⟨bB, 0, none⟩) (u8s [9]) := row_lit (upd_same _ _ _) rfl
  (repeat first | refine HReg.step ?_ | refine HCode.step ?_)
  refine append_made (mA.step uB) rB rfl (by omega) fun aC cC HC mC => ?_
  (repeat first | refine HReg.step ?_ | refine HCode.step ?_)
  refine HCall.mk ⟨Try.f9, Try.func9, by rfl, by rfl⟩ ?_
  refine newR_t mC.own.rows (by rw [List.length_append, hn, Nat.zero_add]; rfl) (by omega) fun g10 S10 HD d10 => ?_
  have d9D := (d9.upd0 mC.upd).upd0 d10.base
  have ap910 : Apart S9 S10 := (Apart.new d10.new (d9.upd0 mC.upd).live).symm
  have d10 := (d10.back mC.upd).back d9.base
  (repeat first | refine HReg.step ?_ | refine HCode.step ?_)
  refine HCall.mk ⟨Try.f8, Try.func8, by rfl, by rfl⟩ ?_
  refine newW_t (n := (n : Int)) (by omega) fun g11 T11 HE d11 => ?_
  have e11 : (max (n : Int) 0).toNat = n := by omega
  rw [e11] at d11
  have a911 : Apart S9 T11 := (Apart.new d11.new d9D.live).symm
  have a1011 : Apart S10 T11 := (Apart.new d11.new d10.live).symm
  have d9E := d9D.upd0 d11.base
  have d10E := d10.upd0 d11.base
  have d11 := d11.back d9D.base
  have wn : wr .i64 ((n : Int) - 1) = (n : Int) - 1 := wr_i64 (by omega) (by omega)
  (repeat first | refine HReg.step ?_ | refine HCode.step ?_)
  rw [wn]
  refine HCall.mk ⟨Try.f8, Try.func8, by rfl, by rfl⟩ ?_
  refine newW_t (n := (n : Int) - 1) (by omega) fun g12 T12 HF d12 => ?_
  have e12 : (max ((n : Int) - 1) 0).toNat = n - 1 := by omega
  rw [e12] at d12
  have a912 : Apart S9 T12 := (Apart.new d12.new d9E.live).symm
  have a1012 : Apart S10 T12 := (Apart.new d12.new d10E.live).symm
  have a1112 : Apart T11 T12 := (Apart.new d12.new d11.live).symm
  have d9F := d9E.upd0 d12.base
  have d10F := d10E.upd0 d12.base
  have d11F := d11.upd0 d12.base
  have d12F := d12.back d9E.base
  have hs9 : ∀ (i : Nat) (o : Opk), ops[i]? = some o → (R.readsAll ⟨all, 0⟩ (ops.take i)).reads o = (true, R.readsAll ⟨all, 0⟩ (ops.take (i + 1))) := fun i o ho => by
    have := readsAll_step (t := []) hfit ho
    rw [List.append_nil, hA] at this; exact this
  have hs10 : ∀ (i : Nat) (o : Opk), ops[i]? = some o → (R.readsAll ⟨all ++ [9], 0⟩ (ops.take i)).reads o = (true, R.readsAll ⟨all ++ [9], 0⟩ (ops.take (i + 1))) := fun i o ho => by
    have := readsAll_step (t := [9]) hfit ho
    rw [hA] at this; exact this
  (repeat first | refine HReg.step ?_ | refine HCode.step ?_)
  refine hloopC [4, 13, 67, 68, 69, 70, 71, 72, 73, 74, 75, 76, 77, 78, 79, 80, 81, 82, 83, 84, 85, 86, 87, 88, 89, 90, 91, 92, 93, 94, 95, 96, 97, 98, 99, 100] [13] (P2Inv H7 g9 g10 g11 g12 S9 S10 ⟨all, 0⟩ ⟨all ++ [9], 0⟩ ⟨n, [], 0⟩ ⟨n - 1, [], 0⟩ ops) rfl (by repeat' first | exact Resp.retD | exact Resp1.valuesK | refine Resp.blockD ?_ | refine Resp.thenD ?_ ?_ | refine Resp.hcode ?_) ?_ ?_
  · exact ⟨ops.length, P2Inv.mk ⟨0, T11, T12, rfl, rfl, d9F, d10F, d11F, d12F, a911, a912, a1011, a1012, a1112⟩⟩
  rintro q _ fe2 HG ⟨j, T11', T12', rfl, hqj, e9, e10, e11', e12', b911, b912, b1011, b1012, b1112⟩
  have hl11 := ops_len (ops.take j) ⟨n, [], 0⟩
  have hl12 := ops_len (ops.take j) ⟨n - 1, [], 0⟩
  have hz11 : (⟨n, [], 0⟩ : W).out.length = 0 := rfl
  have hz12 : (⟨n - 1, [], 0⟩ : W).out.length = 0 := rfl
  have htj := opsLen_take ops j
  (repeat first | refine HReg.step ?_ | refine HCode.step ?_)
  refine hif (fun h2 => ?_) (fun h2 => ?_)
  · have h2 := ltB_true.1 h2
    obtain ⟨o, ho⟩ : ∃ o, ops[j]? = some o := ⟨ops[j]'(by omega), by simp⟩
    have hom := bo7 o (List.mem_of_getElem? ho)
    have hol := opLen_le ho
    have roG := ro7.upd (S := []) e9.base (.inr (Off.nil _))
    obtain ⟨ba, bo', rfl, _⟩ := roG _ _ (orow_get ho 0 _ rfl)
    have w2 : wr .i64 ((j : Int) + 1) = ((j + 1 : Nat) : Int) := by rw [wr_i64 (by omega) (by omega)]; omega
    (repeat first | refine HReg.step ?_ | refine HCode.step ?_)
    refine HReq.mk ⟨by omega, by omega⟩ ?_
    (repeat first | refine HReg.step ?_ | refine HCode.step ?_)
    refine HLoadN_op roG ho ?_
    (repeat first | refine HReg.step ?_ | refine HCode.step ?_)
    refine HCall.mk ⟨Try.f30, Try.func30, by rfl, by rfl⟩ ?_
    refine reads_t e9 hom (by omega) fun HI i9 u9 => ?_
    rw [hs9 j o ho] at i9
    rw [hs9 j o ho]
    have i10 := e10.upd u9 (notg ap910.symm e9.mem) (noneg e9.new e9.mem)
    have i11 := e11'.upd u9 (notg b911.symm e9.mem) (noneg e9.new e9.mem)
    have i12 := e12'.upd u9 (notg b912.symm e9.mem) (noneg e9.new e9.mem)
    have roI := ro7.upd (S := []) i9.base (.inr (Off.nil _))
    (repeat first | refine HReg.step ?_ | refine HCode.step ?_)
    refine HReq.mk ⟨by omega, by omega⟩ ?_
    (repeat first | refine HReg.step ?_ | refine HCode.step ?_)
    refine HLoadN_op roI ho ?_
    (repeat first | refine HReg.step ?_ | refine HCode.step ?_)
    refine HCall.mk ⟨Try.f30, Try.func30, by rfl, by rfl⟩ ?_
    refine reads_t i10 hom (by omega) fun HJ j10 u10 => ?_
    rw [hs10 j o ho] at j10
    rw [hs10 j o ho]
    have j9 := i9.upd u10 (notg ap910 i10.mem) (noneg i10.new i10.mem)
    have j11 := i11.upd u10 (notg b1011.symm i10.mem) (noneg i10.new i10.mem)
    have j12 := i12.upd u10 (notg b1012.symm i10.mem) (noneg i10.new i10.mem)
    have roJ := ro7.upd (S := []) j9.base (.inr (Off.nil _))
    (repeat first | refine HReg.step ?_ | refine HCode.step ?_)
    refine HReq.mk ⟨by omega, by omega⟩ ?_
    (repeat first | refine HReg.step ?_ | refine HCode.step ?_)
    refine HLoadN_op roJ ho ?_
    (repeat first | refine HReg.step ?_ | refine HCode.step ?_)
    refine HCall.mk ⟨Try.f12, Try.func12, by rfl, by rfl⟩ ?_
    refine write_t j11 hom (by omega) fun T11k HK k11 f11 => ?_
    rw [← ops_take ho] at k11
    have k9 := j9.upd f11.upd b911 j11.new
    have k10 := j10.upd f11.upd b1011 j11.new
    have k12 := j12.upd f11.upd b1112.symm j11.new
    have c911 := (b911.symm.foot f11 j9.live).symm
    have c1011 := (b1011.symm.foot f11 j10.live).symm
    have c1112 := b1112.foot f11 j12.live
    have roK := ro7.upd (S := []) k9.base (.inr (Off.nil _))
    (repeat first | refine HReg.step ?_ | refine HCode.step ?_)
    refine HReq.mk ⟨by omega, by omega⟩ ?_
    (repeat first | refine HReg.step ?_ | refine HCode.step ?_)
    refine HLoadN_op roK ho ?_
    (repeat first | refine HReg.step ?_ | refine HCode.step ?_)
    refine HCall.mk ⟨Try.f12, Try.func12, by rfl, by rfl⟩ ?_
    refine write_t k12 hom (by omega) fun T12k HL l12 f12 => ?_
    rw [← ops_take ho] at l12
    have l9 := k9.upd f12.upd b912 k12.new
    have l10 := k10.upd f12.upd b1012 k12.new
    have l11 := k11.upd f12.upd c1112 k12.new
    have c912 := (b912.symm.foot f12 k9.live).symm
    have c1012 := (b1012.symm.foot f12 k10.live).symm
    have c1112 := (c1112.symm.foot f12 k11.live).symm
    (repeat first | refine HReg.step ?_ | refine HCode.step ?_)
    rw [w2]
    exact ⟨q - 1, by omega, P2Inv.mk ⟨j + 1, T11k, T12k, rfl, by omega, l9, l10, l11, l12, c911, c912, c1011, c1012, c1112⟩⟩
  have h2 := ltB_false.1 h2
  rw [List.take_of_length_le (by omega)] at e9 e10 e11' e12' hl11 hl12
  have r9 : R.readsAll ⟨all, 0⟩ ops = ⟨[], 0⟩ := by
    have := readsAll_back ops [] hfit
    rw [List.append_nil, hA] at this; exact this
  have r10 : R.readsAll ⟨all ++ [9], 0⟩ ops = ⟨[9], 0⟩ := by
    have := readsAll_back ops [9] hfit
    rw [hA] at this; exact this
  rw [r9] at e9
  rw [r10] at e10
  have s11 : W.ops ⟨n, [], 0⟩ ops = ⟨n, all, 0⟩ := by
    rw [ops_fit ops ⟨n, [], 0⟩ rfl (by show 0 + (allB ops).length ≤ n; rw [hA]; omega), hA]; rfl
  rw [s11] at e11'
  (repeat first | refine HReg.step ?_ | refine HCode.step ?_)
  refine HCall.mk ⟨Try.f14, Try.func14, by rfl, by rfl⟩ ?_
  refine out_t e11' (by show all.length ≤ _; omega) fun aM cM HM mM => ?_
  have htold2 : W.told ⟨n, all, 0⟩ = all := if_pos rfl
  have herr2 : W.err ⟨n, all, 0⟩ = 0 := rfl
  rw [htold2, herr2]
  generalize hw12 : W.ops ⟨n - 1, [], 0⟩ ops = w12 at *
  (repeat first | refine HReg.step ?_ | refine HCode.step ?_)
  refine HCall.mk ⟨Try.f14, Try.func14, by rfl, by rfl⟩ ?_
  refine out_t (e12'.upd0 mM.upd) (by omega) fun aN cN HN mN => ?_
  have d9N := (e9.upd0 mM.upd).upd0 mN.upd
  have d10N := (e10.upd0 mM.upd).upd0 mN.upd
  have d12N := (e12'.upd0 mM.upd).upd0 mN.upd
  have fin9 : R.fin ⟨[], 0⟩ = 0 := by unfold R.fin; rw [if_neg (by simp)]
  have fin10 : R.fin ⟨[9], 0⟩ = 5 := by unfold R.fin; rw [if_pos (by simp)]
  (repeat first | refine HReg.step ?_ | refine HCode.step ?_)
  refine HCall.mk ⟨Try.f28, Try.func28, by rfl, by rfl⟩ ?_
  refine end_t d9N ?_
  rw [fin9]
  (repeat first | refine HReg.step ?_ | refine HCode.step ?_)
  rw [eqB_self]
  (repeat first | refine HReg.step ?_ | refine HCode.step ?_)
  refine HCall.mk ⟨Try.f24, Try.func24, by rfl, by rfl⟩ ?_
  refine left_t d9N ?_
  have z9 : ((⟨[], 0⟩ : R).rest.length : Int) = 0 := rfl
  have z10 : ((⟨[9], 0⟩ : R).rest.length : Int) = 1 := rfl
  have z10e : (⟨[9], 0⟩ : R).err = 0 := rfl
  rw [z9]
  (repeat first | refine HReg.step ?_ | refine HCode.step ?_)
  rw [eqB_self]
  (repeat first | refine HReg.step ?_ | refine HCode.step ?_)
  refine HCall.mk ⟨Try.f28, Try.func28, by rfl, by rfl⟩ ?_
  refine end_t d10N ?_
  rw [fin10]
  (repeat first | refine HReg.step ?_ | refine HCode.step ?_)
  rw [eqB_self]
  (repeat first | refine HReg.step ?_ | refine HCode.step ?_)
  refine HCall.mk ⟨Try.f26, Try.func26, by rfl, by rfl⟩ ?_
  refine err_t d10N ?_
  rw [z10e]
  (repeat first | refine HReg.step ?_ | refine HCode.step ?_)
  rw [eqB_self]
  (repeat first | refine HReg.step ?_ | refine HCode.step ?_)
  refine HCall.mk ⟨Try.f24, Try.func24, by rfl, by rfl⟩ ?_
  refine left_t d10N ?_
  rw [z10]
  (repeat first | refine HReg.step ?_ | refine HCode.step ?_)
  rw [eqB_self]
  (repeat first | refine HReg.step ?_ | refine HCode.step ?_)
  refine hif (fun h => absurd rfl (not_eqB_true.1 h)) (fun _ => ?_)
  (repeat first | refine HReg.step ?_ | refine HCode.step ?_)
  have uN : Upd [] H HN := u7.trans d9N.base
  refine hif (fun h4 => ?_) (fun h4 => ?_)
  · have h4 := eqB_true.1 h4
    have hn0 : n = 0 := by omega
    have hw : w12 = ⟨0, [], 0⟩ := by
      rw [← hw12, ops_fit ops ⟨n - 1, [], 0⟩ rfl (by show 0 + (allB ops).length ≤ n - 1; rw [hA]; omega), hA]
      have : all = [] := List.length_eq_zero_iff.1 (by omega)
      rw [this, hn0]; rfl
    subst hw
    have t1 : W.told ⟨0, [], 0⟩ = [] := if_pos rfl
    have t2 : W.err ⟨0, [], 0⟩ = 0 := rfl
    rw [t1, t2]
    (repeat first | refine HReg.step ?_ | refine HCode.step ?_)
    rw [eqB_self]
    (repeat first | refine HReg.step ?_ | refine HCode.step ?_)
    refine (show K (.bool (eqB ((([] : List UInt8).length : Nat) : Int) 0)) HN from ?_)
    rw [show eqB ((([] : List UInt8).length : Nat) : Int) 0 = true from eqB_true.2 rfl]
    exact hk HN uN
  have h4 := eqB_false.1 h4
  have hov : w12.err = 3 := by
    rw [← hw12]
    exact ops_over ops ⟨n - 1, [], 0⟩ rfl (Nat.zero_le _) (by show n - 1 < 0 + (allB ops).length; rw [hA]; omega)
  have hwok : WOk w12 := e12'.ok
  have hwl : w12.lim = n - 1 := by rw [← hw12]; exact ops_lim ops _
  have hwle := hwok.le
  have t1 : w12.told = [] := by unfold W.told; rw [if_neg (by rw [hov]; decide)]
  rw [t1, hov]
  (repeat first | refine HReg.step ?_ | refine HCode.step ?_)
  rw [eqB_self 3]
  (repeat first | refine HReg.step ?_ | refine HCode.step ?_)
  have z0 : eqB ((([] : List UInt8).length : Nat) : Int) 0 = true := eqB_true.2 rfl
  rw [z0]
  (repeat first | refine HReg.step ?_ | refine HCode.step ?_)
  refine HCall.mk ⟨Try.f19, Try.func19, by rfl, by rfl⟩ ?_
  refine len_t d12N ?_
  (repeat first | refine HReg.step ?_ | refine HCode.step ?_)
  refine hif (fun h5 => ?_) (fun h5 => ?_)
  · have h6 : ltB (w12.out.length : Int) (n : Int) = true := ltB_true.2 (by omega)
    rw [h6] at h5; cases h5
  have wn1 : wr .i64 ((n : Int) - 1) = ((n - 1 : Nat) : Int) := by rw [wn]; omega
  (repeat first | refine HReg.step ?_ | refine HCode.step ?_)
  rw [wn1]
  refine HCall.mk ⟨Try.f31, Try.func31, by rfl, by rfl⟩ ?_
  refine rest_t (by omega) ?_
  obtain ⟨jj, hj, hje⟩ : ∃ jj, jj ≤ n - 1 ∧ restN cut (n - 1) = jj := ⟨_, restN_le cut (n - 1), rfl⟩
  rw [hje]
  have hcap := m7.own.le
  have rowN := row7.upd (S := []) d9N.base (.inr (Off.nil _))
  have roN := ro7.upd (S := []) d9N.base (.inr (Off.nil _))
  have boN : ∀ o ∈ ops, OpOk HN o := fun o ho => (bo7 o ho).upd0 d9N.base
  have rowJ : RowAt HN a7 (u8s (all.take jj)) := by
    have := rowN.take jj
    unfold u8s at this ⊢
    rw [List.map_take]; exact this
  (repeat first | refine HReg.step ?_ | refine HCode.step ?_)
  refine HReq.mk ⟨by omega, by omega⟩ ?_
  (repeat first | refine HReg.step ?_ | refine HCode.step ?_)
  refine HCall.mk ⟨Try.f9, Try.func9, by rfl, by rfl⟩ ?_
  refine newR_t (n := jj) rowJ (by rw [List.length_take]; omega) (by omega) fun g18 S18 HO d18 => ?_
  (repeat first | refine HReg.step ?_ | refine HCode.step ?_)
  refine hloopC [19, 170, 171, 172, 173, 174, 175, 176, 177, 178, 179, 180, 181] [19] (P3Inv HN g18 S18 ⟨all.take jj, 0⟩ ops) rfl (by repeat' first | exact Resp.retD | exact Resp1.valuesK | refine Resp.blockD ?_ | refine Resp.thenD ?_ ?_ | refine Resp.hcode ?_) ?_ ?_
  · exact ⟨ops.length, P3Inv.mk ⟨0, rfl, rfl, d18⟩⟩
  rintro q _ fe3 HP ⟨i, rfl, hqi, d19⟩
  (repeat first | refine HReg.step ?_ | refine HCode.step ?_)
  refine hif (fun h6 => ?_) (fun h6 => ?_)
  · have h6 := ltB_true.1 h6
    obtain ⟨o, ho⟩ : ∃ o, ops[i]? = some o := ⟨ops[i]'(by omega), by simp⟩
    have hom := boN o (List.mem_of_getElem? ho)
    have hol := opLen_le ho
    have roP := roN.upd (S := []) d19.base (.inr (Off.nil _))
    obtain ⟨ba, bo', rfl, _⟩ := roP _ _ (orow_get ho 0 _ rfl)
    have w2 : wr .i64 ((i : Int) + 1) = ((i + 1 : Nat) : Int) := by rw [wr_i64 (by omega) (by omega)]; omega
    (repeat first | refine HReg.step ?_ | refine HCode.step ?_)
    refine HReq.mk ⟨by omega, by omega⟩ ?_
    (repeat first | refine HReg.step ?_ | refine HCode.step ?_)
    refine HLoadN_op roP ho ?_
    (repeat first | refine HReg.step ?_ | refine HCode.step ?_)
    refine HCall.mk ⟨Try.f30, Try.func30, by rfl, by rfl⟩ ?_
    refine reads_t d19 hom (by omega) fun HQ d20 u20 => ?_
    rw [← readsAll_take ho] at d20
    (repeat first | refine HReg.step ?_ | refine HCode.step ?_)
    rw [w2]
    exact ⟨q - 1, by omega, P3Inv.mk ⟨i + 1, rfl, by omega, d20⟩⟩
  have h6 := ltB_false.1 h6
  rw [List.take_of_length_le (l := ops) (i := i) (by omega)] at d19
  have hcut := readsAll_cut ops jj hfit (by rw [hA]; omega)
  rw [hA] at hcut
  have hfin : (R.readsAll ⟨all.take jj, 0⟩ ops).fin = 4 := by unfold R.fin; rw [if_neg (fun h => absurd h.1 (by rw [hcut]; decide))]; exact hcut
  (repeat first | refine HReg.step ?_ | refine HCode.step ?_)
  refine HCall.mk ⟨Try.f26, Try.func26, by rfl, by rfl⟩ ?_
  refine err_t d19 ?_
  rw [hcut]
  (repeat first | refine HReg.step ?_ | refine HCode.step ?_)
  rw [eqB_self 4]
  (repeat first | refine HReg.step ?_ | refine HCode.step ?_)
  refine HCall.mk ⟨Try.f28, Try.func28, by rfl, by rfl⟩ ?_
  refine end_t d19 ?_
  rw [hfin]
  (repeat first | refine HReg.step ?_ | refine HCode.step ?_)
  refine (show K (.bool (eqB 4 4)) HP from ?_)
  rw [eqB_self 4]
  exact hk HP (uN.trans d19.base)
end Go.Proofs.Ytjnahdcolacldaa
