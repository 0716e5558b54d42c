import Derived.Test.YtfcmjomnpahllaaA6
namespace Go.Proofs.Ytfcmjomnpahllaa
open Go Hv
set_option linter.unusedVariables false
set_option linter.unusedSimpArgs false
set_option maxRecDepth 10000
set_option maxHeartbeats 1000000
/-! Texts -/
theorem plain_txts (ls : List (List UInt8)) : ∀ v ∈ txts ls, Value.plain v = true := fun v hv => by
  obtain ⟨b, _, rfl⟩ := List.mem_map.1 hv; rfl
theorem txts_append (a b : List (List UInt8)) : txts (a ++ b) = txts a ++ txts b := by simp [txts]
theorem app_txts {a b : Option Addr} {k cap m c : Nat} {xs ys : List (List UInt8)} {H0 H : Heap} {K : Value → Heap → Prop} (hm : Made H0 H 9 1 a k cap (txts xs)) (hy : RowAt H b (txts ys)) (hyl : ys.length = m) (hb : k + m ≤ 8589934592)
    (hk : ∀ a' cap' H', Made H0 H' 9 1 a' (k + m) cap' (txts (xs ++ ys)) → Upd (blk a) H H' → K (.slice a' (k + m) cap') H') :
    HSem Try.prog (Builtin.append_ #[26, 26] 26 [.slice a k cap, .slice b m c].toArray) H K := by
  refine append_rows (ie := Try.t9) (z := .string ⟨#[]⟩) (xs := txts xs) (ys := txts ys) Try.underlying26 rfl rfl rfl (by decide) hm.own hy ?_ (plain_txts _) ?_ (by omega) fun a' cap' H' o u f => hk a' cap' H' ⟨?_, ?_, ?_⟩ u
  · rw [txts_length, hyl]; exact (Nat.mul_one _).symm
  · show (k + m) * 16 ≤ _; omega
  · rw [txts_append]; exact o
  · refine Upd.drop hm.upd u fun b hb => ?_
    obtain ⟨p, hp, rfl⟩ := blk_of hb
    exact hm.new p hp
  · intro p hp
    rcases f p hp with h | h
    · exact hm.new p h
    · exact Upd.none (S := []) hm.upd (by simp) h
theorem count_lt (r : R) (most : Int) : (r.count most).1 < 4294967296 := by
  rw [count_bnd]
  cases h : r.bnd most with
  | mk o r' =>
    cases o with
    | none => exact (by decide : 0 < 4294967296)
    | some n => exact (bnd_some h).2.2.2.1
structure TxInv (H0 Hb : Heap) (g : Nat) (S : List Nat) (each : Int) (n : Nat) (r0 : R) (a0 : Option Addr) (w0 : List UInt8) (m : Nat) (vs : List Value) (H' : Heap) : Prop where
  ex : ∃ (i : Nat) (a : Option Addr) (c : Nat) (ts : List (List UInt8)) (r : R), vs = [.slice a i c, .int .i64 (i : Int)] ∧ m + i = n ∧ RAt H0 H' g S r ∧ OwnRow H' 9 1 a i c (txts ts) ∧ (∀ p, a = some p → Hb p.block = none) ∧ RowAt H' a0 (u8s w0) ∧ Upd [g] Hb H' ∧ R.many each n r0 = (ts ++ (R.many each m r).1, (R.many each m r).2)
theorem many_step (each : Int) (m : Nat) (r : R) (h : (r.text each).2.err = 0) : R.many each (m + 1) r = ((r.text each).1 :: (R.many each m (r.text each).2).1, (R.many each m (r.text each).2).2) := by
  show (if _ then _ else _) = _
  rw [if_neg (by rw [h]; simp)]
theorem many_stop (each : Int) (m : Nat) (r : R) (h : (r.text each).2.err ≠ 0) : R.many each (m + 1) r = ([(r.text each).1], (r.text each).2) := by
  show (if _ then _ else _) = _
  rw [if_pos h]
section
variable {H0 H : Heap} {g : Nat} {S : List Nat} {r : R} {K : Value → Heap → Prop}
theorem rtexts_t {most each : Int} (d : RAt H0 H g S r) (hm : most ≤ 9223372036854775807) (he : each ≤ 9223372036854775807)
    (hk : ∀ a c H', RAt H0 H' g S (r.texts most each).2 → Upd [g] H H' → OwnRow H' 9 1 a (r.texts most each).1.length c (txts (r.texts most each).1) → (∀ p, a = some p → H p.block = none) → K (.slice a (r.texts most each).1.length c) H') :
    HCalls Try.prog 79 [.pointer (some ⟨g, 0, none⟩), .int .i64 most, .int .i64 each] H K := by
  refine hcalls (fn := Try.f79) [] mixed Try.func79 rfl rfl (by decide +kernel) ?_
  obtain ⟨a0, c0, rfl, o0, w0, hc0, hl0⟩ := d.ex
  have hg0 := RAt.notin o0 hl0
  have off0 : Off [g] a0 := off_notin fun b hb hm => hg0 (by rw [← List.mem_singleton.1 hm]; exact hb)
  (repeat first | refine HReg.step ?_ | refine HCode.step ?_)
  refine HLoad.one (v := .slice a0 r.rest.length c0) (by exact o0.rows.get (i := 0) rfl) ?_
  (repeat first | refine HReg.step ?_ | refine HCode.step ?_)
  refine HCall.mk ⟨Try.f76, Try.func76, by rfl, by rfl⟩ ?_
  refine count_t d hm fun H1 d1 u1 => ?_
  have hn := count_lt r most
  have w1 := w0.upd u1 (.inr off0)
  -- behind the loop
  have tail : ∀ (a : Option Addr) (i c : Nat) (ts : List (List UInt8)) (rn : R) (H2 : Heap), RAt H0 H2 g (g :: blk a0) rn → OwnRow H2 9 1 a i c (txts ts) → (∀ p, a = some p → H p.block = none) → RowAt H2 a0 (u8s r.rest) → Upd [g] H H2 → R.many each (r.count most).1 (r.count most).2 = (ts, rn) →
      (rn.err ≠ 0 → ∀ H3, RAt H0 H3 g (g :: blk a0) ⟨r.rest, rn.err⟩ → Upd [g] H H3 → K (.slice none 0 0) H3) ∧ (rn.err = 0 → K (.slice a i c) H2) := by
    intro a i c ts rn H2 dn ro hnew wn un hmany
    have e : r.texts most each = if rn.err ≠ 0 then ([], ⟨r.rest, rn.err⟩) else (ts, rn) := by unfold R.texts; rw [hmany]
    constructor
    · intro hne H3 d3 u3
      rw [if_pos hne] at e
      rw [e] at hk
      exact hk none 0 H3 d3 u3 (OwnRow.nil _ _ _) (fun p hp => by cases hp)
    · intro h0
      rw [if_neg (by rw [h0]; simp)] at e
      rw [e] at hk
      have hl : ts.length = i := by
        have := ro.len
        rw [txts_length, Nat.mul_one] at this; exact this
      subst hl
      exact hk a c H2 dn un ro hnew
  (repeat first | refine HReg.step ?_ | refine HCode.step ?_)
  refine hloopC [9, 18, 19, 20, 21, 22, 23, 24, 25, 26, 27, 28, 29, 30, 31] [9, 18] (TxInv H0 H g (g :: blk a0) each (r.count most).1 (r.count most).2 a0 r.rest) rfl (by repeat' first | exact Resp.retD | exact Resp1.valuesK | refine Resp.blockD ?_ | refine Resp.thenD ?_ ?_ | refine Resp.hcode ?_) ?_ ?_
  · exact ⟨(r.count most).1, TxInv.mk ⟨0, none, 0, [], (r.count most).2, rfl, rfl, d1, OwnRow.nil _ _ _, fun p hp => (by cases hp), w1, u1, rfl⟩⟩
  rintro m _ fe H2 ⟨i, a, c, ts, rn, rfl, hmi, d2, ro, hnew, w2, u2, hmany⟩
  (repeat first | refine HReg.step ?_ | refine HCode.step ?_)
  refine hif (fun h1 => ?_) (fun h1 => ?_)
  · have h1 := ltB_true.1 h1
    obtain ⟨k, rfl⟩ : ∃ k, m = k + 1 := ⟨m - 1, by omega⟩
    (repeat first | refine HReg.step ?_ | refine HCode.step ?_)
    refine HCall.mk ⟨Try.f78, Try.func78, by rfl, by rfl⟩ ?_
    refine rtext_t d2 he fun H3 d3 u3 => ?_
    have hga : g ∉ blk a := fun hb => by
      obtain ⟨p, hp, hpe⟩ := blk_of hb
      have h2 := hnew p hp
      rw [hpe] at h2
      exact d.live g List.mem_cons_self h2
    have ro3 := ro.upd u3 (off_notin fun b hb hm => hga (by rw [← List.mem_singleton.1 hm]; exact hb))
    have w3 := w2.upd u3 (.inr off0)
    have u23 := u2.trans u3
    (repeat first | refine HReg.step ?_ | refine HCode.step ?_)
    refine HReq.mk (by decide) ?_
    (repeat first | refine HReg.step ?_ | refine HCode.step ?_)
    refine HNew.mk fun b hb => ?_
    have ub : Upd [] H3 (H3.upd b (.cells [Value.string (bs (rn.text each).1)].toArray 9)) := Upd.new hb _
    have rb : RowAt (H3.upd b (.cells [Value.string (bs (rn.text each).1)].toArray 9)) (some ⟨b, 0, none⟩) (txts [(rn.text each).1]) := RowAt.of_cells (upd_same _ _ _)
    (repeat first | refine HReg.step ?_ | refine HCode.step ?_)
    refine append_rows (ie := Try.t9) (z := .string ⟨#[]⟩) (xs := txts ts) (ys := txts [(rn.text each).1]) Try.underlying26 rfl rfl rfl (by decide) (ro3.upd ub (Off.nil _)) rb rfl (plain_txts _) (by show (i + 1) * 16 ≤ _; omega) (by omega) fun a4 c4 H4 o4 u4 f4 => ?_
    rw [← txts_append] at o4
    have hbl : ∀ b' ∈ blk a, H b' = none := fun b' hb' => by
      obtain ⟨p, hp, rfl⟩ := blk_of hb'
      exact hnew p hp
    have d4 : RAt H0 H4 g (g :: blk a0) (rn.text each).2 := (d3.upd0 ub).upd u4 (fun b' hb' hm => d.live b' hb' (hbl b' hm)) (fun b' hb' => by
      have h5 := hbl b' hb'
      exact Upd.none (S := []) d.base (by simp) h5)
    have u4' : Upd [g] H H4 := fun x hx hn => by
      have e1 := u23 x hx hn
      have e2 := ub x (by simp) (by rw [e1]; exact hn)
      have e3 := u4 x (fun hm => hn (hbl x hm)) (by rw [e2, e1]; exact hn)
      rw [e3, e2, e1]
    have w4 : RowAt H4 a0 (u8s r.rest) := (w3.upd (S := []) ub (.inr (Off.nil _))).upd u4 (.inr (off_notin fun b' hb' hm => d.live b' (List.mem_cons_of_mem _ hb') (hbl b' hm)))
    have hnew4 : ∀ p, a4 = some p → H p.block = none := fun p hp => by
      rcases f4 p hp with h | h
      · exact hnew p h
      · refine Classical.byContradiction fun hne => ?_
        have hx : p.block ≠ g := fun e => by
          have := d3.live g List.mem_cons_self
          rw [← e] at this
          have h7 := Upd.none (S := []) ub (by simp) h
          exact this h7
        have e1 := u23 p.block (by simpa using hx) hne
        have h7 := Upd.none (S := []) ub (by simp) h
        rw [e1] at h7; exact hne h7
    obtain ⟨aa, cc, eS, o5, _⟩ := d4.ex
    have w8 : wr .i64 ((i : Int) + 1) = ((i + 1 : Nat) : Int) := by rw [wr_i64 (by omega) (by omega)]; omega
    (repeat first | refine HReg.step ?_ | refine HCode.step ?_)
    refine HLoad.one (v := .int .i64 (rn.text each).2.err) (by exact o5.rows.get (i := 1) rfl) ?_
    (repeat first | refine HReg.step ?_ | refine HCode.step ?_)
    refine hif (fun h2 => ?_) (fun h2 => ?_)
    · have h2 := not_eqB_true.1 h2
      rw [many_stop each k rn h2] at hmany
      have T := (tail a4 (i + 1) c4 (ts ++ [(rn.text each).1]) (rn.text each).2 H4 d4 o4 hnew4 w4 u4' hmany).1 h2
      (repeat first | refine HReg.step ?_ | refine HCode.step ?_)
      refine HLoad.one (v := .int .i64 (rn.text each).2.err) (by exact o5.rows.get (i := 1) rfl) ?_
      (repeat first | refine HReg.step ?_ | refine HCode.step ?_)
      refine hif (fun _ => ?_) (fun h => absurd (not_eqB_false.1 h) h2)
      (repeat first | refine HReg.step ?_ | refine HCode.step ?_)
      refine store_row o5 (v := .slice a0 r.rest.length c0) rfl (i := 0) (by decide) (by rfl) fun H6 o6 u6 => ?_
      have hba : blk a0 = blk aa := by injection eS
      have o6' : OwnRow H6 126 1 (some ⟨g, 0, none⟩) 2 2 [.slice a0 r.rest.length c0, .int .i64 (rn.text each).2.err] := o6
      have d6 : RAt H0 H6 g (g :: blk a0) ⟨r.rest, (rn.text each).2.err⟩ := by
        refine ⟨d.lim, d4.er, Upd.drop d4.base u6 (fun b hb => by rw [List.mem_singleton.1 hb]; exact d.new g List.mem_cons_self), d.new, a0, c0, rfl, o6', w4.upd u6 (.inr off0), hc0, fun b hb => ?_⟩
        obtain ⟨cu, z, h⟩ := hl0 b hb
        have hbg : b ∉ [g] := fun hm => hg0 (by rw [← List.mem_singleton.1 hm]; exact hb)
        exact ⟨cu, z, by rw [(u4'.trans u6) b hbg (by rw [h]; simp), h]⟩
      (repeat first | refine HReg.step ?_ | refine HCode.step ?_)
      exact T H6 d6 (u4'.trans u6)
    · have h2 := not_eqB_false.1 h2
      rw [many_step each k rn h2] at hmany
      (repeat first | refine HReg.step ?_ | refine HCode.step ?_)
      rw [w8]
      exact ⟨k, by omega, TxInv.mk ⟨i + 1, a4, c4, ts ++ [(rn.text each).1], (rn.text each).2, rfl, by omega, d4, o4, hnew4, w4, u4', by rw [hmany]; simp⟩⟩
  · have h1 := ltB_false.1 h1
    obtain rfl : m = 0 := by omega
    have hmany' : R.many each (r.count most).1 (r.count most).2 = (ts, rn) := by rw [hmany]; show (ts ++ [], rn) = _; rw [List.append_nil]
    obtain ⟨T1, T2⟩ := tail a i c ts rn H2 d2 ro hnew w2 u2 hmany'
    obtain ⟨aa, cc, eS, o5, _⟩ := d2.ex
    (repeat first | refine HReg.step ?_ | refine HCode.step ?_)
    refine HLoad.one (v := .int .i64 rn.err) (by exact o5.rows.get (i := 1) rfl) ?_
    (repeat first | refine HReg.step ?_ | refine HCode.step ?_)
    refine hif (fun h2 => ?_) (fun h2 => ?_)
    · have h2 := not_eqB_true.1 h2
      (repeat first | refine HReg.step ?_ | refine HCode.step ?_)
      refine store_row o5 (v := .slice a0 r.rest.length c0) rfl (i := 0) (by decide) (by rfl) fun H6 o6 u6 => ?_
      have o6' : OwnRow H6 126 1 (some ⟨g, 0, none⟩) 2 2 [.slice a0 r.rest.length c0, .int .i64 rn.err] := o6
      have d6 : RAt H0 H6 g (g :: blk a0) ⟨r.rest, rn.err⟩ := by
        refine ⟨d.lim, d2.er, Upd.drop d2.base u6 (fun b hb => by rw [List.mem_singleton.1 hb]; exact d.new g List.mem_cons_self), d.new, a0, c0, rfl, o6', w2.upd u6 (.inr off0), hc0, fun b hb => ?_⟩
        obtain ⟨cu, z, h⟩ := hl0 b hb
        have hbg : b ∉ [g] := fun hm => hg0 (by rw [← List.mem_singleton.1 hm]; exact hb)
        exact ⟨cu, z, by rw [(u2.trans u6) b hbg (by rw [h]; simp), h]⟩
      (repeat first | refine HReg.step ?_ | refine HCode.step ?_)
      exact T1 h2 H6 d6 (u2.trans u6)
    · have h2 := not_eqB_false.1 h2
      (repeat first | refine HReg.step ?_ | refine HCode.step ?_)
      exact T2 h2
end
end Go.Proofs.Ytfcmjomnpahllaa
