import Derived.Test.YtaobgofbhommcaaB20
import Derived.Test.YtaobgofbhommcaaRw6
namespace Go.Proofs.Ytaobgofbhommcaa
open Go Hv Go.ChangeShapes Go.WideShapes Go.ChangeAt Go.RowKit
set_option linter.unusedVariables false
set_option linter.unusedSimpArgs false
set_option maxRecDepth 10000
set_option maxHeartbeats 1000000
/-! Scripts -/
def ocells (o : Int × List UInt8) : List Value := [.int .i64 o.1, .string (bs o.2)]
def orow : List (Int × List UInt8) → List Value
  | [] => []
  | o :: os => ocells o ++ orow os
theorem orow_length (os : List (Int × List UInt8)) : (orow os).length = os.length * 2 := by
  induction os with
  | nil => rfl
  | cons o os ih => simp only [orow, ocells, List.length_append, List.length_cons, List.length_nil, ih]; omega
theorem orow_get : ∀ {os : List (Int × List UInt8)} {i : Nat} {o : Int × List UInt8}, os[i]? = some o → ∀ (k : Nat) v, (ocells o)[k]? = some v → (orow os)[i * 2 + k]? = some v
  | o' :: os, 0, o, h, k, v, hv => by
    cases h
    have hk := (List.getElem?_eq_some_iff.1 hv).1
    unfold orow
    rw [Nat.zero_mul, Nat.zero_add, List.getElem?_append_left hk]; exact hv
  | o' :: os, i + 1, o, h, k, v, hv => by
    have := orow_get (os := os) (i := i) (by simpa using h) k v hv
    unfold orow
    have hl : (ocells o').length = 2 := rfl
    rw [List.getElem?_append_right (by omega), hl]
    rw [← this]; congr 1; omega
theorem orow_split : ∀ {os : List (Int × List UInt8)} {idx : Nat} {v : Value}, (orow os)[idx]? = some v → ∃ i k o, idx = i * 2 + k ∧ os[i]? = some o ∧ (ocells o)[k]? = some v
  | [], idx, v, h => by simp [orow] at h
  | o :: os, idx, v, h => by
    unfold orow at h
    have hl : (ocells o).length = 2 := rfl
    by_cases hi : idx < 2
    · rw [List.getElem?_append_left (by omega)] at h
      exact ⟨0, idx, o, by omega, rfl, h⟩
    · rw [List.getElem?_append_right (by omega)] at h
      obtain ⟨i, k, o', h1, h2, h3⟩ := orow_split h
      exact ⟨i + 1, k, o', by omega, by simpa using h2, h3⟩
theorem list2 {α : Type} {l : List α} (h : l.length = 2) : ∃ a b, l = [a, b] := by
  match l, h with
  | [a, b], _ => exact ⟨a, b, rfl⟩
theorem open_ops {T : Type} {enc : TypeId × Value → T} {w : World} {base : Nat} {spare : Nat → Bool} {held : Bool} {ts : List TypeId} {ds : List (DataW T)} {j fuel : Nat} {a : Option Addr} {len cap : Nat} {x : DataW T} {pl : List MemPlace}
    (hz : (DataW.weightsEach Try.prog ts ds).all (· ≤ reachBytes) = true) (hts : ts[j]? = some 22) (hds : ds[j]? = some x) (h : DataW.trod enc Try.prog w base spare held fuel 22 [.slice a len cap] = some (x, pl)) :
    ∃ ops : List (Int × List UInt8), RowAt (heapOf w) a (orow ops) ∧ ops.length = len ∧ (∀ o ∈ ops, o.2.length ≤ 140737488351232) ∧ len ≤ 140737488351232 := by
  rcases DataW.trod_slice Try.underlying22 h with ⟨hcs, hx⟩ | ⟨p, len', cap', elems, rest, n, _, hcs, hx, _, hl, _, hlen, hel, _, _⟩
  · cases hcs
    exact ⟨[], RowAt.nil _ _, rfl, fun o ho => by simp at ho, Nat.zero_le _⟩
  · cases hcs
    obtain ⟨rfl, rfl⟩ := Prod.mk.inj hx
    have hc36 : Try.prog.cellsOf 36 = 2 := by kernel_rfl
    have hb36 : Try.prog.bytesOf 36 = 24 := by kernel_rfl
    obtain ⟨ops, hol, hoq⟩ := exists_list (Q := fun i o => (∀ (k : Nat) v, (ocells o)[k]? = some v → w.cell? (p.add (i * 2 + k)) = some v) ∧ o.2.length ≤ 140737488351232) len (fun i hi => by
      have h4 := hel i hi
      rw [hc36] at h4
      cases hv : elems[i]? with
      | none => rw [List.getElem?_eq_none_iff] at hv; omega
      | some y =>
        rw [hv] at h4
        obtain ⟨cs, hcs, htr⟩ := Option.bind_eq_some_iff.1 h4
        obtain ⟨hcl, hcg⟩ := cells_get hcs
        obtain ⟨c0, c1, rfl⟩ := list2 hcl
        obtain ⟨parts, hd, fl⟩ := trod_field Try.underlying36 htr
        have hz5 := sized_elem_struct hz hts hds Try.underlying22 (i := i) (parts := parts) (by rw [List.getElem?_map, hv, ← hd]; rfl) Try.underlying36
        obtain ⟨n0, y0, pt0, tr0⟩ := fl 0 _ c0 rfl (by kernel_rfl) rfl
        obtain ⟨z0, he0, _, _⟩ := DataW.trod_int Try.underlying3 tr0
        cases he0
        obtain ⟨n1, y1, pt1, tr1⟩ := fl 1 _ c1 rfl (by kernel_rfl) rfl
        obtain ⟨s1, rfl, b1⟩ := open_string (j := 1) Try.underlying9 hz5 rfl pt1 tr1
        exact ⟨⟨z0, s1⟩, fun k v hk => by
          have := hcg k v hk
          rw [Addr.add_add] at this; exact this, b1⟩)
    refine ⟨ops, rowAt_of fun idx v hv => ?_, hol, fun o ho => ?_, ?_⟩
    · obtain ⟨i, k, o, rfl, h2, h3⟩ := orow_split hv
      exact (hoq i o h2).1 k v h3
    · obtain ⟨i, hi⟩ := List.getElem?_of_mem ho
      exact (hoq i o hi).2
    · have := sized_slice hz hts hds Try.underlying22
      rw [hb36, List.length_map, List.length_map, hlen] at this
      have hr : reachBytes = 140737488351232 := rfl
      omega
theorem RowAt.pair {H : Heap} {b off : Nat} {x y : Value} (hx : H.cell? ⟨b, off, none⟩ = some x) (hy : H.cell? ⟨b, off + 1, none⟩ = some y) : RowAt H (some ⟨b, off, none⟩) [x, y] := fun j v hj => by
  match j, hj with
  | 0, hj => cases hj; exact ⟨_, _, rfl, hx⟩
  | 1, hj => cases hj; exact ⟨_, _, rfl, hy⟩
/-! BloomPlays -/
structure BpInv (H0 : Heap) (sb g n h : Nat) (len : Nat) (m : Nat) (vs : List Value) (H' : Heap) : Prop where
  ex : ∃ (i : Nat) (s : SdS), vs = [.int .i64 (i : Int)] ∧ m + i = len ∧ Sd H0 H' sb s ∧ Old H' g n h
theorem bloomPlays_t {n h n2 h2 : Int} {a : Option Addr} {k c : Nat} {ops : List (Int × List UInt8)} {H : Heap} {K : Value → Heap → Prop} (ro : RowAt H a (orow ops)) (lo : ops.length = k) (bo : ∀ o ∈ ops, o.2.length ≤ 140737488351232) (bk : k ≤ 140737488351232)
    (hk : ∀ H', Upd [] H H' → K (.bool true) H') : HCalls Try.prog 3 [.int .i64 n, .int .i64 h, .int .i64 n2, .int .i64 h2, .slice a k c] H K := by
  refine hcalls (fn := Try.f3) [(17, [(0, 0), (1, 0), (2, 1), (3, 0), (4, 0), (5, 0), (6, 0), (7, 1), (8, 0), (9, 0), (10, 0), (11, 0), (12, 0), (13, 0), (14, 0), (15, 0), (16, 1), (17, 1), (18, 1), (19, 1), (20, 0), (21, 0), (22, 0), (23, 0)])] mixed Try.func3 rfl rfl (by decide +kernel) ?_
  (repeat first | refine HReg.step ?_ | refine HCode.step ?_)
  refine HCall.mk ⟨Try.f10, Try.func10, by rfl, by rfl⟩ ?_
  refine known_t fun H0 u0 => ?_
  (repeat first | refine HReg.step ?_ | refine HCode.step ?_)
  refine HCall.mk ⟨Try.f11, Try.func11, by rfl, by rfl⟩ ?_
  refine new_t (fun H1 hm u1 => ?_) fun gf bf H1 hm F1 => ?_
  · (repeat first | refine HReg.step ?_ | refine HCode.step ?_)
    refine HCall.mk ⟨Try.f12, Try.func12, by rfl, by rfl⟩ ?_
    refine rnew_t (fun _ => ?_) fun gp bp H2 hm2 => absurd hm2 hm
    (repeat first | refine HReg.step ?_ | refine HCode.step ?_)
    refine HCall.mk ⟨Try.f11, Try.func11, by rfl, by rfl⟩ ?_
    refine new_t (fun H3 hm3 u3 => ?_) fun gg bg H3 hm3 G3 => ?_
    · (repeat first | refine HReg.step ?_ | refine HCode.step ?_)
      refine HCall.mk ⟨Try.f12, Try.func12, by rfl, by rfl⟩ ?_
      refine rnew_t (fun _ => ?_) fun gp bp H2 hm2 => absurd hm2 hm3
      (repeat first | refine HReg.step ?_ | refine HCode.step ?_)
      refine hif (fun h => absurd rfl (not_eqB_true.1 h)) (fun _ => ?_)
      (repeat first | refine HReg.step ?_ | refine HCode.step ?_)
      refine hif (fun h => absurd rfl (not_eqB_true.1 h)) (fun _ => ?_)
      (repeat first | refine HReg.step ?_ | refine HCode.step ?_)
      exact hk H3 ((u0.trans u1).trans u3)
    · (repeat first | refine HReg.step ?_ | refine HCode.step ?_)
      refine HCall.mk ⟨Try.f12, Try.func12, by rfl, by rfl⟩ ?_
      refine rnew_t (fun hm2 => absurd hm3 hm2) fun gq bq H4 _ Q4 => ?_
      (repeat first | refine HReg.step ?_ | refine HCode.step ?_)
      refine hif (fun h => absurd rfl (not_eqB_true.1 h)) (fun _ => ?_)
      (repeat first | refine HReg.step ?_ | refine HCode.step ?_)
      refine hif (fun h => absurd rfl (not_eqB_true.1 h)) (fun _ => ?_)
      (repeat first | refine HReg.step ?_ | refine HCode.step ?_)
      exact hk H4 (((u0.trans u1).trans G3.upd).trans Q4.upd)
  · (repeat first | refine HReg.step ?_ | refine HCode.step ?_)
    refine HCall.mk ⟨Try.f12, Try.func12, by rfl, by rfl⟩ ?_
    refine rnew_t (fun hm2 => absurd hm hm2) fun gp bp H2 _ P2 => ?_
    (repeat first | refine HReg.step ?_ | refine HCode.step ?_)
    refine HCall.mk ⟨Try.f11, Try.func11, by rfl, by rfl⟩ ?_
    refine new_t (fun H3 hm3 u3 => ?_) fun gg bg H3 hm3 G3 => ?_
    · (repeat first | refine HReg.step ?_ | refine HCode.step ?_)
      refine HCall.mk ⟨Try.f12, Try.func12, by rfl, by rfl⟩ ?_
      refine rnew_t (fun _ => ?_) fun gp bp H2 hm2 => absurd hm2 hm3
      (repeat first | refine HReg.step ?_ | refine HCode.step ?_)
      refine hif (fun h => absurd rfl (not_eqB_true.1 h)) (fun _ => ?_)
      (repeat first | refine HReg.step ?_ | refine HCode.step ?_)
      refine hif (fun h => absurd rfl (not_eqB_true.1 h)) (fun _ => ?_)
      (repeat first | refine HReg.step ?_ | refine HCode.step ?_)
      exact hk H3 (((u0.trans F1.upd).trans P2.upd).trans u3)
    · (repeat first | refine HReg.step ?_ | refine HCode.step ?_)
      refine HCall.mk ⟨Try.f12, Try.func12, by rfl, by rfl⟩ ?_
      refine rnew_t (fun hm2 => absurd hm3 hm2) fun gq bq H4 _ Q4 => ?_
      obtain ⟨q1, q2, q3, q4⟩ := id hm
      obtain ⟨n, rfl⟩ : ∃ q : Nat, n = (q : Int) := ⟨n.toNat, by omega⟩
      obtain ⟨h, rfl⟩ : ∃ q : Nat, h = (q : Int) := ⟨h.toNat, by omega⟩
      rw [Int.toNat_natCast, Int.toNat_natCast] at F1 P2
      generalize n2.toNat = n2 at *
      generalize h2.toNat = h2 at *
      have F4 := F1.upd0 ((P2.upd.trans G3.upd).trans Q4.upd)
      have P4 := P2.upd0 (G3.upd.trans Q4.upd)
      have G4 := G3.upd0 Q4.upd
      have bb : bf ≠ bg := fun e => by
        obtain ⟨c0, z0, h0⟩ := (F1.fil.upd0 P2.upd).liveB
        have := G3.nb
        rw [← e, h0] at this; cases this
      have pp : bp ≠ bq := fun e => by
        obtain ⟨c0, z0, h0⟩ := (P2.fil.upd0 G3.upd).liveB
        have := Q4.nb
        rw [← e, h0] at this; cases this
      (repeat first | refine HReg.step ?_ | refine HCode.step ?_)
      refine hif (fun h => absurd rfl (not_eqB_true.1 h)) (fun _ => ?_)
      (repeat first | refine HReg.step ?_ | refine HCode.step ?_)
      refine hif (fun h => absurd rfl (not_eqB_true.1 h)) (fun _ => ?_)
      (repeat first | refine HReg.step ?_ | refine HCode.step ?_)
      refine HNew.mk fun sb hsb => ?_
      have u5 : Upd [] H4 (H4.upd sb (.cells [ptr gf, ptr gg, ptr gp, ptr gq].toArray 33)) := Upd.new hsb _
      have hbase : Upd [] H H4 := ((u0.trans F1.upd).trans P2.upd).trans (G3.upd.trans Q4.upd)
      have D : Sd H (H4.upd sb (.cells [ptr gf, ptr gg, ptr gp, ptr gq].toArray 33)) sb ⟨gf, bf, gg, bg, gp, bp, gq, bq, n, h, n2, h2, zerosL n, zerosL n2⟩ :=
        ⟨OwnRow.lit (upd_same _ _ _) rfl, F4.fil.upd0 u5, G4.fil.upd0 u5, P4.fil.upd0 u5, Q4.fil.upd0 u5, bb, pp, hbase.trans u5, Upd.none (S := []) hbase (by simp) hsb, Upd.none (S := []) u0 (by simp) F1.nb,
          Upd.none (S := []) ((u0.trans F1.upd).trans P2.upd) (by simp) G3.nb, Upd.none (S := []) (u0.trans F1.upd) (by simp) P2.nb, Upd.none (S := []) (((u0.trans F1.upd).trans P2.upd).trans G3.upd) (by simp) Q4.nb⟩
      have O : Old (H4.upd sb (.cells [ptr gf, ptr gg, ptr gp, ptr gq].toArray 33)) gf n h := by
        obtain ⟨c1, o1, _⟩ := (F4.fil.upd0 u5).ex
        exact ⟨_, o1⟩
      (repeat first | refine HReg.step ?_ | refine HCode.step ?_)
      refine hloopC [10, 20, 81, 82, 83, 84, 85, 86, 87, 88, 89, 90, 91, 92, 93] [20] (BpInv H sb gf n h ops.length) rfl (by repeat' first | exact Resp.retD | exact Resp1.valuesK | refine Resp.blockD ?_ | refine Resp.thenD ?_ ?_ | refine Resp.hcode ?_) ?_ ?_
      · exact ⟨ops.length, BpInv.mk ⟨0, _, rfl, rfl, D, O⟩⟩
      rintro m _ fe H6 ⟨i, s, rfl, hmi, D6, O6⟩
      (repeat first | refine HReg.step ?_ | refine HCode.step ?_)
      refine hif (fun h1 => ?_) (fun h1 => ?_)
      · have h1 := ltB_true.1 h1
        have ro6 := ro.upd (S := []) D6.base (.inr (Off.nil _))
        obtain ⟨o, ho⟩ : ∃ o, ops[i]? = some o := ⟨ops[i]'(by omega), by simp⟩
        have g0 := orow_get ho 0 _ rfl
        have g1 := orow_get ho 1 _ rfl
        obtain ⟨ba, bo', rfl, _⟩ := ro6 _ _ g0
        have w2 : wr .i64 ((i : Int) + 1) = ((i + 1 : Nat) : Int) := by rw [wr_i64 (by omega) (by omega)]; omega
        (repeat first | refine HReg.step ?_ | refine HCode.step ?_)
        refine HReq.mk ⟨by omega, by omega⟩ ?_
        (repeat first | refine HReg.step ?_ | refine HCode.step ?_)
        refine HLoadN_row (vs := [.int .i64 o.1, .string (bs o.2)]) (RowAt.pair (by exact ro6.get g0) (by exact ro6.get g1)) rfl ?_
        (repeat first | refine HReg.step ?_ | refine HCode.step ?_)
        refine HCall.mk ⟨Try.f13, Try.func13, by rfl, by rfl⟩ ?_
        refine plays_t D6 (by have := bo o (List.mem_of_getElem? ho); omega) fun s7 H7 D7 k7 => ?_
        (repeat first | refine HReg.step ?_ | refine HCode.step ?_)
        rw [w2]
        exact ⟨m - 1, by omega, BpInv.mk ⟨i + 1, s7, rfl, by omega, D7, k7 _ _ _ O6⟩⟩
      · have h1 := ltB_false.1 h1
        obtain ⟨x, ox⟩ := O6
        (repeat first | refine HReg.step ?_ | refine HCode.step ?_)
        refine HCall.mk ⟨Try.f14, Try.func14, by rfl, by rfl⟩ ?_
        refine hcalls (fn := Try.f14) [] mixed Try.func14 rfl rfl rfl ?_
        (repeat first | refine HReg.step ?_ | refine HCode.step ?_)
        refine HLoad.one (v := .int .i64 (n : Int)) (by exact ox.rows.get (i := 0) rfl) ?_
        (repeat first | refine HReg.step ?_ | refine HCode.step ?_)
        refine hif (fun _ => ?_) (fun h => absurd rfl (eqB_false.1 h))
        (repeat first | refine HReg.step ?_ | refine HCode.step ?_)
        refine HCall.mk ⟨Try.f15, Try.func15, by rfl, by rfl⟩ ?_
        refine hcalls (fn := Try.f15) [] mixed Try.func15 rfl rfl rfl ?_
        (repeat first | refine HReg.step ?_ | refine HCode.step ?_)
        refine HLoad.one (v := .int .i64 (h : Int)) (by exact ox.rows.get (i := 1) rfl) ?_
        (repeat first | refine HReg.step ?_ | refine HCode.step ?_)
        refine hif (fun _ => ?_) (fun h => absurd rfl (eqB_false.1 h))
        (repeat first | refine HReg.step ?_ | refine HCode.step ?_)
        refine HLoad.one (v := ptr s.gg) (by exact D6.obj.rows.get (i := 1) rfl) ?_
        (repeat first | refine HReg.step ?_ | refine HCode.step ?_)
        refine HCall.mk ⟨Try.f17, Try.func17, by rfl, by rfl⟩ ?_
        refine bytes_t D6.G fun a10 c10 H10 m10 => ?_
        have D10 := D6.upd0 m10.upd
        (repeat first | refine HReg.step ?_ | refine HCode.step ?_)
        refine HLoad_two (v := ptr s.gq) (by exact D10.obj.rows.get (i := 3) rfl) (by exact D6.obj.rows.get (i := 3) rfl) ?_
        (repeat first | refine HReg.step ?_ | refine HCode.step ?_)
        refine HCall.mk ⟨Try.f18, Try.func18, by rfl, by rfl⟩ ?_
        refine rbytes_t D10.Q fun a11 c11 H11 m11 => ?_
        have hbl : (bytesOf s.n2 s.h2 s.T).length = 5 + s.T.length := by simp only [bytesOf, headOf, List.length_append, List.length_cons, List.length_nil]
        (repeat first | refine HReg.step ?_ | refine HCode.step ?_)
        refine HCall.mk ⟨Try.f16, Try.func16, by rfl, by rfl⟩ ?_
        refine same_eq (m10.step m11.upd).own.rows hbl m11.own.rows hbl rfl ?_
        (repeat first | refine HReg.step ?_ | refine HCode.step ?_)
        exact hk H11 (D10.base.trans m11.upd)
end Go.Proofs.Ytaobgofbhommcaa
