import Derived.Test.YtfcmjomnpahllaaGreatPk1
import Derived.Test.YtfcmjomnpahllaaGreatT1
import Derived.Test.YtfcmjomnpahllaaGreatRwA
namespace Go.Proofs.YtfcmjomnpahllaaGreat
open Go Hv
set_option linter.unusedVariables false
set_option linter.unusedSimpArgs false
set_option maxRecDepth 10000
set_option maxHeartbeats 1000000
/-! Records, plainly and in memory; Names, May -/
structure Rec where
  kind : Int
  id : Nat
  ps : List (Txt × Txt)
  ks : List Txt
def pairsV : List (Txt × Txt) → List Value
  | [] => []
  | p :: ps => .string (bs p.1) :: .string (bs p.2) :: pairsV ps
theorem pairsV_length : ∀ ps : List (Txt × Txt), (pairsV ps).length = ps.length * 2
  | [] => rfl
  | p :: ps => by simp only [pairsV, List.length_cons, pairsV_length ps]; omega
theorem pairsV_append : ∀ a b : List (Txt × Txt), pairsV (a ++ b) = pairsV a ++ pairsV b
  | [], b => rfl
  | p :: a, b => by simp only [pairsV, List.cons_append, pairsV_append a b]
theorem pairsV_get : ∀ {ps : List (Txt × Txt)} {i : Nat} {p : Txt × Txt}, ps[i]? = some p → (pairsV ps)[i * 2]? = some (.string (bs p.1)) ∧ (pairsV ps)[i * 2 + 1]? = some (.string (bs p.2))
  | [], i, p, h => by simp at h
  | q :: ps, 0, p, h => by simp at h; subst h; exact ⟨rfl, rfl⟩
  | q :: ps, i + 1, p, h => by
    have := pairsV_get (ps := ps) (i := i) (p := p) (by simpa using h)
    have e : (i + 1) * 2 = i * 2 + 2 := by omega
    rw [e]; exact this
theorem pairsV_take (ps : List (Txt × Txt)) : ∀ i, (pairsV ps).take (i * 2) = pairsV (ps.take i) := by
  induction ps with
  | nil => intro i; simp [pairsV]
  | cons p ps ih =>
    intro i
    cases i with
    | zero => simp [pairsV]
    | succ i =>
      have e : (i + 1) * 2 = i * 2 + 1 + 1 := by omega
      rw [e, List.take_succ_cons]
      show _ :: _ :: (pairsV ps).take (i * 2) = _
      rw [ih i]; rfl
theorem plain_pairs (ps : List (Txt × Txt)) : ∀ v ∈ pairsV ps, Value.plain v = true := by
  induction ps with
  | nil => intro v hv; simp [pairsV] at hv
  | cons p ps ih =>
    intro v hv
    rcases List.mem_cons.1 hv with rfl | hv
    · rfl
    · rcases List.mem_cons.1 hv with rfl | hv
      · rfl
      · exact ih v hv
theorem HLoadN_pair {H : Heap} {b off i : Nat} {ps : List (Txt × Txt)} {p : Txt × Txt} {K : List Value → Prop} (h : RowAt H (some ⟨b, off, none⟩) (pairsV ps)) (hp : ps[i]? = some p) (hk : K [.string (bs p.1), .string (bs p.2)]) : HLoadN [H] b (off + i * 2) 2 K := by
  obtain ⟨h1, h2⟩ := pairsV_get hp
  refine ⟨[.string (bs p.1), .string (bs p.2)], fun H' hH j v hv => ?_, rfl, hk⟩
  rw [List.mem_singleton.1 hH]
  match j, hv with
  | 0, hv => cases hv; exact h.get h1
  | 1, hv => cases hv; have := h.get h2; rwa [← Nat.add_assoc] at this
def rcells (r : Rec) (ap : Option Addr) (cp : Nat) (ak : Option Addr) (ck : Nat) : List Value := [.int .i64 r.kind, .int .u64 (r.id : Int), .slice ap r.ps.length cp, .slice ak r.ks.length ck]
def rv (r : Rec) (ap : Option Addr) (cp : Nat) (ak : Option Addr) (ck : Nat) : Value := .agg (rcells r ap cp ak ck).toArray
structure RecIn (H : Heap) (r : Rec) (ap ak : Option Addr) : Prop where
  rp : RowAt H ap (pairsV r.ps)
  rk : RowAt H ak (txts r.ks)
  np : r.ps.length ≤ 4398046510976
  nk : r.ks.length ≤ 8796093021952
theorem RecIn.upd0 {H H' : Heap} {r : Rec} {ap ak : Option Addr} (h : RecIn H r ap ak) (u : Upd [] H H') : RecIn H' r ap ak := ⟨h.rp.upd (S := []) u (.inr (Off.nil _)), h.rk.upd (S := []) u (.inr (Off.nil _)), h.np, h.nk⟩
def May (r : Rec) : Prop := 65536 ≤ r.id ∧ ((r.kind = 2 ∧ r.ps = [] ∧ r.ks = []) ∨ (r.kind = 1 ∧ Whole r.ks ∧ r.ps ≠ [] ∧ Rising (r.ps.map Prod.fst) ∧ ∀ p ∈ r.ps, p.1 ∈ r.ks ∧ p.2.length ≤ 65535))
theorem app_textsZ {a b : Option Addr} {k cap m c : Nat} {xs ys : List (List UInt8)} {H0 H : Heap} {K : Value → Heap → Prop} (hm : Made H0 H 9 1 a k cap (txts xs)) (hy : RowAt H b (txts ys)) (hyl : ys.length = m) (hb : k + m ≤ 8796093022208)
    (hk : ∀ a' cap' H', Made H0 H' 9 1 a' (k + m) cap' (txts (xs ++ ys)) → K (.slice a' (k + m) cap') H') :
    HSem Tryz.prog (Builtin.append_ #[39, 39] 39 [.slice a k cap, .slice b m c].toArray) H K := by
  refine append_madeG (ie := Tryz.t9) (z := .string ⟨#[]⟩) (xs := txts xs) (ys := txts ys) Tryz.underlying39 rfl rfl rfl (by decide) hm hy (by rw [txts_length, hyl]; exact (Nat.mul_one _).symm) (plain_txts _) (by show (k + m) * 16 ≤ _; omega) (by omega) fun a' cap' H' m' => ?_
  rw [← txts_append] at m'
  exact hk a' cap' H' m'
theorem made_nil (H : Heap) (e : TypeId) (size : Nat) : Made H H e size none 0 0 [] := ⟨OwnRow.nil _ _ _, Upd.refl _ _, fun p hp => by cases hp⟩
section
variable {H : Heap} {K : Value → Heap → Prop}
/-- A pair is stored whole. -/
theorem store_pair {b : Nat} {p : Txt × Txt} {xs : List Value} {K : Heap → Prop} (h : OwnRow H 100 1 (some ⟨b, 0, none⟩) 2 2 xs) (hl : xs.length = 2)
    (hk : ∀ H', OwnRow H' 100 1 (some ⟨b, 0, none⟩) 2 2 [.string (bs p.1), .string (bs p.2)] → Upd [b] H H' → K H') : storeN H b 0 0 K [.string (bs p.1), .string (bs p.2)] := by
  obtain ⟨x0, x1, rfl⟩ : ∃ a b, xs = [a, b] := by
    match xs, hl with
    | [a, b], _ => exact ⟨a, b, rfl⟩
  refine store_row h (v := .string (bs p.1)) rfl (i := 0) (by decide) (by rfl) fun H1 o1 u1 => ?_
  refine store_row o1 (v := .string (bs p.2)) rfl (i := 1) (by decide) (by rfl) fun H2 o2 u2 => ?_
  exact hk H2 o2 (u1.trans u2)
structure NmInv (ps : List (Txt × Txt)) (H : Heap) (m : Nat) (vs : List Value) (H' : Heap) : Prop where
  ex : ∃ (i : Nat) (a : Option Addr) (c : Nat), vs = [.slice a i c, .int .i64 (i : Int)] ∧ m + i = ps.length ∧ Made H H' 9 1 a i c (txts ((ps.take i).map Prod.fst))
theorem names_t {a : Option Addr} {n c : Nat} {ps : List (Txt × Txt)} (hr : RowAt H a (pairsV ps)) (hl : ps.length = n) (hn : n ≤ 4398046510976)
    (hk : ∀ a' c' H', Made H H' 9 1 a' n c' (txts (ps.map Prod.fst)) → K (.slice a' n c') H') : HCalls Tryz.prog 78 [.slice a n c] H K := by
  refine hcalls (fn := Tryz.f78) [] mixed Tryz.func78 rfl rfl (by decide +kernel) ?_
  (repeat first | refine HReg.step ?_ | refine HCode.step ?_)
  refine hloopC [3, 5, 8, 9, 10, 11, 12, 13, 14, 15, 16, 17] [3, 8] (NmInv ps H) rfl (by repeat' first | exact Resp.retD | exact Resp1.valuesK | refine Resp.blockD ?_ | refine Resp.thenD ?_ ?_ | refine Resp.hcode ?_) ?_ ?_
  · exact ⟨ps.length, NmInv.mk ⟨0, none, 0, rfl, rfl, made_nil _ _ _⟩⟩
  rintro m _ fe H1 ⟨i, a1, c1, rfl, hmi, m1⟩
  (repeat first | refine HReg.step ?_ | refine HCode.step ?_)
  refine hif (fun h1 => ?_) (fun h1 => ?_)
  · have h1 := ltB_true.1 h1
    have w2 : wr .i64 ((i : Int) + 1) = ((i + 1 : Nat) : Int) := by rw [wr_i64 (by omega) (by omega)]; omega
    obtain ⟨p, hp⟩ : ∃ p, ps[i]? = some p := ⟨ps[i]'(by omega), by simp⟩
    have hr1 := hr.upd (S := []) m1.upd (.inr (Off.nil _))
    obtain ⟨ba, bo, rfl, _⟩ := hr _ _ (pairsV_get hp).1
    (repeat first | refine HReg.step ?_ | refine HCode.step ?_)
    refine HReq.mk ⟨by omega, by omega⟩ ?_
    (repeat first | refine HReg.step ?_ | refine HCode.step ?_)
    refine HLoadN_pair hr1 hp ?_
    (repeat first | refine HReg.step ?_ | refine HCode.step ?_)
    refine HNew.mk fun b hb => ?_
    (repeat first | refine HReg.step ?_ | refine HCode.step ?_)
    refine store_pair (p := p) (OwnRow.lit (upd_same _ _ _) rfl) rfl fun H2 o2 u2 => ?_
    have u12 : Upd [] H1 H2 := Upd.drop (Upd.new hb _) u2 (fun x hx => by rw [List.mem_singleton.1 hx]; exact hb)
    (repeat first | refine HReg.step ?_ | refine HCode.step ?_)
    refine HLoad.one (v := .string (bs p.1)) (by exact o2.rows.get (i := 0) rfl) ?_
    (repeat first | refine HReg.step ?_ | refine HCode.step ?_)
    refine HReq.mk (by decide) ?_
    (repeat first | refine HReg.step ?_ | refine HCode.step ?_)
    refine HNew.mk fun b3 hb3 => ?_
    have u3 : Upd [] H2 (H2.upd b3 (.cells [Value.string (bs p.1)].toArray 9)) := Upd.new hb3 _
    have r3 : RowAt (H2.upd b3 (.cells [Value.string (bs p.1)].toArray 9)) (some ⟨b3, 0, none⟩) (txts [p.1]) := RowAt.of_cells (upd_same _ _ _)
    generalize hH3 : H2.upd b3 (.cells [Value.string (bs p.1)].toArray 9) = H3 at u3 r3
    (repeat first | refine HReg.step ?_ | refine HCode.step ?_)
    refine app_textsZ (m1.step (u12.trans u3)) r3 rfl (by omega) fun a4 c4 H4 m4 => ?_
    (repeat first | refine HReg.step ?_ | refine HCode.step ?_)
    rw [w2]
    refine ⟨m - 1, by omega, NmInv.mk ⟨i + 1, a4, c4, rfl, by omega, ?_⟩⟩
    have e : (ps.take (i + 1)).map Prod.fst = (ps.take i).map Prod.fst ++ [p.1] := by rw [List.take_add_one, hp]; simp
    rw [e]; exact m4
  · have h1 := ltB_false.1 h1
    have hi : i = n := by omega
    subst hi
    rw [List.take_of_length_le (by omega)] at m1
    (repeat first | refine HReg.step ?_ | refine HCode.step ?_)
    exact hk a1 c1 H1 m1
theorem name_t {id : Nat} (hk : ∀ t : Bool, (t = true ↔ 65536 ≤ id) → K (.bool t) H) : HCalls Tryz.prog 76 [.int .u64 (id : Int)] H K := by
  refine hcalls (fn := Tryz.f76) [] mixed Tryz.func76 rfl rfl rfl ?_
  (repeat first | refine HReg.step ?_ | refine HCode.step ?_)
  refine hk _ ⟨fun h => ?_, fun h => ?_⟩
  · have := not_ltB_true.1 h; omega
  · exact not_ltB_true.2 (by omega)
structure MyInv (r : Rec) (H : Heap) (m : Nat) (vs : List Value) (H' : Heap) : Prop where
  ex : ∃ i : Nat, vs = [.int .i64 (i : Int)] ∧ m + i = r.ps.length ∧ Upd [] H H' ∧ ∀ j p, j < i → r.ps[j]? = some p → p.1 ∈ r.ks ∧ p.2.length ≤ 65535
theorem may_t {r : Rec} {ap ak : Option Addr} {cp ck : Nat} (hr : RecIn H r ap ak)
    (hk : ∀ (t : Bool) H', (t = true ↔ May r) → Upd [] H H' → K (.bool t) H') : HCalls Tryz.prog 56 [rv r ap cp ak ck] H K := by
  refine hcalls (fn := Tryz.f56) [] mixed Tryz.func56 rfl rfl (by decide +kernel) ?_
  have hnp := hr.np
  have hnk := hr.nk
  (repeat first | refine HReg.step ?_ | refine HCode.step ?_)
  refine HNew.mk fun b1 hb1 => ?_
  have u1 : Upd [] H (H.upd b1 (.cells (rcells r ap cp ak ck).toArray 41)) := Upd.new hb1 _
  have o1 : RowAt (H.upd b1 (.cells (rcells r ap cp ak ck).toArray 41)) (some ⟨b1, 0, none⟩) (rcells r ap cp ak ck) := RowAt.of_cells (upd_same _ _ _)
  have hH' : H.upd b1 (.cells [Value.int .i64 r.kind, .int .u64 (r.id : Int), .slice ap r.ps.length cp, .slice ak r.ks.length ck].toArray 41) = H.upd b1 (.cells (rcells r ap cp ak ck).toArray 41) := rfl
  rw [hH']
  generalize hH1 : H.upd b1 (.cells (rcells r ap cp ak ck).toArray 41) = H1 at u1 o1
  have hr1 := hr.upd0 u1
  (repeat first | refine HReg.step ?_ | refine HCode.step ?_)
  refine HLoad.one (v := .int .u64 (r.id : Int)) (by exact o1.get (i := 1) rfl) ?_
  (repeat first | refine HReg.step ?_ | refine HCode.step ?_)
  refine HCall.mk ⟨Tryz.f76, Tryz.func76, by rfl, by rfl⟩ ?_
  refine name_t fun t ht => ?_
  cases t with
  | false =>
    (repeat first | refine HReg.step ?_ | refine HCode.step ?_)
    refine hk false H1 ⟨fun h => (by cases h), fun h => ?_⟩ u1
    exact ht.2 h.1
  | true =>
    have hid := ht.1 rfl
    (repeat first | refine HReg.step ?_ | refine HCode.step ?_)
    refine HLoad.one (v := .int .i64 r.kind) (by exact o1.get (i := 0) rfl) ?_
    (repeat first | refine HReg.step ?_ | refine HCode.step ?_)
    refine hif (fun h1 => ?_) (fun h1 => ?_)
    · have h1 := eqB_true.1 h1
      (repeat first | refine HReg.step ?_ | refine HCode.step ?_)
      refine HLoad.one (v := .slice ap r.ps.length cp) (by exact o1.get (i := 2) rfl) ?_
      (repeat first | refine HReg.step ?_ | refine HCode.step ?_)
      by_cases hp0 : r.ps = []
      · have hp1 : r.ps.length = 0 := by rw [hp0]; rfl
        rw [hp1]
        rw [show eqB ((0 : Nat) : Int) 0 = true from eqB_true.2 rfl]
        (repeat first | refine HReg.step ?_ | refine HCode.step ?_)
        refine HLoad.one (v := .slice ak r.ks.length ck) (by exact o1.get (i := 3) rfl) ?_
        (repeat first | refine HReg.step ?_ | refine HCode.step ?_)
        refine hk _ H1 ⟨fun h => ⟨hid, .inl ⟨h1, hp0, ?_⟩⟩, fun h => ?_⟩ u1
        · exact List.eq_nil_of_length_eq_zero (by have := eqB_true.1 h; omega)
        · rcases h.2 with h2 | h2
          · exact eqB_true.2 (by rw [h2.2.2]; rfl)
          · rw [h1] at h2; exact absurd h2.1 (by decide)
      · have hp1 : r.ps.length ≠ 0 := fun h => hp0 (List.eq_nil_of_length_eq_zero h)
        rw [show eqB ((r.ps.length : Nat) : Int) 0 = false from eqB_false.2 (by omega)]
        (repeat first | refine HReg.step ?_ | refine HCode.step ?_)
        refine hk false H1 ⟨fun h => (by cases h), fun h => ?_⟩ u1
        rcases h.2 with h2 | h2
        · exact absurd h2.2.1 hp0
        · rw [h1] at h2; exact absurd h2.1 (by decide)
    · have hk2 := eqB_false.1 h1
      (repeat first | refine HReg.step ?_ | refine HCode.step ?_)
      refine HLoad.one (v := .int .i64 r.kind) (by exact o1.get (i := 0) rfl) ?_
      (repeat first | refine HReg.step ?_ | refine HCode.step ?_)
      by_cases hk1 : r.kind = 1
      · rw [show eqB r.kind 1 = true from eqB_true.2 hk1]
        (repeat first | refine HReg.step ?_ | refine HCode.step ?_)
        refine HLoad.one (v := .slice ak r.ks.length ck) (by exact o1.get (i := 3) rfl) ?_
        (repeat first | refine HReg.step ?_ | refine HCode.step ?_)
        refine HCall.mk ⟨Tryz.f77, Tryz.func77, by rfl, by rfl⟩ ?_
        refine whole_t hr1.rk rfl fun t2 H2 ht2 u2 => ?_
        cases t2 with
        | false =>
          (repeat first | refine HReg.step ?_ | refine HCode.step ?_)
          refine hk false H2 ⟨fun h => (by cases h), fun h => ?_⟩ (u1.trans u2)
          rcases h.2 with h2 | h2
          · exact absurd h2.1 hk2
          · exact ht2.2 h2.2.1
        | true =>
          have hwh := ht2.1 rfl
          have o2 := o1.upd (S := []) u2 (.inr (Off.nil _))
          have hr2 := hr1.upd0 u2
          (repeat first | refine HReg.step ?_ | refine HCode.step ?_)
          refine HLoad.one (v := .slice ap r.ps.length cp) (by exact o2.get (i := 2) rfl) ?_
          (repeat first | refine HReg.step ?_ | refine HCode.step ?_)
          refine HCall.mk ⟨Tryz.f78, Tryz.func78, by rfl, by rfl⟩ ?_
          refine names_t hr2.rp rfl hnp fun a3 c3 H3 m3 => ?_
          have u13 := u1.trans (u2.trans m3.upd)
          have o3 := o2.upd (S := []) m3.upd (.inr (Off.nil _))
          have hr3 := hr2.upd0 m3.upd
          (repeat first | refine HReg.step ?_ | refine HCode.step ?_)
          by_cases hp0 : r.ps = []
          · have hp1 : r.ps.length = 0 := by rw [hp0]; rfl
            rw [hp1, show eqB ((0 : Nat) : Int) 0 = true from eqB_true.2 rfl]
            (repeat first | refine HReg.step ?_ | refine HCode.step ?_)
            refine hk false H3 ⟨fun h => (by cases h), fun h => ?_⟩ u13
            rcases h.2 with h2 | h2
            · exact absurd h2.1 hk2
            · exact absurd hp0 h2.2.2.1
          · have hp1 : r.ps.length ≠ 0 := fun h => hp0 (List.eq_nil_of_length_eq_zero h)
            rw [show eqB ((r.ps.length : Nat) : Int) 0 = false from eqB_false.2 (by omega)]
            (repeat first | refine HReg.step ?_ | refine HCode.step ?_)
            refine HCall.mk ⟨Tryz.f79, Tryz.func79, by rfl, by rfl⟩ ?_
            refine rising_t m3.own.rows (by simp) (by omega) fun t4 ht4 => ?_
            cases t4 with
            | false =>
              (repeat first | refine HReg.step ?_ | refine HCode.step ?_)
              refine hk false H3 ⟨fun h => (by cases h), fun h => ?_⟩ u13
              rcases h.2 with h2 | h2
              · exact absurd h2.1 hk2
              · exact ht4.2 h2.2.2.2.1
            | true =>
              have hris := ht4.1 rfl
              (repeat first | refine HReg.step ?_ | refine HCode.step ?_)
              refine HLoad.one (v := .slice ap r.ps.length cp) (by exact o3.get (i := 2) rfl) ?_
              (repeat first | refine HReg.step ?_ | refine HCode.step ?_)
              refine hloopC [2, 5, 49, 50, 51, 52, 53, 54, 55, 56, 57, 58, 59, 60, 61, 62, 63, 64, 65] [49] (MyInv r H3) rfl (by repeat' first | exact Resp.retD | exact Resp1.valuesK | refine Resp.blockD ?_ | refine Resp.thenD ?_ ?_ | refine Resp.hcode ?_) ?_ ?_
              · exact ⟨r.ps.length, MyInv.mk ⟨0, rfl, rfl, Upd.refl _ _, fun j p hj => by omega⟩⟩
              rintro m _ fe H4 ⟨i, rfl, hmi, u4, hall⟩
              have u14 := u13.trans u4
              (repeat first | refine HReg.step ?_ | refine HCode.step ?_)
              refine hif (fun h5 => ?_) (fun h5 => ?_)
              · have h5 := ltB_true.1 h5
                have w2 : wr .i64 ((i : Int) + 1) = ((i + 1 : Nat) : Int) := by rw [wr_i64 (by omega) (by omega)]; omega
                obtain ⟨p, hp⟩ : ∃ p, r.ps[i]? = some p := ⟨r.ps[i]'(by omega), by simp⟩
                have hpm := List.mem_of_getElem? hp
                have hr4 := hr3.upd0 u4
                have o4 := o3.upd (S := []) u4 (.inr (Off.nil _))
                obtain ⟨ba, bo, rfl, _⟩ := hr.rp _ _ (pairsV_get hp).1
                (repeat first | refine HReg.step ?_ | refine HCode.step ?_)
                refine HReq.mk ⟨by omega, by omega⟩ ?_
                (repeat first | refine HReg.step ?_ | refine HCode.step ?_)
                refine HLoadN_pair hr4.rp hp ?_
                (repeat first | refine HReg.step ?_ | refine HCode.step ?_)
                refine HNew.mk fun b5 hb5 => ?_
                (repeat first | refine HReg.step ?_ | refine HCode.step ?_)
                refine store_pair (p := p) (OwnRow.lit (upd_same _ _ _) rfl) rfl fun H6 o6 u6 => ?_
                have u46 : Upd [] H4 H6 := Upd.drop (Upd.new hb5 _) u6 (fun x hx => by rw [List.mem_singleton.1 hx]; exact hb5)
                have o46 := o4.upd (S := []) u46 (.inr (Off.nil _))
                (repeat first | refine HReg.step ?_ | refine HCode.step ?_)
                refine HLoad.one (v := .slice ak r.ks.length ck) (by exact o46.get (i := 3) rfl) ?_
                (repeat first | refine HReg.step ?_ | refine HCode.step ?_)
                refine HLoad.one (v := .string (bs p.1)) (by exact o6.rows.get (i := 0) rfl) ?_
                (repeat first | refine HReg.step ?_ | refine HCode.step ?_)
                refine HCall.mk ⟨Tryz.f80, Tryz.func80, by rfl, by rfl⟩ ?_
                refine Has_t (hr4.upd0 u46).rk rfl (by omega) fun t7 ht7 => ?_
                cases t7 with
                | false =>
                  (repeat first | refine HReg.step ?_ | refine HCode.step ?_)
                  refine hk false H6 ⟨fun h => (by cases h), fun h => ?_⟩ (u14.trans u46)
                  rcases h.2 with h2 | h2
                  · exact absurd h2.1 hk2
                  · exact ht7.2 ⟨hwh.2, (h2.2.2.2.2 p hpm).1⟩
                | true =>
                  have hin := (ht7.1 rfl).2
                  (repeat first | refine HReg.step ?_ | refine HCode.step ?_)
                  refine HLoad.one (v := .string (bs p.2)) (by exact o6.rows.get (i := 1) rfl) ?_
                  (repeat first | refine HReg.step ?_ | refine HCode.step ?_)
                  rw [bs_size]
                  refine hif (fun h8 => ?_) (fun h8 => ?_)
                  · have h8 := ltB_true.1 h8
                    (repeat first | refine HReg.step ?_ | refine HCode.step ?_)
                    refine hk false H6 ⟨fun h => (by cases h), fun h => ?_⟩ (u14.trans u46)
                    rcases h.2 with h2 | h2
                    · exact absurd h2.1 hk2
                    · have := (h2.2.2.2.2 p hpm).2; omega
                  · have h8 := ltB_false.1 h8
                    (repeat first | refine HReg.step ?_ | refine HCode.step ?_)
                    rw [w2]
                    refine ⟨m - 1, by omega, MyInv.mk ⟨i + 1, rfl, by omega, u4.trans u46, fun j q hj hq => ?_⟩⟩
                    by_cases e : j = i
                    · subst e; rw [hp] at hq; cases hq; exact ⟨hin, by omega⟩
                    · exact hall j q (by omega) hq
              · have h5 := ltB_false.1 h5
                (repeat first | refine HReg.step ?_ | refine HCode.step ?_)
                refine hk true H4 ⟨fun _ => ⟨hid, .inr ⟨hk1, hwh, hp0, hris, fun p hpm => ?_⟩⟩, fun _ => rfl⟩ u14
                obtain ⟨j, hj⟩ := List.getElem?_of_mem hpm
                have := (List.getElem?_eq_some_iff.1 hj).1
                exact hall j p (by omega) hj
      · rw [show eqB r.kind 1 = false from eqB_false.2 hk1]
        (repeat first | refine HReg.step ?_ | refine HCode.step ?_)
        refine hk false H1 ⟨fun h => (by cases h), fun h => ?_⟩ u1
        rcases h.2 with h2 | h2
        · exact absurd h2.1 hk2
        · exact absurd h2.1 hk1
end
end Go.Proofs.YtfcmjomnpahllaaGreat
namespace Go.Proofs.YtfcmjomnpahllaaGreat
open Go Hv
set_option linter.unusedVariables false
set_option linter.unusedSimpArgs false
set_option maxRecDepth 10000
set_option maxHeartbeats 1000000
/-! payload, Build -/
theorem wr8 (v : Nat) : wr .u8 (v : Int) = ((v % 256 : Nat) : Int) := by rw [wr_u8]; omega
theorem wr32 (v : Nat) : wr .u32 (v : Int) = ((v % 4294967296 : Nat) : Int) := by
  have h : IntKind.u32.wrap (v : Int) = (v : Int) % 4294967296 := rfl
  rw [wr_eq, h]; omega
theorem nodup_le : ∀ {l m : List Txt}, l.Nodup → (∀ x ∈ l, x ∈ m) → l.length ≤ m.length
  | [], m, _, _ => Nat.zero_le _
  | a :: l, m, hn, hs => by
    have hn' := List.nodup_cons.1 hn
    have ha := hs a List.mem_cons_self
    have h1 := nodup_le (m := m.erase a) hn'.2 (fun x hx => (List.mem_erase_of_ne (fun e => hn'.1 (by rw [← e]; exact hx))).2 (hs x (List.mem_cons_of_mem _ hx)))
    rw [List.length_erase_of_mem ha] at h1
    have := List.length_pos_of_mem ha
    rw [List.length_cons]; omega
def layL (w : W) (bs : List (List UInt8)) : W := bs.foldl W.lay w
theorem layL_append (w : W) (a b : List (List UInt8)) : layL w (a ++ b) = layL (layL w a) b := List.foldl_append
theorem layL_err {w : W} (h : w.err ≠ 0) : ∀ bs, layL w bs = w
  | [] => rfl
  | b :: bs => by
    show layL (w.lay b) bs = w
    have e : w.lay b = w := by unfold W.lay; rw [if_pos h]
    rw [e]; exact layL_err h bs
theorem layL_lim (w : W) : ∀ bs, (layL w bs).lim = w.lim
  | [] => rfl
  | b :: bs => (layL_lim (w.lay b) bs).trans W.lay_len.2
theorem layL_fit : ∀ (bs : List (List UInt8)) {w : W}, w.err = 0 → w.out.length + bs.flatten.length ≤ w.lim → layL w bs = { w with out := w.out ++ bs.flatten }
  | [], w, _, _ => by simp [layL]
  | b :: bs, w, he, hl => by
    rw [List.flatten_cons, List.length_append] at hl
    show layL (w.lay b) bs = _
    rw [lay_yes he (by omega), layL_fit bs (w := { w with out := w.out ++ b }) he (by rw [List.length_append]; show _ ≤ w.lim; omega)]
    rw [List.flatten_cons, List.append_assoc]
theorem layL_over : ∀ (bs : List (List UInt8)) {w : W}, w.err = 0 → w.out.length ≤ w.lim → w.lim < w.out.length + bs.flatten.length → (layL w bs).err = 3
  | [], w, _, h1, h2 => by simp at h2; omega
  | b :: bs, w, he, h1, h2 => by
    rw [List.flatten_cons, List.length_append] at h2
    show (layL (w.lay b) bs).err = 3
    by_cases hb : b.length ≤ w.lim - w.out.length
    · rw [lay_yes he hb]
      exact layL_over bs (w := { w with out := w.out ++ b }) he (by rw [List.length_append]; show _ ≤ w.lim; omega) (by rw [List.length_append]; show w.lim < _; omega)
    · rw [lay_no (fun h => hb h.2), if_pos he, layL_err (by show (3 : Int) ≠ 0; decide)]
def pairPieces (ps : List (Txt × Txt)) : List (List UInt8) := ps.flatMap fun p => [textB p.1, textB p.2]
def payPieces (r : Rec) : List (List UInt8) := [num r.kind.toNat 1, num r.id 8] ++ (if r.kind = 1 then [num r.ps.length 4] ++ pairPieces r.ps ++ [textsB r.ks] else [])
def pay (r : Rec) : List UInt8 := (payPieces r).flatten
theorem May.kind {r : Rec} (h : May r) : r.kind = 1 ∨ r.kind = 2 := by
  rcases h.2 with h | h
  · exact .inr h.1
  · exact .inl h.1
theorem May.few {r : Rec} (h : May r) : r.ps.length ≤ 1024 ∧ r.ks.length ≤ 1024 := by
  rcases h.2 with h | h
  · rw [h.2.1, h.2.2]; simp
  · have h1 := nodup_le h.2.2.2.1.nodup (m := r.ks) (fun x hx => by
      obtain ⟨p, hp, rfl⟩ := List.mem_map.1 hx
      exact (h.2.2.2.2 p hp).1)
    rw [List.length_map] at h1
    exact ⟨Nat.le_trans h1 h.2.1.1.2.1, h.2.1.1.2.1⟩
theorem May.short {r : Rec} (h : May r) : (∀ p ∈ r.ps, p.1.length ≤ 65535 ∧ p.2.length ≤ 65535) ∧ ∀ s ∈ r.ks, s.length ≤ 65535 := by
  rcases h.2 with h | h
  · rw [h.2.1, h.2.2]; simp
  · exact ⟨fun p hp => ⟨h.2.1.1.2.2 _ (h.2.2.2.2 p hp).1, (h.2.2.2.2 p hp).2⟩, h.2.1.1.2.2⟩
theorem flat_bound {l : List Txt} {B : Nat} (h : ∀ s ∈ l, s.length ≤ B) : (l.flatMap textB).length ≤ l.length * (4 + B) := by
  induction l with
  | nil => simp
  | cons s l ih =>
    have h1 := ih fun x hx => h x (List.mem_cons_of_mem _ hx)
    have h2 := h s List.mem_cons_self
    rw [List.flatMap_cons, List.length_append, textB_length, List.length_cons, Nat.add_mul]
    omega
def payW (r : Rec) : W := layL ⟨1048576, [], 0⟩ (payPieces r)
structure PyInv (H0 : Heap) (g : Nat) (w : W) (ps : List (Txt × Txt)) (H1 : Heap) (m : Nat) (vs : List Value) (H' : Heap) : Prop where
  ex : ∃ (i : Nat) (S' : List Nat), vs = [.int .i64 (i : Int)] ∧ m + i = ps.length ∧ WAt H0 H' g S' (layL w (pairPieces (ps.take i))) ∧ Upd [] H0 H'
section
variable {H : Heap} {K : Value → Heap → Prop}
theorem pieces_take {ps : List (Txt × Txt)} {i : Nat} {p : Txt × Txt} (hp : ps[i]? = some p) : pairPieces (ps.take (i + 1)) = pairPieces (ps.take i) ++ [textB p.1, textB p.2] := by
  unfold pairPieces; rw [List.take_add_one, hp, List.flatMap_append]; simp
theorem WAt.lim {H0 H : Heap} {g : Nat} {S : List Nat} {w : W} (d : WAt H0 H g S w) : w.out.length ≤ w.lim := d.ok.le
theorem payload_t {r : Rec} {ap ak : Option Addr} {cp ck : Nat} (hr : RecIn H r ap ak) (hm : May r)
    (hk : ∀ a c H', Made H H' 5 1 a (payW r).told.length c (u8s (payW r).told) → K (.tuple #[.slice a (payW r).told.length c, .int .i64 (payW r).err]) H') : HCalls Tryz.prog 57 [rv r ap cp ak ck] H K := by
  refine hcalls (fn := Tryz.f57) [] mixed Tryz.func57 rfl rfl (by decide +kernel) ?_
  have hnp := hr.np
  have hnk := hr.nk
  obtain ⟨hfp, hfk⟩ := hm.few
  obtain ⟨hsp, hsk⟩ := hm.short
  obtain ⟨kn, hkn⟩ : ∃ kn : Nat, r.kind = (kn : Int) ∧ kn < 256 := by
    rcases hm.kind with h | h
    · exact ⟨1, h, by decide⟩
    · exact ⟨2, h, by decide⟩
  have wk : wr .u8 (r.kind) = (kn : Int) := by rw [hkn.1, wr_u8]; omega
  (repeat first | refine HReg.step ?_ | refine HCode.step ?_)
  refine HNew.mk fun b1 hb1 => ?_
  have u1 : Upd [] H (H.upd b1 (.cells (rcells r ap cp ak ck).toArray 41)) := Upd.new hb1 _
  have o1 : RowAt (H.upd b1 (.cells (rcells r ap cp ak ck).toArray 41)) (some ⟨b1, 0, none⟩) (rcells r ap cp ak ck) := RowAt.of_cells (upd_same _ _ _)
  have hH' : H.upd b1 (.cells [Value.int .i64 r.kind, .int .u64 (r.id : Int), .slice ap r.ps.length cp, .slice ak r.ks.length ck].toArray 41) = H.upd b1 (.cells (rcells r ap cp ak ck).toArray 41) := rfl
  rw [hH']
  generalize hH1 : H.upd b1 (.cells (rcells r ap cp ak ck).toArray 41) = H1 at u1 o1
  have hr1 := hr.upd0 u1
  (repeat first | refine HReg.step ?_ | refine HCode.step ?_)
  refine HCall.mk ⟨Tryz.f58, Tryz.func58, by rfl, by rfl⟩ ?_
  refine newW_t (by decide) fun g S2 H2 d2 => ?_
  have d2 : WAt H1 H2 g S2 ⟨1048576, [], 0⟩ := d2
  have o2 := o1.upd (S := []) d2.base (.inr (Off.nil _))
  (repeat first | refine HReg.step ?_ | refine HCode.step ?_)
  refine HLoad.one (v := .int .i64 r.kind) (by exact o2.get (i := 0) rfl) ?_
  (repeat first | refine HReg.step ?_ | refine HCode.step ?_)
  rw [wk]
  refine HCall.mk ⟨Tryz.f81, Tryz.func81, by rfl, by rfl⟩ ?_
  refine u8_t d2 hkn.2 (by simp) fun S3 H3 d3 f3 => ?_
  have hl3 := d3.lim
  have hm3 : ((⟨1048576, [], 0⟩ : W).lay (num kn 1)).lim = 1048576 := W.lay_len.2
  have o3 := o1.upd (S := []) d3.base (.inr (Off.nil _))
  (repeat first | refine HReg.step ?_ | refine HCode.step ?_)
  refine HLoad.one (v := .int .u64 (r.id : Int)) (by exact o3.get (i := 1) rfl) ?_
  (repeat first | refine HReg.step ?_ | refine HCode.step ?_)
  refine HCall.mk ⟨Tryz.f82, Tryz.func82, by rfl, by rfl⟩ ?_
  refine u64_t d3 (by omega) fun S4 H4 d4 f4 => ?_
  have e4 : ((⟨1048576, [], 0⟩ : W).lay (num kn 1)).lay (num r.id 8) = layL ⟨1048576, [], 0⟩ [num r.kind.toNat 1, num r.id 8] := by rw [hkn.1]; rfl
  rw [e4] at d4
  have o4 := o1.upd (S := []) d4.base (.inr (Off.nil _))
  have hm4 := layL_lim ⟨1048576, [], 0⟩ [num r.kind.toNat 1, num r.id 8]
  generalize hw4 : layL ⟨1048576, [], 0⟩ [num r.kind.toNat 1, num r.id 8] = w4 at d4 hm4
  have hm4 : w4.lim = 1048576 := hm4
  have hl4 := d4.lim
  (repeat first | refine HReg.step ?_ | refine HCode.step ?_)
  refine HLoad.one (v := .int .i64 r.kind) (by exact o4.get (i := 0) rfl) ?_
  (repeat first | refine HReg.step ?_ | refine HCode.step ?_)
  refine hif (fun h1 => ?_) (fun h1 => ?_)
  · have h1 := eqB_true.1 h1
    have wn : wr .u32 (r.ps.length : Int) = (r.ps.length : Int) := by rw [wr32 r.ps.length]; omega
    (repeat first | refine HReg.step ?_ | refine HCode.step ?_)
    refine HLoad.one (v := .slice ap r.ps.length cp) (by exact o4.get (i := 2) rfl) ?_
    (repeat first | refine HReg.step ?_ | refine HCode.step ?_)
    rw [wn]
    refine HCall.mk ⟨Tryz.f83, Tryz.func83, by rfl, by rfl⟩ ?_
    refine u32_t d4 (by omega) (by omega) fun S5 H5 d5 f5 => ?_
    have o5 := o1.upd (S := []) d5.base (.inr (Off.nil _))
    generalize hw5 : w4.lay (num r.ps.length 4) = w5 at d5
    have hm5 : w5.lim = 1048576 := by rw [← hw5]; exact W.lay_len.2.trans hm4
    (repeat first | refine HReg.step ?_ | refine HCode.step ?_)
    refine HLoad.one (v := .slice ap r.ps.length cp) (by exact o5.get (i := 2) rfl) ?_
    (repeat first | refine HReg.step ?_ | refine HCode.step ?_)
    refine hloopC [6, 29, 30, 31, 32, 33, 34, 35, 36, 37, 38, 39, 40, 41] [29] (PyInv H1 g w5 r.ps H5) rfl (by repeat' first | exact Resp.retD | exact Resp1.valuesK | refine Resp.blockD ?_ | refine Resp.thenD ?_ ?_ | refine Resp.hcode ?_) ?_ ?_
    · exact ⟨r.ps.length, PyInv.mk ⟨0, S5, rfl, rfl, by rw [List.take_zero]; exact d5, d5.base⟩⟩
    rintro m _ fe H6 ⟨i, S6, rfl, hmi, d6, u6⟩
    (repeat first | refine HReg.step ?_ | refine HCode.step ?_)
    refine hif (fun h2 => ?_) (fun h2 => ?_)
    · have h2 := ltB_true.1 h2
      have w2 : wr .i64 ((i : Int) + 1) = ((i + 1 : Nat) : Int) := by rw [wr_i64 (by omega) (by omega)]; omega
      obtain ⟨p, hp⟩ : ∃ p, r.ps[i]? = some p := ⟨r.ps[i]'(by omega), by simp⟩
      obtain ⟨hs1, hs2⟩ := hsp p (List.mem_of_getElem? hp)
      have hr6 := hr1.upd0 u6
      have hm6 : (layL w5 (pairPieces (r.ps.take i))).lim = 1048576 := (layL_lim _ _).trans hm5
      have hpt := pieces_take hp
      generalize hw6 : layL w5 (pairPieces (r.ps.take i)) = w6 at d6 hm6
      have hl6 := d6.lim
      obtain ⟨ba, bo, rfl, _⟩ := hr.rp _ _ (pairsV_get hp).1
      (repeat first | refine HReg.step ?_ | refine HCode.step ?_)
      refine HReq.mk ⟨by omega, by omega⟩ ?_
      (repeat first | refine HReg.step ?_ | refine HCode.step ?_)
      refine HLoadN_pair hr6.rp hp ?_
      (repeat first | refine HReg.step ?_ | refine HCode.step ?_)
      refine HNew.mk fun b7 hb7 => ?_
      (repeat first | refine HReg.step ?_ | refine HCode.step ?_)
      refine store_pair (p := p) (OwnRow.lit (upd_same _ _ _) rfl) rfl fun H7 o7 u7 => ?_
      have u67 : Upd [] H6 H7 := Upd.drop (Upd.new hb7 _) u7 (fun x hx => by rw [List.mem_singleton.1 hx]; exact hb7)
      have d7 := d6.upd0 u67
      (repeat first | refine HReg.step ?_ | refine HCode.step ?_)
      refine HLoad.one (v := .string (bs p.1)) (by exact o7.rows.get (i := 0) rfl) ?_
      (repeat first | refine HReg.step ?_ | refine HCode.step ?_)
      refine HCall.mk ⟨Tryz.f59, Tryz.func59, by rfl, by rfl⟩ ?_
      refine text_t d7 (by omega) fun S8 H8 d8 f8 => ?_
      have hl8 := d8.lim
      have hm8 : (w6.lay (textB p.1)).lim = 1048576 := W.lay_len.2.trans hm6
      have b7S : b7 ∉ S6 := fun h => d6.live b7 h hb7
      have o8 : RowAt H8 (some ⟨b7, 0, none⟩) [.string (bs p.1), .string (bs p.2)] := o7.rows.upd f8.upd (.inr fun q hq hqS => by cases hq; exact b7S hqS)
      (repeat first | refine HReg.step ?_ | refine HCode.step ?_)
      refine HLoad.one (v := .string (bs p.2)) (by exact o8.get (i := 1) rfl) ?_
      (repeat first | refine HReg.step ?_ | refine HCode.step ?_)
      refine HCall.mk ⟨Tryz.f59, Tryz.func59, by rfl, by rfl⟩ ?_
      refine text_t d8 (by omega) fun S9 H9 d9 f9 => ?_
      (repeat first | refine HReg.step ?_ | refine HCode.step ?_)
      rw [w2]
      refine ⟨m - 1, by omega, PyInv.mk ⟨i + 1, S9, rfl, by omega, ?_, d9.base⟩⟩
      rw [hpt, layL_append, hw6]; exact d9
    · have h2 := ltB_false.1 h2
      have hi : i = r.ps.length := by omega
      subst hi
      rw [List.take_length] at d6
      have hm6 : (layL w5 (pairPieces r.ps)).lim = 1048576 := (layL_lim _ _).trans hm5
      have hl6 := d6.lim
      have hfb := flat_bound hsk
      have htb : (textsB r.ks).length ≤ 4 + 1024 * 65539 := by
        unfold textsB
        rw [List.length_append, num_length]
        have : r.ks.length * (4 + 65535) ≤ 1024 * 65539 := Nat.mul_le_mul hfk (by decide)
        omega
      have o6 := o1.upd (S := []) u6 (.inr (Off.nil _))
      (repeat first | refine HReg.step ?_ | refine HCode.step ?_)
      refine HLoad.one (v := .slice ak r.ks.length ck) (by exact o6.get (i := 3) rfl) ?_
      (repeat first | refine HReg.step ?_ | refine HCode.step ?_)
      refine HCall.mk ⟨Tryz.f84, Tryz.func84, by rfl, by rfl⟩ ?_
      refine texts_t d6 hr1.rk rfl (by omega) fun S7 H7 d7 f7 => ?_
      have ew : (layL w5 (pairPieces r.ps)).lay (textsB r.ks) = payW r := by
        unfold payW payPieces
        rw [if_pos h1, layL_append, hw4, layL_append, layL_append]
        show (layL w5 (pairPieces r.ps)).lay (textsB r.ks) = (layL (w4.lay (num r.ps.length 4)) (pairPieces r.ps)).lay (textsB r.ks)
        rw [hw5]
      rw [ew] at d7
      have hl7 := d7.lim
      have hm7 : (payW r).lim = 1048576 := layL_lim _ _
      (repeat first | refine HReg.step ?_ | refine HCode.step ?_)
      refine HCall.mk ⟨Tryz.f60, Tryz.func60, by rfl, by rfl⟩ ?_
      refine out_t d7 (by omega) fun a c H8 m8 => ?_
      (repeat first | refine HReg.step ?_ | refine HCode.step ?_)
      exact hk a c H8 ⟨m8.own, u1.trans (d7.base.trans m8.upd), fun p hp => Upd.none (S := []) (u1.trans d7.base) (by simp) (m8.new p hp)⟩
  · have h1 := eqB_false.1 h1
    have ew : w4 = payW r := by
      unfold payW payPieces
      rw [if_neg h1, List.append_nil, hw4]
    rw [ew] at d4
    have hl7 := d4.lim
    have hm7 : (payW r).lim = 1048576 := layL_lim _ _
    (repeat first | refine HReg.step ?_ | refine HCode.step ?_)
    refine HCall.mk ⟨Tryz.f60, Tryz.func60, by rfl, by rfl⟩ ?_
    refine out_t d4 (by omega) fun a c H8 m8 => ?_
    (repeat first | refine HReg.step ?_ | refine HCode.step ?_)
    exact hk a c H8 ⟨m8.own, u1.trans (d4.base.trans m8.upd), fun p hp => Upd.none (S := []) (u1.trans d4.base) (by simp) (m8.new p hp)⟩
end
end Go.Proofs.YtfcmjomnpahllaaGreat
namespace Go.Proofs.YtfcmjomnpahllaaGreat
open Go Hv
set_option linter.unusedVariables false
set_option linter.unusedSimpArgs false
set_option maxRecDepth 10000
set_option maxHeartbeats 1000000
/-! Build -/
theorem eqB_self (a : Int) : eqB a a = true := eqB_true.2 rfl
theorem payW_ok {r : Rec} (h : (pay r).length ≤ 1048576) : (payW r).told = pay r ∧ (payW r).err = 0 := by
  have e : payW r = ⟨1048576, pay r, 0⟩ := by
    unfold payW
    rw [layL_fit (payPieces r) rfl (by show 0 + (payPieces r).flatten.length ≤ 1048576; rw [Nat.zero_add]; exact h)]; rfl
  rw [e]; exact ⟨rfl, rfl⟩
theorem payW_long {r : Rec} (h : 1048576 < (pay r).length) : (payW r).err = 3 := layL_over (payPieces r) rfl (Nat.zero_le _) (by show 1048576 < 0 + (payPieces r).flatten.length; rw [Nat.zero_add]; exact h)
/-- The CRC-32 as a number. -/
def crcN (b : List UInt8) : Nat := (Crc.crc 0#32 b).toNat
def frameR (p : List UInt8) : List UInt8 := num p.length 4 ++ num (crcN p) 4 ++ p
open Classical in
noncomputable def buildR (r : Rec) : List UInt8 × Int := if ¬ May r then ([], 1) else if 1048576 < (pay r).length then ([], 3) else (frameR (pay r), 0)
theorem crc_bytes (w : Nat) : [Value.int .u8 (wr .u8 (shrS .u32 (w : Int) 24)), .int .u8 (wr .u8 (shrS .u32 (w : Int) 16)), .int .u8 (wr .u8 (shrS .u32 (w : Int) 8)), .int .u8 (wr .u8 (w : Int))] = u8s (num w 4) := by
  have sh : ∀ k : Nat, k ≤ 32 → Value.int .u8 (wr .u8 (shrS .u32 (w : Int) (k : Int))) = u8 (UInt8.ofNat (w / 2 ^ k)) := fun k hk => by
    unfold u8
    congr 1
    have e8 : min (k : Int).toNat IntKind.u32.bits = k := by
      have : IntKind.u32.bits = 32 := rfl
      rw [this, Int.toNat_natCast]; omega
    rw [wr_u8, shrS_eq, e8, UInt8.toNat_ofNat', Int.fdiv_eq_ediv_of_nonneg _ (by exact_mod_cast Nat.zero_le _)]
    norm_cast
  have s0 : Value.int .u8 (wr .u8 (w : Int)) = u8 (UInt8.ofNat w) := by
    unfold u8
    rw [wr_u8, UInt8.toNat_ofNat']; norm_cast
  have h1 := sh 24 (by decide)
  have h2 := sh 16 (by decide)
  have h3 := sh 8 (by decide)
  have e1 : ((24 : Nat) : Int) = 24 := rfl
  have e2 : ((16 : Nat) : Int) = 16 := rfl
  have e3 : ((8 : Nat) : Int) = 8 := rfl
  rw [e1] at h1; rw [e2] at h2; rw [e3] at h3
  rw [h1, h2, h3, s0]
  show _ = [u8 (UInt8.ofNat (w / 256 ^ 3)), u8 (UInt8.ofNat (w / 256 ^ 2)), u8 (UInt8.ofNat (w / 256 ^ 1)), u8 (UInt8.ofNat (w / 256 ^ 0))]
  have q1 : (2 : Nat) ^ 24 = 256 ^ 3 := by decide
  have q2 : (2 : Nat) ^ 16 = 256 ^ 2 := by decide
  have q3 : (2 : Nat) ^ 8 = 256 ^ 1 := by decide
  rw [q1, q2, q3, Nat.pow_zero, Nat.div_one]
section
variable {H : Heap} {K : Value → Heap → Prop}
theorem bclone_t {a : Option Addr} {n c : Nat} {ys : List UInt8} (hy : RowAt H a (u8s ys)) (hn : ys.length = n) (hlim : n ≤ 140737488355328)
    (hk : ∀ a' cap' H', Made H H' 5 1 a' n cap' (u8s ys) → K (.slice a' n cap') H') : HCalls Tryz.prog 62 [.slice a n c] H K := by
  refine hcalls (fn := Tryz.f62) [] mixed Tryz.func62 rfl rfl rfl ?_
  (repeat first | refine HReg.step ?_ | refine HCode.step ?_)
  cases a with
  | none =>
    have : ys = [] := by
      cases ys with
      | nil => rfl
      | cons y ys => obtain ⟨_, _, hh, _⟩ := hy 0 _ rfl; cases hh
    subst this
    have : n = 0 := by simpa using hn.symm
    subst this
    (repeat first | refine HReg.step ?_ | refine HCode.step ?_)
    exact hk none 0 H ⟨OwnRow.nil _ _ _, Upd.refl _ _, fun p hp => by cases hp⟩
  | some p =>
    (repeat first | refine HReg.step ?_ | refine HCode.step ?_)
    refine HReq.mk (by decide) ?_
    (repeat first | refine HReg.step ?_ | refine HCode.step ?_)
    refine HNew.mk fun b hb => ?_
    (repeat first | refine HReg.step ?_ | refine HCode.step ?_)
    refine copy_sem hb hy hn hlim fun a' cap' H' h => ?_
    (repeat first | refine HReg.step ?_ | refine HCode.step ?_)
    exact hk a' cap' H' h
theorem build_t {r : Rec} {ap ak : Option Addr} {cp ck : Nat} (hr : RecIn H r ap ak)
    (hk : ∀ a c H', Made H H' 5 1 a (buildR r).1.length c (u8s (buildR r).1) → K (.tuple #[.slice a (buildR r).1.length c, .int .i64 (buildR r).2]) H') : HCalls Tryz.prog 39 [rv r ap cp ak ck] H K := by
  refine hcalls (fn := Tryz.f39) [] mixed Tryz.func39 rfl rfl (by decide +kernel) ?_
  (repeat first | refine HReg.step ?_ | refine HCode.step ?_)
  refine HNew.mk fun b1 hb1 => ?_
  have u1 : Upd [] H (H.upd b1 (.cells (rcells r ap cp ak ck).toArray 41)) := Upd.new hb1 _
  have o1 : RowAt (H.upd b1 (.cells (rcells r ap cp ak ck).toArray 41)) (some ⟨b1, 0, none⟩) (rcells r ap cp ak ck) := RowAt.of_cells (upd_same _ _ _)
  have hH' : H.upd b1 (.cells [Value.int .i64 r.kind, .int .u64 (r.id : Int), .slice ap r.ps.length cp, .slice ak r.ks.length ck].toArray 41) = H.upd b1 (.cells (rcells r ap cp ak ck).toArray 41) := rfl
  rw [hH']
  generalize hH1 : H.upd b1 (.cells (rcells r ap cp ak ck).toArray 41) = H1 at u1 o1
  have hr1 := hr.upd0 u1
  (repeat first | refine HReg.step ?_ | refine HCode.step ?_)
  refine HLoadN_row o1 rfl ?_
  (repeat first | refine HReg.step ?_ | refine HCode.step ?_)
  refine HCall.mk ⟨Tryz.f56, Tryz.func56, by rfl, by rfl⟩ ?_
  refine may_t hr1 fun t H2 ht u2 => ?_
  cases t with
  | false =>
    have hm : ¬ May r := fun h => by have := ht.2 h; cases this
    have e : buildR r = ([], 1) := if_pos hm
    rw [e] at hk
    (repeat first | refine HReg.step ?_ | refine HCode.step ?_)
    exact hk none 0 H2 ⟨OwnRow.nil _ _ _, u1.trans u2, fun p hp => by cases hp⟩
  | true =>
    have hm := ht.1 rfl
    have o2 := o1.upd (S := []) u2 (.inr (Off.nil _))
    (repeat first | refine HReg.step ?_ | refine HCode.step ?_)
    refine HLoadN_row o2 rfl ?_
    (repeat first | refine HReg.step ?_ | refine HCode.step ?_)
    refine HCall.mk ⟨Tryz.f57, Tryz.func57, by rfl, by rfl⟩ ?_
    refine payload_t (hr1.upd0 u2) hm fun a3 c3 H3 m3 => ?_
    by_cases hlong : 1048576 < (pay r).length
    · have e : buildR r = ([], 3) := by unfold buildR; rw [if_neg (fun h => h hm), if_pos hlong]
      rw [e] at hk
      rw [payW_long hlong]
      (repeat first | refine HReg.step ?_ | refine HCode.step ?_)
      rw [show eqB (3 : Int) 0 = false from eqB_false.2 (by decide)]
      (repeat first | refine HReg.step ?_ | refine HCode.step ?_)
      exact hk none 0 H3 ⟨OwnRow.nil _ _ _, (u1.trans u2).trans m3.upd, fun p hp => by cases hp⟩
    · obtain ⟨e1, e2⟩ := payW_ok (Nat.le_of_not_lt hlong)
      have e : buildR r = (frameR (pay r), 0) := by unfold buildR; rw [if_neg (fun h => h hm), if_neg hlong]
      rw [e] at hk
      rw [e1] at m3
      rw [e2, e1]
      generalize pay r = p at *
      have hp : p.length ≤ 1048576 := by omega
      have w8 : wr .i64 (8 + (p.length : Int)) = ((8 + p.length : Nat) : Int) := by rw [wr_i64 (by omega) (by omega)]; omega
      (repeat first | refine HReg.step ?_ | refine HCode.step ?_)
      rw [eqB_self 0]
      (repeat first | refine HReg.step ?_ | refine HCode.step ?_)
      rw [w8]
      refine HCall.mk ⟨Tryz.f58, Tryz.func58, by rfl, by rfl⟩ ?_
      refine newW_t (by omega) fun g S4 H4 d4 => ?_
      have e4 : (max ((8 + p.length : Nat) : Int) 0).toNat = 8 + p.length := by omega
      rw [e4] at d4
      have r4 := m3.own.rows.upd (S := []) d4.base (.inr (Off.nil _))
      (repeat first | refine HReg.step ?_ | refine HCode.step ?_)
      refine HBytes.row p rfl (by simpa using r4) ?_ (by simp)
      (repeat first | refine HReg.step ?_ | refine HCode.step ?_)
      refine HCall.mk ⟨Tryz.f59, Tryz.func59, by rfl, by rfl⟩ ?_
      refine text_t (s := p) d4 (by show 0 + (4 + p.length) ≤ _; omega) fun S5 H5 d5 f5 => ?_
      have ew : (⟨8 + p.length, [], 0⟩ : W).lay (textB p) = ⟨8 + p.length, textB p, 0⟩ := by
        rw [lay_yes rfl (by rw [textB_length]; show 4 + p.length ≤ 8 + p.length - 0; omega)]; rfl
      rw [ew] at d5
      have htb : (textB p).length = 4 + p.length := textB_length p
      (repeat first | refine HReg.step ?_ | refine HCode.step ?_)
      refine HCall.mk ⟨Tryz.f60, Tryz.func60, by rfl, by rfl⟩ ?_
      refine out_t d5 (by show (textB p).length ≤ _; omega) fun a6 c6 H6 m6 => ?_
      have et : (⟨8 + p.length, textB p, 0⟩ : W).told = textB p := rfl
      rw [et, htb] at m6
      rw [et, htb]
      have u36 : Upd [] H3 H6 := d5.base.trans m6.upd
      have r6 := m3.own.rows.upd (S := []) u36 (.inr (Off.nil _))
      (repeat first | refine HReg.step ?_ | refine HCode.step ?_)
      refine HCall.mk ⟨Tryz.f61, Tryz.func61, by rfl, by rfl⟩ ?_
      refine Sum.sum_t r6 rfl (by omega) fun H7 u7 => ?_
      unfold Sum.u32
      have ecn : (Crc.crc 0#32 p).toNat = crcN p := rfl
      rw [ecn]
      have efr : frameR p = num p.length 4 ++ num (crcN p) 4 ++ p := rfl
      rw [efr] at hk
      generalize crcN p = cn at hk
      have hc6 := m6.own.le
      (repeat first | refine HReg.step ?_ | refine HCode.step ?_)
      refine HReq.mk ⟨by omega, by omega⟩ ?_
      (repeat first | refine HReg.step ?_ | refine HCode.step ?_)
      refine HCall.mk ⟨Tryz.f62, Tryz.func62, by rfl, by rfl⟩ ?_
      have r4' : RowAt H7 a6 (u8s (num p.length 4)) := by
        have h := (m6.own.rows.upd (S := []) u7 (.inr (Off.nil _))).take 4
        rw [← u8s_take] at h
        have e : (textB p).take 4 = num p.length 4 := by unfold textB; rw [List.take_append_of_le_length (by rw [num_length]; exact Nat.le_refl _), List.take_of_length_le (by rw [num_length]; exact Nat.le_refl _)]
        rw [e] at h; exact h
      refine bclone_t r4' (num_length _ _) (by decide) fun a8 c8 H8 m8 => ?_
      (repeat first | refine HReg.step ?_ | refine HCode.step ?_)
      refine HReq.mk (by decide) ?_
      (repeat first | refine HReg.step ?_ | refine HCode.step ?_)
      refine HReq.mk (by decide) ?_
      (repeat first | refine HReg.step ?_ | refine HCode.step ?_)
      refine HReq.mk (by decide) ?_
      (repeat first | refine HReg.step ?_ | refine HCode.step ?_)
      refine HReq.mk (by decide) ?_
      (repeat first | refine HReg.step ?_ | refine HCode.step ?_)
      refine HNew.mk fun b9 hb9 => ?_
      have eb := crc_bytes cn
      rw [eb]
      have u9 : Upd [] H8 (H8.upd b9 (.cells (u8s (num cn 4)).toArray 5)) := Upd.new hb9 _
      have r9 : RowAt (H8.upd b9 (.cells (u8s (num cn 4)).toArray 5)) (some ⟨b9, 0, none⟩) (u8s (num cn 4)) := RowAt.of_cells (upd_same _ _ _)
      generalize hH9 : H8.upd b9 (.cells (u8s (num cn 4)).toArray 5) = H9 at u9 r9
      (repeat first | refine HReg.step ?_ | refine HCode.step ?_)
      refine append_made (m8.step u9) r9 (num_length _ _) (by decide) fun a10 c10 H10 m10 => ?_
      have u310 : Upd [] H3 H10 := (u36.trans u7).trans m10.upd
      (repeat first | refine HReg.step ?_ | refine HCode.step ?_)
      refine append_made m10 (m3.own.rows.upd (S := []) u310 (.inr (Off.nil _))) rfl (by omega) fun a11 c11 H11 m11 => ?_
      have el : (num p.length 4 ++ num cn 4 ++ p).length = 4 + 4 + p.length := by rw [List.length_append, List.length_append, num_length, num_length]
      have u11 := ((u1.trans u2).trans m3.upd).trans (u36.trans u7)
      have mm := m11.back u11
      rw [el] at hk
      (repeat first | refine HReg.step ?_ | refine HCode.step ?_)
      exact hk a11 c11 H11 mm
end
end Go.Proofs.YtfcmjomnpahllaaGreat
namespace Go.Proofs.YtfcmjomnpahllaaGreat
open Go Hv
set_option linter.unusedVariables false
set_option linter.unusedSimpArgs false
set_option maxRecDepth 10000
set_option maxHeartbeats 1000000
/-! read -/
theorem RAt.mem {H0 H : Heap} {g : Nat} {S : List Nat} {r : R} (d : RAt H0 H g S r) : g ∈ S := by obtain ⟨a, c, rfl, _⟩ := d.ex; exact List.mem_cons_self
theorem RAt.back {H0 H1 H : Heap} {g : Nat} {S : List Nat} {r : R} (d : RAt H1 H g S r) (u : Upd [] H0 H1) : RAt H0 H g S r := ⟨d.lim, d.er, u.trans d.base, fun b hb => Upd.none (S := []) u (by simp) (d.new b hb), d.ex⟩
theorem noneg {g : Nat} {S : List Nat} {H : Heap} (h : ∀ b ∈ S, H b = none) (hg : g ∈ S) : ∀ b ∈ [g], H b = none := fun b hb => by rw [List.mem_singleton.1 hb]; exact h g hg
theorem HLoadN_all {Hs : List Heap} {b off n : Nat} {vs : List Value} {K : List Value → Prop} (h : ∀ H ∈ Hs, RowAt H (some ⟨b, off, none⟩) vs) (hl : vs.length = n) (hk : K vs) : HLoadN Hs b off n K :=
  ⟨vs, fun H' hH j v hv => (h H' hH).get hv, hl, hk⟩
/-- n pairs, till one fails. -/
def pairsP : Nat → R → List (Txt × Txt) × R
  | 0, r => ([], r)
  | n + 1, r => if r.err ≠ 0 then ([], r) else (((r.text 65535).1, ((r.text 65535).2.text 65535).1) :: (pairsP n ((r.text 65535).2.text 65535).2).1, (pairsP n ((r.text 65535).2.text 65535).2).2)
theorem pairsP_err {r : R} (h : r.err ≠ 0) : ∀ n, pairsP n r = ([], r)
  | 0 => rfl
  | n + 1 => if_pos h
theorem pairsP_len : ∀ (n : Nat) (r : R), (pairsP n r).1.length ≤ n
  | 0, r => Nat.zero_le _
  | n + 1, r => by
    unfold pairsP
    split
    · exact Nat.zero_le _
    · have := pairsP_len n ((r.text 65535).2.text 65535).2
      simp only [List.length_cons]; omega
def readR (l : List UInt8) : Rec × R :=
  if ((⟨l, 0⟩ : R).number 1).1 = 1 then
    (⟨1, (((⟨l, 0⟩ : R).number 1).2.number 8).1, (pairsP ((((⟨l, 0⟩ : R).number 1).2.number 8).2.count 1024).1 ((((⟨l, 0⟩ : R).number 1).2.number 8).2.count 1024).2).1, ((pairsP ((((⟨l, 0⟩ : R).number 1).2.number 8).2.count 1024).1 ((((⟨l, 0⟩ : R).number 1).2.number 8).2.count 1024).2).2.texts 1024 65535).1⟩,
     ((pairsP ((((⟨l, 0⟩ : R).number 1).2.number 8).2.count 1024).1 ((((⟨l, 0⟩ : R).number 1).2.number 8).2.count 1024).2).2.texts 1024 65535).2)
  else (⟨(((⟨l, 0⟩ : R).number 1).1 : Int), (((⟨l, 0⟩ : R).number 1).2.number 8).1, [], []⟩, (((⟨l, 0⟩ : R).number 1).2.number 8).2)
def ReadOk (l : List UInt8) : Prop := (readR l).2.fin = 0 ∧ May (readR l).1
/-- A record whose lists are memory of its own. -/
structure RecNew (H0 H : Heap) (x : Rec) (ap : Option Addr) (cp : Nat) (ak : Option Addr) (ck : Nat) : Prop where
  p : OwnRow H 100 2 ap x.ps.length cp (pairsV x.ps)
  k : OwnRow H 9 1 ak x.ks.length ck (txts x.ks)
  pn : ∀ q, ap = some q → H0 q.block = none
  kn : ∀ q, ak = some q → H0 q.block = none
  np : x.ps.length ≤ 1024
  nk : x.ks.length ≤ 4294967296
theorem RecNew.recIn {H0 H : Heap} {x : Rec} {ap ak : Option Addr} {cp ck : Nat} (h : RecNew H0 H x ap cp ak ck) : RecIn H x ap ak := ⟨h.p.rows, h.k.rows, by have := h.np; omega, by have := h.nk; omega⟩
theorem RecNew.upd {H0 H H' : Heap} {x : Rec} {ap ak : Option Addr} {cp ck : Nat} {T : List Nat} (h : RecNew H0 H x ap cp ak ck) (u : Upd T H H') (h1 : Off T ap) (h2 : Off T ak) : RecNew H0 H' x ap cp ak ck := ⟨h.p.upd u h1, h.k.upd u h2, h.pn, h.kn, h.np, h.nk⟩
theorem RecNew.upd0 {H0 H H' : Heap} {x : Rec} {ap ak : Option Addr} {cp ck : Nat} (h : RecNew H0 H x ap cp ak ck) (u : Upd [] H H') : RecNew H0 H' x ap cp ak ck := h.upd u (Off.nil _) (Off.nil _)
theorem RecNew.back {H0 H1 H : Heap} {x : Rec} {ap ak : Option Addr} {cp ck : Nat} (h : RecNew H1 H x ap cp ak ck) (u : Upd [] H0 H1) : RecNew H0 H x ap cp ak ck :=
  ⟨h.p, h.k, fun q hq => Upd.none (S := []) u (by simp) (h.pn q hq), fun q hq => Upd.none (S := []) u (by simp) (h.kn q hq), h.np, h.nk⟩
/-- What is being read, between two steps. -/
theorem manyP_len (each : Int) : ∀ (n : Nat) (r : R), (R.many each n r).1.length ≤ n
  | 0, r => Nat.le_refl _
  | n + 1, r => by
    unfold R.many
    split
    · simp
    · have := manyP_len each n (r.text each).2
      simp only [List.length_cons]; omega
theorem texts_lenR (r : R) (most each : Int) : (r.texts most each).1.length ≤ 4294967296 := by
  unfold R.texts
  split
  · exact Nat.zero_le _
  · exact Nat.le_trans (manyP_len _ _ _) (Nat.le_of_lt (count_lt r most))
def zeroR : List Value := [.int .i64 0, .int .u64 0, .slice none 0 0, .slice none 0 0]
structure RdS (H : Heap) (b2 g b5 : Nat) (S : List Nat) (r : R) (x : Rec) (ap : Option Addr) (cp : Nat) (ak : Option Addr) (ck : Nat) (H' : Heap) : Prop where
  d : RAt H H' g S r
  o : OwnRow H' 41 1 (some ⟨b5, 0, none⟩) 4 4 (rcells x ap cp ak ck)
  n : RecNew H H' x ap cp ak ck
  nb : H b5 = none
  bS : b5 ∉ S
  pS : ∀ b ∈ blk ap, b ∉ S
  o2 : OwnRow H' 41 1 (some ⟨b2, 0, none⟩) 4 4 zeroR
  ne : b2 ≠ b5
structure RdJ (H : Heap) (b2 g b5 : Nat) (S : List Nat) (l : List UInt8) (vs : List Value) (H' : Heap) : Prop where
  ex : ∃ ap cp ak ck, vs = [] ∧ RdS H b2 g b5 S (readR l).2 (readR l).1 ap cp ak ck H'
structure RdJ2 (H : Heap) (b2 g b5 : Nat) (S : List Nat) (id : Nat) (n : Nat) (r : R) (vs : List Value) (H' : Heap) : Prop where
  ex : ∃ ap cp, vs = [] ∧ RdS H b2 g b5 S (pairsP n r).2 ⟨1, id, (pairsP n r).1, []⟩ ap cp none 0 H'
structure RdInv (H : Heap) (b2 g b5 : Nat) (S : List Nat) (id : Nat) (n : Nat) (r : R) (m : Nat) (vs : List Value) (H' : Heap) : Prop where
  ex : ∃ (ps : List (Txt × Txt)) (r' : R) (ap : Option Addr) (cp : Nat), vs = [.int .i64 (m : Int)] ∧ ps.length + m = n ∧ pairsP n r = (ps ++ (pairsP m r').1, (pairsP m r').2) ∧ RdS H b2 g b5 S r' ⟨1, id, ps, []⟩ ap cp none 0 H'
theorem count_le (r : R) (m : Nat) : (r.count (m : Int)).1 ≤ m := by
  unfold R.count
  split
  · exact Nat.zero_le _
  · split
    · exact Nat.zero_le _
    · split
      · exact Nat.zero_le _
      · rename_i h; show val _ ≤ m; omega
section
variable {H : Heap} {K : Value → Heap → Prop}
theorem RAt.offRow {H0 H : Heap} {g : Nat} {S : List Nat} {r : R} {e : TypeId} {size n c : Nat} {a : Option Addr} {xs : List Value} (d : RAt H0 H g S r) (o : OwnRow H e size a n c xs) (h1 : e ≠ 141) : Off [g] a := fun p hp hb => by
  obtain ⟨a', c', _, og, _⟩ := d.ex
  have hg : p.block = g := List.mem_singleton.1 hb
  exact own_apart og o (fun e => h1 e.symm) (by rw [hp, ← hg]; simp [blk])
/-- The reader goes on; what was read stays. -/
theorem RdS.go {b2 g b5 : Nat} {S : List Nat} {r r' : R} {x : Rec} {ap ak : Option Addr} {cp ck : Nat} {H1 H2 : Heap} (s : RdS H b2 g b5 S r x ap cp ak ck H1) (d : RAt H H2 g S r') (u : Upd [g] H1 H2) : RdS H b2 g b5 S r' x ap cp ak ck H2 :=
  ⟨d, s.o.upd u (s.d.offRow s.o (by decide)), s.n.upd u (s.d.offRow s.n.p (by decide)) (s.d.offRow s.n.k (by decide)), s.nb, s.bS, s.pS, s.o2.upd u (s.d.offRow s.o2 (by decide)), s.ne⟩
theorem RdS.upd0 {b2 g b5 : Nat} {S : List Nat} {r : R} {x : Rec} {ap ak : Option Addr} {cp ck : Nat} {H1 H2 : Heap} (s : RdS H b2 g b5 S r x ap cp ak ck H1) (u : Upd [] H1 H2) : RdS H b2 g b5 S r x ap cp ak ck H2 :=
  ⟨s.d.upd0 u, s.o.upd u (Off.nil _), s.n.upd0 u, s.nb, s.bS, s.pS, s.o2.upd u (Off.nil _), s.ne⟩
theorem store_rec {b : Nat} {x : Rec} {ap ak : Option Addr} {cp ck : Nat} {xs : List Value} {K : Heap → Prop} (h : OwnRow H 41 1 (some ⟨b, 0, none⟩) 4 4 xs) (hl : xs.length = 4)
    (hk : ∀ H', OwnRow H' 41 1 (some ⟨b, 0, none⟩) 4 4 (rcells x ap cp ak ck) → Upd [b] H H' → K H') : storeN H b 0 0 K (rcells x ap cp ak ck) := by
  obtain ⟨x0, x1, x2, x3, rfl⟩ : ∃ a b c d, xs = [a, b, c, d] := by
    match xs, hl with
    | [a, b, c, d], _ => exact ⟨a, b, c, d, rfl⟩
  refine store_row h (v := .int .i64 x.kind) rfl (i := 0) (by decide) (by rfl) fun H1 o1 u1 => ?_
  refine store_row o1 (v := .int .u64 (x.id : Int)) rfl (i := 1) (by decide) (by rfl) fun H2 o2 u2 => ?_
  refine store_row o2 (v := .slice ap x.ps.length cp) rfl (i := 2) (by decide) (by rfl) fun H3 o3 u3 => ?_
  refine store_row o3 (v := .slice ak x.ks.length ck) rfl (i := 3) (by decide) (by rfl) fun H4 o4 u4 => ?_
  exact hk H4 o4 (((u1.trans u2).trans u3).trans u4)
theorem read_t {a : Option Addr} {n c : Nat} {l : List UInt8} (hr : RowAt H a (u8s l)) (hl : l.length = n) (hlim : n ≤ 140737488355328)
    (hk : ∀ (t : Bool) ap cp ak ck H', (t = true ↔ ReadOk l) → RecNew H H' (readR l).1 ap cp ak ck → Upd [] H H' → K (.tuple #[rv (readR l).1 ap cp ak ck, .bool t]) H') : HCalls Tryz.prog 73 [.slice a n c] H K := by
  refine hcalls (fn := Tryz.f73) [(8, [(3, 0), (4, 0), (2, 1), (5, 0), (6, 0), (0, 2), (1, 2), (7, 0), (8, 0), (9, 0)]), (10, [(1, 0), (2, 0), (3, 0), (4, 0), (5, 0), (6, 0), (0, 2), (8, 0), (7, 1), (9, 0)])] mixed Tryz.func73 rfl rfl (by decide +kernel) ?_
  (repeat first | refine HReg.step ?_ | refine HCode.step ?_)
  refine HNew.mk fun b2 hb2 => ?_
  have u2 : Upd [] H (H.upd b2 (.cells [Value.int .i64 0, .int .u64 0, .slice none 0 0, .slice none 0 0].toArray 41)) := Upd.new hb2 _
  have o2 : OwnRow (H.upd b2 (.cells [Value.int .i64 0, .int .u64 0, .slice none 0 0, .slice none 0 0].toArray 41)) 41 1 (some ⟨b2, 0, none⟩) 4 4 [Value.int .i64 0, .int .u64 0, .slice none 0 0, .slice none 0 0] := OwnRow.lit (upd_same _ _ _) rfl
  generalize hH2 : H.upd b2 (.cells [Value.int .i64 0, .int .u64 0, .slice none 0 0, .slice none 0 0].toArray 41) = H2 at u2 o2
  (repeat first | refine HReg.step ?_ | refine HCode.step ?_)
  refine HCall.mk ⟨Tryz.f71, Tryz.func71, by rfl, by rfl⟩ ?_
  refine newR_t (hr.upd (S := []) u2 (.inr (Off.nil _))) hl hlim fun g S H3 d3 => ?_
  have b2S : b2 ∉ S := fun h => o2.there rfl (d3.new _ h)
  have o3 := o2.upd d3.base (Off.nil _)
  have d3 := d3.back u2
  (repeat first | refine HReg.step ?_ | refine HCode.step ?_)
  refine HCall.mk ⟨Tryz.f95, Tryz.func95, by rfl, by rfl⟩ ?_
  refine ru8_t d3 fun H4 d4 u4 => ?_
  have hlt : ((⟨l, 0⟩ : R).number 1).1 < 256 := number_lt 1
  have o4 := o3.upd u4 (d3.offRow o3 (by decide))
  (repeat first | refine HReg.step ?_ | refine HCode.step ?_)
  refine HCall.mk ⟨Tryz.f96, Tryz.func96, by rfl, by rfl⟩ ?_
  refine ru64_t d4 fun H5 d5 u5 => ?_
  have o5 := o4.upd u5 (d4.offRow o4 (by decide))
  obtain ⟨v1, r1, e1⟩ : ∃ v1 r1, (⟨l, 0⟩ : R).number 1 = (v1, r1) := ⟨_, _, rfl⟩
  obtain ⟨v8, r8, e8⟩ : ∃ v8 r8, r1.number 8 = (v8, r8) := ⟨_, _, rfl⟩
  have e11 : ((⟨l, 0⟩ : R).number 1).1 = v1 := by rw [e1]
  have e12 : ((⟨l, 0⟩ : R).number 1).2 = r1 := by rw [e1]
  have e81 : (r1.number 8).1 = v8 := by rw [e8]
  have e82 : (r1.number 8).2 = r8 := by rw [e8]
  rw [e12] at d4 d5
  rw [e82] at d5
  rw [e11] at hlt
  rw [e12, e81, e11]
  have hR : readR l = if v1 = 1 then (⟨1, v8, (pairsP (r8.count 1024).1 (r8.count 1024).2).1, ((pairsP (r8.count 1024).1 (r8.count 1024).2).2.texts 1024 65535).1⟩, ((pairsP (r8.count 1024).1 (r8.count 1024).2).2.texts 1024 65535).2)
      else (⟨(v1 : Int), v8, [], []⟩, r8) := by unfold readR; rw [e1]; simp only [e8]
  have w1 : wr .i64 (v1 : Int) = (v1 : Int) := by rw [wr_i64 (by omega) (by omega)]
  (repeat first | refine HReg.step ?_ | refine HCode.step ?_)
  rw [w1]
  refine HNew.mk fun b5 hb5 => ?_
  (repeat first | refine HReg.step ?_ | refine HCode.step ?_)
  refine store_rec (x := ⟨(v1 : Int), v8, [], []⟩) (ap := none) (cp := 0) (ak := none) (ck := 0) (OwnRow.lit (upd_same _ _ _) rfl) rfl fun H6 o6 u6 => ?_
  have u56 : Upd [] H5 H6 := Upd.drop (Upd.new hb5 _) u6 (fun x hx => by rw [List.mem_singleton.1 hx]; exact hb5)
  have b5S : b5 ∉ S := fun h => d5.live b5 h hb5
  have hb5H : H b5 = none := Upd.none (S := []) d5.base (by simp) hb5
  have b25 : b2 ≠ b5 := fun e => by subst e; exact o5.there rfl hb5
  have o26 : OwnRow H6 41 1 (some ⟨b2, 0, none⟩) 4 4 zeroR := o5.upd u56 (Off.nil _)
  have s6 : RdS H b2 g b5 S r8 ⟨(v1 : Int), v8, [], []⟩ none 0 none 0 H6 :=
    ⟨d5.upd0 u56, o6, ⟨OwnRow.nil _ _ _, OwnRow.nil _ _ _, fun q hq => (by cases hq), fun q hq => (by cases hq), Nat.zero_le _, Nat.zero_le _⟩, hb5H, b5S, fun b hb => (by simp [blk] at hb), o26, b25⟩
  first | refine hcutC (a := Code.seq (Code.region _ _ _) (Code.cond _ _ _)) [6, 7, 16, 17, 18, 19, 20, 21, 22, 23, 24, 25, 26, 27, 28, 29, 30, 31, 32, 33, 34, 35, 36, 37, 38, 39, 40, 41, 42, 43] [] (RdJ H b2 g b5 S l) rfl (by repeat' first | exact Resp.retD | exact Resp1.valuesK | refine Resp.blockD ?_ | refine Resp.thenD ?_ ?_ | refine Resp.hcode ?_) ?_ ?_ | ((first | refine HReg.step ?_ | refine HCode.step ?_); first | refine hcutC (a := Code.seq (Code.region _ _ _) (Code.cond _ _ _)) [6, 7, 16, 17, 18, 19, 20, 21, 22, 23, 24, 25, 26, 27, 28, 29, 30, 31, 32, 33, 34, 35, 36, 37, 38, 39, 40, 41, 42, 43] [] (RdJ H b2 g b5 S l) rfl (by repeat' first | exact Resp.retD | exact Resp1.valuesK | refine Resp.blockD ?_ | refine Resp.thenD ?_ ?_ | refine Resp.hcode ?_) ?_ ?_ | ((first | refine HReg.step ?_ | refine HCode.step ?_); first | refine hcutC (a := Code.seq (Code.region _ _ _) (Code.cond _ _ _)) [6, 7, 16, 17, 18, 19, 20, 21, 22, 23, 24, 25, 26, 27, 28, 29, 30, 31, 32, 33, 34, 35, 36, 37, 38, 39, 40, 41, 42, 43] [] (RdJ H b2 g b5 S l) rfl (by repeat' first | exact Resp.retD | exact Resp1.valuesK | refine Resp.blockD ?_ | refine Resp.thenD ?_ ?_ | refine Resp.hcode ?_) ?_ ?_ | ((first | refine HReg.step ?_ | refine HCode.step ?_); first | refine hcutC (a := Code.seq (Code.region _ _ _) (Code.cond _ _ _)) [6, 7, 16, 17, 18, 19, 20, 21, 22, 23, 24, 25, 26, 27, 28, 29, 30, 31, 32, 33, 34, 35, 36, 37, 38, 39, 40, 41, 42, 43] [] (RdJ H b2 g b5 S l) rfl (by repeat' first | exact Resp.retD | exact Resp1.valuesK | refine Resp.blockD ?_ | refine Resp.thenD ?_ ?_ | refine Resp.hcode ?_) ?_ ?_ | ((first | refine HReg.step ?_ | refine HCode.step ?_); first | refine hcutC (a := Code.seq (Code.region _ _ _) (Code.cond _ _ _)) [6, 7, 16, 17, 18, 19, 20, 21, 22, 23, 24, 25, 26, 27, 28, 29, 30, 31, 32, 33, 34, 35, 36, 37, 38, 39, 40, 41, 42, 43] [] (RdJ H b2 g b5 S l) rfl (by repeat' first | exact Resp.retD | exact Resp1.valuesK | refine Resp.blockD ?_ | refine Resp.thenD ?_ ?_ | refine Resp.hcode ?_) ?_ ?_ | ((first | refine HReg.step ?_ | refine HCode.step ?_); first | refine hcutC (a := Code.seq (Code.region _ _ _) (Code.cond _ _ _)) [6, 7, 16, 17, 18, 19, 20, 21, 22, 23, 24, 25, 26, 27, 28, 29, 30, 31, 32, 33, 34, 35, 36, 37, 38, 39, 40, 41, 42, 43] [] (RdJ H b2 g b5 S l) rfl (by repeat' first | exact Resp.retD | exact Resp1.valuesK | refine Resp.blockD ?_ | refine Resp.thenD ?_ ?_ | refine Resp.hcode ?_) ?_ ?_ | ((first | refine HReg.step ?_ | refine HCode.step ?_); first | refine hcutC (a := Code.seq (Code.region _ _ _) (Code.cond _ _ _)) [6, 7, 16, 17, 18, 19, 20, 21, 22, 23, 24, 25, 26, 27, 28, 29, 30, 31, 32, 33, 34, 35, 36, 37, 38, 39, 40, 41, 42, 43] [] (RdJ H b2 g b5 S l) rfl (by repeat' first | exact Resp.retD | exact Resp1.valuesK | refine Resp.blockD ?_ | refine Resp.thenD ?_ ?_ | refine Resp.hcode ?_) ?_ ?_ | ((first | refine HReg.step ?_ | refine HCode.step ?_); first | refine hcutC (a := Code.seq (Code.region _ _ _) (Code.cond _ _ _)) [6, 7, 16, 17, 18, 19, 20, 21, 22, 23, 24, 25, 26, 27, 28, 29, 30, 31, 32, 33, 34, 35, 36, 37, 38, 39, 40, 41, 42, 43] [] (RdJ H b2 g b5 S l) rfl (by repeat' first | exact Resp.retD | exact Resp1.valuesK | refine Resp.blockD ?_ | refine Resp.thenD ?_ ?_ | refine Resp.hcode ?_) ?_ ?_ | ((first | refine HReg.step ?_ | refine HCode.step ?_); first | refine hcutC (a := Code.seq (Code.region _ _ _) (Code.cond _ _ _)) [6, 7, 16, 17, 18, 19, 20, 21, 22, 23, 24, 25, 26, 27, 28, 29, 30, 31, 32, 33, 34, 35, 36, 37, 38, 39, 40, 41, 42, 43] [] (RdJ H b2 g b5 S l) rfl (by repeat' first | exact Resp.retD | exact Resp1.valuesK | refine Resp.blockD ?_ | refine Resp.thenD ?_ ?_ | refine Resp.hcode ?_) ?_ ?_ | ((first | refine HReg.step ?_ | refine HCode.step ?_); first | refine hcutC (a := Code.seq (Code.region _ _ _) (Code.cond _ _ _)) [6, 7, 16, 17, 18, 19, 20, 21, 22, 23, 24, 25, 26, 27, 28, 29, 30, 31, 32, 33, 34, 35, 36, 37, 38, 39, 40, 41, 42, 43] [] (RdJ H b2 g b5 S l) rfl (by repeat' first | exact Resp.retD | exact Resp1.valuesK | refine Resp.blockD ?_ | refine Resp.thenD ?_ ?_ | refine Resp.hcode ?_) ?_ ?_ | ((first | refine HReg.step ?_ | refine HCode.step ?_); first | refine hcutC (a := Code.seq (Code.region _ _ _) (Code.cond _ _ _)) [6, 7, 16, 17, 18, 19, 20, 21, 22, 23, 24, 25, 26, 27, 28, 29, 30, 31, 32, 33, 34, 35, 36, 37, 38, 39, 40, 41, 42, 43] [] (RdJ H b2 g b5 S l) rfl (by repeat' first | exact Resp.retD | exact Resp1.valuesK | refine Resp.blockD ?_ | refine Resp.thenD ?_ ?_ | refine Resp.hcode ?_) ?_ ?_ | ((first | refine HReg.step ?_ | refine HCode.step ?_); first | refine hcutC (a := Code.seq (Code.region _ _ _) (Code.cond _ _ _)) [6, 7, 16, 17, 18, 19, 20, 21, 22, 23, 24, 25, 26, 27, 28, 29, 30, 31, 32, 33, 34, 35, 36, 37, 38, 39, 40, 41, 42, 43] [] (RdJ H b2 g b5 S l) rfl (by repeat' first | exact Resp.retD | exact Resp1.valuesK | refine Resp.blockD ?_ | refine Resp.thenD ?_ ?_ | refine Resp.hcode ?_) ?_ ?_ | ((first | refine HReg.step ?_ | refine HCode.step ?_); first | refine hcutC (a := Code.seq (Code.region _ _ _) (Code.cond _ _ _)) [6, 7, 16, 17, 18, 19, 20, 21, 22, 23, 24, 25, 26, 27, 28, 29, 30, 31, 32, 33, 34, 35, 36, 37, 38, 39, 40, 41, 42, 43] [] (RdJ H b2 g b5 S l) rfl (by repeat' first | exact Resp.retD | exact Resp1.valuesK | refine Resp.blockD ?_ | refine Resp.thenD ?_ ?_ | refine Resp.hcode ?_) ?_ ?_ | ((first | refine HReg.step ?_ | refine HCode.step ?_); first | refine hcutC (a := Code.seq (Code.region _ _ _) (Code.cond _ _ _)) [6, 7, 16, 17, 18, 19, 20, 21, 22, 23, 24, 25, 26, 27, 28, 29, 30, 31, 32, 33, 34, 35, 36, 37, 38, 39, 40, 41, 42, 43] [] (RdJ H b2 g b5 S l) rfl (by repeat' first | exact Resp.retD | exact Resp1.valuesK | refine Resp.blockD ?_ | refine Resp.thenD ?_ ?_ | refine Resp.hcode ?_) ?_ ?_ | ((first | refine HReg.step ?_ | refine HCode.step ?_); first | refine hcutC (a := Code.seq (Code.region _ _ _) (Code.cond _ _ _)) [6, 7, 16, 17, 18, 19, 20, 21, 22, 23, 24, 25, 26, 27, 28, 29, 30, 31, 32, 33, 34, 35, 36, 37, 38, 39, 40, 41, 42, 43] [] (RdJ H b2 g b5 S l) rfl (by repeat' first | exact Resp.retD | exact Resp1.valuesK | refine Resp.blockD ?_ | refine Resp.thenD ?_ ?_ | refine Resp.hcode ?_) ?_ ?_ | ((first | refine HReg.step ?_ | refine HCode.step ?_); first | refine hcutC (a := Code.seq (Code.region _ _ _) (Code.cond _ _ _)) [6, 7, 16, 17, 18, 19, 20, 21, 22, 23, 24, 25, 26, 27, 28, 29, 30, 31, 32, 33, 34, 35, 36, 37, 38, 39, 40, 41, 42, 43] [] (RdJ H b2 g b5 S l) rfl (by repeat' first | exact Resp.retD | exact Resp1.valuesK | refine Resp.blockD ?_ | refine Resp.thenD ?_ ?_ | refine Resp.hcode ?_) ?_ ?_ | ((first | refine HReg.step ?_ | refine HCode.step ?_); first | refine hcutC (a := Code.seq (Code.region _ _ _) (Code.cond _ _ _)) [6, 7, 16, 17, 18, 19, 20, 21, 22, 23, 24, 25, 26, 27, 28, 29, 30, 31, 32, 33, 34, 35, 36, 37, 38, 39, 40, 41, 42, 43] [] (RdJ H b2 g b5 S l) rfl (by repeat' first | exact Resp.retD | exact Resp1.valuesK | refine Resp.blockD ?_ | refine Resp.thenD ?_ ?_ | refine Resp.hcode ?_) ?_ ?_ | ((first | refine HReg.step ?_ | refine HCode.step ?_); first | refine hcutC (a := Code.seq (Code.region _ _ _) (Code.cond _ _ _)) [6, 7, 16, 17, 18, 19, 20, 21, 22, 23, 24, 25, 26, 27, 28, 29, 30, 31, 32, 33, 34, 35, 36, 37, 38, 39, 40, 41, 42, 43] [] (RdJ H b2 g b5 S l) rfl (by repeat' first | exact Resp.retD | exact Resp1.valuesK | refine Resp.blockD ?_ | refine Resp.thenD ?_ ?_ | refine Resp.hcode ?_) ?_ ?_ | ((first | refine HReg.step ?_ | refine HCode.step ?_); first | refine hcutC (a := Code.seq (Code.region _ _ _) (Code.cond _ _ _)) [6, 7, 16, 17, 18, 19, 20, 21, 22, 23, 24, 25, 26, 27, 28, 29, 30, 31, 32, 33, 34, 35, 36, 37, 38, 39, 40, 41, 42, 43] [] (RdJ H b2 g b5 S l) rfl (by repeat' first | exact Resp.retD | exact Resp1.valuesK | refine Resp.blockD ?_ | refine Resp.thenD ?_ ?_ | refine Resp.hcode ?_) ?_ ?_ | ((first | refine HReg.step ?_ | refine HCode.step ?_); first | refine hcutC (a := Code.seq (Code.region _ _ _) (Code.cond _ _ _)) [6, 7, 16, 17, 18, 19, 20, 21, 22, 23, 24, 25, 26, 27, 28, 29, 30, 31, 32, 33, 34, 35, 36, 37, 38, 39, 40, 41, 42, 43] [] (RdJ H b2 g b5 S l) rfl (by repeat' first | exact Resp.retD | exact Resp1.valuesK | refine Resp.blockD ?_ | refine Resp.thenD ?_ ?_ | refine Resp.hcode ?_) ?_ ?_ | ((first | refine HReg.step ?_ | refine HCode.step ?_); first | refine hcutC (a := Code.seq (Code.region _ _ _) (Code.cond _ _ _)) [6, 7, 16, 17, 18, 19, 20, 21, 22, 23, 24, 25, 26, 27, 28, 29, 30, 31, 32, 33, 34, 35, 36, 37, 38, 39, 40, 41, 42, 43] [] (RdJ H b2 g b5 S l) rfl (by repeat' first | exact Resp.retD | exact Resp1.valuesK | refine Resp.blockD ?_ | refine Resp.thenD ?_ ?_ | refine Resp.hcode ?_) ?_ ?_ | ((first | refine HReg.step ?_ | refine HCode.step ?_); first | refine hcutC (a := Code.seq (Code.region _ _ _) (Code.cond _ _ _)) [6, 7, 16, 17, 18, 19, 20, 21, 22, 23, 24, 25, 26, 27, 28, 29, 30, 31, 32, 33, 34, 35, 36, 37, 38, 39, 40, 41, 42, 43] [] (RdJ H b2 g b5 S l) rfl (by repeat' first | exact Resp.retD | exact Resp1.valuesK | refine Resp.blockD ?_ | refine Resp.thenD ?_ ?_ | refine Resp.hcode ?_) ?_ ?_ | ((first | refine HReg.step ?_ | refine HCode.step ?_); first | refine hcutC (a := Code.seq (Code.region _ _ _) (Code.cond _ _ _)) [6, 7, 16, 17, 18, 19, 20, 21, 22, 23, 24, 25, 26, 27, 28, 29, 30, 31, 32, 33, 34, 35, 36, 37, 38, 39, 40, 41, 42, 43] [] (RdJ H b2 g b5 S l) rfl (by repeat' first | exact Resp.retD | exact Resp1.valuesK | refine Resp.blockD ?_ | refine Resp.thenD ?_ ?_ | refine Resp.hcode ?_) ?_ ?_ | ((first | refine HReg.step ?_ | refine HCode.step ?_); first | refine hcutC (a := Code.seq (Code.region _ _ _) (Code.cond _ _ _)) [6, 7, 16, 17, 18, 19, 20, 21, 22, 23, 24, 25, 26, 27, 28, 29, 30, 31, 32, 33, 34, 35, 36, 37, 38, 39, 40, 41, 42, 43] [] (RdJ H b2 g b5 S l) rfl (by repeat' first | exact Resp.retD | exact Resp1.valuesK | refine Resp.blockD ?_ | refine Resp.thenD ?_ ?_ | refine Resp.hcode ?_) ?_ ?_ | ((first | refine HReg.step ?_ | refine HCode.step ?_); first | refine hcutC (a := Code.seq (Code.region _ _ _) (Code.cond _ _ _)) [6, 7, 16, 17, 18, 19, 20, 21, 22, 23, 24, 25, 26, 27, 28, 29, 30, 31, 32, 33, 34, 35, 36, 37, 38, 39, 40, 41, 42, 43] [] (RdJ H b2 g b5 S l) rfl (by repeat' first | exact Resp.retD | exact Resp1.valuesK | refine Resp.blockD ?_ | refine Resp.thenD ?_ ?_ | refine Resp.hcode ?_) ?_ ?_ | ((first | refine HReg.step ?_ | refine HCode.step ?_); first | refine hcutC (a := Code.seq (Code.region _ _ _) (Code.cond _ _ _)) [6, 7, 16, 17, 18, 19, 20, 21, 22, 23, 24, 25, 26, 27, 28, 29, 30, 31, 32, 33, 34, 35, 36, 37, 38, 39, 40, 41, 42, 43] [] (RdJ H b2 g b5 S l) rfl (by repeat' first | exact Resp.retD | exact Resp1.valuesK | refine Resp.blockD ?_ | refine Resp.thenD ?_ ?_ | refine Resp.hcode ?_) ?_ ?_ | ((first | refine HReg.step ?_ | refine HCode.step ?_); first | refine hcutC (a := Code.seq (Code.region _ _ _) (Code.cond _ _ _)) [6, 7, 16, 17, 18, 19, 20, 21, 22, 23, 24, 25, 26, 27, 28, 29, 30, 31, 32, 33, 34, 35, 36, 37, 38, 39, 40, 41, 42, 43] [] (RdJ H b2 g b5 S l) rfl (by repeat' first | exact Resp.retD | exact Resp1.valuesK | refine Resp.blockD ?_ | refine Resp.thenD ?_ ?_ | refine Resp.hcode ?_) ?_ ?_ | ((first | refine HReg.step ?_ | refine HCode.step ?_); first | refine hcutC (a := Code.seq (Code.region _ _ _) (Code.cond _ _ _)) [6, 7, 16, 17, 18, 19, 20, 21, 22, 23, 24, 25, 26, 27, 28, 29, 30, 31, 32, 33, 34, 35, 36, 37, 38, 39, 40, 41, 42, 43] [] (RdJ H b2 g b5 S l) rfl (by repeat' first | exact Resp.retD | exact Resp1.valuesK | refine Resp.blockD ?_ | refine Resp.thenD ?_ ?_ | refine Resp.hcode ?_) ?_ ?_ | ((first | refine HReg.step ?_ | refine HCode.step ?_); first | refine hcutC (a := Code.seq (Code.region _ _ _) (Code.cond _ _ _)) [6, 7, 16, 17, 18, 19, 20, 21, 22, 23, 24, 25, 26, 27, 28, 29, 30, 31, 32, 33, 34, 35, 36, 37, 38, 39, 40, 41, 42, 43] [] (RdJ H b2 g b5 S l) rfl (by repeat' first | exact Resp.retD | exact Resp1.valuesK | refine Resp.blockD ?_ | refine Resp.thenD ?_ ?_ | refine Resp.hcode ?_) ?_ ?_ | ((first | refine HReg.step ?_ | refine HCode.step ?_); first | refine hcutC (a := Code.seq (Code.region _ _ _) (Code.cond _ _ _)) [6, 7, 16, 17, 18, 19, 20, 21, 22, 23, 24, 25, 26, 27, 28, 29, 30, 31, 32, 33, 34, 35, 36, 37, 38, 39, 40, 41, 42, 43] [] (RdJ H b2 g b5 S l) rfl (by repeat' first | exact Resp.retD | exact Resp1.valuesK | refine Resp.blockD ?_ | refine Resp.thenD ?_ ?_ | refine Resp.hcode ?_) ?_ ?_ | ((first | refine HReg.step ?_ | refine HCode.step ?_); first | refine hcutC (a := Code.seq (Code.region _ _ _) (Code.cond _ _ _)) [6, 7, 16, 17, 18, 19, 20, 21, 22, 23, 24, 25, 26, 27, 28, 29, 30, 31, 32, 33, 34, 35, 36, 37, 38, 39, 40, 41, 42, 43] [] (RdJ H b2 g b5 S l) rfl (by repeat' first | exact Resp.retD | exact Resp1.valuesK | refine Resp.blockD ?_ | refine Resp.thenD ?_ ?_ | refine Resp.hcode ?_) ?_ ?_ | ((first | refine HReg.step ?_ | refine HCode.step ?_); first | refine hcutC (a := Code.seq (Code.region _ _ _) (Code.cond _ _ _)) [6, 7, 16, 17, 18, 19, 20, 21, 22, 23, 24, 25, 26, 27, 28, 29, 30, 31, 32, 33, 34, 35, 36, 37, 38, 39, 40, 41, 42, 43] [] (RdJ H b2 g b5 S l) rfl (by repeat' first | exact Resp.retD | exact Resp1.valuesK | refine Resp.blockD ?_ | refine Resp.thenD ?_ ?_ | refine Resp.hcode ?_) ?_ ?_ | ((first | refine HReg.step ?_ | refine HCode.step ?_); first | refine hcutC (a := Code.seq (Code.region _ _ _) (Code.cond _ _ _)) [6, 7, 16, 17, 18, 19, 20, 21, 22, 23, 24, 25, 26, 27, 28, 29, 30, 31, 32, 33, 34, 35, 36, 37, 38, 39, 40, 41, 42, 43] [] (RdJ H b2 g b5 S l) rfl (by repeat' first | exact Resp.retD | exact Resp1.valuesK | refine Resp.blockD ?_ | refine Resp.thenD ?_ ?_ | refine Resp.hcode ?_) ?_ ?_ | ((first | refine HReg.step ?_ | refine HCode.step ?_); first | refine hcutC (a := Code.seq (Code.region _ _ _) (Code.cond _ _ _)) [6, 7, 16, 17, 18, 19, 20, 21, 22, 23, 24, 25, 26, 27, 28, 29, 30, 31, 32, 33, 34, 35, 36, 37, 38, 39, 40, 41, 42, 43] [] (RdJ H b2 g b5 S l) rfl (by repeat' first | exact Resp.retD | exact Resp1.valuesK | refine Resp.blockD ?_ | refine Resp.thenD ?_ ?_ | refine Resp.hcode ?_) ?_ ?_ | ((first | refine HReg.step ?_ | refine HCode.step ?_); first | refine hcutC (a := Code.seq (Code.region _ _ _) (Code.cond _ _ _)) [6, 7, 16, 17, 18, 19, 20, 21, 22, 23, 24, 25, 26, 27, 28, 29, 30, 31, 32, 33, 34, 35, 36, 37, 38, 39, 40, 41, 42, 43] [] (RdJ H b2 g b5 S l) rfl (by repeat' first | exact Resp.retD | exact Resp1.valuesK | refine Resp.blockD ?_ | refine Resp.thenD ?_ ?_ | refine Resp.hcode ?_) ?_ ?_ | ((first | refine HReg.step ?_ | refine HCode.step ?_); first | refine hcutC (a := Code.seq (Code.region _ _ _) (Code.cond _ _ _)) [6, 7, 16, 17, 18, 19, 20, 21, 22, 23, 24, 25, 26, 27, 28, 29, 30, 31, 32, 33, 34, 35, 36, 37, 38, 39, 40, 41, 42, 43] [] (RdJ H b2 g b5 S l) rfl (by repeat' first | exact Resp.retD | exact Resp1.valuesK | refine Resp.blockD ?_ | refine Resp.thenD ?_ ?_ | refine Resp.hcode ?_) ?_ ?_ | ((first | refine HReg.step ?_ | refine HCode.step ?_); first | refine hcutC (a := Code.seq (Code.region _ _ _) (Code.cond _ _ _)) [6, 7, 16, 17, 18, 19, 20, 21, 22, 23, 24, 25, 26, 27, 28, 29, 30, 31, 32, 33, 34, 35, 36, 37, 38, 39, 40, 41, 42, 43] [] (RdJ H b2 g b5 S l) rfl (by repeat' first | exact Resp.retD | exact Resp1.valuesK | refine Resp.blockD ?_ | refine Resp.thenD ?_ ?_ | refine Resp.hcode ?_) ?_ ?_ | ((first | refine HReg.step ?_ | refine HCode.step ?_); first | refine hcutC (a := Code.seq (Code.region _ _ _) (Code.cond _ _ _)) [6, 7, 16, 17, 18, 19, 20, 21, 22, 23, 24, 25, 26, 27, 28, 29, 30, 31, 32, 33, 34, 35, 36, 37, 38, 39, 40, 41, 42, 43] [] (RdJ H b2 g b5 S l) rfl (by repeat' first | exact Resp.retD | exact Resp1.valuesK | refine Resp.blockD ?_ | refine Resp.thenD ?_ ?_ | refine Resp.hcode ?_) ?_ ?_ | ((first | refine HReg.step ?_ | refine HCode.step ?_); first | refine hcutC (a := Code.seq (Code.region _ _ _) (Code.cond _ _ _)) [6, 7, 16, 17, 18, 19, 20, 21, 22, 23, 24, 25, 26, 27, 28, 29, 30, 31, 32, 33, 34, 35, 36, 37, 38, 39, 40, 41, 42, 43] [] (RdJ H b2 g b5 S l) rfl (by repeat' first | exact Resp.retD | exact Resp1.valuesK | refine Resp.blockD ?_ | refine Resp.thenD ?_ ?_ | refine Resp.hcode ?_) ?_ ?_ | ((first | refine HReg.step ?_ | refine HCode.step ?_); first | refine hcutC (a := Code.seq (Code.region _ _ _) (Code.cond _ _ _)) [6, 7, 16, 17, 18, 19, 20, 21, 22, 23, 24, 25, 26, 27, 28, 29, 30, 31, 32, 33, 34, 35, 36, 37, 38, 39, 40, 41, 42, 43] [] (RdJ H b2 g b5 S l) rfl (by repeat' first | exact Resp.retD | exact Resp1.valuesK | refine Resp.blockD ?_ | refine Resp.thenD ?_ ?_ | refine Resp.hcode ?_) ?_ ?_ | ((first | refine HReg.step ?_ | refine HCode.step ?_); first | refine hcutC (a := Code.seq (Code.region _ _ _) (Code.cond _ _ _)) [6, 7, 16, 17, 18, 19, 20, 21, 22, 23, 24, 25, 26, 27, 28, 29, 30, 31, 32, 33, 34, 35, 36, 37, 38, 39, 40, 41, 42, 43] [] (RdJ H b2 g b5 S l) rfl (by repeat' first | exact Resp.retD | exact Resp1.valuesK | refine Resp.blockD ?_ | refine Resp.thenD ?_ ?_ | refine Resp.hcode ?_) ?_ ?_ | ((first | refine HReg.step ?_ | refine HCode.step ?_); first | refine hcutC (a := Code.seq (Code.region _ _ _) (Code.cond _ _ _)) [6, 7, 16, 17, 18, 19, 20, 21, 22, 23, 24, 25, 26, 27, 28, 29, 30, 31, 32, 33, 34, 35, 36, 37, 38, 39, 40, 41, 42, 43] [] (RdJ H b2 g b5 S l) rfl (by repeat' first | exact Resp.retD | exact Resp1.valuesK | refine Resp.blockD ?_ | refine Resp.thenD ?_ ?_ | refine Resp.hcode ?_) ?_ ?_ | ((first | refine HReg.step ?_ | refine HCode.step ?_); first | refine hcutC (a := Code.seq (Code.region _ _ _) (Code.cond _ _ _)) [6, 7, 16, 17, 18, 19, 20, 21, 22, 23, 24, 25, 26, 27, 28, 29, 30, 31, 32, 33, 34, 35, 36, 37, 38, 39, 40, 41, 42, 43] [] (RdJ H b2 g b5 S l) rfl (by repeat' first | exact Resp.retD | exact Resp1.valuesK | refine Resp.blockD ?_ | refine Resp.thenD ?_ ?_ | refine Resp.hcode ?_) ?_ ?_ | ((first | refine HReg.step ?_ | refine HCode.step ?_); first | refine hcutC (a := Code.seq (Code.region _ _ _) (Code.cond _ _ _)) [6, 7, 16, 17, 18, 19, 20, 21, 22, 23, 24, 25, 26, 27, 28, 29, 30, 31, 32, 33, 34, 35, 36, 37, 38, 39, 40, 41, 42, 43] [] (RdJ H b2 g b5 S l) rfl (by repeat' first | exact Resp.retD | exact Resp1.valuesK | refine Resp.blockD ?_ | refine Resp.thenD ?_ ?_ | refine Resp.hcode ?_) ?_ ?_ | ((first | refine HReg.step ?_ | refine HCode.step ?_); first | refine hcutC (a := Code.seq (Code.region _ _ _) (Code.cond _ _ _)) [6, 7, 16, 17, 18, 19, 20, 21, 22, 23, 24, 25, 26, 27, 28, 29, 30, 31, 32, 33, 34, 35, 36, 37, 38, 39, 40, 41, 42, 43] [] (RdJ H b2 g b5 S l) rfl (by repeat' first | exact Resp.retD | exact Resp1.valuesK | refine Resp.blockD ?_ | refine Resp.thenD ?_ ?_ | refine Resp.hcode ?_) ?_ ?_ | ((first | refine HReg.step ?_ | refine HCode.step ?_); first | refine hcutC (a := Code.seq (Code.region _ _ _) (Code.cond _ _ _)) [6, 7, 16, 17, 18, 19, 20, 21, 22, 23, 24, 25, 26, 27, 28, 29, 30, 31, 32, 33, 34, 35, 36, 37, 38, 39, 40, 41, 42, 43] [] (RdJ H b2 g b5 S l) rfl (by repeat' first | exact Resp.retD | exact Resp1.valuesK | refine Resp.blockD ?_ | refine Resp.thenD ?_ ?_ | refine Resp.hcode ?_) ?_ ?_ | ((first | refine HReg.step ?_ | refine HCode.step ?_); first | refine hcutC (a := Code.seq (Code.region _ _ _) (Code.cond _ _ _)) [6, 7, 16, 17, 18, 19, 20, 21, 22, 23, 24, 25, 26, 27, 28, 29, 30, 31, 32, 33, 34, 35, 36, 37, 38, 39, 40, 41, 42, 43] [] (RdJ H b2 g b5 S l) rfl (by repeat' first | exact Resp.retD | exact Resp1.valuesK | refine Resp.blockD ?_ | refine Resp.thenD ?_ ?_ | refine Resp.hcode ?_) ?_ ?_ | ((first | refine HReg.step ?_ | refine HCode.step ?_); first | refine hcutC (a := Code.seq (Code.region _ _ _) (Code.cond _ _ _)) [6, 7, 16, 17, 18, 19, 20, 21, 22, 23, 24, 25, 26, 27, 28, 29, 30, 31, 32, 33, 34, 35, 36, 37, 38, 39, 40, 41, 42, 43] [] (RdJ H b2 g b5 S l) rfl (by repeat' first | exact Resp.retD | exact Resp1.valuesK | refine Resp.blockD ?_ | refine Resp.thenD ?_ ?_ | refine Resp.hcode ?_) ?_ ?_ | ((first | refine HReg.step ?_ | refine HCode.step ?_); first | refine hcutC (a := Code.seq (Code.region _ _ _) (Code.cond _ _ _)) [6, 7, 16, 17, 18, 19, 20, 21, 22, 23, 24, 25, 26, 27, 28, 29, 30, 31, 32, 33, 34, 35, 36, 37, 38, 39, 40, 41, 42, 43] [] (RdJ H b2 g b5 S l) rfl (by repeat' first | exact Resp.retD | exact Resp1.valuesK | refine Resp.blockD ?_ | refine Resp.thenD ?_ ?_ | refine Resp.hcode ?_) ?_ ?_ | ((first | refine HReg.step ?_ | refine HCode.step ?_); first | refine hcutC (a := Code.seq (Code.region _ _ _) (Code.cond _ _ _)) [6, 7, 16, 17, 18, 19, 20, 21, 22, 23, 24, 25, 26, 27, 28, 29, 30, 31, 32, 33, 34, 35, 36, 37, 38, 39, 40, 41, 42, 43] [] (RdJ H b2 g b5 S l) rfl (by repeat' first | exact Resp.retD | exact Resp1.valuesK | refine Resp.blockD ?_ | refine Resp.thenD ?_ ?_ | refine Resp.hcode ?_) ?_ ?_ | ((first | refine HReg.step ?_ | refine HCode.step ?_); first | refine hcutC (a := Code.seq (Code.region _ _ _) (Code.cond _ _ _)) [6, 7, 16, 17, 18, 19, 20, 21, 22, 23, 24, 25, 26, 27, 28, 29, 30, 31, 32, 33, 34, 35, 36, 37, 38, 39, 40, 41, 42, 43] [] (RdJ H b2 g b5 S l) rfl (by repeat' first | exact Resp.retD | exact Resp1.valuesK | refine Resp.blockD ?_ | refine Resp.thenD ?_ ?_ | refine Resp.hcode ?_) ?_ ?_ | ((first | refine HReg.step ?_ | refine HCode.step ?_); first | refine hcutC (a := Code.seq (Code.region _ _ _) (Code.cond _ _ _)) [6, 7, 16, 17, 18, 19, 20, 21, 22, 23, 24, 25, 26, 27, 28, 29, 30, 31, 32, 33, 34, 35, 36, 37, 38, 39, 40, 41, 42, 43] [] (RdJ H b2 g b5 S l) rfl (by repeat' first | exact Resp.retD | exact Resp1.valuesK | refine Resp.blockD ?_ | refine Resp.thenD ?_ ?_ | refine Resp.hcode ?_) ?_ ?_ | ((first | refine HReg.step ?_ | refine HCode.step ?_); first | refine hcutC (a := Code.seq (Code.region _ _ _) (Code.cond _ _ _)) [6, 7, 16, 17, 18, 19, 20, 21, 22, 23, 24, 25, 26, 27, 28, 29, 30, 31, 32, 33, 34, 35, 36, 37, 38, 39, 40, 41, 42, 43] [] (RdJ H b2 g b5 S l) rfl (by repeat' first | exact Resp.retD | exact Resp1.valuesK | refine Resp.blockD ?_ | refine Resp.thenD ?_ ?_ | refine Resp.hcode ?_) ?_ ?_ | ((first | refine HReg.step ?_ | refine HCode.step ?_); first | refine hcutC (a := Code.seq (Code.region _ _ _) (Code.cond _ _ _)) [6, 7, 16, 17, 18, 19, 20, 21, 22, 23, 24, 25, 26, 27, 28, 29, 30, 31, 32, 33, 34, 35, 36, 37, 38, 39, 40, 41, 42, 43] [] (RdJ H b2 g b5 S l) rfl (by repeat' first | exact Resp.retD | exact Resp1.valuesK | refine Resp.blockD ?_ | refine Resp.thenD ?_ ?_ | refine Resp.hcode ?_) ?_ ?_ | ((first | refine HReg.step ?_ | refine HCode.step ?_); first | refine hcutC (a := Code.seq (Code.region _ _ _) (Code.cond _ _ _)) [6, 7, 16, 17, 18, 19, 20, 21, 22, 23, 24, 25, 26, 27, 28, 29, 30, 31, 32, 33, 34, 35, 36, 37, 38, 39, 40, 41, 42, 43] [] (RdJ H b2 g b5 S l) rfl (by repeat' first | exact Resp.retD | exact Resp1.valuesK | refine Resp.blockD ?_ | refine Resp.thenD ?_ ?_ | refine Resp.hcode ?_) ?_ ?_ | ((first | refine HReg.step ?_ | refine HCode.step ?_); first | refine hcutC (a := Code.seq (Code.region _ _ _) (Code.cond _ _ _)) [6, 7, 16, 17, 18, 19, 20, 21, 22, 23, 24, 25, 26, 27, 28, 29, 30, 31, 32, 33, 34, 35, 36, 37, 38, 39, 40, 41, 42, 43] [] (RdJ H b2 g b5 S l) rfl (by repeat' first | exact Resp.retD | exact Resp1.valuesK | refine Resp.blockD ?_ | refine Resp.thenD ?_ ?_ | refine Resp.hcode ?_) ?_ ?_ | ((first | refine HReg.step ?_ | refine HCode.step ?_); first | refine hcutC (a := Code.seq (Code.region _ _ _) (Code.cond _ _ _)) [6, 7, 16, 17, 18, 19, 20, 21, 22, 23, 24, 25, 26, 27, 28, 29, 30, 31, 32, 33, 34, 35, 36, 37, 38, 39, 40, 41, 42, 43] [] (RdJ H b2 g b5 S l) rfl (by repeat' first | exact Resp.retD | exact Resp1.valuesK | refine Resp.blockD ?_ | refine Resp.thenD ?_ ?_ | refine Resp.hcode ?_) ?_ ?_ | ((first | refine HReg.step ?_ | refine HCode.step ?_); first | refine hcutC (a := Code.seq (Code.region _ _ _) (Code.cond _ _ _)) [6, 7, 16, 17, 18, 19, 20, 21, 22, 23, 24, 25, 26, 27, 28, 29, 30, 31, 32, 33, 34, 35, 36, 37, 38, 39, 40, 41, 42, 43] [] (RdJ H b2 g b5 S l) rfl (by repeat' first | exact Resp.retD | exact Resp1.valuesK | refine Resp.blockD ?_ | refine Resp.thenD ?_ ?_ | refine Resp.hcode ?_) ?_ ?_ | ((first | refine HReg.step ?_ | refine HCode.step ?_); first | refine hcutC (a := Code.seq (Code.region _ _ _) (Code.cond _ _ _)) [6, 7, 16, 17, 18, 19, 20, 21, 22, 23, 24, 25, 26, 27, 28, 29, 30, 31, 32, 33, 34, 35, 36, 37, 38, 39, 40, 41, 42, 43] [] (RdJ H b2 g b5 S l) rfl (by repeat' first | exact Resp.retD | exact Resp1.valuesK | refine Resp.blockD ?_ | refine Resp.thenD ?_ ?_ | refine Resp.hcode ?_) ?_ ?_ | ((first | refine HReg.step ?_ | refine HCode.step ?_); first | refine hcutC (a := Code.seq (Code.region _ _ _) (Code.cond _ _ _)) [6, 7, 16, 17, 18, 19, 20, 21, 22, 23, 24, 25, 26, 27, 28, 29, 30, 31, 32, 33, 34, 35, 36, 37, 38, 39, 40, 41, 42, 43] [] (RdJ H b2 g b5 S l) rfl (by repeat' first | exact Resp.retD | exact Resp1.valuesK | refine Resp.blockD ?_ | refine Resp.thenD ?_ ?_ | refine Resp.hcode ?_) ?_ ?_ | ((first | refine HReg.step ?_ | refine HCode.step ?_); refine hcutC (a := Code.seq (Code.region _ _ _) (Code.cond _ _ _)) [6, 7, 16, 17, 18, 19, 20, 21, 22, 23, 24, 25, 26, 27, 28, 29, 30, 31, 32, 33, 34, 35, 36, 37, 38, 39, 40, 41, 42, 43] [] (RdJ H b2 g b5 S l) rfl (by repeat' first | exact Resp.retD | exact Resp1.valuesK | refine Resp.blockD ?_ | refine Resp.thenD ?_ ?_ | refine Resp.hcode ?_) ?_ ?_))))))))))))))))))))))))))))))))))))))))))))))))))))))))))))
  · (repeat first | refine HReg.step ?_ | refine HCode.step ?_)
    refine HLoad.one (v := .int .i64 (v1 : Int)) (by exact s6.o.rows.get (i := 0) rfl) ?_
    (repeat first | refine HReg.step ?_ | refine HCode.step ?_)
    refine hif (fun h1 => ?_) (fun h1 => ?_)
    · have h1 := eqB_true.1 h1
      have hv1 : v1 = 1 := by omega
      subst hv1
      rw [if_pos rfl] at hR
      first | refine hcutC (a := Code.seq (Code.region _ _ _) (Code.block _ _)) [6, 7, 19, 20, 21, 22, 23, 24, 25, 26, 27, 28, 29, 30, 31, 32, 33, 34, 35, 36, 37, 38, 39, 40] [] (RdJ2 H b2 g b5 S v8 (r8.count 1024).1 (r8.count 1024).2) rfl (by repeat' first | exact Resp.retD | exact Resp1.valuesK | refine Resp.blockD ?_ | refine Resp.thenD ?_ ?_ | refine Resp.hcode ?_) ?_ ?_ | ((first | refine HReg.step ?_ | refine HCode.step ?_); first | refine hcutC (a := Code.seq (Code.region _ _ _) (Code.block _ _)) [6, 7, 19, 20, 21, 22, 23, 24, 25, 26, 27, 28, 29, 30, 31, 32, 33, 34, 35, 36, 37, 38, 39, 40] [] (RdJ2 H b2 g b5 S v8 (r8.count 1024).1 (r8.count 1024).2) rfl (by repeat' first | exact Resp.retD | exact Resp1.valuesK | refine Resp.blockD ?_ | refine Resp.thenD ?_ ?_ | refine Resp.hcode ?_) ?_ ?_ | ((first | refine HReg.step ?_ | refine HCode.step ?_); first | refine hcutC (a := Code.seq (Code.region _ _ _) (Code.block _ _)) [6, 7, 19, 20, 21, 22, 23, 24, 25, 26, 27, 28, 29, 30, 31, 32, 33, 34, 35, 36, 37, 38, 39, 40] [] (RdJ2 H b2 g b5 S v8 (r8.count 1024).1 (r8.count 1024).2) rfl (by repeat' first | exact Resp.retD | exact Resp1.valuesK | refine Resp.blockD ?_ | refine Resp.thenD ?_ ?_ | refine Resp.hcode ?_) ?_ ?_ | ((first | refine HReg.step ?_ | refine HCode.step ?_); first | refine hcutC (a := Code.seq (Code.region _ _ _) (Code.block _ _)) [6, 7, 19, 20, 21, 22, 23, 24, 25, 26, 27, 28, 29, 30, 31, 32, 33, 34, 35, 36, 37, 38, 39, 40] [] (RdJ2 H b2 g b5 S v8 (r8.count 1024).1 (r8.count 1024).2) rfl (by repeat' first | exact Resp.retD | exact Resp1.valuesK | refine Resp.blockD ?_ | refine Resp.thenD ?_ ?_ | refine Resp.hcode ?_) ?_ ?_ | ((first | refine HReg.step ?_ | refine HCode.step ?_); first | refine hcutC (a := Code.seq (Code.region _ _ _) (Code.block _ _)) [6, 7, 19, 20, 21, 22, 23, 24, 25, 26, 27, 28, 29, 30, 31, 32, 33, 34, 35, 36, 37, 38, 39, 40] [] (RdJ2 H b2 g b5 S v8 (r8.count 1024).1 (r8.count 1024).2) rfl (by repeat' first | exact Resp.retD | exact Resp1.valuesK | refine Resp.blockD ?_ | refine Resp.thenD ?_ ?_ | refine Resp.hcode ?_) ?_ ?_ | ((first | refine HReg.step ?_ | refine HCode.step ?_); first | refine hcutC (a := Code.seq (Code.region _ _ _) (Code.block _ _)) [6, 7, 19, 20, 21, 22, 23, 24, 25, 26, 27, 28, 29, 30, 31, 32, 33, 34, 35, 36, 37, 38, 39, 40] [] (RdJ2 H b2 g b5 S v8 (r8.count 1024).1 (r8.count 1024).2) rfl (by repeat' first | exact Resp.retD | exact Resp1.valuesK | refine Resp.blockD ?_ | refine Resp.thenD ?_ ?_ | refine Resp.hcode ?_) ?_ ?_ | ((first | refine HReg.step ?_ | refine HCode.step ?_); first | refine hcutC (a := Code.seq (Code.region _ _ _) (Code.block _ _)) [6, 7, 19, 20, 21, 22, 23, 24, 25, 26, 27, 28, 29, 30, 31, 32, 33, 34, 35, 36, 37, 38, 39, 40] [] (RdJ2 H b2 g b5 S v8 (r8.count 1024).1 (r8.count 1024).2) rfl (by repeat' first | exact Resp.retD | exact Resp1.valuesK | refine Resp.blockD ?_ | refine Resp.thenD ?_ ?_ | refine Resp.hcode ?_) ?_ ?_ | ((first | refine HReg.step ?_ | refine HCode.step ?_); first | refine hcutC (a := Code.seq (Code.region _ _ _) (Code.block _ _)) [6, 7, 19, 20, 21, 22, 23, 24, 25, 26, 27, 28, 29, 30, 31, 32, 33, 34, 35, 36, 37, 38, 39, 40] [] (RdJ2 H b2 g b5 S v8 (r8.count 1024).1 (r8.count 1024).2) rfl (by repeat' first | exact Resp.retD | exact Resp1.valuesK | refine Resp.blockD ?_ | refine Resp.thenD ?_ ?_ | refine Resp.hcode ?_) ?_ ?_ | ((first | refine HReg.step ?_ | refine HCode.step ?_); first | refine hcutC (a := Code.seq (Code.region _ _ _) (Code.block _ _)) [6, 7, 19, 20, 21, 22, 23, 24, 25, 26, 27, 28, 29, 30, 31, 32, 33, 34, 35, 36, 37, 38, 39, 40] [] (RdJ2 H b2 g b5 S v8 (r8.count 1024).1 (r8.count 1024).2) rfl (by repeat' first | exact Resp.retD | exact Resp1.valuesK | refine Resp.blockD ?_ | refine Resp.thenD ?_ ?_ | refine Resp.hcode ?_) ?_ ?_ | ((first | refine HReg.step ?_ | refine HCode.step ?_); first | refine hcutC (a := Code.seq (Code.region _ _ _) (Code.block _ _)) [6, 7, 19, 20, 21, 22, 23, 24, 25, 26, 27, 28, 29, 30, 31, 32, 33, 34, 35, 36, 37, 38, 39, 40] [] (RdJ2 H b2 g b5 S v8 (r8.count 1024).1 (r8.count 1024).2) rfl (by repeat' first | exact Resp.retD | exact Resp1.valuesK | refine Resp.blockD ?_ | refine Resp.thenD ?_ ?_ | refine Resp.hcode ?_) ?_ ?_ | ((first | refine HReg.step ?_ | refine HCode.step ?_); first | refine hcutC (a := Code.seq (Code.region _ _ _) (Code.block _ _)) [6, 7, 19, 20, 21, 22, 23, 24, 25, 26, 27, 28, 29, 30, 31, 32, 33, 34, 35, 36, 37, 38, 39, 40] [] (RdJ2 H b2 g b5 S v8 (r8.count 1024).1 (r8.count 1024).2) rfl (by repeat' first | exact Resp.retD | exact Resp1.valuesK | refine Resp.blockD ?_ | refine Resp.thenD ?_ ?_ | refine Resp.hcode ?_) ?_ ?_ | ((first | refine HReg.step ?_ | refine HCode.step ?_); first | refine hcutC (a := Code.seq (Code.region _ _ _) (Code.block _ _)) [6, 7, 19, 20, 21, 22, 23, 24, 25, 26, 27, 28, 29, 30, 31, 32, 33, 34, 35, 36, 37, 38, 39, 40] [] (RdJ2 H b2 g b5 S v8 (r8.count 1024).1 (r8.count 1024).2) rfl (by repeat' first | exact Resp.retD | exact Resp1.valuesK | refine Resp.blockD ?_ | refine Resp.thenD ?_ ?_ | refine Resp.hcode ?_) ?_ ?_ | ((first | refine HReg.step ?_ | refine HCode.step ?_); first | refine hcutC (a := Code.seq (Code.region _ _ _) (Code.block _ _)) [6, 7, 19, 20, 21, 22, 23, 24, 25, 26, 27, 28, 29, 30, 31, 32, 33, 34, 35, 36, 37, 38, 39, 40] [] (RdJ2 H b2 g b5 S v8 (r8.count 1024).1 (r8.count 1024).2) rfl (by repeat' first | exact Resp.retD | exact Resp1.valuesK | refine Resp.blockD ?_ | refine Resp.thenD ?_ ?_ | refine Resp.hcode ?_) ?_ ?_ | ((first | refine HReg.step ?_ | refine HCode.step ?_); first | refine hcutC (a := Code.seq (Code.region _ _ _) (Code.block _ _)) [6, 7, 19, 20, 21, 22, 23, 24, 25, 26, 27, 28, 29, 30, 31, 32, 33, 34, 35, 36, 37, 38, 39, 40] [] (RdJ2 H b2 g b5 S v8 (r8.count 1024).1 (r8.count 1024).2) rfl (by repeat' first | exact Resp.retD | exact Resp1.valuesK | refine Resp.blockD ?_ | refine Resp.thenD ?_ ?_ | refine Resp.hcode ?_) ?_ ?_ | ((first | refine HReg.step ?_ | refine HCode.step ?_); first | refine hcutC (a := Code.seq (Code.region _ _ _) (Code.block _ _)) [6, 7, 19, 20, 21, 22, 23, 24, 25, 26, 27, 28, 29, 30, 31, 32, 33, 34, 35, 36, 37, 38, 39, 40] [] (RdJ2 H b2 g b5 S v8 (r8.count 1024).1 (r8.count 1024).2) rfl (by repeat' first | exact Resp.retD | exact Resp1.valuesK | refine Resp.blockD ?_ | refine Resp.thenD ?_ ?_ | refine Resp.hcode ?_) ?_ ?_ | ((first | refine HReg.step ?_ | refine HCode.step ?_); first | refine hcutC (a := Code.seq (Code.region _ _ _) (Code.block _ _)) [6, 7, 19, 20, 21, 22, 23, 24, 25, 26, 27, 28, 29, 30, 31, 32, 33, 34, 35, 36, 37, 38, 39, 40] [] (RdJ2 H b2 g b5 S v8 (r8.count 1024).1 (r8.count 1024).2) rfl (by repeat' first | exact Resp.retD | exact Resp1.valuesK | refine Resp.blockD ?_ | refine Resp.thenD ?_ ?_ | refine Resp.hcode ?_) ?_ ?_ | ((first | refine HReg.step ?_ | refine HCode.step ?_); first | refine hcutC (a := Code.seq (Code.region _ _ _) (Code.block _ _)) [6, 7, 19, 20, 21, 22, 23, 24, 25, 26, 27, 28, 29, 30, 31, 32, 33, 34, 35, 36, 37, 38, 39, 40] [] (RdJ2 H b2 g b5 S v8 (r8.count 1024).1 (r8.count 1024).2) rfl (by repeat' first | exact Resp.retD | exact Resp1.valuesK | refine Resp.blockD ?_ | refine Resp.thenD ?_ ?_ | refine Resp.hcode ?_) ?_ ?_ | ((first | refine HReg.step ?_ | refine HCode.step ?_); first | refine hcutC (a := Code.seq (Code.region _ _ _) (Code.block _ _)) [6, 7, 19, 20, 21, 22, 23, 24, 25, 26, 27, 28, 29, 30, 31, 32, 33, 34, 35, 36, 37, 38, 39, 40] [] (RdJ2 H b2 g b5 S v8 (r8.count 1024).1 (r8.count 1024).2) rfl (by repeat' first | exact Resp.retD | exact Resp1.valuesK | refine Resp.blockD ?_ | refine Resp.thenD ?_ ?_ | refine Resp.hcode ?_) ?_ ?_ | ((first | refine HReg.step ?_ | refine HCode.step ?_); first | refine hcutC (a := Code.seq (Code.region _ _ _) (Code.block _ _)) [6, 7, 19, 20, 21, 22, 23, 24, 25, 26, 27, 28, 29, 30, 31, 32, 33, 34, 35, 36, 37, 38, 39, 40] [] (RdJ2 H b2 g b5 S v8 (r8.count 1024).1 (r8.count 1024).2) rfl (by repeat' first | exact Resp.retD | exact Resp1.valuesK | refine Resp.blockD ?_ | refine Resp.thenD ?_ ?_ | refine Resp.hcode ?_) ?_ ?_ | ((first | refine HReg.step ?_ | refine HCode.step ?_); first | refine hcutC (a := Code.seq (Code.region _ _ _) (Code.block _ _)) [6, 7, 19, 20, 21, 22, 23, 24, 25, 26, 27, 28, 29, 30, 31, 32, 33, 34, 35, 36, 37, 38, 39, 40] [] (RdJ2 H b2 g b5 S v8 (r8.count 1024).1 (r8.count 1024).2) rfl (by repeat' first | exact Resp.retD | exact Resp1.valuesK | refine Resp.blockD ?_ | refine Resp.thenD ?_ ?_ | refine Resp.hcode ?_) ?_ ?_ | ((first | refine HReg.step ?_ | refine HCode.step ?_); first | refine hcutC (a := Code.seq (Code.region _ _ _) (Code.block _ _)) [6, 7, 19, 20, 21, 22, 23, 24, 25, 26, 27, 28, 29, 30, 31, 32, 33, 34, 35, 36, 37, 38, 39, 40] [] (RdJ2 H b2 g b5 S v8 (r8.count 1024).1 (r8.count 1024).2) rfl (by repeat' first | exact Resp.retD | exact Resp1.valuesK | refine Resp.blockD ?_ | refine Resp.thenD ?_ ?_ | refine Resp.hcode ?_) ?_ ?_ | ((first | refine HReg.step ?_ | refine HCode.step ?_); first | refine hcutC (a := Code.seq (Code.region _ _ _) (Code.block _ _)) [6, 7, 19, 20, 21, 22, 23, 24, 25, 26, 27, 28, 29, 30, 31, 32, 33, 34, 35, 36, 37, 38, 39, 40] [] (RdJ2 H b2 g b5 S v8 (r8.count 1024).1 (r8.count 1024).2) rfl (by repeat' first | exact Resp.retD | exact Resp1.valuesK | refine Resp.blockD ?_ | refine Resp.thenD ?_ ?_ | refine Resp.hcode ?_) ?_ ?_ | ((first | refine HReg.step ?_ | refine HCode.step ?_); first | refine hcutC (a := Code.seq (Code.region _ _ _) (Code.block _ _)) [6, 7, 19, 20, 21, 22, 23, 24, 25, 26, 27, 28, 29, 30, 31, 32, 33, 34, 35, 36, 37, 38, 39, 40] [] (RdJ2 H b2 g b5 S v8 (r8.count 1024).1 (r8.count 1024).2) rfl (by repeat' first | exact Resp.retD | exact Resp1.valuesK | refine Resp.blockD ?_ | refine Resp.thenD ?_ ?_ | refine Resp.hcode ?_) ?_ ?_ | ((first | refine HReg.step ?_ | refine HCode.step ?_); first | refine hcutC (a := Code.seq (Code.region _ _ _) (Code.block _ _)) [6, 7, 19, 20, 21, 22, 23, 24, 25, 26, 27, 28, 29, 30, 31, 32, 33, 34, 35, 36, 37, 38, 39, 40] [] (RdJ2 H b2 g b5 S v8 (r8.count 1024).1 (r8.count 1024).2) rfl (by repeat' first | exact Resp.retD | exact Resp1.valuesK | refine Resp.blockD ?_ | refine Resp.thenD ?_ ?_ | refine Resp.hcode ?_) ?_ ?_ | ((first | refine HReg.step ?_ | refine HCode.step ?_); first | refine hcutC (a := Code.seq (Code.region _ _ _) (Code.block _ _)) [6, 7, 19, 20, 21, 22, 23, 24, 25, 26, 27, 28, 29, 30, 31, 32, 33, 34, 35, 36, 37, 38, 39, 40] [] (RdJ2 H b2 g b5 S v8 (r8.count 1024).1 (r8.count 1024).2) rfl (by repeat' first | exact Resp.retD | exact Resp1.valuesK | refine Resp.blockD ?_ | refine Resp.thenD ?_ ?_ | refine Resp.hcode ?_) ?_ ?_ | ((first | refine HReg.step ?_ | refine HCode.step ?_); first | refine hcutC (a := Code.seq (Code.region _ _ _) (Code.block _ _)) [6, 7, 19, 20, 21, 22, 23, 24, 25, 26, 27, 28, 29, 30, 31, 32, 33, 34, 35, 36, 37, 38, 39, 40] [] (RdJ2 H b2 g b5 S v8 (r8.count 1024).1 (r8.count 1024).2) rfl (by repeat' first | exact Resp.retD | exact Resp1.valuesK | refine Resp.blockD ?_ | refine Resp.thenD ?_ ?_ | refine Resp.hcode ?_) ?_ ?_ | ((first | refine HReg.step ?_ | refine HCode.step ?_); first | refine hcutC (a := Code.seq (Code.region _ _ _) (Code.block _ _)) [6, 7, 19, 20, 21, 22, 23, 24, 25, 26, 27, 28, 29, 30, 31, 32, 33, 34, 35, 36, 37, 38, 39, 40] [] (RdJ2 H b2 g b5 S v8 (r8.count 1024).1 (r8.count 1024).2) rfl (by repeat' first | exact Resp.retD | exact Resp1.valuesK | refine Resp.blockD ?_ | refine Resp.thenD ?_ ?_ | refine Resp.hcode ?_) ?_ ?_ | ((first | refine HReg.step ?_ | refine HCode.step ?_); first | refine hcutC (a := Code.seq (Code.region _ _ _) (Code.block _ _)) [6, 7, 19, 20, 21, 22, 23, 24, 25, 26, 27, 28, 29, 30, 31, 32, 33, 34, 35, 36, 37, 38, 39, 40] [] (RdJ2 H b2 g b5 S v8 (r8.count 1024).1 (r8.count 1024).2) rfl (by repeat' first | exact Resp.retD | exact Resp1.valuesK | refine Resp.blockD ?_ | refine Resp.thenD ?_ ?_ | refine Resp.hcode ?_) ?_ ?_ | ((first | refine HReg.step ?_ | refine HCode.step ?_); first | refine hcutC (a := Code.seq (Code.region _ _ _) (Code.block _ _)) [6, 7, 19, 20, 21, 22, 23, 24, 25, 26, 27, 28, 29, 30, 31, 32, 33, 34, 35, 36, 37, 38, 39, 40] [] (RdJ2 H b2 g b5 S v8 (r8.count 1024).1 (r8.count 1024).2) rfl (by repeat' first | exact Resp.retD | exact Resp1.valuesK | refine Resp.blockD ?_ | refine Resp.thenD ?_ ?_ | refine Resp.hcode ?_) ?_ ?_ | ((first | refine HReg.step ?_ | refine HCode.step ?_); first | refine hcutC (a := Code.seq (Code.region _ _ _) (Code.block _ _)) [6, 7, 19, 20, 21, 22, 23, 24, 25, 26, 27, 28, 29, 30, 31, 32, 33, 34, 35, 36, 37, 38, 39, 40] [] (RdJ2 H b2 g b5 S v8 (r8.count 1024).1 (r8.count 1024).2) rfl (by repeat' first | exact Resp.retD | exact Resp1.valuesK | refine Resp.blockD ?_ | refine Resp.thenD ?_ ?_ | refine Resp.hcode ?_) ?_ ?_ | ((first | refine HReg.step ?_ | refine HCode.step ?_); first | refine hcutC (a := Code.seq (Code.region _ _ _) (Code.block _ _)) [6, 7, 19, 20, 21, 22, 23, 24, 25, 26, 27, 28, 29, 30, 31, 32, 33, 34, 35, 36, 37, 38, 39, 40] [] (RdJ2 H b2 g b5 S v8 (r8.count 1024).1 (r8.count 1024).2) rfl (by repeat' first | exact Resp.retD | exact Resp1.valuesK | refine Resp.blockD ?_ | refine Resp.thenD ?_ ?_ | refine Resp.hcode ?_) ?_ ?_ | ((first | refine HReg.step ?_ | refine HCode.step ?_); first | refine hcutC (a := Code.seq (Code.region _ _ _) (Code.block _ _)) [6, 7, 19, 20, 21, 22, 23, 24, 25, 26, 27, 28, 29, 30, 31, 32, 33, 34, 35, 36, 37, 38, 39, 40] [] (RdJ2 H b2 g b5 S v8 (r8.count 1024).1 (r8.count 1024).2) rfl (by repeat' first | exact Resp.retD | exact Resp1.valuesK | refine Resp.blockD ?_ | refine Resp.thenD ?_ ?_ | refine Resp.hcode ?_) ?_ ?_ | ((first | refine HReg.step ?_ | refine HCode.step ?_); first | refine hcutC (a := Code.seq (Code.region _ _ _) (Code.block _ _)) [6, 7, 19, 20, 21, 22, 23, 24, 25, 26, 27, 28, 29, 30, 31, 32, 33, 34, 35, 36, 37, 38, 39, 40] [] (RdJ2 H b2 g b5 S v8 (r8.count 1024).1 (r8.count 1024).2) rfl (by repeat' first | exact Resp.retD | exact Resp1.valuesK | refine Resp.blockD ?_ | refine Resp.thenD ?_ ?_ | refine Resp.hcode ?_) ?_ ?_ | ((first | refine HReg.step ?_ | refine HCode.step ?_); first | refine hcutC (a := Code.seq (Code.region _ _ _) (Code.block _ _)) [6, 7, 19, 20, 21, 22, 23, 24, 25, 26, 27, 28, 29, 30, 31, 32, 33, 34, 35, 36, 37, 38, 39, 40] [] (RdJ2 H b2 g b5 S v8 (r8.count 1024).1 (r8.count 1024).2) rfl (by repeat' first | exact Resp.retD | exact Resp1.valuesK | refine Resp.blockD ?_ | refine Resp.thenD ?_ ?_ | refine Resp.hcode ?_) ?_ ?_ | ((first | refine HReg.step ?_ | refine HCode.step ?_); first | refine hcutC (a := Code.seq (Code.region _ _ _) (Code.block _ _)) [6, 7, 19, 20, 21, 22, 23, 24, 25, 26, 27, 28, 29, 30, 31, 32, 33, 34, 35, 36, 37, 38, 39, 40] [] (RdJ2 H b2 g b5 S v8 (r8.count 1024).1 (r8.count 1024).2) rfl (by repeat' first | exact Resp.retD | exact Resp1.valuesK | refine Resp.blockD ?_ | refine Resp.thenD ?_ ?_ | refine Resp.hcode ?_) ?_ ?_ | ((first | refine HReg.step ?_ | refine HCode.step ?_); first | refine hcutC (a := Code.seq (Code.region _ _ _) (Code.block _ _)) [6, 7, 19, 20, 21, 22, 23, 24, 25, 26, 27, 28, 29, 30, 31, 32, 33, 34, 35, 36, 37, 38, 39, 40] [] (RdJ2 H b2 g b5 S v8 (r8.count 1024).1 (r8.count 1024).2) rfl (by repeat' first | exact Resp.retD | exact Resp1.valuesK | refine Resp.blockD ?_ | refine Resp.thenD ?_ ?_ | refine Resp.hcode ?_) ?_ ?_ | ((first | refine HReg.step ?_ | refine HCode.step ?_); first | refine hcutC (a := Code.seq (Code.region _ _ _) (Code.block _ _)) [6, 7, 19, 20, 21, 22, 23, 24, 25, 26, 27, 28, 29, 30, 31, 32, 33, 34, 35, 36, 37, 38, 39, 40] [] (RdJ2 H b2 g b5 S v8 (r8.count 1024).1 (r8.count 1024).2) rfl (by repeat' first | exact Resp.retD | exact Resp1.valuesK | refine Resp.blockD ?_ | refine Resp.thenD ?_ ?_ | refine Resp.hcode ?_) ?_ ?_ | ((first | refine HReg.step ?_ | refine HCode.step ?_); first | refine hcutC (a := Code.seq (Code.region _ _ _) (Code.block _ _)) [6, 7, 19, 20, 21, 22, 23, 24, 25, 26, 27, 28, 29, 30, 31, 32, 33, 34, 35, 36, 37, 38, 39, 40] [] (RdJ2 H b2 g b5 S v8 (r8.count 1024).1 (r8.count 1024).2) rfl (by repeat' first | exact Resp.retD | exact Resp1.valuesK | refine Resp.blockD ?_ | refine Resp.thenD ?_ ?_ | refine Resp.hcode ?_) ?_ ?_ | ((first | refine HReg.step ?_ | refine HCode.step ?_); first | refine hcutC (a := Code.seq (Code.region _ _ _) (Code.block _ _)) [6, 7, 19, 20, 21, 22, 23, 24, 25, 26, 27, 28, 29, 30, 31, 32, 33, 34, 35, 36, 37, 38, 39, 40] [] (RdJ2 H b2 g b5 S v8 (r8.count 1024).1 (r8.count 1024).2) rfl (by repeat' first | exact Resp.retD | exact Resp1.valuesK | refine Resp.blockD ?_ | refine Resp.thenD ?_ ?_ | refine Resp.hcode ?_) ?_ ?_ | ((first | refine HReg.step ?_ | refine HCode.step ?_); first | refine hcutC (a := Code.seq (Code.region _ _ _) (Code.block _ _)) [6, 7, 19, 20, 21, 22, 23, 24, 25, 26, 27, 28, 29, 30, 31, 32, 33, 34, 35, 36, 37, 38, 39, 40] [] (RdJ2 H b2 g b5 S v8 (r8.count 1024).1 (r8.count 1024).2) rfl (by repeat' first | exact Resp.retD | exact Resp1.valuesK | refine Resp.blockD ?_ | refine Resp.thenD ?_ ?_ | refine Resp.hcode ?_) ?_ ?_ | ((first | refine HReg.step ?_ | refine HCode.step ?_); first | refine hcutC (a := Code.seq (Code.region _ _ _) (Code.block _ _)) [6, 7, 19, 20, 21, 22, 23, 24, 25, 26, 27, 28, 29, 30, 31, 32, 33, 34, 35, 36, 37, 38, 39, 40] [] (RdJ2 H b2 g b5 S v8 (r8.count 1024).1 (r8.count 1024).2) rfl (by repeat' first | exact Resp.retD | exact Resp1.valuesK | refine Resp.blockD ?_ | refine Resp.thenD ?_ ?_ | refine Resp.hcode ?_) ?_ ?_ | ((first | refine HReg.step ?_ | refine HCode.step ?_); first | refine hcutC (a := Code.seq (Code.region _ _ _) (Code.block _ _)) [6, 7, 19, 20, 21, 22, 23, 24, 25, 26, 27, 28, 29, 30, 31, 32, 33, 34, 35, 36, 37, 38, 39, 40] [] (RdJ2 H b2 g b5 S v8 (r8.count 1024).1 (r8.count 1024).2) rfl (by repeat' first | exact Resp.retD | exact Resp1.valuesK | refine Resp.blockD ?_ | refine Resp.thenD ?_ ?_ | refine Resp.hcode ?_) ?_ ?_ | ((first | refine HReg.step ?_ | refine HCode.step ?_); first | refine hcutC (a := Code.seq (Code.region _ _ _) (Code.block _ _)) [6, 7, 19, 20, 21, 22, 23, 24, 25, 26, 27, 28, 29, 30, 31, 32, 33, 34, 35, 36, 37, 38, 39, 40] [] (RdJ2 H b2 g b5 S v8 (r8.count 1024).1 (r8.count 1024).2) rfl (by repeat' first | exact Resp.retD | exact Resp1.valuesK | refine Resp.blockD ?_ | refine Resp.thenD ?_ ?_ | refine Resp.hcode ?_) ?_ ?_ | ((first | refine HReg.step ?_ | refine HCode.step ?_); first | refine hcutC (a := Code.seq (Code.region _ _ _) (Code.block _ _)) [6, 7, 19, 20, 21, 22, 23, 24, 25, 26, 27, 28, 29, 30, 31, 32, 33, 34, 35, 36, 37, 38, 39, 40] [] (RdJ2 H b2 g b5 S v8 (r8.count 1024).1 (r8.count 1024).2) rfl (by repeat' first | exact Resp.retD | exact Resp1.valuesK | refine Resp.blockD ?_ | refine Resp.thenD ?_ ?_ | refine Resp.hcode ?_) ?_ ?_ | ((first | refine HReg.step ?_ | refine HCode.step ?_); first | refine hcutC (a := Code.seq (Code.region _ _ _) (Code.block _ _)) [6, 7, 19, 20, 21, 22, 23, 24, 25, 26, 27, 28, 29, 30, 31, 32, 33, 34, 35, 36, 37, 38, 39, 40] [] (RdJ2 H b2 g b5 S v8 (r8.count 1024).1 (r8.count 1024).2) rfl (by repeat' first | exact Resp.retD | exact Resp1.valuesK | refine Resp.blockD ?_ | refine Resp.thenD ?_ ?_ | refine Resp.hcode ?_) ?_ ?_ | ((first | refine HReg.step ?_ | refine HCode.step ?_); first | refine hcutC (a := Code.seq (Code.region _ _ _) (Code.block _ _)) [6, 7, 19, 20, 21, 22, 23, 24, 25, 26, 27, 28, 29, 30, 31, 32, 33, 34, 35, 36, 37, 38, 39, 40] [] (RdJ2 H b2 g b5 S v8 (r8.count 1024).1 (r8.count 1024).2) rfl (by repeat' first | exact Resp.retD | exact Resp1.valuesK | refine Resp.blockD ?_ | refine Resp.thenD ?_ ?_ | refine Resp.hcode ?_) ?_ ?_ | ((first | refine HReg.step ?_ | refine HCode.step ?_); first | refine hcutC (a := Code.seq (Code.region _ _ _) (Code.block _ _)) [6, 7, 19, 20, 21, 22, 23, 24, 25, 26, 27, 28, 29, 30, 31, 32, 33, 34, 35, 36, 37, 38, 39, 40] [] (RdJ2 H b2 g b5 S v8 (r8.count 1024).1 (r8.count 1024).2) rfl (by repeat' first | exact Resp.retD | exact Resp1.valuesK | refine Resp.blockD ?_ | refine Resp.thenD ?_ ?_ | refine Resp.hcode ?_) ?_ ?_ | ((first | refine HReg.step ?_ | refine HCode.step ?_); first | refine hcutC (a := Code.seq (Code.region _ _ _) (Code.block _ _)) [6, 7, 19, 20, 21, 22, 23, 24, 25, 26, 27, 28, 29, 30, 31, 32, 33, 34, 35, 36, 37, 38, 39, 40] [] (RdJ2 H b2 g b5 S v8 (r8.count 1024).1 (r8.count 1024).2) rfl (by repeat' first | exact Resp.retD | exact Resp1.valuesK | refine Resp.blockD ?_ | refine Resp.thenD ?_ ?_ | refine Resp.hcode ?_) ?_ ?_ | ((first | refine HReg.step ?_ | refine HCode.step ?_); first | refine hcutC (a := Code.seq (Code.region _ _ _) (Code.block _ _)) [6, 7, 19, 20, 21, 22, 23, 24, 25, 26, 27, 28, 29, 30, 31, 32, 33, 34, 35, 36, 37, 38, 39, 40] [] (RdJ2 H b2 g b5 S v8 (r8.count 1024).1 (r8.count 1024).2) rfl (by repeat' first | exact Resp.retD | exact Resp1.valuesK | refine Resp.blockD ?_ | refine Resp.thenD ?_ ?_ | refine Resp.hcode ?_) ?_ ?_ | ((first | refine HReg.step ?_ | refine HCode.step ?_); first | refine hcutC (a := Code.seq (Code.region _ _ _) (Code.block _ _)) [6, 7, 19, 20, 21, 22, 23, 24, 25, 26, 27, 28, 29, 30, 31, 32, 33, 34, 35, 36, 37, 38, 39, 40] [] (RdJ2 H b2 g b5 S v8 (r8.count 1024).1 (r8.count 1024).2) rfl (by repeat' first | exact Resp.retD | exact Resp1.valuesK | refine Resp.blockD ?_ | refine Resp.thenD ?_ ?_ | refine Resp.hcode ?_) ?_ ?_ | ((first | refine HReg.step ?_ | refine HCode.step ?_); first | refine hcutC (a := Code.seq (Code.region _ _ _) (Code.block _ _)) [6, 7, 19, 20, 21, 22, 23, 24, 25, 26, 27, 28, 29, 30, 31, 32, 33, 34, 35, 36, 37, 38, 39, 40] [] (RdJ2 H b2 g b5 S v8 (r8.count 1024).1 (r8.count 1024).2) rfl (by repeat' first | exact Resp.retD | exact Resp1.valuesK | refine Resp.blockD ?_ | refine Resp.thenD ?_ ?_ | refine Resp.hcode ?_) ?_ ?_ | ((first | refine HReg.step ?_ | refine HCode.step ?_); first | refine hcutC (a := Code.seq (Code.region _ _ _) (Code.block _ _)) [6, 7, 19, 20, 21, 22, 23, 24, 25, 26, 27, 28, 29, 30, 31, 32, 33, 34, 35, 36, 37, 38, 39, 40] [] (RdJ2 H b2 g b5 S v8 (r8.count 1024).1 (r8.count 1024).2) rfl (by repeat' first | exact Resp.retD | exact Resp1.valuesK | refine Resp.blockD ?_ | refine Resp.thenD ?_ ?_ | refine Resp.hcode ?_) ?_ ?_ | ((first | refine HReg.step ?_ | refine HCode.step ?_); first | refine hcutC (a := Code.seq (Code.region _ _ _) (Code.block _ _)) [6, 7, 19, 20, 21, 22, 23, 24, 25, 26, 27, 28, 29, 30, 31, 32, 33, 34, 35, 36, 37, 38, 39, 40] [] (RdJ2 H b2 g b5 S v8 (r8.count 1024).1 (r8.count 1024).2) rfl (by repeat' first | exact Resp.retD | exact Resp1.valuesK | refine Resp.blockD ?_ | refine Resp.thenD ?_ ?_ | refine Resp.hcode ?_) ?_ ?_ | ((first | refine HReg.step ?_ | refine HCode.step ?_); first | refine hcutC (a := Code.seq (Code.region _ _ _) (Code.block _ _)) [6, 7, 19, 20, 21, 22, 23, 24, 25, 26, 27, 28, 29, 30, 31, 32, 33, 34, 35, 36, 37, 38, 39, 40] [] (RdJ2 H b2 g b5 S v8 (r8.count 1024).1 (r8.count 1024).2) rfl (by repeat' first | exact Resp.retD | exact Resp1.valuesK | refine Resp.blockD ?_ | refine Resp.thenD ?_ ?_ | refine Resp.hcode ?_) ?_ ?_ | ((first | refine HReg.step ?_ | refine HCode.step ?_); first | refine hcutC (a := Code.seq (Code.region _ _ _) (Code.block _ _)) [6, 7, 19, 20, 21, 22, 23, 24, 25, 26, 27, 28, 29, 30, 31, 32, 33, 34, 35, 36, 37, 38, 39, 40] [] (RdJ2 H b2 g b5 S v8 (r8.count 1024).1 (r8.count 1024).2) rfl (by repeat' first | exact Resp.retD | exact Resp1.valuesK | refine Resp.blockD ?_ | refine Resp.thenD ?_ ?_ | refine Resp.hcode ?_) ?_ ?_ | ((first | refine HReg.step ?_ | refine HCode.step ?_); first | refine hcutC (a := Code.seq (Code.region _ _ _) (Code.block _ _)) [6, 7, 19, 20, 21, 22, 23, 24, 25, 26, 27, 28, 29, 30, 31, 32, 33, 34, 35, 36, 37, 38, 39, 40] [] (RdJ2 H b2 g b5 S v8 (r8.count 1024).1 (r8.count 1024).2) rfl (by repeat' first | exact Resp.retD | exact Resp1.valuesK | refine Resp.blockD ?_ | refine Resp.thenD ?_ ?_ | refine Resp.hcode ?_) ?_ ?_ | ((first | refine HReg.step ?_ | refine HCode.step ?_); first | refine hcutC (a := Code.seq (Code.region _ _ _) (Code.block _ _)) [6, 7, 19, 20, 21, 22, 23, 24, 25, 26, 27, 28, 29, 30, 31, 32, 33, 34, 35, 36, 37, 38, 39, 40] [] (RdJ2 H b2 g b5 S v8 (r8.count 1024).1 (r8.count 1024).2) rfl (by repeat' first | exact Resp.retD | exact Resp1.valuesK | refine Resp.blockD ?_ | refine Resp.thenD ?_ ?_ | refine Resp.hcode ?_) ?_ ?_ | ((first | refine HReg.step ?_ | refine HCode.step ?_); first | refine hcutC (a := Code.seq (Code.region _ _ _) (Code.block _ _)) [6, 7, 19, 20, 21, 22, 23, 24, 25, 26, 27, 28, 29, 30, 31, 32, 33, 34, 35, 36, 37, 38, 39, 40] [] (RdJ2 H b2 g b5 S v8 (r8.count 1024).1 (r8.count 1024).2) rfl (by repeat' first | exact Resp.retD | exact Resp1.valuesK | refine Resp.blockD ?_ | refine Resp.thenD ?_ ?_ | refine Resp.hcode ?_) ?_ ?_ | ((first | refine HReg.step ?_ | refine HCode.step ?_); first | refine hcutC (a := Code.seq (Code.region _ _ _) (Code.block _ _)) [6, 7, 19, 20, 21, 22, 23, 24, 25, 26, 27, 28, 29, 30, 31, 32, 33, 34, 35, 36, 37, 38, 39, 40] [] (RdJ2 H b2 g b5 S v8 (r8.count 1024).1 (r8.count 1024).2) rfl (by repeat' first | exact Resp.retD | exact Resp1.valuesK | refine Resp.blockD ?_ | refine Resp.thenD ?_ ?_ | refine Resp.hcode ?_) ?_ ?_ | ((first | refine HReg.step ?_ | refine HCode.step ?_); first | refine hcutC (a := Code.seq (Code.region _ _ _) (Code.block _ _)) [6, 7, 19, 20, 21, 22, 23, 24, 25, 26, 27, 28, 29, 30, 31, 32, 33, 34, 35, 36, 37, 38, 39, 40] [] (RdJ2 H b2 g b5 S v8 (r8.count 1024).1 (r8.count 1024).2) rfl (by repeat' first | exact Resp.retD | exact Resp1.valuesK | refine Resp.blockD ?_ | refine Resp.thenD ?_ ?_ | refine Resp.hcode ?_) ?_ ?_ | ((first | refine HReg.step ?_ | refine HCode.step ?_); refine hcutC (a := Code.seq (Code.region _ _ _) (Code.block _ _)) [6, 7, 19, 20, 21, 22, 23, 24, 25, 26, 27, 28, 29, 30, 31, 32, 33, 34, 35, 36, 37, 38, 39, 40] [] (RdJ2 H b2 g b5 S v8 (r8.count 1024).1 (r8.count 1024).2) rfl (by repeat' first | exact Resp.retD | exact Resp1.valuesK | refine Resp.blockD ?_ | refine Resp.thenD ?_ ?_ | refine Resp.hcode ?_) ?_ ?_))))))))))))))))))))))))))))))))))))))))))))))))))))))))))))
      · (repeat first | refine HReg.step ?_ | refine HCode.step ?_)
        refine HCall.mk ⟨Tryz.f97, Tryz.func97, by rfl, by rfl⟩ ?_
        refine count_t s6.d (by decide) fun H7 d7 u7 => ?_
        have s7 := s6.go d7 u7
        have hcl : (r8.count 1024).1 ≤ 1024 := count_le _ _
        generalize (r8.count 1024).1 = nc at *
        generalize (r8.count 1024).2 = rc at *
        (repeat first | refine HReg.step ?_ | refine HCode.step ?_)
        refine hloopC [6, 7, 21, 22, 23, 24, 25, 26, 27, 28, 29, 30, 31, 32, 33, 34, 35, 36, 37, 38, 39, 40] [6] (RdInv H b2 g b5 S v8 nc rc) rfl (by repeat' first | exact Resp.retD | exact Resp1.valuesK | refine Resp.blockD ?_ | refine Resp.thenD ?_ ?_ | refine Resp.hcode ?_) ?_ ?_
        · exact ⟨nc, RdInv.mk ⟨[], rc, none, 0, rfl, Nat.zero_add _, rfl, s7⟩⟩
        rintro m _ fe H8 ⟨ps, r', ap, cp, rfl, hm, hpp, s8⟩
        (repeat first | refine HReg.step ?_ | refine HCode.step ?_)
        refine hif (fun h2 => ?_) (fun h2 => ?_)
        · have h2 := ltB_true.1 h2
          obtain ⟨q, rfl⟩ : ∃ q, m = q + 1 := ⟨m - 1, by omega⟩
          (repeat first | refine HReg.step ?_ | refine HCode.step ?_)
          refine HCall.mk ⟨Tryz.f98, Tryz.func98, by rfl, by rfl⟩ ?_
          refine err_t s8.d ?_
          (repeat first | refine HReg.step ?_ | refine HCode.step ?_)
          by_cases he : r'.err = 0
          · rw [he, eqB_self 0]
            have hpq : pairsP (q + 1) r' = (((r'.text 65535).1, ((r'.text 65535).2.text 65535).1) :: (pairsP q ((r'.text 65535).2.text 65535).2).1, (pairsP q ((r'.text 65535).2.text 65535).2).2) := by
              show (if r'.err ≠ 0 then _ else _) = _
              rw [if_neg (fun h => h he)]
            (repeat first | refine HReg.step ?_ | refine HCode.step ?_)
            refine HCall.mk ⟨Tryz.f99, Tryz.func99, by rfl, by rfl⟩ ?_
            refine rtext_t s8.d (by decide) fun H9 d9 u9 => ?_
            have s9 := s8.go d9 u9
            (repeat first | refine HReg.step ?_ | refine HCode.step ?_)
            refine HCall.mk ⟨Tryz.f99, Tryz.func99, by rfl, by rfl⟩ ?_
            refine rtext_t d9 (by decide) fun H10 d10 u10 => ?_
            have s10 := s9.go d10 u10
            generalize (r'.text 65535).1 = k1 at *
            generalize ((r'.text 65535).2.text 65535).1 = v1' at *
            generalize ((r'.text 65535).2.text 65535).2 = r10 at *
            have wq : wr .i64 (((q + 1 : Nat) : Int) - 1) = (q : Int) := by rw [wr_i64 (by omega) (by omega)]; omega
            (repeat first | refine HReg.step ?_ | refine HCode.step ?_)
            refine HReq.mk (by decide) ?_
            (repeat first | refine HReg.step ?_ | refine HCode.step ?_)
            refine HNew.mk fun b11 hb11 => ?_
            have u11 : Upd [] H10 (H10.upd b11 (.cells [Value.string (bs k1), .string (bs v1')].toArray 100)) := Upd.new hb11 _
            have r11 : RowAt (H10.upd b11 (.cells [Value.string (bs k1), .string (bs v1')].toArray 100)) (some ⟨b11, 0, none⟩) (pairsV [(k1, v1')]) := RowAt.of_cells (upd_same _ _ _)
            generalize hH11 : H10.upd b11 (.cells [Value.string (bs k1), .string (bs v1')].toArray 100) = H11 at u11 r11
            have s11 := s10.upd0 u11
            (repeat first | refine HReg.step ?_ | refine HCode.step ?_)
            refine HLoad_three (v := .slice ap ps.length cp) (by exact s11.o.rows.get (i := 2) rfl) (by exact s10.o.rows.get (i := 2) rfl) (by exact s9.o.rows.get (i := 2) rfl) ?_
            (repeat first | refine HReg.step ?_ | refine HCode.step ?_)
            refine append_rows (ie := Tryz.t100) (z := .agg #[.string ⟨#[]⟩, .string ⟨#[]⟩]) (xs := pairsV ps) (ys := pairsV [(k1, v1')]) Tryz.underlying38 rfl rfl rfl (by decide) s11.n.p r11 rfl (plain_pairs _) (by show (ps.length + 1) * 32 ≤ _; omega) (by omega) fun a12 c12 H12 o12 u12 f12 => ?_
            rw [← pairsV_append] at o12
            have o12b := s11.o.upd u12 (s11.n.p.offT s11.o (by decide))
            have hlen : (ps ++ [(k1, v1')]).length = ps.length + 1 := by simp
            (repeat first | refine HReg.step ?_ | refine HCode.step ?_)
            refine store_row o12b (v := .slice a12 (ps.length + 1) c12) rfl (i := 2) (by decide) (by rfl) fun H13 o13 u13 => ?_
            have o13 : OwnRow H13 41 1 (some ⟨b5, 0, none⟩) 4 4 (rcells ⟨1, v8, ps ++ [(k1, v1')], []⟩ a12 c12 none 0) := by
              unfold rcells; rw [hlen]; exact o13
            have fr : ∀ b, H11 b = none → H b = none := fun b hb => Upd.none (S := []) s11.d.base (by simp) hb
            have hap : ∀ b ∈ blk ap, H b = none := fun b hb => by obtain ⟨p, hp, rfl⟩ := blk_of hb; exact s11.n.pn p hp
            have na : ∀ b ∈ blk a12, b ∈ blk ap ∨ H11 b = none := fun b hb => by
              obtain ⟨p, hp, rfl⟩ := blk_of hb
              rcases f12 p hp with h | h
              · left; rw [h]; simp [blk]
              · exact .inr h
            have s13 : RdS H b2 g b5 S r10 ⟨1, v8, ps ++ [(k1, v1')], []⟩ a12 c12 none 0 H13 := by
              refine ⟨(s11.d.upd u12 (fun b hb hb' => s11.pS b hb' hb) hap).upd u13 (fun b hb hb' => b5S (by rw [← List.mem_singleton.1 hb']; exact hb)) (fun b hb => by rw [List.mem_singleton.1 hb]; exact hb5H), o13, ⟨?_, OwnRow.nil _ _ _, fun p hp => ?_, fun q hq => (by cases hq), ?_, Nat.zero_le _⟩, hb5H, b5S, fun b hb hS => ?_, (s11.o2.upd u12 (s11.n.p.offT s11.o2 (by decide))).upd u13 (fun p hp hb => by cases hp; exact b25 (List.mem_singleton.1 hb)), b25⟩
              · show OwnRow H13 100 2 a12 (ps ++ [(k1, v1')]).length c12 _
                rw [hlen]
                exact o12.upd u13 (o12b.offT o12 (by decide))
              · rcases f12 p hp with h | h
                · exact s11.n.pn p h
                · exact fr _ h
              · show (ps ++ [(k1, v1')]).length ≤ 1024
                rw [hlen]; omega
              · rcases na b hb with h | h
                · exact s11.pS b h hS
                · exact s11.d.live b hS h
            (repeat first | refine HReg.step ?_ | refine HCode.step ?_)
            rw [wq]
            refine ⟨q, by omega, RdInv.mk ⟨ps ++ [(k1, v1')], r10, a12, c12, rfl, by rw [hlen]; omega, ?_, s13⟩⟩
            rw [hpp, hpq]; simp
          · rw [eqB_false.2 he]
            have hpe := pairsP_err he (q + 1)
            (repeat first | refine HReg.step ?_ | refine HCode.step ?_)
            refine RdJ2.mk ⟨ap, cp, rfl, ?_⟩
            rw [hpp, hpe, List.append_nil]; exact s8
        · have h2 := ltB_false.1 h2
          have hm0 : m = 0 := by omega
          subst hm0
          (repeat first | refine HReg.step ?_ | refine HCode.step ?_)
          refine RdJ2.mk ⟨ap, cp, rfl, ?_⟩
          have hp0 : pairsP 0 r' = ([], r') := rfl
          rw [hpp, hp0, List.append_nil]; exact s8
      rintro _ fe H7 ⟨ap, cp, rfl, s⟩
      obtain ⟨pl, hpl⟩ : ∃ pl, pl = (pairsP (r8.count 1024).1 (r8.count 1024).2).1 := ⟨_, rfl⟩
      obtain ⟨rp, hrp⟩ : ∃ rp, rp = (pairsP (r8.count 1024).1 (r8.count 1024).2).2 := ⟨_, rfl⟩
      rw [← hpl, ← hrp] at s hR
      (repeat first | refine HReg.step ?_ | refine HCode.step ?_)
      refine HCall.mk ⟨Tryz.f100, Tryz.func100, by rfl, by rfl⟩ ?_
      refine rtexts_t s.d (by decide) (by decide) fun a8 c8 H8 d8 u8_ o8 f8 => ?_
      have s8 := s.go d8 u8_
      have hkl := texts_lenR rp 1024 65535
      generalize (rp.texts 1024 65535).1 = kl at *
      generalize (rp.texts 1024 65535).2 = rk at *
      (repeat first | refine HReg.step ?_ | refine HCode.step ?_)
      refine store_row s8.o (v := .slice a8 kl.length c8) rfl (i := 3) (by decide) (by rfl) fun H9 o9 u9 => ?_
      have o9 : OwnRow H9 41 1 (some ⟨b5, 0, none⟩) 4 4 (rcells ⟨1, v8, pl, kl⟩ ap cp a8 c8) := o9
      have ob5 : ∀ b ∈ [b5], H b = none := fun b hb => by rw [List.mem_singleton.1 hb]; exact hb5H
      (repeat first | refine HReg.step ?_ | refine HCode.step ?_)
      refine RdJ.mk ⟨ap, cp, a8, c8, rfl, ?_⟩
      rw [hR]
      exact ⟨s8.d.upd u9 (fun b hb hb' => b5S (by rw [← List.mem_singleton.1 hb']; exact hb)) ob5, o9, ⟨s8.n.p.upd u9 (s8.o.offT s8.n.p (by decide)), o8.upd u9 (s8.o.offT o8 (by decide)), s8.n.pn, fun p hp => Upd.none (S := []) s.d.base (by simp) (f8 p hp), s8.n.np, hkl⟩, hb5H, b5S, s8.pS, s8.o2.upd u9 (fun p hp hb => by cases hp; exact b25 (List.mem_singleton.1 hb)), b25⟩
    · have h1 := eqB_false.1 h1
      rw [if_neg (by omega)] at hR
      (repeat first | refine HReg.step ?_ | refine HCode.step ?_)
      exact RdJ.mk ⟨none, 0, none, 0, rfl, by rw [hR]; exact s6⟩
  rintro _ fe H7 ⟨ap, cp, ak, ck, rfl, s⟩
  (repeat first | refine HReg.step ?_ | refine HCode.step ?_)
  refine HCall.mk ⟨Tryz.f101, Tryz.func101, by rfl, by rfl⟩ ?_
  refine end_t s.d ?_
  by_cases hf : (readR l).2.fin = 0
  · rw [hf]
    (repeat first | refine HReg.step ?_ | refine HCode.step ?_)
    rw [eqB_self 0]
    (repeat first | refine HReg.step ?_ | refine HCode.step ?_)
    refine HLoadN_row s.o.rows rfl ?_
    (repeat first | refine HReg.step ?_ | refine HCode.step ?_)
    refine HCall.mk ⟨Tryz.f56, Tryz.func56, by rfl, by rfl⟩ ?_
    refine may_t s.n.recIn fun t H8 ht u8_ => ?_
    have s8 := s.upd0 u8_
    (repeat first | refine HReg.step ?_ | refine HCode.step ?_)
    refine HLoadN_all (vs := rcells (readR l).1 ap cp ak ck) (fun Hx hx => ?_) rfl ?_
    · rcases List.mem_cons.1 hx with rfl | hx
      · exact s8.o.rows
      · have hx := List.mem_of_mem_take hx
        simp only [List.mem_cons, List.not_mem_nil, or_false, or_self] at hx
        rw [hx]; exact s.o.rows
    (repeat first | refine HReg.step ?_ | refine HCode.step ?_)
    refine store_rec (x := (readR l).1) s8.o2 rfl fun H9 o9 u9 => ?_
    (repeat first | refine HReg.step ?_ | refine HCode.step ?_)
    refine HLoadN_row o9.rows rfl ?_
    refine hk t ap cp ak ck H9 ⟨fun h => ⟨hf, ht.1 h⟩, fun h => ht.2 h.2⟩ (s8.n.upd u9 (s8.o2.offT s8.n.p (by decide)) (s8.o2.offT s8.n.k (by decide))) ?_
    exact Upd.drop s8.d.base u9 fun b hb => by rw [List.mem_singleton.1 hb]; exact hb2
  · (repeat first | refine HReg.step ?_ | refine HCode.step ?_)
    rw [eqB_false.2 hf]
    (repeat first | refine HReg.step ?_ | refine HCode.step ?_)
    refine HLoadN_all (vs := rcells (readR l).1 ap cp ak ck) (fun Hx hx => ?_) rfl ?_
    · rcases List.mem_cons.1 hx with rfl | hx
      · exact s.o.rows
      · have hx := List.mem_of_mem_take hx
        simp only [List.mem_cons, List.not_mem_nil, or_false, or_self] at hx
        rw [hx]; exact s.o.rows
    (repeat first | refine HReg.step ?_ | refine HCode.step ?_)
    refine store_rec (x := (readR l).1) s.o2 rfl fun H9 o9 u9 => ?_
    (repeat first | refine HReg.step ?_ | refine HCode.step ?_)
    refine HLoadN_row o9.rows rfl ?_
    refine hk false ap cp ak ck H9 ⟨fun h => (by cases h), fun h => absurd h.1 hf⟩ (s.n.upd u9 (s.o2.offT s.n.p (by decide)) (s.o2.offT s.n.k (by decide))) ?_
    exact Upd.drop s.d.base u9 fun b hb => by rw [List.mem_singleton.1 hb]; exact hb2
end
end Go.Proofs.YtfcmjomnpahllaaGreat
namespace Go.Proofs.YtfcmjomnpahllaaGreat
open Go Hv
set_option linter.unusedVariables false
set_option linter.unusedSimpArgs false
set_option maxRecDepth 10000
set_option maxHeartbeats 1000000
/-! Parse -/
def zeroRec : Rec := ⟨0, 0, [], []⟩
open Classical in
noncomputable def parseR (l : List UInt8) : Rec × Nat × Int :=
  if l.length < 8 then (zeroRec, 0, 91)
  else if 1048576 < val (l.take 4) then (zeroRec, 0, 3)
  else if l.length - 8 < val (l.take 4) then (zeroRec, 0, 91)
  else if crcN ((l.drop 8).take (val (l.take 4))) ≠ val ((l.drop 4).take 4) then (zeroRec, 0, 90)
  else if ¬ ReadOk ((l.drop 8).take (val (l.take 4))) then (zeroRec, 0, 2)
  else ((readR ((l.drop 8).take (val (l.take 4)))).1, 8 + val (l.take 4), 0)
theorem zero_new {H H' : Heap} : RecNew H H' zeroRec none 0 none 0 := ⟨OwnRow.nil _ _ _, OwnRow.nil _ _ _, fun q hq => (by cases hq), fun q hq => (by cases hq), Nat.zero_le _, Nat.zero_le _⟩
section
variable {H : Heap} {K : Value → Heap → Prop}
theorem row_cut {a : Option Addr} {c lo n : Nat} {l : List UInt8} (hr : RowAt H a (u8s l)) (hc : l.length ≤ c) : RowAt H (slAddr a lo c 1) (u8s ((l.drop lo).take n)) := by
  have h := (RowAt.sl (size := 1) (l := lo) (cap := c) hr (by rw [u8s_length]; omega)).take n
  rw [Nat.mul_one, ← u8s_drop, ← u8s_take] at h; exact h
theorem parse_t {a : Option Addr} {n c : Nat} {l : List UInt8} (hr : RowAt H a (u8s l)) (hl : l.length = n) (hc : n ≤ c) (hlim : n ≤ 4000000000000000000)
    (hk : ∀ ap cp ak ck H', RecNew H H' (parseR l).1 ap cp ak ck → Upd [] H H' → K (.tuple #[rv (parseR l).1 ap cp ak ck, .int .i64 ((parseR l).2.1 : Int), .int .i64 (parseR l).2.2]) H') : HCalls Tryz.prog 54 [.slice a n c] H K := by
  refine hcalls (fn := Tryz.f54) [] mixed Tryz.func54 rfl rfl (by decide +kernel) ?_
  (repeat first | refine HReg.step ?_ | refine HCode.step ?_)
  refine HNew.mk fun b2 hb2 => ?_
  have u2 : Upd [] H (H.upd b2 (.cells [Value.int .i64 0, .int .u64 0, .slice none 0 0, .slice none 0 0].toArray 41)) := Upd.new hb2 _
  have o2 : OwnRow (H.upd b2 (.cells [Value.int .i64 0, .int .u64 0, .slice none 0 0, .slice none 0 0].toArray 41)) 41 1 (some ⟨b2, 0, none⟩) 4 4 zeroR := OwnRow.lit (upd_same _ _ _) rfl
  generalize hH2 : H.upd b2 (.cells [Value.int .i64 0, .int .u64 0, .slice none 0 0, .slice none 0 0].toArray 41) = H2 at u2 o2
  have fin0 : ∀ {H1 : Heap} (e : Int), Upd [] H H1 → parseR l = (zeroRec, 0, e) → ∀ H9, OwnRow H9 41 1 (some ⟨b2, 0, none⟩) 4 4 (rcells zeroRec none 0 none 0) → Upd [b2] H1 H9 → K (.tuple #[rv zeroRec none 0 none 0, .int .i64 0, .int .i64 e]) H9 := fun e u1 hp H9 o9 u9 => by
    rw [hp] at hk
    exact hk none 0 none 0 H9 zero_new (Upd.drop u1 u9 fun b hb => by rw [List.mem_singleton.1 hb]; exact hb2)
  (repeat first | refine HReg.step ?_ | refine HCode.step ?_)
  refine hif (fun h1 => ?_) (fun h1 => ?_)
  · have h1 := ltB_true.1 h1
    have hp : parseR l = (zeroRec, 0, 91) := if_pos (by omega)
    (repeat first | refine HReg.step ?_ | refine HCode.step ?_)
    refine store_rec (x := zeroRec) (ap := none) (cp := 0) (ak := none) (ck := 0) o2 rfl fun H9 o9 u9 => ?_
    (repeat first | refine HReg.step ?_ | refine HCode.step ?_)
    refine HLoadN_row o9.rows rfl ?_
    exact fin0 91 u2 hp H9 o9 u9
  have h1 := ltB_false.1 h1
  have hn8 : ¬ l.length < 8 := by omega
  have r8 : RowAt H2 a (u8s (l.take 8)) := by
    have h := (hr.upd (S := []) u2 (.inr (Off.nil _))).take 8
    rw [← u8s_take] at h; exact h
  (repeat first | refine HReg.step ?_ | refine HCode.step ?_)
  refine HReq.mk ⟨by omega, by omega⟩ ?_
  (repeat first | refine HReg.step ?_ | refine HCode.step ?_)
  refine HCall.mk ⟨Tryz.f71, Tryz.func71, by rfl, by rfl⟩ ?_
  refine newR_t r8 (by rw [List.length_take]; simp; omega) (by simp) fun g S H3 d3 => ?_
  have o3 := o2.upd d3.base (Off.nil _)
  have d3 := d3.back u2
  have e4 : (⟨l.take 8, 0⟩ : R).number 4 = (val (l.take 4), ⟨(l.drop 4).take 4, 0⟩) := by
    rw [number_yes rfl (by rw [List.length_take]; omega)]
    show (val ((l.take 8).take 4), (⟨(l.take 8).drop 4, 0⟩ : R)) = _
    rw [List.take_take, List.drop_take]; rfl
  have e8 : (⟨(l.drop 4).take 4, 0⟩ : R).number 4 = (val ((l.drop 4).take 4), ⟨[], 0⟩) := by
    rw [number_yes rfl (by rw [List.length_take, List.length_drop]; omega)]
    show (val (((l.drop 4).take 4).take 4), (⟨((l.drop 4).take 4).drop 4, 0⟩ : R)) = _
    rw [List.take_take, List.drop_take]; simp
  (repeat first | refine HReg.step ?_ | refine HCode.step ?_)
  refine HCall.mk ⟨Tryz.f72, Tryz.func72, by rfl, by rfl⟩ ?_
  refine ru32_t d3 fun H4 d4 u4 => ?_
  have o4 := o3.upd u4 (d3.offRow o3 (by decide))
  have e41 : ((⟨l.take 8, 0⟩ : R).number 4).1 = val (l.take 4) := by rw [e4]
  have e42 : ((⟨l.take 8, 0⟩ : R).number 4).2 = ⟨(l.drop 4).take 4, 0⟩ := by rw [e4]
  rw [e42] at d4
  rw [e41]
  (repeat first | refine HReg.step ?_ | refine HCode.step ?_)
  refine HCall.mk ⟨Tryz.f72, Tryz.func72, by rfl, by rfl⟩ ?_
  refine ru32_t d4 fun H5 d5 u5 => ?_
  have o5 := o4.upd u5 (d4.offRow o4 (by decide))
  have e81 : ((⟨(l.drop 4).take 4, 0⟩ : R).number 4).1 = val ((l.drop 4).take 4) := by rw [e8]
  rw [e81]
  obtain ⟨L, hL⟩ : ∃ L, L = val (l.take 4) := ⟨_, rfl⟩
  obtain ⟨C, hC⟩ : ∃ C, C = val ((l.drop 4).take 4) := ⟨_, rfl⟩
  have hLlt : L < 4294967296 := by
    rw [hL]
    refine Nat.lt_of_lt_of_le (val_lt _) ?_
    have : (l.take 4).length ≤ 4 := by rw [List.length_take]; omega
    exact Nat.le_trans (Nat.pow_le_pow_right (by decide) this) (by decide)
  rw [← hL, ← hC]
  have wL : wr .i64 (L : Int) = (L : Int) := by rw [wr_i64 (by omega) (by omega)]
  have u5' := d5.base
  have hr5 := hr.upd (S := []) u5' (.inr (Off.nil _))
  (repeat first | refine HReg.step ?_ | refine HCode.step ?_)
  rw [wL]
  refine hif (fun h2 => ?_) (fun h2 => ?_)
  · have h2 := ltB_true.1 h2
    have hp : parseR l = (zeroRec, 0, 3) := by unfold parseR; rw [if_neg hn8, if_pos (by omega)]
    (repeat first | refine HReg.step ?_ | refine HCode.step ?_)
    refine store_rec (x := zeroRec) (ap := none) (cp := 0) (ak := none) (ck := 0) o5 rfl fun H9 o9 u9 => ?_
    (repeat first | refine HReg.step ?_ | refine HCode.step ?_)
    refine HLoadN_row o9.rows rfl ?_
    exact fin0 3 u5' hp H9 o9 u9
  have h2 := ltB_false.1 h2
  have hn3 : ¬ 1048576 < val (l.take 4) := by omega
  have w8 : wr .i64 ((n : Int) - 8) = ((n - 8 : Nat) : Int) := by rw [wr_i64 (by omega) (by omega)]; omega
  (repeat first | refine HReg.step ?_ | refine HCode.step ?_)
  rw [w8]
  refine hif (fun h3 => ?_) (fun h3 => ?_)
  · have h3 := ltB_true.1 h3
    have hp : parseR l = (zeroRec, 0, 91) := by unfold parseR; rw [if_neg hn8, if_neg hn3, if_pos (by omega)]
    (repeat first | refine HReg.step ?_ | refine HCode.step ?_)
    refine store_rec (x := zeroRec) (ap := none) (cp := 0) (ak := none) (ck := 0) o5 rfl fun H9 o9 u9 => ?_
    (repeat first | refine HReg.step ?_ | refine HCode.step ?_)
    refine HLoadN_row o9.rows rfl ?_
    exact fin0 91 u5' hp H9 o9 u9
  have h3 := ltB_false.1 h3
  have hn4 : ¬ l.length - 8 < val (l.take 4) := by omega
  have w9 : wr .i64 (8 + (L : Int)) = ((8 + L : Nat) : Int) := by rw [wr_i64 (by omega) (by omega)]; omega
  have hpl : ((l.drop 8).take L).length = L := by rw [List.length_take, List.length_drop]; omega
  (repeat first | refine HReg.step ?_ | refine HCode.step ?_)
  rw [w9]
  refine HReq.mk ⟨by omega, by omega⟩ ?_
  (repeat first | refine HReg.step ?_ | refine HCode.step ?_)
  refine HReq.mk ⟨by omega, by simp; omega⟩ ?_
  (repeat first | refine HReg.step ?_ | refine HCode.step ?_)
  refine HCall.mk ⟨Tryz.f61, Tryz.func61, by rfl, by rfl⟩ ?_
  refine Sum.sum_t (ys := (l.drop 8).take L) (row_cut hr5 (by omega)) (by rw [hpl]; omega) (by omega) fun H6 u6 => ?_
  unfold Sum.u32
  have ecn : (Crc.crc 0#32 ((l.drop 8).take L)).toNat = crcN ((l.drop 8).take L) := rfl
  rw [ecn]
  have o6 := o5.upd u6 (Off.nil _)
  have u56 := u5'.trans u6
  (repeat first | refine HReg.step ?_ | refine HCode.step ?_)
  by_cases hcs : crcN ((l.drop 8).take L) = C
  · rw [show eqB (crcN ((l.drop 8).take L) : Int) (C : Int) = true from eqB_true.2 (by rw [hcs])]
    (repeat first | refine HReg.step ?_ | refine HCode.step ?_)
    refine HReq.mk ⟨by omega, by omega⟩ ?_
    (repeat first | refine HReg.step ?_ | refine HCode.step ?_)
    refine HReq.mk ⟨by omega, by omega⟩ ?_
    (repeat first | refine HReg.step ?_ | refine HCode.step ?_)
    refine HCall.mk ⟨Tryz.f73, Tryz.func73, by rfl, by rfl⟩ ?_
    refine read_t (l := (l.drop 8).take L) (row_cut (hr5.upd (S := []) u6 (.inr (Off.nil _))) (by omega)) (by rw [hpl]; omega) (by omega) fun t ap cp ak ck H7 ht n7 u7 => ?_
    have o7 := o6.upd u7 (Off.nil _)
    have u57 := u56.trans u7
    (repeat first | refine HReg.step ?_ | refine HCode.step ?_)
    refine HNew.mk fun b8 hb8 => ?_
    (repeat first | refine HReg.step ?_ | refine HCode.step ?_)
    refine store_rec (x := (readR ((l.drop 8).take L)).1) (OwnRow.lit (upd_same _ _ _) rfl) rfl fun H8 o8 u8_ => ?_
    have u78 : Upd [] H7 H8 := Upd.drop (Upd.new hb8 _) u8_ (fun x hx => by rw [List.mem_singleton.1 hx]; exact hb8)
    have o78 := o7.upd u78 (Off.nil _)
    cases t with
    | false =>
      have hno : ¬ ReadOk ((l.drop 8).take L) := fun h => by have := ht.2 h; cases this
      have hp : parseR l = (zeroRec, 0, 2) := by unfold parseR; rw [if_neg hn8, if_neg hn3, if_neg hn4, ← hL, ← hC, if_neg (fun h => h hcs), if_pos hno]
      (repeat first | refine HReg.step ?_ | refine HCode.step ?_)
      refine store_rec (x := zeroRec) (ap := none) (cp := 0) (ak := none) (ck := 0) o78 rfl fun H9 o9 u9 => ?_
      (repeat first | refine HReg.step ?_ | refine HCode.step ?_)
      refine HLoadN_row o9.rows rfl ?_
      exact fin0 2 (u57.trans u78) hp H9 o9 u9
    | true =>
      have hyes := ht.1 rfl
      have hp : parseR l = ((readR ((l.drop 8).take L)).1, 8 + L, 0) := by unfold parseR; rw [if_neg hn8, if_neg hn3, if_neg hn4, ← hL, ← hC, if_neg (fun h => h hcs), if_neg (fun h => h hyes)]
      rw [hp] at hk
      (repeat first | refine HReg.step ?_ | refine HCode.step ?_)
      refine HLoadN_row o8.rows rfl ?_
      (repeat first | refine HReg.step ?_ | refine HCode.step ?_)
      refine store_rec (x := (readR ((l.drop 8).take L)).1) o78 rfl fun H9 o9 u9 => ?_
      (repeat first | refine HReg.step ?_ | refine HCode.step ?_)
      rw [w9]
      refine HLoadN_row o9.rows rfl ?_
      have n9 := ((n7.back u56).upd0 u78).upd u9 (o78.offT ((n7.p).upd u78 (Off.nil _)) (by decide)) (o78.offT ((n7.k).upd u78 (Off.nil _)) (by decide))
      exact hk ap cp ak ck H9 n9 (Upd.drop (u57.trans u78) u9 fun b hb => by rw [List.mem_singleton.1 hb]; exact hb2)
  · rw [show eqB (crcN ((l.drop 8).take L) : Int) (C : Int) = false from eqB_false.2 (by omega)]
    have hp : parseR l = (zeroRec, 0, 90) := by unfold parseR; rw [if_neg hn8, if_neg hn3, if_neg hn4, ← hL, ← hC, if_pos hcs]
    (repeat first | refine HReg.step ?_ | refine HCode.step ?_)
    refine store_rec (x := zeroRec) (ap := none) (cp := 0) (ak := none) (ck := 0) o6 rfl fun H9 o9 u9 => ?_
    (repeat first | refine HReg.step ?_ | refine HCode.step ?_)
    refine HLoadN_row o9.rows rfl ?_
    exact fin0 90 u56 hp H9 o9 u9
end
end Go.Proofs.YtfcmjomnpahllaaGreat
namespace Go.Proofs.YtfcmjomnpahllaaGreat
open Go Hv
set_option linter.unusedVariables false
set_option linter.unusedSimpArgs false
set_option maxRecDepth 10000
set_option maxHeartbeats 1000000
/-! Scan -/
theorem parse_ok {l : List UInt8} (h : (parseR l).2.2 = 0) : ∃ L, L = val (l.take 4) ∧ 8 + L ≤ l.length ∧ L ≤ 1048576 ∧ crcN ((l.drop 8).take L) = val ((l.drop 4).take 4) ∧ ReadOk ((l.drop 8).take L) ∧ parseR l = ((readR ((l.drop 8).take L)).1, 8 + L, 0) := by
  refine ⟨_, rfl, ?_⟩
  unfold parseR at h ⊢
  by_cases h1 : l.length < 8
  · rw [if_pos h1] at h; exact absurd h (by decide)
  rw [if_neg h1] at h ⊢
  by_cases h2 : 1048576 < val (l.take 4)
  · rw [if_pos h2] at h; exact absurd h (by decide)
  rw [if_neg h2] at h ⊢
  by_cases h3 : l.length - 8 < val (l.take 4)
  · rw [if_pos h3] at h; exact absurd h (by decide)
  rw [if_neg h3] at h ⊢
  by_cases h4 : crcN ((l.drop 8).take (val (l.take 4))) ≠ val ((l.drop 4).take 4)
  · rw [if_pos h4] at h; exact absurd h (by decide)
  rw [if_neg h4] at h ⊢
  by_cases h5 : ¬ ReadOk ((l.drop 8).take (val (l.take 4)))
  · rw [if_pos h5] at h; exact absurd h (by decide)
  rw [if_neg h5]
  exact ⟨by omega, by omega, Classical.not_not.1 h4, Classical.not_not.1 h5, rfl⟩
open Classical in
noncomputable def scanR (l : List UInt8) : List Rec × Nat :=
  if h : (parseR l).2.2 = 0 then ((parseR l).1 :: (scanR (l.drop (parseR l).2.1)).1, (parseR l).2.1 + (scanR (l.drop (parseR l).2.1)).2) else ([], 0)
termination_by l.length
decreasing_by
  all_goals
    obtain ⟨L, _, h1, _, _, _, h2⟩ := parse_ok h
    rw [h2, List.length_drop]
    show l.length - (8 + L) < l.length
    omega
theorem scan_yes {l : List UInt8} (h : (parseR l).2.2 = 0) : scanR l = ((parseR l).1 :: (scanR (l.drop (parseR l).2.1)).1, (parseR l).2.1 + (scanR (l.drop (parseR l).2.1)).2) := by
  rw [scanR, dif_pos h]
theorem scan_no {l : List UInt8} (h : (parseR l).2.2 ≠ 0) : scanR l = ([], 0) := by
  rw [scanR, dif_neg h]
structure PRec where
  r : Rec
  ap : Option Addr
  cp : Nat
  ak : Option Addr
  ck : Nat
def PRec.cells (q : PRec) : List Value := rcells q.r q.ap q.cp q.ak q.ck
def PRec.bl (q : PRec) : List Nat := blk q.ap ++ blk q.ak
def recsV : List PRec → List Value
  | [] => []
  | q :: qs => q.cells ++ recsV qs
theorem recsV_length : ∀ qs, (recsV qs).length = qs.length * 4
  | [] => rfl
  | q :: qs => by
    show (q.cells ++ recsV qs).length = _
    rw [List.length_append, recsV_length qs, List.length_cons]
    show 4 + _ = _; omega
theorem recsV_append : ∀ a b, recsV (a ++ b) = recsV a ++ recsV b
  | [], b => rfl
  | q :: a, b => by
    show q.cells ++ recsV (a ++ b) = q.cells ++ recsV a ++ recsV b
    rw [recsV_append a b, List.append_assoc]
theorem recsV_get : ∀ {qs : List PRec} {i : Nat} {q : PRec}, qs[i]? = some q → ∀ (k : Nat) v, q.cells[k]? = some v → (recsV qs)[i * 4 + k]? = some v
  | [], i, q, h => by simp at h
  | p :: qs, 0, q, h => fun k v hk => by
    simp at h; subst h
    have : k < p.cells.length := (List.getElem?_eq_some_iff.1 hk).1
    show (p.cells ++ recsV qs)[0 * 4 + k]? = _
    rw [Nat.zero_mul, Nat.zero_add, List.getElem?_append_left this]; exact hk
  | p :: qs, i + 1, q, h => fun k v hk => by
    have ih := recsV_get (qs := qs) (i := i) (q := q) (by simpa using h) k v hk
    have e : p.cells.length = 4 := rfl
    show (p.cells ++ recsV qs)[(i + 1) * 4 + k]? = _
    rw [List.getElem?_append_right (by rw [e]; omega), e]
    have e2 : (i + 1) * 4 + k - 4 = i * 4 + k := by omega
    rw [e2]; exact ih
theorem plain_recs (qs : List PRec) : ∀ v ∈ recsV qs, Value.plain v = true := by
  induction qs with
  | nil => intro v hv; simp [recsV] at hv
  | cons q qs ih =>
    intro v hv
    rcases List.mem_append.1 hv with hv | hv
    · have hv : v ∈ [Value.int .i64 q.r.kind, .int .u64 (q.r.id : Int), .slice q.ap q.r.ps.length q.cp, .slice q.ak q.r.ks.length q.ck] := hv
      simp only [List.mem_cons, List.not_mem_nil, or_false] at hv
      rcases hv with rfl | rfl | rfl | rfl <;> rfl
    · exact ih v hv
structure RecsNew (H0 H : Heap) (qs : List PRec) : Prop where
  each : ∀ q ∈ qs, RecNew H0 H q.r q.ap q.cp q.ak q.ck
  apart : ∀ (i j : Nat) q q', i ≠ j → qs[i]? = some q → qs[j]? = some q' → ∀ b ∈ q.bl, b ∉ q'.bl
theorem RecsNew.nil (H0 H : Heap) : RecsNew H0 H [] := ⟨fun q hq => by simp at hq, fun i j q q' _ hq => by simp at hq⟩
theorem RecNew.live {H0 H : Heap} {x : Rec} {ap ak : Option Addr} {cp ck : Nat} (h : RecNew H0 H x ap cp ak ck) : ∀ b ∈ blk ap ++ blk ak, (∃ c f, H b = some (.cells c 100 f)) ∨ ∃ c f, H b = some (.cells c 9 f) := fun b hb => by
  rcases List.mem_append.1 hb with hb | hb
  · obtain ⟨p, hp, rfl⟩ := blk_of hb
    rcases h.p.ok with ⟨ha, _⟩ | ⟨g, cur, ha, hg, _⟩
    · rw [ha] at hp; cases hp
    · rw [ha] at hp; cases hp; exact .inl ⟨_, _, hg⟩
  · obtain ⟨p, hp, rfl⟩ := blk_of hb
    rcases h.k.ok with ⟨ha, _⟩ | ⟨g, cur, ha, hg, _⟩
    · rw [ha] at hp; cases hp
    · rw [ha] at hp; cases hp; exact .inr ⟨_, _, hg⟩
theorem RecsNew.upd {H0 H H' : Heap} {qs : List PRec} {T : List Nat} (h : RecsNew H0 H qs) (u : Upd T H H') (hT : ∀ q ∈ qs, ∀ b ∈ q.bl, b ∉ T) : RecsNew H0 H' qs :=
  ⟨fun q hq => (h.each q hq).upd u (off_notin fun b hb => hT q hq b (List.mem_append_left _ hb)) (off_notin fun b hb => hT q hq b (List.mem_append_right _ hb)), h.apart⟩
theorem RecsNew.add {H0 H1 H : Heap} {qs : List PRec} {q : PRec} (h : RecsNew H0 H1 qs) (h0 : Upd [] H0 H1) (u : Upd [] H1 H) (hq : RecNew H1 H q.r q.ap q.cp q.ak q.ck) : RecsNew H0 H (qs ++ [q]) := by
  have h' := h.upd u (by simp)
  have hnew : ∀ b ∈ q.bl, H1 b = none := fun b hb => by
    rcases List.mem_append.1 hb with hb | hb
    · obtain ⟨p, hp, rfl⟩ := blk_of hb; exact hq.pn p hp
    · obtain ⟨p, hp, rfl⟩ := blk_of hb; exact hq.kn p hp
  have hold : ∀ x ∈ qs, ∀ b ∈ x.bl, H1 b ≠ none := fun x hx b hb => by
    rcases (h.each x hx).live b hb with ⟨c, f, e⟩ | ⟨c, f, e⟩ <;> rw [e] <;> simp
  refine ⟨fun x hx => ?_, fun i j x x' hij hi hj b hb hb' => ?_⟩
  · rcases List.mem_append.1 hx with hx | hx
    · exact h'.each x hx
    · rw [List.mem_singleton.1 hx]; exact hq.back h0
  · have key : ∀ {k : Nat} {y : PRec}, (qs ++ [q])[k]? = some y → (k < qs.length ∧ qs[k]? = some y) ∨ (k = qs.length ∧ y = q) := fun {k y} hk => by
      by_cases e : k < qs.length
      · rw [List.getElem?_append_left e] at hk; exact .inl ⟨e, hk⟩
      · rw [List.getElem?_append_right (by omega)] at hk
        have h0 : k - qs.length = 0 := Classical.byContradiction fun hne => by
          obtain ⟨z, hz⟩ : ∃ z, k - qs.length = z + 1 := ⟨k - qs.length - 1, by omega⟩
          rw [hz] at hk; simp at hk
        rw [h0] at hk
        exact .inr ⟨by omega, by simpa using hk.symm⟩
    rcases key hi with ⟨h1, h2⟩ | ⟨h1, rfl⟩
    · rcases key hj with ⟨h3, h4⟩ | ⟨h3, rfl⟩
      · exact h.apart i j x x' hij h2 h4 b hb hb'
      · exact hold x (List.mem_of_getElem? h2) b hb (hnew b hb')
    · rcases key hj with ⟨h3, h4⟩ | ⟨h3, rfl⟩
      · exact hold x' (List.mem_of_getElem? h4) b hb' (hnew b hb)
      · omega
structure ScInv (H : Heap) (l : List UInt8) (m : Nat) (vs : List Value) (H' : Heap) : Prop where
  ex : ∃ (i : Nat) (a : Option Addr) (c : Nat) (qs : List PRec), vs = [.slice a qs.length c, .int .i64 (i : Int)] ∧ m + i = l.length ∧ qs.length * 8 ≤ i ∧ OwnRow H' 41 4 a qs.length c (recsV qs) ∧ (∀ p, a = some p → H p.block = none) ∧ RecsNew H H' qs ∧ Upd [] H H' ∧ scanR l = (qs.map PRec.r ++ (scanR (l.drop i)).1, i + (scanR (l.drop i)).2)
section
variable {H : Heap} {K : Value → Heap → Prop}
theorem scan_t {a : Option Addr} {n c : Nat} {l : List UInt8} (hr : RowAt H a (u8s l)) (hl : l.length = n) (hc : n ≤ c) (hlim : n ≤ 17592186044416)
    (hk : ∀ a' c' qs H', OwnRow H' 41 4 a' qs.length c' (recsV qs) → (∀ p, a' = some p → H p.block = none) → RecsNew H H' qs → Upd [] H H' → qs.map PRec.r = (scanR l).1 → K (.tuple #[.slice a' qs.length c', .int .i64 ((scanR l).2 : Int)]) H') : HCalls Tryz.prog 34 [.slice a n c] H K := by
  refine hcalls (fn := Tryz.f34) [] mixed Tryz.func34 rfl rfl (by decide +kernel) ?_
  (repeat first | refine HReg.step ?_ | refine HCode.step ?_)
  refine hloopC [2, 3, 4, 5, 6, 7, 8, 9, 10, 11, 12, 13, 14, 15, 16, 17, 18, 19, 20, 21, 22, 23, 24, 25, 26, 27] [4, 5] (ScInv H l) rfl (by repeat' first | exact Resp.retD | exact Resp1.valuesK | refine Resp.blockD ?_ | refine Resp.thenD ?_ ?_ | refine Resp.hcode ?_) ?_ ?_
  · exact ⟨l.length, ScInv.mk ⟨0, none, 0, [], rfl, rfl, Nat.zero_le _, OwnRow.nil _ _ _, fun p hp => (by cases hp), RecsNew.nil _ _, Upd.refl _ _, by simp⟩⟩
  rintro m _ fe H1 ⟨i, a1, c1, qs, rfl, hmi, h8, o1, f1, n1, u1, hs⟩
  (repeat first | refine HReg.step ?_ | refine HCode.step ?_)
  refine HReq.mk ⟨by omega, by omega⟩ ?_
  (repeat first | refine HReg.step ?_ | refine HCode.step ?_)
  refine HCall.mk ⟨Tryz.f54, Tryz.func54, by rfl, by rfl⟩ ?_
  have hr1 := hr.upd (S := []) u1 (.inr (Off.nil _))
  have r1 : RowAt H1 (slAddr a i c 1) (u8s (l.drop i)) := by
    have h := RowAt.sl (size := 1) (l := i) (cap := c) hr1 (by rw [u8s_length]; omega)
    rw [Nat.mul_one, ← u8s_drop] at h; exact h
  refine parse_t (l := l.drop i) r1 (by rw [List.length_drop, hl, Int.toNat_natCast]) (by rw [Int.toNat_natCast]; omega) (by rw [Int.toNat_natCast]; omega) fun ap cp ak ck H2 n2 u2 => ?_
  have o2 := o1.upd u2 (Off.nil _)
  (repeat first | refine HReg.step ?_ | refine HCode.step ?_)
  refine HNew.mk fun b6 hb6 => ?_
  (repeat first | refine HReg.step ?_ | refine HCode.step ?_)
  refine store_rec (x := (parseR (l.drop i)).1) (OwnRow.lit (upd_same _ _ _) rfl) rfl fun H3 o3 u3 => ?_
  have u23 : Upd [] H2 H3 := Upd.drop (Upd.new hb6 _) u3 (fun x hx => by rw [List.mem_singleton.1 hx]; exact hb6)
  have n3 := n2.upd0 u23
  have a3 := n1.add (q := ⟨(parseR (l.drop i)).1, ap, cp, ak, ck⟩) u1 (u2.trans u23) n3
  have n13 := n1.upd (T := []) (u2.trans u23) (by simp)
  have o23 := o2.upd u23 (Off.nil _)
  have u13 := u1.trans (u2.trans u23)
  (repeat first | refine HReg.step ?_ | refine HCode.step ?_)
  by_cases he : (parseR (l.drop i)).2.2 = 0
  · obtain ⟨L, _, hL1, hL2, _, _, hL3⟩ := parse_ok he
    rw [List.length_drop] at hL1
    have hpn : (parseR (l.drop i)).2.1 = 8 + L := by rw [hL3]
    have hsy := scan_yes he
    rw [hpn, List.drop_drop] at hsy
    rw [he, hpn]
    generalize (parseR (l.drop i)).1 = x at *
    have w5 : wr .i64 ((i : Int) + ((8 + L : Nat) : Int)) = ((i + (8 + L) : Nat) : Int) := by rw [wr_i64 (by omega) (by omega)]; omega
    (repeat first | refine HReg.step ?_ | refine HCode.step ?_)
    rw [eqB_self 0]
    (repeat first | refine HReg.step ?_ | refine HCode.step ?_)
    refine HLoadN_row o3.rows rfl ?_
    (repeat first | refine HReg.step ?_ | refine HCode.step ?_)
    refine HReq.mk (by decide) ?_
    (repeat first | refine HReg.step ?_ | refine HCode.step ?_)
    refine HNew.mk fun b7 hb7 => ?_
    have u7 : Upd [] H3 (H3.upd b7 (.cells (recsV [⟨x, ap, cp, ak, ck⟩]).toArray 41)) := Upd.new hb7 _
    have r7 : RowAt (H3.upd b7 (.cells (recsV [⟨x, ap, cp, ak, ck⟩]).toArray 41)) (some ⟨b7, 0, none⟩) (recsV [⟨x, ap, cp, ak, ck⟩]) := RowAt.of_cells (upd_same _ _ _)
    have hH' : H3.upd b7 (.cells [Value.int .i64 x.kind, .int .u64 (x.id : Int), .slice ap x.ps.length cp, .slice ak x.ks.length ck].toArray 41) = H3.upd b7 (.cells (recsV [⟨x, ap, cp, ak, ck⟩]).toArray 41) := rfl
    rw [hH']
    generalize hH7 : H3.upd b7 (.cells (recsV [⟨x, ap, cp, ak, ck⟩]).toArray 41) = H7 at u7 r7
    have o7 := o23.upd u7 (Off.nil _)
    have a7 := a3.upd (T := []) u7 (by simp)
    (repeat first | refine HReg.step ?_ | refine HCode.step ?_)
    refine append_rows (ie := Tryz.t41) (z := .agg #[.int .i64 0, .int .u64 0, .slice none 0 0, .slice none 0 0]) (xs := recsV qs) (ys := recsV [⟨x, ap, cp, ak, ck⟩]) Tryz.underlying29 rfl rfl rfl (by decide) o7 r7 rfl (plain_recs _) (by show (qs.length + 1) * 64 ≤ _; omega) (by omega) fun a8 c8 H8 o8 u8_ f8 => ?_
    rw [← recsV_append] at o8
    have hlen : (qs ++ [PRec.mk x ap cp ak ck]).length = qs.length + 1 := by simp
    have ha1 : ∀ b ∈ blk a1, H b = none := fun b hb => by obtain ⟨p, hp, rfl⟩ := blk_of hb; exact f1 p hp
    (repeat first | refine HReg.step ?_ | refine HCode.step ?_)
    rw [w5]
    refine Exists.intro (m - (8 + L)) ?_
    refine And.intro (by omega) ?_
    refine ScInv.mk ⟨i + (8 + L), a8, c8, qs ++ [PRec.mk x ap cp ak ck], by rw [hlen], by omega, by rw [hlen]; omega, by rw [hlen]; exact o8, fun p hp => ?_, ?_, Upd.drop (u13.trans u7) u8_ ha1, ?_⟩
    · rcases f8 p hp with h | h
      · exact f1 p h
      · exact Upd.none (S := []) (u13.trans u7) (by simp) h
    · refine a7.upd u8_ fun q hq b hb hb' => ?_
      have hc := o7.notT (e := 100) (by decide) b hb'
      have hd := o7.notT (e := 9) (by decide) b hb'
      rcases (a7.each q hq).live b hb with ⟨c, f, e⟩ | ⟨c, f, e⟩
      · exact hc c f e
      · exact hd c f e
    · rw [hs, hsy]
      simp [Nat.add_assoc]
  · rw [eqB_false.2 he]
    have hsn := scan_no he
    rw [hsn] at hs
    simp only [List.append_nil, Nat.add_zero] at hs
    (repeat first | refine HReg.step ?_ | refine HCode.step ?_)
    have hk' := hk a1 c1 qs H3 o23 f1 n13 u13 (by rw [hs])
    rw [hs] at hk'
    exact hk'
end
end Go.Proofs.YtfcmjomnpahllaaGreat
namespace Go.Proofs.YtfcmjomnpahllaaGreat
open Go Hv
set_option linter.unusedVariables false
set_option linter.unusedSimpArgs false
set_option maxRecDepth 10000
set_option maxHeartbeats 1000000
/-! What is built is read back; what is read was built (plainly) -/
theorem number_back (v n : Nat) (t : List UInt8) : (⟨num v n ++ t, 0⟩ : R).number n = (v % 256 ^ n, ⟨t, 0⟩) := by
  have hn := num_length v n
  unfold R.number
  rw [if_neg (by simp), if_neg (by show ¬ (num v n ++ t).length < n; rw [List.length_append]; omega)]
  show (val ((num v n ++ t).take n), R.mk ((num v n ++ t).drop n) 0) = _
  rw [List.take_append_of_le_length (by omega), List.drop_append_of_le_length (by omega), List.take_of_length_le (by omega), List.drop_of_length_le (by omega), val_num, List.nil_append]
theorem text_back (s : List UInt8) (m : Nat) (t : List UInt8) (hs : s.length < 4294967296) (hm : s.length ≤ m) : (⟨textB s ++ t, 0⟩ : R).text m = (s, ⟨t, 0⟩) := by
  have hn := num_length s.length 4
  have ht4 : (textB s ++ t).take 4 = num s.length 4 := by
    unfold textB
    rw [List.append_assoc, List.take_append_of_le_length (by omega), List.take_of_length_le (by omega)]
  have hd4 : (textB s ++ t).drop 4 = s ++ t := by
    unfold textB
    rw [List.append_assoc, List.drop_append_of_le_length (by omega), List.drop_of_length_le (by omega), List.nil_append]
  have hl : (textB s ++ t).length = 4 + s.length + t.length := by rw [List.length_append, textB_length]
  have hv : val ((textB s ++ t).take 4) = s.length := by rw [ht4, val_num, Nat.mod_eq_of_lt hs]
  have hd : (textB s ++ t).drop (4 + s.length) = t := by
    rw [← List.drop_drop, hd4, List.drop_append_of_le_length (by omega), List.drop_of_length_le (by omega), List.nil_append]
  unfold R.text
  rw [if_neg (by simp), if_neg (by show ¬ (textB s ++ t).length < 4; omega), if_neg (by show ¬ (val ((textB s ++ t).take 4) : Int) > _; rw [hv]; omega), if_neg (by show ¬ (textB s ++ t).length - 4 < val ((textB s ++ t).take 4); rw [hv]; omega)]
  show (((textB s ++ t).drop 4).take (val ((textB s ++ t).take 4)), R.mk ((textB s ++ t).drop (4 + val ((textB s ++ t).take 4))) 0) = _
  rw [hv, hd4, hd, List.take_append_of_le_length (by omega), List.take_of_length_le (by omega)]
theorem many_back (each : Nat) : ∀ (l : List (List UInt8)) (t : List UInt8), (∀ s ∈ l, s.length < 4294967296 ∧ s.length ≤ each) → R.many each l.length ⟨l.flatMap textB ++ t, 0⟩ = (l, ⟨t, 0⟩)
  | [], t, _ => rfl
  | s :: l, t, h => by
    have hs := h s List.mem_cons_self
    have e : (⟨(s :: l).flatMap textB ++ t, 0⟩ : R).text each = (s, ⟨l.flatMap textB ++ t, 0⟩) := by
      rw [List.flatMap_cons, List.append_assoc]; exact text_back s each _ hs.1 hs.2
    show R.many each (l.length + 1) _ = _
    rw [many_step each l.length _ (by rw [e]), e]
    rw [many_back each l t (fun x hx => h x (List.mem_cons_of_mem _ hx))]
theorem count_back (k m : Nat) (t : List UInt8) (hk : k < 4294967296) (hm : k ≤ m) : (⟨num k 4 ++ t, 0⟩ : R).count m = (k, ⟨t, 0⟩) := by
  have hn := num_length k 4
  have hv : val ((num k 4 ++ t).take 4) = k := by rw [List.take_append_of_le_length (by omega), List.take_of_length_le (by omega), val_num, Nat.mod_eq_of_lt hk]
  unfold R.count
  rw [if_neg (by simp), if_neg (by show ¬ (num k 4 ++ t).length < 4; rw [List.length_append]; omega), if_neg (by show ¬ (val ((num k 4 ++ t).take 4) : Int) > _; rw [hv]; omega)]
  show (val ((num k 4 ++ t).take 4), R.mk ((num k 4 ++ t).drop 4) 0) = _
  rw [hv, List.drop_append_of_le_length (by omega), List.drop_of_length_le (by omega), List.nil_append]
theorem texts_backG (l : List (List UInt8)) (most each : Nat) (t : List UInt8) (hk : l.length < 4294967296) (hm : l.length ≤ most) (h : ∀ s ∈ l, s.length < 4294967296 ∧ s.length ≤ each) : (⟨textsB l ++ t, 0⟩ : R).texts most each = (l, ⟨t, 0⟩) := by
  unfold R.texts textsB
  rw [List.append_assoc, count_back l.length most _ hk hm, many_back each l t h, if_neg (by simp)]
theorem pairsP_back : ∀ (ps : List (Txt × Txt)) (t : List UInt8), (∀ p ∈ ps, p.1.length ≤ 65535 ∧ p.2.length ≤ 65535) → pairsP ps.length ⟨(pairPieces ps).flatten ++ t, 0⟩ = (ps, ⟨t, 0⟩)
  | [], t, _ => rfl
  | p :: ps, t, h => by
    have hp := h p List.mem_cons_self
    have e : (pairPieces (p :: ps)).flatten ++ t = textB p.1 ++ (textB p.2 ++ ((pairPieces ps).flatten ++ t)) := by
      unfold pairPieces
      rw [List.flatMap_cons]
      simp only [List.cons_append, List.nil_append, List.flatten_cons, List.append_assoc]
    have e1 := text_back p.1 65535 (textB p.2 ++ ((pairPieces ps).flatten ++ t)) (by omega) (by omega)
    have e2 := text_back p.2 65535 ((pairPieces ps).flatten ++ t) (by omega) (by omega)
    rw [e]
    show (if (0 : Int) ≠ 0 then _ else _) = _
    rw [if_neg (by simp)]
    have e1 : (⟨textB p.1 ++ (textB p.2 ++ ((pairPieces ps).flatten ++ t)), 0⟩ : R).text 65535 = _ := e1
    have e2 : (⟨textB p.2 ++ ((pairPieces ps).flatten ++ t), 0⟩ : R).text 65535 = _ := e2
    rw [e1]
    show (((p.1, ((⟨textB p.2 ++ ((pairPieces ps).flatten ++ t), 0⟩ : R).text 65535).1) :: (pairsP ps.length ((⟨textB p.2 ++ ((pairPieces ps).flatten ++ t), 0⟩ : R).text 65535).2).1), (pairsP ps.length ((⟨textB p.2 ++ ((pairPieces ps).flatten ++ t), 0⟩ : R).text 65535).2).2) = _
    rw [e2]
    show ((p.1, p.2) :: (pairsP ps.length ⟨(pairPieces ps).flatten ++ t, 0⟩).1, (pairsP ps.length ⟨(pairPieces ps).flatten ++ t, 0⟩).2) = _
    rw [pairsP_back ps t (fun q hq => h q (List.mem_cons_of_mem _ hq))]
theorem pay1 {r : Rec} (h : r.kind = 1) : pay r = num 1 1 ++ (num r.id 8 ++ (num r.ps.length 4 ++ ((pairPieces r.ps).flatten ++ textsB r.ks))) := by
  unfold pay payPieces
  rw [if_pos h, h]
  simp only [List.cons_append, List.nil_append, List.flatten_cons, List.flatten_append, List.append_assoc, List.flatten_nil, List.append_nil]
  rfl
theorem pay2 {r : Rec} (h : r.kind = 2) : pay r = num 2 1 ++ num r.id 8 := by
  unfold pay payPieces
  rw [h, if_neg (by decide)]
  simp only [List.flatten_cons, List.flatten_nil, List.append_nil]
  rfl
theorem read_pay {r : Rec} (h : May r) (hid : r.id < 18446744073709551616) : readR (pay r) = (r, ⟨[], 0⟩) := by
  obtain ⟨kind, id, ps, ks⟩ := r
  have hf := h.few
  have hs := h.short
  rcases h.2 with ⟨h1, h2, h3⟩ | ⟨h1, _⟩
  · have h1 : kind = 2 := h1
    have h2 : ps = [] := h2
    have h3 : ks = [] := h3
    subst h1 h2 h3
    rw [pay2 rfl]
    have e1 := number_back 2 1 (num id 8)
    have e8 := number_back id 8 []
    rw [List.append_nil, Nat.mod_eq_of_lt hid] at e8
    unfold readR
    rw [e1, if_neg (show ¬ (2 % 256 ^ 1 = 1) by decide)]
    show (Rec.mk ((2 % 256 ^ 1 : Nat) : Int) ((⟨num id 8, 0⟩ : R).number 8).1 [] [], ((⟨num id 8, 0⟩ : R).number 8).2) = _
    rw [e8]; rfl
  · have h1 : kind = 1 := h1
    subst h1
    rw [pay1 rfl]
    have e1 := number_back 1 1 (num id 8 ++ (num ps.length 4 ++ ((pairPieces ps).flatten ++ textsB ks)))
    have e8 := number_back id 8 (num ps.length 4 ++ ((pairPieces ps).flatten ++ textsB ks))
    rw [Nat.mod_eq_of_lt hid] at e8
    have ec : (⟨num ps.length 4 ++ ((pairPieces ps).flatten ++ textsB ks), 0⟩ : R).count 1024 = _ := count_back ps.length 1024 ((pairPieces ps).flatten ++ textsB ks) (by have : ps.length ≤ 1024 := hf.1; omega) hf.1
    have ep := pairsP_back ps (textsB ks) hs.1
    have et : (⟨textsB ks, 0⟩ : R).texts 1024 65535 = (ks, ⟨[], 0⟩) := by
      have := texts_backG ks 1024 65535 [] (by have : ks.length ≤ 1024 := hf.2; omega) hf.2 (fun s hs' => ⟨by have := hs.2 s hs'; omega, hs.2 s hs'⟩)
      rw [List.append_nil] at this; exact this
    unfold readR
    rw [e1, if_pos (show 1 % 256 ^ 1 = 1 by decide)]
    simp only [e8, ec, ep, et]
theorem pay_short {r : Rec} (h : May r) (hid : r.id < 18446744073709551616) : ReadOk (pay r) := by
  unfold ReadOk
  rw [read_pay h hid]
  exact ⟨rfl, h⟩
theorem frame_len (p : List UInt8) : (frameR p).length = 8 + p.length := by
  unfold frameR
  rw [List.length_append, List.length_append, num_length, num_length]
theorem crcN_lt (p : List UInt8) : crcN p < 4294967296 := (Crc.crc 0#32 p).isLt
theorem frame_take4 (p t : List UInt8) : (frameR p ++ t).take 4 = num p.length 4 := by
  unfold frameR
  rw [List.append_assoc, List.append_assoc, List.take_append_of_le_length (by rw [num_length]; exact Nat.le_refl _), List.take_of_length_le (by rw [num_length]; exact Nat.le_refl _)]
theorem frame_mid (p t : List UInt8) : ((frameR p ++ t).drop 4).take 4 = num (crcN p) 4 := by
  unfold frameR
  rw [List.append_assoc, List.append_assoc, List.drop_append_of_le_length (by rw [num_length]; exact Nat.le_refl _), List.drop_of_length_le (by rw [num_length]; exact Nat.le_refl _), List.nil_append, List.take_append_of_le_length (by rw [num_length]; exact Nat.le_refl _), List.take_of_length_le (by rw [num_length]; exact Nat.le_refl _)]
theorem frame_drop8 (p t : List UInt8) : (frameR p ++ t).drop 8 = p ++ t := by
  unfold frameR
  rw [List.append_assoc, List.drop_append_of_le_length (by rw [List.length_append, num_length, num_length]; exact Nat.le_refl _), List.drop_of_length_le (by rw [List.length_append, num_length, num_length]; exact Nat.le_refl _), List.nil_append]
theorem parse_frame {p : List UInt8} (t : List UInt8) (hp : p.length ≤ 1048576) (h : ReadOk p) : parseR (frameR p ++ t) = ((readR p).1, 8 + p.length, 0) := by
  have hv : val ((frameR p ++ t).take 4) = p.length := by rw [frame_take4, val_num]; exact Nat.mod_eq_of_lt (by show p.length < 4294967296; omega)
  have hc : val (((frameR p ++ t).drop 4).take 4) = crcN p := by rw [frame_mid, val_num]; exact Nat.mod_eq_of_lt (crcN_lt p)
  have hl : (frameR p ++ t).length = 8 + p.length + t.length := by rw [List.length_append, frame_len]
  have hb : ((frameR p ++ t).drop 8).take p.length = p := by rw [frame_drop8, List.take_append_of_le_length (Nat.le_refl _), List.take_of_length_le (Nat.le_refl _)]
  unfold parseR
  rw [hv, hc, hl, hb, if_neg (by omega), if_neg (by omega), if_neg (by omega), if_neg (by simp), if_neg (fun hh => hh h)]
theorem parse_rec {r : Rec} (t : List UInt8) (h : May r) (hid : r.id < 18446744073709551616) (hp : (pay r).length ≤ 1048576) : parseR (frameR (pay r) ++ t) = (r, 8 + (pay r).length, 0) := by
  rw [parse_frame t hp (pay_short h hid), read_pay h hid]
theorem parse_cut {p : List UInt8} {j : Nat} (hp : p.length ≤ 1048576) (hj : j < 8 + p.length) : parseR ((frameR p).take j) = (zeroRec, 0, 91) := by
  have hl : ((frameR p).take j).length = j := by rw [List.length_take, frame_len]; omega
  unfold parseR
  rw [hl]
  by_cases h8 : j < 8
  · rw [if_pos h8]
  rw [if_neg h8]
  have hv : val (((frameR p).take j).take 4) = p.length := by
    rw [List.take_take, Nat.min_eq_left (by omega)]
    have := frame_take4 p []
    rw [List.append_nil] at this
    rw [this, val_num]; exact Nat.mod_eq_of_lt (by show p.length < 4294967296; omega)
  rw [hv, if_neg (by omega), if_pos (by omega)]
end Go.Proofs.YtfcmjomnpahllaaGreat
namespace Go.Proofs.YtfcmjomnpahllaaGreat
open Go Hv
set_option linter.unusedVariables false
set_option linter.unusedSimpArgs false
set_option maxRecDepth 10000
set_option maxHeartbeats 1000000
/-! Plain laws of a log: records laid one behind another; a disk all of which is synced. -/
structure Good (r : Rec) : Prop where
  may : May r
  id : r.id < 18446744073709551616
  len : (pay r).length ≤ 1048576
def frG (rs : List Rec) : List UInt8 := rs.flatMap fun r => frameR (pay r)
theorem frG_cons (r : Rec) (rs : List Rec) : frG (r :: rs) = frameR (pay r) ++ frG rs := List.flatMap_cons
theorem frG_append (a b : List Rec) : frG (a ++ b) = frG a ++ frG b := by unfold frG; rw [List.flatMap_append]
theorem frG_one (r : Rec) : frG [r] = frameR (pay r) := by rw [frG_cons]; show _ ++ [] = _; rw [List.append_nil]
theorem frame_pos (p : List UInt8) : 8 ≤ (frameR p).length := by rw [frame_len]; omega
theorem build_good {r : Rec} (h : Good r) : buildR r = (frameR (pay r), 0) := by
  unfold buildR; rw [if_neg (fun hh => hh h.may), if_neg (by have := h.len; omega)]
theorem good_build {r : Rec} (hid : r.id < 18446744073709551616) (h : (buildR r).2 = 0) : Good r := by
  unfold buildR at h
  split at h
  · cases h
  · rename_i hm
    split at h
    · cases h
    · rename_i hl
      exact ⟨Classical.not_not.1 hm, hid, by omega⟩
theorem frG_nil {rs : List Rec} {t : List UInt8} (h : frG rs ++ t = []) : rs = [] ∧ t = [] := by
  cases rs with
  | nil => exact ⟨rfl, h⟩
  | cons r rs =>
    rw [frG_cons] at h
    have := congrArg List.length h
    have h8 := frame_pos (pay r)
    simp only [List.length_append, List.length_nil] at this
    omega
theorem parse_good {r : Rec} (h : Good r) (t : List UInt8) : parseR (frameR (pay r) ++ t) = (r, 8 + (pay r).length, 0) := parse_rec t h.may h.id h.len
theorem parse_empty : (parseR []).2.2 ≠ 0 := by
  have h := parse_cut (p := []) (j := 0) (by decide) (by decide)
  rw [List.take_zero] at h
  rw [h]; decide
theorem parse_torn {r : Rec} (h : Good r) {j : Nat} (hj : j < (frameR (pay r)).length) : (parseR ((frameR (pay r)).take j)).2.2 ≠ 0 := by
  rw [frame_len] at hj
  rw [parse_cut h.len hj]; decide
theorem scan_frames : ∀ (rs : List Rec), (∀ r ∈ rs, Good r) → ∀ t, (parseR t).2.2 ≠ 0 → scanR (frG rs ++ t) = (rs, (frG rs).length)
  | [], _, t, ht => scan_no ht
  | r :: rs, h, t, ht => by
    have hp := parse_good (h r (by simp)) (frG rs ++ t)
    have e : frG (r :: rs) ++ t = frameR (pay r) ++ (frG rs ++ t) := by rw [frG_cons, List.append_assoc]
    rw [e, scan_yes (by rw [hp]), hp]
    dsimp only
    have hd : (frameR (pay r) ++ (frG rs ++ t)).drop (8 + (pay r).length) = frG rs ++ t := by
      rw [← frame_len, List.drop_left]
    rw [hd, scan_frames rs (fun x hx => h x (List.mem_cons_of_mem _ hx)) t ht, frG_cons, List.length_append, frame_len]
/-- What is read of records, and of a beginning of one more. -/
theorem scan_tail {D : List Rec} {r : Rec} (hD : ∀ x ∈ D, Good x) (hr : Good r) (j : Nat) :
    ∃ A, (A = D ∨ A = D ++ [r]) ∧ scanR (frG D ++ (frameR (pay r)).take j) = (A, (frG A).length) ∧ (frG D ++ (frameR (pay r)).take j).take (frG A).length = frG A ∧ (frG A).length ≤ (frG D ++ (frameR (pay r)).take j).length := by
  by_cases hj : j < (frameR (pay r)).length
  · refine ⟨D, .inl rfl, scan_frames D hD _ (parse_torn hr hj), List.take_left, by simp⟩
  · rw [List.take_of_length_le (by omega), ← frG_one r, ← frG_append]
    refine ⟨D ++ [r], .inr rfl, ?_, List.take_length, Nat.le_refl _⟩
    have := scan_frames (D ++ [r]) (fun x hx => by
      rcases List.mem_append.1 hx with h | h
      · exact hD x h
      · rw [List.mem_singleton.1 h]; exact hr) [] parse_empty
    rw [List.append_nil] at this
    exact this
theorem scan_all {D : List Rec} (hD : ∀ x ∈ D, Good x) : scanR (frG D) = (D, (frG D).length) := by
  have := scan_frames D hD [] parse_empty
  rw [List.append_nil] at this; exact this
/-! The disk -/
def Syn (s : St) : Prop := ∀ k x y, s.fs k = some (x, y) → y = x.length
theorem crash1_syn (keep : Int) (x : List UInt8) : crash1 keep (x, x.length) = (x, x.length) := by
  have e : tailOf keep x.length x.length = 0 := by unfold tailOf; omega
  unfold crash1
  dsimp only
  rw [e, Nat.add_zero, List.take_length]
theorem crash_syn {s : St} (h : Syn s) (keep : Int) : (s.crash keep).fs = s.fs ∧ (s.crash keep).cnt = s.cnt ∧ (s.crash keep).d.off = true := by
  unfold St.crash
  split
  · rename_i ho; exact ⟨rfl, rfl, ho⟩
  · refine ⟨?_, rfl, rfl⟩
    funext k
    show (s.fs k).map (crash1 keep) = s.fs k
    cases e : s.fs k with
    | none => rfl
    | some x =>
      obtain ⟨a, b⟩ := x
      have := h k a b e
      subst this
      show some (crash1 keep (a, a.length)) = _
      rw [crash1_syn]
theorem call_syn {s : St} (h : Syn s) : s.call.fs = s.fs ∧ s.call.cnt = s.cnt ∧ (s.d.off = true → s.call.d.off = true) := by
  unfold St.call
  split
  · split
    · obtain ⟨h1, h2, h3⟩ := crash_syn h s.d.keep
      exact ⟨h1, h2, fun _ => h3⟩
    · exact ⟨rfl, rfl, fun h => h⟩
  · exact ⟨rfl, rfl, fun h => h⟩
theorem Syn.same {s s' : St} (h : Syn s) (e : s'.fs = s.fs) : Syn s' := fun k x y hk => h k x y (by rw [← e]; exact hk)
end Go.Proofs.YtfcmjomnpahllaaGreat
namespace Go.Proofs.YtfcmjomnpahllaaGreat
open Go Hv
set_option linter.unusedVariables false
set_option linter.unusedSimpArgs false
set_option maxRecDepth 10000
set_option maxHeartbeats 4000000
/-! A log on a disk: what lies beside the disk is carried in the heap without its blocks. CUT2 -/
def eH : Heap := fun _ => none
theorem eH_upd (H : Heap) : Upd [] eH H := fun k _ h => absurd rfl h
def lessH (H : Heap) (B : List Nat) : Heap := fun b => if b ∈ B then none else H b
theorem lessH_none {H : Heap} {B : List Nat} {b : Nat} (h : b ∈ B) : lessH H B b = none := if_pos h
theorem lessH_of {H : Heap} {B : List Nat} {b : Nat} (h : b ∉ B) : lessH H B b = H b := if_neg h
theorem less_ne {H : Heap} {B : List Nat} {b : Nat} (h : lessH H B b ≠ none) : b ∉ B ∧ H b ≠ none := by
  unfold lessH at h
  by_cases hb : b ∈ B
  · rw [if_pos hb] at h; exact absurd rfl h
  · rw [if_neg hb] at h; exact ⟨hb, h⟩
theorem less_nn {H : Heap} {B : List Nat} {b : Nat} (h : H b = none) : lessH H B b = none := by
  unfold lessH; split
  · rfl
  · exact h
theorem less_upd (H : Heap) (B : List Nat) : Upd [] (lessH H B) H := fun k _ h => by rw [lessH_of (less_ne h).1]
theorem less0 {S : List Nat} {H H' : Heap} {B : List Nat} (u : Upd S H H') : Upd S (lessH H B) (lessH H' B) := fun k hk h => by
  obtain ⟨h1, h2⟩ := less_ne h
  rw [lessH_of h1, lessH_of h1, u k hk h2]
theorem Hv.OwnRow.less {H : Heap} {e : TypeId} {size n c : Nat} {a : Option Addr} {xs : List Value} {B : List Nat} (o : OwnRow H e size a n c xs) (h : ∀ b ∈ blk a, b ∉ B) : OwnRow (lessH H B) e size a n c xs := by
  refine ⟨o.len, ?_⟩
  rcases o.ok with h1 | ⟨g, cur, ha, hg, h1, h2, h3⟩
  · exact .inl h1
  · exact .inr ⟨g, cur, ha, by rw [lessH_of (h g (by rw [ha]; simp [blk]))]; exact hg, h1, h2, h3⟩
def offD (H : Heap) (g r : Nat) (fl : List Fl) : Heap := lessH H (dblk g r fl)
section
variable {H H' H1 H2 : Heap} {g r : Nat} {s s' : St} {fl fl' : List Fl} {K : Value → Heap → Prop}
theorem dstep (st : Stp H H' g r fl fl') : Upd [] (offD H g r fl) (offD H' g r fl') := fun k _ h => by
  obtain ⟨h1, h2⟩ := less_ne h
  have h3 : k ∉ dblk g r fl' := fun hk => by
    rcases st.sub k hk with h | h
    · exact h1 h
    · exact h2 h
  unfold offD
  rw [lessH_of h1, lessH_of h3, st.upd k h1 h2]
theorem DiskAt.fresh (D : DiskAt H1 H g r s fl) {b : Nat} (h : H b = none) : b ∉ dblk g r fl := fun hb => D.phys.live b hb h
theorem off_live (D : DiskAt H1 H g r s fl) {b : Nat} (h : offD H g r fl b ≠ none) : b ∉ dblk g r fl ∧ H b ≠ none := less_ne h
/-- What a call has made beside the disk. -/
theorem Hv.Made.offD {e : TypeId} {size n c : Nat} {a : Option Addr} {xs : List Value} (m : Made H H' e size a n c xs) (D : DiskAt H1 H g r s fl) : Made (offD H g r fl) (offD H' g r fl) e size a n c xs :=
  ⟨m.own.less fun b hb => by
    obtain ⟨p, hp, rfl⟩ := blk_of hb
    exact D.fresh (m.new p hp), less0 m.upd, fun p hp => less_nn (m.new p hp)⟩
end
structure LogAt (L : Heap) (p g : Nat) (n : ByteArray) (k : Nat) : Prop where
  row : OwnRow L 69 1 (some ⟨p, 0, none⟩) 3 3 [.pointer (some ⟨g, 0, none⟩), .string n, .int .i64 (k : Int)]
theorem LogAt.upd0 {L L' : Heap} {p g k : Nat} {n : ByteArray} (h : LogAt L p g n k) (u : Upd [] L L') : LogAt L' p g n k := ⟨h.row.upd u (Off.nil _)⟩
structure RecsAt (L L' : Heap) (qs : List PRec) (a : Option Addr) (c : Nat) : Prop where
  row : OwnRow L' 41 4 a qs.length c (recsV qs)
  new : ∀ b ∈ blk a, L b = none
  recs : RecsNew L L' qs
theorem RecsAt.upd0 {L L1 L2 : Heap} {qs : List PRec} {a : Option Addr} {c : Nat} (h : RecsAt L L1 qs a c) (u : Upd [] L1 L2) : RecsAt L L2 qs a c := ⟨h.row.upd u (Off.nil _), h.new, h.recs.upd u fun q hq b hb => by simp⟩
theorem RecsAt.recIn {L L1 : Heap} {qs : List PRec} {a : Option Addr} {c : Nat} (h : RecsAt L L1 qs a c) {q : PRec} (hq : q ∈ qs) : RecIn L1 q.r q.ap q.ak := (h.recs.each q hq).recIn
theorem RecsNew.offD {H1 H H' : Heap} {g r : Nat} {s : St} {fl : List Fl} {qs : List PRec} (h : RecsNew H H' qs) (D : DiskAt H1 H g r s fl) : RecsNew (offD H g r fl) (offD H' g r fl) qs :=
  ⟨fun q hq => by
    have n := h.each q hq
    refine ⟨n.p.less fun b hb => ?_, n.k.less fun b hb => ?_, fun p hp => less_nn (n.pn p hp), fun p hp => less_nn (n.kn p hp), n.np, n.nk⟩
    · obtain ⟨p, hp, rfl⟩ := blk_of hb
      exact D.fresh (n.pn p hp)
    · obtain ⟨p, hp, rfl⟩ := blk_of hb
      exact D.fresh (n.kn p hp), h.apart⟩
noncomputable def openW (s : St) (n : ByteArray) : Int × (List Rec × Nat) × St :=
  if (s.readF n).1 = 0 then
    if (scanR (s.readF n).2).2 < (s.readF n).2.length then
      if (s.call.cut n ((scanR (s.readF n).2).2 : Int)).1 = 0 then (0, scanR (s.readF n).2, (s.call.cut n ((scanR (s.readF n).2).2 : Int)).2)
      else ((s.call.cut n ((scanR (s.readF n).2).2 : Int)).1, ([], 0), (s.call.cut n ((scanR (s.readF n).2).2 : Int)).2)
    else (0, scanR (s.readF n).2, s.call)
  else if (s.readF n).1 = 61 then (0, ([], 0), s.call) else ((s.readF n).1, ([], 0), s.call)
section
variable {H : Heap} {g r : Nat} {s : St} {fl : List Fl} {n : ByteArray} {K : Value → Heap → Prop}
theorem open_t (D : DiskAt eH H g r s fl) (hsz : (s.readF n).2.length ≤ 17592186044416)
    (hno : ∀ e fl' H', e ≠ 0 → (openW s n).1 = e → DiskAt eH H' g r (openW s n).2.2 fl' → Upd [] (offD H g r fl) (offD H' g r fl') → K (.tuple #[.pointer none, .slice none 0 0, .int .i64 e]) H')
    (hyes : ∀ p a c qs fl' H', (openW s n).1 = 0 → (openW s n).2.1.1 = qs.map PRec.r → DiskAt eH H' g r (openW s n).2.2 fl' → Upd [] (offD H g r fl) (offD H' g r fl') →
      LogAt (offD H' g r fl') p g n (openW s n).2.1.2 → offD H g r fl p = none → RecsAt (offD H g r fl) (offD H' g r fl') qs a c → K (.tuple #[.pointer (some ⟨p, 0, none⟩), .slice a qs.length c, .int .i64 0]) H') :
    HCalls Tryz.prog 7 [.pointer (some ⟨g, 0, none⟩), .string n] H K := by
  refine hcalls (fn := Tryz.f7) [] mixed Tryz.func7 rfl rfl (by decide +kernel) ?_
  (repeat first | refine HReg.step ?_ | refine HCode.step ?_)
  refine HCall.mk ⟨Tryz.f31, Tryz.func31, by rfl, by rfl⟩ ?_
  refine read_f D fun a c fl1 H1 H2 D1 st1 m2 => ?_
  have D2 := D1.upd0 m2.upd
  have u1 := dstep st1
  have u12 : Upd [] (offD H1 g r fl1) (offD H2 g r fl1) := less0 m2.upd
  have u02 := u1.trans u12
  obtain ⟨E, l, hrd⟩ : ∃ E l, s.readF n = (E, l) := ⟨_, _, rfl⟩
  rw [hrd] at m2 hsz ⊢
  dsimp only at m2 hsz ⊢
  (repeat first | refine HReg.step ?_ | refine HCode.step ?_)
  by_cases h0 : E = 0
  · subst h0
    rw [eqB_self 0]
    (repeat first | refine HReg.step ?_ | refine HCode.step ?_)
    refine HCall.mk ⟨Tryz.f34, Tryz.func34, by rfl, by rfl⟩ ?_
    refine scan_t m2.own.rows rfl m2.own.le hsz fun a3 c3 qs H3 o3 f3 n3 u3 hqs => ?_
    have D3 := D2.upd0 u3
    have u23 : Upd [] (offD H2 g r fl1) (offD H3 g r fl1) := less0 u3
    have u03 := u02.trans u23
    have hk2 : (scanR l).2 ≤ 9223372036854775807 ∨ True := .inr trivial
    have rec3 : RecsAt (offD H g r fl) (offD H3 g r fl1) qs a3 c3 := by
      have n3' := n3.offD D2
      refine ⟨o3.less fun b hb => ?_, fun b hb => ?_, ⟨fun q hq => (n3'.each q hq).back u02, n3'.apart⟩⟩
      · obtain ⟨p, hp, rfl⟩ := blk_of hb
        exact D2.fresh (f3 p hp)
      · obtain ⟨p, hp, rfl⟩ := blk_of hb
        exact Upd.none (S := []) u02 (by simp) (less_nn (f3 p hp))
    (repeat first | refine HReg.step ?_ | refine HCode.step ?_)
    refine hif (fun h1 => ?_) (fun h1 => ?_)
    · have h1 := ltB_true.1 h1
      have h1' : (scanR l).2 < l.length := by omega
      (repeat first | refine HReg.step ?_ | refine HCode.step ?_)
      refine HCall.mk ⟨Tryz.f35, Tryz.func35, by rfl, by rfl⟩ ?_
      refine cut_t D3 fun fl4 H4 D4 st4 => ?_
      have u34 := dstep st4
      have u04 := u03.trans u34
      obtain ⟨e4, s4, hc4⟩ : ∃ e t, s.call.cut n ((scanR l).2 : Int) = (e, t) := ⟨_, _, rfl⟩
      rw [hc4] at D4 ⊢
      dsimp only at D4 ⊢
      (repeat first | refine HReg.step ?_ | refine HCode.step ?_)
      by_cases h4 : e4 = 0
      · subst h4
        have hw : openW s n = (0, scanR l, s4) := by unfold openW; rw [hrd]; dsimp only; rw [if_pos rfl, if_pos h1', hc4]; rfl
        simp only [hw] at hno hyes
        rw [eqB_self 0]
        (repeat first | refine HReg.step ?_ | refine HCode.step ?_)
        refine HNew.mk fun p hp => ?_
        have u45 : Upd [] H4 (H4.upd p (.cells [Value.pointer (some ⟨g, 0, none⟩), .string n, .int .i64 ((scanR l).2 : Int)].toArray 69)) := Upd.new hp _
        have m5 : Made H4 (H4.upd p (.cells [Value.pointer (some ⟨g, 0, none⟩), .string n, .int .i64 ((scanR l).2 : Int)].toArray 69)) 69 1 (some ⟨p, 0, none⟩) 3 3 [.pointer (some ⟨g, 0, none⟩), .string n, .int .i64 ((scanR l).2 : Int)] := ⟨OwnRow.lit (upd_same _ _ _) rfl, u45, fun x hx => by cases hx; exact hp⟩
        generalize hH5 : H4.upd p (.cells [Value.pointer (some ⟨g, 0, none⟩), .string n, .int .i64 ((scanR l).2 : Int)].toArray 69) = H5 at u45 m5
        (repeat first | refine HReg.step ?_ | refine HCode.step ?_)
        have m5' := m5.offD D4
        exact hyes p a3 c3 qs fl4 H5 trivial hqs.symm (D4.upd0 u45) (u04.trans m5'.upd) ⟨m5'.own⟩ (Upd.none (S := []) u04 (by simp) (m5'.new _ rfl)) ((rec3.upd0 u34).upd0 m5'.upd)
      · have hw : openW s n = (e4, ([], 0), s4) := by unfold openW; rw [hrd]; dsimp only; rw [if_pos rfl, if_pos h1', hc4]; dsimp only; rw [if_neg h4]
        simp only [hw] at hno hyes
        rw [show eqB e4 0 = false from eqB_false.2 h4]
        (repeat first | refine HReg.step ?_ | refine HCode.step ?_)
        exact hno e4 fl4 H4 h4 rfl D4 u04
    · have h1 := ltB_false.1 h1
      have h1' : ¬ (scanR l).2 < l.length := by omega
      have hw : openW s n = (0, scanR l, s.call) := by unfold openW; rw [hrd]; dsimp only; rw [if_pos rfl, if_neg h1']
      simp only [hw] at hno hyes
      (repeat first | refine HReg.step ?_ | refine HCode.step ?_)
      refine HNew.mk fun p hp => ?_
      have u45 : Upd [] H3 (H3.upd p (.cells [Value.pointer (some ⟨g, 0, none⟩), .string n, .int .i64 ((scanR l).2 : Int)].toArray 69)) := Upd.new hp _
      have m5 : Made H3 (H3.upd p (.cells [Value.pointer (some ⟨g, 0, none⟩), .string n, .int .i64 ((scanR l).2 : Int)].toArray 69)) 69 1 (some ⟨p, 0, none⟩) 3 3 [.pointer (some ⟨g, 0, none⟩), .string n, .int .i64 ((scanR l).2 : Int)] := ⟨OwnRow.lit (upd_same _ _ _) rfl, u45, fun x hx => by cases hx; exact hp⟩
      generalize hH5 : H3.upd p (.cells [Value.pointer (some ⟨g, 0, none⟩), .string n, .int .i64 ((scanR l).2 : Int)].toArray 69) = H5 at u45 m5
      (repeat first | refine HReg.step ?_ | refine HCode.step ?_)
      have m5' := m5.offD D3
      exact hyes p a3 c3 qs fl1 H5 trivial hqs.symm (D3.upd0 u45) (u03.trans m5'.upd) ⟨m5'.own⟩ (Upd.none (S := []) u03 (by simp) (m5'.new _ rfl)) (rec3.upd0 m5'.upd)
  · rw [show eqB E 0 = false from eqB_false.2 h0]
    (repeat first | refine HReg.step ?_ | refine HCode.step ?_)
    by_cases h61 : E = 61
    · subst h61
      have hw : openW s n = (0, ([], 0), s.call) := by unfold openW; rw [hrd]; dsimp only; rw [if_neg h0, if_pos rfl]
      simp only [hw] at hno hyes
      rw [eqB_self 61]
      (repeat first | refine HReg.step ?_ | refine HCode.step ?_)
      refine HNew.mk fun p hp => ?_
      have u45 : Upd [] H2 (H2.upd p (.cells [Value.pointer (some ⟨g, 0, none⟩), .string n, .int .i64 0].toArray 69)) := Upd.new hp _
      have m5 : Made H2 (H2.upd p (.cells [Value.pointer (some ⟨g, 0, none⟩), .string n, .int .i64 0].toArray 69)) 69 1 (some ⟨p, 0, none⟩) 3 3 [.pointer (some ⟨g, 0, none⟩), .string n, .int .i64 0] := ⟨OwnRow.lit (upd_same _ _ _) rfl, u45, fun x hx => by cases hx; exact hp⟩
      generalize hH5 : H2.upd p (.cells [Value.pointer (some ⟨g, 0, none⟩), .string n, .int .i64 0].toArray 69) = H5 at u45 m5
      (repeat first | refine HReg.step ?_ | refine HCode.step ?_)
      have m5' := m5.offD D2
      exact hyes p none 0 [] fl1 H5 trivial rfl (D2.upd0 u45) (u02.trans m5'.upd) ⟨m5'.own⟩ (Upd.none (S := []) u02 (by simp) (m5'.new _ rfl)) ⟨OwnRow.nil _ _ _, fun b hb => by simp [blk] at hb, RecsNew.nil _ _⟩
    · have hw : openW s n = (E, ([], 0), s.call) := by unfold openW; rw [hrd]; dsimp only; rw [if_neg h0, if_neg h61]
      simp only [hw] at hno hyes
      rw [show eqB E 61 = false from eqB_false.2 h61]
      (repeat first | refine HReg.step ?_ | refine HCode.step ?_)
      exact hno E fl1 H2 h0 rfl D2 u02
end
end Go.Proofs.YtfcmjomnpahllaaGreat
namespace Go.Proofs.YtfcmjomnpahllaaGreat
open Go Hv
set_option linter.unusedVariables false
set_option linter.unusedSimpArgs false
set_option maxRecDepth 10000
set_option maxHeartbeats 4000000
/-! Append to a log. CUT2 -/
noncomputable def appendW (s : St) (n : ByteArray) (k : Nat) (x : Rec) : Int × Nat × St :=
  if (buildR x).2 ≠ 0 then ((buildR x).2, k, s)
  else if (s.append n (buildR x).1).1 ≠ 0 then ((s.append n (buildR x).1).1, k, (s.append n (buildR x).1).2)
  else if ((s.append n (buildR x).1).2.sync n).1 ≠ 0 then (((s.append n (buildR x).1).2.sync n).1, k, ((s.append n (buildR x).1).2.sync n).2)
  else (0, k + (buildR x).1.length, ((s.append n (buildR x).1).2.sync n).2)
theorem build_len (x : Rec) : (buildR x).1.length ≤ 1048584 := by
  unfold buildR
  split
  · exact Nat.zero_le _
  · split
    · exact Nat.zero_le _
    · show (frameR (pay x)).length ≤ _
      rw [frame_len]; omega
theorem RecIn.up {H : Heap} {B : List Nat} {x : Rec} {ap ak : Option Addr} (h : RecIn (lessH H B) x ap ak) : RecIn H x ap ak := h.upd0 (less_upd _ _)
theorem Hv.RowAt.up {H : Heap} {B : List Nat} {a : Option Addr} {xs : List Value} (h : RowAt (lessH H B) a xs) : RowAt H a xs := h.upd (S := []) (less_upd _ _) (.inr (Off.nil _))
section
variable {H : Heap} {g r p k : Nat} {s : St} {fl : List Fl} {n : ByteArray} {K : Value → Heap → Prop}
theorem LogAt.off (l : LogAt (offD H g r fl) p g n k) : p ∉ dblk g r fl := (less_ne (l.row.there rfl)).1
theorem LogAt.up (l : LogAt (offD H g r fl) p g n k) : RowAt H (some ⟨p, 0, none⟩) [.pointer (some ⟨g, 0, none⟩), .string n, .int .i64 (k : Int)] := RowAt.up (l.row.rows)
theorem ownrow_up {H : Heap} {B : List Nat} {e : TypeId} {size n c : Nat} {a : Option Addr} {xs : List Value} (o : OwnRow (lessH H B) e size a n c xs) : OwnRow H e size a n c xs := o.upd (less_upd _ _) (Off.nil _)
theorem appendL_t {x : Rec} {ap ak : Option Addr} {cp ck : Nat} (D : DiskAt eH H g r s fl) (lg : LogAt (offD H g r fl) p g n k) (hr : RecIn (offD H g r fl) x ap ak) (hsz : ∀ y z, s.call.fs n = some (y, z) → y.length ≤ 70368744177664) (hkb : k ≤ 70368744177664)
    (hk : ∀ fl' H', DiskAt eH H' g r (appendW s n k x).2.2 fl' → Upd [p] (offD H g r fl) (offD H' g r fl') → LogAt (offD H' g r fl') p g n (appendW s n k x).2.1 → K (.int .i64 (appendW s n k x).1) H') :
    HCalls Tryz.prog 10 [.pointer (some ⟨p, 0, none⟩), rv x ap cp ak ck] H K := by
  refine hcalls (fn := Tryz.f10) [(4, [(0, 0), (1, 0), (2, 0), (3, 0), (4, 0), (5, 0), (6, 0), (7, 0), (8, 0), (9, 0), (10, 0)]), (7, [(0, 0), (1, 0), (2, 0), (3, 0), (4, 0), (5, 0), (6, 0), (7, 0), (8, 0), (9, 0)])] mixed Tryz.func10 rfl rfl (by decide +kernel) ?_
  have hbl := build_len x
  (repeat first | refine HReg.step ?_ | refine HCode.step ?_)
  refine HNew.mk fun b1 hb1 => ?_
  have hH' : H.upd b1 (.cells [Value.int .i64 x.kind, .int .u64 (x.id : Int), .slice ap x.ps.length cp, .slice ak x.ks.length ck].toArray 41) = H.upd b1 (.cells (rcells x ap cp ak ck).toArray 41) := rfl
  have m1 : Made H (H.upd b1 (.cells (rcells x ap cp ak ck).toArray 41)) 41 1 (some ⟨b1, 0, none⟩) 4 4 (rcells x ap cp ak ck) := ⟨OwnRow.lit (upd_same _ _ _) rfl, Upd.new hb1 _, fun q hq => by cases hq; exact hb1⟩
  rw [hH']
  generalize hH1 : H.upd b1 (.cells (rcells x ap cp ak ck).toArray 41) = H1 at m1
  have D1 := D.upd0 m1.upd
  have u01 : Upd [] (offD H g r fl) (offD H1 g r fl) := less0 m1.upd
  (repeat first | refine HReg.step ?_ | refine HCode.step ?_)
  refine HLoadN_row m1.own.rows rfl ?_
  (repeat first | refine HReg.step ?_ | refine HCode.step ?_)
  refine HCall.mk ⟨Tryz.f39, Tryz.func39, by rfl, by rfl⟩ ?_
  refine build_t ((hr.up).upd0 m1.upd) fun a2 c2 H2 m2 => ?_
  have D2 := D1.upd0 m2.upd
  have u12 : Upd [] (offD H1 g r fl) (offD H2 g r fl) := less0 m2.upd
  have u02 := u01.trans u12
  have lg2 := lg.upd0 u02
  obtain ⟨b, e, hbe⟩ : ∃ b e, buildR x = (b, e) := ⟨_, _, rfl⟩
  rw [hbe] at m2 hbl ⊢
  dsimp only at m2 hbl ⊢
  (repeat first | refine HReg.step ?_ | refine HCode.step ?_)
  by_cases he : e = 0
  rotate_left
  · have hw : appendW s n k x = (e, k, s) := by unfold appendW; rw [hbe]; dsimp only; rw [if_pos he]
    rw [hw] at hk
    rw [show eqB e 0 = false from eqB_false.2 he]
    (repeat first | refine HReg.step ?_ | refine HCode.step ?_)
    exact hk fl H2 D2 (u02.mono (by simp)) lg2
  subst he
  rw [eqB_self 0]
  (repeat first | refine HReg.step ?_ | refine HCode.step ?_)
  refine HLoad.one (v := .pointer (some ⟨g, 0, none⟩)) (by exact lg2.up.get (i := 0) rfl) ?_
  (repeat first | refine HReg.step ?_ | refine HCode.step ?_)
  refine HLoad.one (v := .string n) (by exact lg2.up.get (i := 1) rfl) ?_
  (repeat first | refine HReg.step ?_ | refine HCode.step ?_)
  refine HCall.mk ⟨Tryz.f23, Tryz.func23, by rfl, by rfl⟩ ?_
  refine append_t D2 m2.own.rows rfl (fun q hq hb => D.fresh (Upd.none (S := []) m1.upd (by simp) (m2.new q hq)) hb) (fun y z hyz => by have := hsz y z hyz; omega) (by omega) fun fl3 H3 D3 st3 => ?_
  have u23 := dstep st3
  have lg3 := lg2.upd0 u23
  have u03 := u02.trans u23
  obtain ⟨e3, s3, h3⟩ : ∃ e t, s.append n b = (e, t) := ⟨_, _, rfl⟩
  rw [h3] at D3 ⊢
  dsimp only at D3 ⊢
  (repeat first | refine HReg.step ?_ | refine HCode.step ?_)
  by_cases he3 : e3 = 0
  rotate_left
  · have hw : appendW s n k x = (e3, k, s3) := by unfold appendW; rw [hbe]; dsimp only; rw [if_neg (fun h => h rfl), h3]; dsimp only; rw [if_pos he3]
    rw [hw] at hk
    rw [show eqB e3 0 = false from eqB_false.2 he3]
    (repeat first | refine HReg.step ?_ | refine HCode.step ?_)
    exact hk fl3 H3 D3 (u03.mono (by simp)) lg3
  subst he3
  rw [eqB_self 0]
  (repeat first | refine HReg.step ?_ | refine HCode.step ?_)
  refine HLoad.one (v := .pointer (some ⟨g, 0, none⟩)) (by exact lg3.up.get (i := 0) rfl) ?_
  (repeat first | refine HReg.step ?_ | refine HCode.step ?_)
  refine HLoad.one (v := .string n) (by exact lg3.up.get (i := 1) rfl) ?_
  (repeat first | refine HReg.step ?_ | refine HCode.step ?_)
  refine HCall.mk ⟨Tryz.f40, Tryz.func40, by rfl, by rfl⟩ ?_
  refine sync_f D3 fun fl4 H4 D4 st4 => ?_
  have u34 := dstep st4
  have lg4 := lg3.upd0 u34
  have u04 := u03.trans u34
  obtain ⟨e4, s4, h4⟩ : ∃ e t, s3.sync n = (e, t) := ⟨_, _, rfl⟩
  rw [h4] at D4 ⊢
  dsimp only at D4 ⊢
  (repeat first | refine HReg.step ?_ | refine HCode.step ?_)
  by_cases he4 : e4 = 0
  rotate_left
  · have hw : appendW s n k x = (e4, k, s4) := by unfold appendW; rw [hbe]; dsimp only; rw [if_neg (fun h => h rfl), h3]; dsimp only; rw [if_neg (fun h => h rfl), h4]; dsimp only; rw [if_pos he4]
    rw [hw] at hk
    rw [show eqB e4 0 = false from eqB_false.2 he4]
    (repeat first | refine HReg.step ?_ | refine HCode.step ?_)
    exact hk fl4 H4 D4 (u04.mono (by simp)) lg4
  subst he4
  have hw : appendW s n k x = (0, k + b.length, s4) := by unfold appendW; rw [hbe]; dsimp only; rw [if_neg (fun h => h rfl), h3]; dsimp only; rw [if_neg (fun h => h rfl), h4]; dsimp only; rw [if_neg (fun h => h rfl)]
  rw [hw] at hk
  rw [eqB_self 0]
  have o4 := ownrow_up lg4.row
  have wk : wr .i64 ((k : Int) + (b.length : Int)) = ((k + b.length : Nat) : Int) := by rw [wr_i64 (by omega) (by omega)]; omega
  (repeat first | refine HReg.step ?_ | refine HCode.step ?_)
  refine HLoad.one (v := .int .i64 (k : Int)) (by exact o4.rows.get (i := 2) rfl) ?_
  (repeat first | refine HReg.step ?_ | refine HCode.step ?_)
  rw [wk]
  refine store_row o4 (v := .int .i64 ((k + b.length : Nat) : Int)) rfl (i := 2) (by decide) (by rfl) fun H5 o5 u5 => ?_
  have hp4 := lg4.off
  (repeat first | refine HReg.step ?_ | refine HCode.step ?_)
  refine hk fl4 H5 (D4.upd u5 (fun q hq => by rw [List.mem_singleton.1 hq]; exact hp4) (fun q hq => rfl)) ((u04.mono (by simp)).trans (less0 u5)) ⟨?_⟩
  exact o5.less fun q hq => by
    have e : q = p := by simpa [blk] using hq
    rw [e]; exact hp4
theorem sizeL_t (lg : LogAt (offD H g r fl) p g n k) (hk : K (.int .i64 (k : Int)) H) : HCalls Tryz.prog 13 [.pointer (some ⟨p, 0, none⟩)] H K := by
  refine hcalls (fn := Tryz.f13) [] mixed Tryz.func13 rfl rfl (by decide +kernel) ?_
  (repeat first | refine HReg.step ?_ | refine HCode.step ?_)
  refine HLoad.one (v := .int .i64 (k : Int)) (by exact lg.up.get (i := 2) rfl) ?_
  (repeat first | refine HReg.step ?_ | refine HCode.step ?_)
  exact hk
theorem nameL_t (lg : LogAt (offD H g r fl) p g n k) (hk : K (.string n) H) : HCalls Tryz.prog 15 [.pointer (some ⟨p, 0, none⟩)] H K := by
  refine hcalls (fn := Tryz.f15) [] mixed Tryz.func15 rfl rfl (by decide +kernel) ?_
  (repeat first | refine HReg.step ?_ | refine HCode.step ?_)
  refine HLoad.one (v := .string n) (by exact lg.up.get (i := 1) rfl) ?_
  (repeat first | refine HReg.step ?_ | refine HCode.step ?_)
  exact hk
end
end Go.Proofs.YtfcmjomnpahllaaGreat
namespace Go.Proofs.YtfcmjomnpahllaaGreat
open Go Hv
set_option linter.unusedVariables false
set_option linter.unusedSimpArgs false
set_option maxRecDepth 10000
set_option maxHeartbeats 1000000
/-! commit, own; two records that are alike. CUT2 -/
open Go.Op in
theorem eqs {P : Program} (d : Nat) {t : TypeId} (hu : P.underlying t = some .string) (a : ByteArray) (w : World) : (Op.equalIn (d + 1) t (.string a) (.string a)).run P w = .ok true w := by
  unfold Op.equalIn; simp [run_underlying hu]
  cases a with
  | mk d => show (d == d) = true; simp
def pv (p : Txt × Txt) : Value := .agg [Value.string (bs p.1), .string (bs p.2)].toArray
open Go.Op in
theorem pair_neq {x y : Operand} {p : Txt × Txt} {K : Value → Prop} (hk : K (.bool false)) : HBin Tryz.prog .neq 100 x y (pv p) (pv p) K := by
  refine ⟨_, hk, fun w => ?_⟩
  have part0 : ∀ (a b : ByteArray) (w : World), (part 9 [Value.string a, .string b].toArray 0).run Tryz.prog w = .ok (.string a) w := fun a b w => by kernel_rfl
  have part1 : ∀ (a b : ByteArray) (w : World), (part 9 [Value.string a, .string b].toArray 1).run Tryz.prog w = .ok (.string b) w := fun a b w => by kernel_rfl
  have g : (eqGuard .neq 100 x y (pv p) (pv p)).run Tryz.prog w = .ok () w := by
    kernel_rfl
  have e := (binOp_eq_ 100 (pv p) (pv p) (by simp [pv]) (by simp [pv]) (by simp [pv]) (by simp [pv])).2
  rw [Sem.run_bind, g, Result.andThen_ok, e, Sem.run_bind]
  have : (Op.equalIn (9999 + 1) 100 (pv p) (pv p)).run Tryz.prog w = .ok true w := by
    unfold Op.equalIn
    rw [Sem.run_bind, run_underlying Tryz.underlying100, Result.andThen_ok]
    have hst : Tryz.prog.stoodInHeld 100 = false := by kernel_rfl
    have q := fun a w => eqs (P := Tryz.prog) 9998 Tryz.underlying9 a w
    simp only [pv]
    simp [program, hst, part0, part1, q, Sem.run]
  rw [this]; rfl
theorem txts_take (l : List Txt) (j : Nat) : txts (l.take j) = (txts l).take j := List.map_take
def commitR (q : Nat) : Rec := ⟨2, q * 65536, [], []⟩
theorem commit_good {q : Nat} (h1 : 1 ≤ q) (h2 : q ≤ 100000000) : Good (commitR q) := by
  refine ⟨⟨by show 65536 ≤ q * 65536; omega, .inl ⟨rfl, rfl, rfl⟩⟩, by show q * 65536 < _; omega, ?_⟩
  have e : pay (commitR q) = num 2 1 ++ num (q * 65536) 8 := pay2 rfl
  rw [e, List.length_append, num_length, num_length]; decide
theorem shl16 {q : Nat} (h : q ≤ 100000000) : shlS .u64 (wr .u64 (q : Int)) 16 = ((q * 65536 : Nat) : Int) := by
  have e0 : wr .u64 (q : Int) = (q : Int) := by rw [wr_u64]; omega
  rw [e0, shlS_eq]
  have e8 : min ((16 : Int).toNat) IntKind.u64.bits = 16 := by decide
  rw [e8]
  have e2 : IntKind.u64.wrap ((q : Int) * 2 ^ 16) = (q : Int) * 2 ^ 16 := by
    have := wr_u64 ((q : Int) * 2 ^ 16)
    rw [wr_eq] at this
    rw [this]; omega
  rw [e2]; omega
structure SmInv (n : Nat) (H : Heap) (m : Nat) (vs : List Value) (H' : Heap) : Prop where
  ex : ∃ i : Nat, vs = [.int .i64 (i : Int)] ∧ m + i = n ∧ H' = H
structure SnInv (n : Nat) (H : Heap) (m : Nat) (vs : List Value) (H' : Heap) : Prop where
  ex : ∃ i : Nat, vs = [.int .i64 (i : Int)] ∧ m + i = n ∧ Upd [] H H'
section
variable {H : Heap} {K : Value → Heap → Prop}
theorem app_pairsZ {a b : Option Addr} {k cap m c : Nat} {xs ys : List (Txt × Txt)} {H0 H : Heap} {K : Value → Heap → Prop} (hm : Made H0 H 100 2 a k cap (pairsV xs)) (hy : RowAt H b (pairsV ys)) (hyl : ys.length = m) (hb : k + m ≤ 4398046511104)
    (hk : ∀ a' cap' H', Made H0 H' 100 2 a' (k + m) cap' (pairsV (xs ++ ys)) → K (.slice a' (k + m) cap') H') :
    HSem Tryz.prog (Builtin.append_ #[38, 38] 38 [.slice a k cap, .slice b m c].toArray) H K := by
  refine append_madeG (ie := Tryz.t100) (z := .agg #[.string ⟨#[]⟩, .string ⟨#[]⟩]) (xs := pairsV xs) (ys := pairsV ys) Tryz.underlying38 rfl rfl rfl (by decide) hm hy (by rw [pairsV_length, hyl]; rfl) (plain_pairs _) (by show (k + m) * 32 ≤ _; omega) (by omega) fun a' cap' H' m' => ?_
  rw [← pairsV_append] at m'
  exact hk a' cap' H' m'
theorem commit_t {q : Nat} (hq : q ≤ 100000000) (hk : ∀ H', Upd [] H H' → K (rv (commitR q) none 0 none 0) H') : HCalls Tryz.prog 30 [.int .i64 (q : Int)] H K := by
  refine hcalls (fn := Tryz.f30) [] mixed Tryz.func30 rfl rfl (by decide +kernel) ?_
  (repeat first | refine HReg.step ?_ | refine HCode.step ?_)
  refine HNew.mk fun b hb => ?_
  (repeat first | refine HReg.step ?_ | refine HCode.step ?_)
  refine HReq.mk (by decide) ?_
  (repeat first | refine HReg.step ?_ | refine HCode.step ?_)
  rw [shl16 hq]
  refine store_rec (x := commitR q) (ap := none) (cp := 0) (ak := none) (ck := 0) (OwnRow.lit (upd_same _ _ _) rfl) rfl fun H1 o1 u1 => ?_
  (repeat first | refine HReg.step ?_ | refine HCode.step ?_)
  refine HLoadN_row o1.rows rfl ?_
  exact hk H1 (Upd.drop (Upd.new hb _) u1 fun x hx => by rw [List.mem_singleton.1 hx]; exact hb)
/-- A record with lists of its own. -/
structure Owned (H H' : Heap) (x : Rec) (bp : Option Addr) (dp : Nat) (bk : Option Addr) (dk : Nat) : Prop where
  p : OwnRow H' 100 2 bp x.ps.length dp (pairsV x.ps)
  k : OwnRow H' 9 1 bk x.ks.length dk (txts x.ks)
  pn : ∀ b ∈ blk bp, H b = none
  kn : ∀ b ∈ blk bk, H b = none
  np : x.ps.length ≤ 4398046510976
  nk : x.ks.length ≤ 8796093021952
theorem Owned.recIn {H H' : Heap} {x : Rec} {bp bk : Option Addr} {dp dk : Nat} (h : Owned H H' x bp dp bk dk) : RecIn H' x bp bk := ⟨h.p.rows, h.k.rows, h.np, h.nk⟩
theorem own_t {x : Rec} {ap ak : Option Addr} {cp ck : Nat} (hx : RecIn H x ap ak)
    (hk : ∀ bp dp bk dk H', Owned H H' x bp dp bk dk → Upd [] H H' → K (rv x bp dp bk dk) H') : HCalls Tryz.prog 11 [rv x ap cp ak ck] H K := by
  refine hcalls (fn := Tryz.f11) [] mixed Tryz.func11 rfl rfl (by decide +kernel) ?_
  have hnp := hx.np
  have hnk := hx.nk
  (repeat first | refine HReg.step ?_ | refine HCode.step ?_)
  refine HNew.mk fun b1 hb1 => ?_
  have u1 : Upd [] H (H.upd b1 (.cells (rcells x ap cp ak ck).toArray 41)) := Upd.new hb1 _
  have o1 : OwnRow (H.upd b1 (.cells (rcells x ap cp ak ck).toArray 41)) 41 1 (some ⟨b1, 0, none⟩) 4 4 (rcells x ap cp ak ck) := OwnRow.lit (upd_same _ _ _) rfl
  have hH' : H.upd b1 (.cells [Value.int .i64 x.kind, .int .u64 (x.id : Int), .slice ap x.ps.length cp, .slice ak x.ks.length ck].toArray 41) = H.upd b1 (.cells (rcells x ap cp ak ck).toArray 41) := rfl
  rw [hH']
  generalize hH1 : H.upd b1 (.cells (rcells x ap cp ak ck).toArray 41) = H1 at u1 o1
  (repeat first | refine HReg.step ?_ | refine HCode.step ?_)
  refine HNew.mk fun b2 hb2 => ?_
  have u2 : Upd [] H1 (H1.upd b2 (.cells [Value.int .i64 0, .int .u64 0, .slice none 0 0, .slice none 0 0].toArray 41)) := Upd.new hb2 _
  have o2 : OwnRow (H1.upd b2 (.cells [Value.int .i64 0, .int .u64 0, .slice none 0 0, .slice none 0 0].toArray 41)) 41 1 (some ⟨b2, 0, none⟩) 4 4 zeroR := OwnRow.lit (upd_same _ _ _) rfl
  generalize hH2 : H1.upd b2 (.cells [Value.int .i64 0, .int .u64 0, .slice none 0 0, .slice none 0 0].toArray 41) = H2 at u2 o2
  have ne : b1 ≠ b2 := fun e => by subst e; exact o1.there rfl hb2
  have o1 := o1.upd u2 (Off.nil _)
  have u02 := u1.trans u2
  have n2 : H b2 = none := Upd.none (S := []) u1 (by simp) hb2
  (repeat first | refine HReg.step ?_ | refine HCode.step ?_)
  refine HReq.mk (by decide) ?_
  (repeat first | refine HReg.step ?_ | refine HCode.step ?_)
  refine HNew.mk fun b3 hb3 => ?_
  have m3 : Made H2 (H2.upd b3 (.cells [].toArray 100)) 100 2 (some ⟨b3, 0, none⟩) 0 0 (pairsV []) := ⟨OwnRow.lit (upd_same _ _ _) rfl, Upd.new hb3 _, fun q hq => by cases hq; exact hb3⟩
  generalize hH3 : H2.upd b3 (.cells [].toArray 100) = H3 at m3
  (repeat first | refine HReg.step ?_ | refine HCode.step ?_)
  refine HLoad.one (v := .slice ap x.ps.length cp) (by exact (o1.upd m3.upd (Off.nil _)).rows.get (i := 2) rfl) ?_
  (repeat first | refine HReg.step ?_ | refine HCode.step ?_)
  refine app_pairsZ m3 (hx.upd0 (u02.trans m3.upd)).rp rfl (by omega) fun a4 c4 H4 m4 => ?_
  rw [List.nil_append, Nat.zero_add] at m4
  rw [Nat.zero_add x.ps.length]
  have o1 := o1.upd m4.upd (Off.nil _)
  (repeat first | refine HReg.step ?_ | refine HCode.step ?_)
  refine store_row o1 (v := .slice a4 x.ps.length c4) rfl (i := 2) (by decide) (by rfl) fun H5 o5 u5 => ?_
  have u05 : Upd [] H H5 := Upd.drop (u02.trans m4.upd) u5 (fun q hq => by rw [List.mem_singleton.1 hq]; exact hb1)
  (repeat first | refine HReg.step ?_ | refine HCode.step ?_)
  refine HReq.mk (by decide) ?_
  (repeat first | refine HReg.step ?_ | refine HCode.step ?_)
  refine HNew.mk fun b6 hb6 => ?_
  have m6 : Made H5 (H5.upd b6 (.cells [].toArray 9)) 9 1 (some ⟨b6, 0, none⟩) 0 0 (txts []) := ⟨OwnRow.lit (upd_same _ _ _) rfl, Upd.new hb6 _, fun q hq => by cases hq; exact hb6⟩
  generalize hH6 : H5.upd b6 (.cells [].toArray 9) = H6 at m6
  (repeat first | refine HReg.step ?_ | refine HCode.step ?_)
  refine HLoad.one (v := .slice ak x.ks.length ck) (by exact (o5.upd m6.upd (Off.nil _)).rows.get (i := 3) rfl) ?_
  (repeat first | refine HReg.step ?_ | refine HCode.step ?_)
  refine app_textsZ m6 (hx.upd0 (u05.trans m6.upd)).rk rfl (by omega) fun a7 c7 H7 m7 => ?_
  rw [List.nil_append, Nat.zero_add] at m7
  rw [Nat.zero_add x.ks.length]
  have o5' := o5.upd m7.upd (Off.nil _)
  (repeat first | refine HReg.step ?_ | refine HCode.step ?_)
  refine store_row o5' (v := .slice a7 x.ks.length c7) rfl (i := 3) (by decide) (by rfl) fun H8 o8 u8_ => ?_
  have u08 : Upd [] H H8 := Upd.drop (u05.trans m7.upd) u8_ (fun q hq => by rw [List.mem_singleton.1 hq]; exact hb1)
  have off2 : Off [b1] (some ⟨b2, 0, none⟩) := fun q hq hb => by cases hq; exact ne (List.mem_singleton.1 hb).symm
  have o28 := (((o2.upd m4.upd (Off.nil _)).upd u5 off2).upd m7.upd (Off.nil _)).upd u8_ off2
  (repeat first | refine HReg.step ?_ | refine HCode.step ?_)
  refine HLoadN_row o8.rows rfl ?_
  (repeat first | refine HReg.step ?_ | refine HCode.step ?_)
  refine store_rec (x := x) (ap := a4) (cp := c4) (ak := a7) (ck := c7) o28 rfl fun H9 o9 u9 => ?_
  (repeat first | refine HReg.step ?_ | refine HCode.step ?_)
  refine HLoadN_row o9.rows rfl ?_
  have u09 : Upd [] H H9 := Upd.drop u08 u9 (fun q hq => by rw [List.mem_singleton.1 hq]; exact n2)
  have p5 := m4.own.upd u5 (o1.offT m4.own (by decide))
  have p8 := (p5.upd m7.upd (Off.nil _)).upd u8_ (o5'.offT (p5.upd m7.upd (Off.nil _)) (by decide))
  have k8 := m7.own.upd u8_ (o5'.offT m7.own (by decide))
  refine hk a4 c4 a7 c7 H9 ⟨p8.upd u9 (o28.offT p8 (by decide)), k8.upd u9 (o28.offT k8 (by decide)), fun b hb => ?_, fun b hb => ?_, hnp, hnk⟩ u09
  · obtain ⟨q, hq, rfl⟩ := blk_of hb
    exact Upd.none (S := []) u02 (by simp) (m4.new q hq)
  · obtain ⟨q, hq, rfl⟩ := blk_of hb
    exact Upd.none (S := []) u05 (by simp) (m7.new q hq)
theorem sameS_t {a b : Option Addr} {n m c d : Nat} {l : List Txt} (hx : RowAt H a (txts l)) (hy : RowAt H b (txts l)) (hn : l.length = n) (hm : l.length = m) (hlim : n ≤ 9000000000000000000)
    (hk : K (.bool true) H) : HCalls Tryz.prog 52 [.slice a n c, .slice b m d] H K := by
  refine hcalls (fn := Tryz.f52) [(6, [(0, 0), (1, 0), (2, 0), (3, 0), (4, 0), (5, 0), (6, 0), (7, 0), (8, 0)])] mixed Tryz.func52 rfl rfl (by decide +kernel) ?_
  subst hn hm
  (repeat first | refine HReg.step ?_ | refine HCode.step ?_)
  rw [eqB_self ((l.length : Nat) : Int)]
  (repeat first | refine HReg.step ?_ | refine HCode.step ?_)
  refine hloopC [4, 5, 11, 12, 13, 14, 15, 16, 17, 18, 19, 20, 21, 22, 23, 24, 25] [5] (SmInv l.length H) rfl (by repeat' first | exact Resp.retD | exact Resp1.valuesK | refine Resp.blockD ?_ | refine Resp.thenD ?_ ?_ | refine Resp.hcode ?_) ?_ ?_
  · exact ⟨l.length, SmInv.mk ⟨0, rfl, rfl, rfl⟩⟩
  rintro q _ fe H1 ⟨i, rfl, hmi, rfl⟩
  have w2 : wr .i64 ((i : Int) + 1) = ((i + 1 : Nat) : Int) := by rw [wr_i64 (by omega) (by omega)]; omega
  (repeat first | refine HReg.step ?_ | refine HCode.step ?_)
  refine hif (fun h1 => ?_) (fun h1 => ?_)
  · have h1 := ltB_true.1 h1
    obtain ⟨s, hs⟩ : ∃ s, l[i]? = some s := ⟨l[i]'(by omega), by simp⟩
    obtain ⟨ba, bo, rfl, _⟩ := hx i _ (txts_get hs)
    obtain ⟨bb, bo2, rfl, _⟩ := hy i _ (txts_get hs)
    (repeat first | refine HReg.step ?_ | refine HCode.step ?_)
    refine HReq.mk ⟨by omega, by omega⟩ ?_
    (repeat first | refine HReg.step ?_ | refine HCode.step ?_)
    refine HLoad.one (v := .string (bs s)) (by exact hx.get (txts_get hs)) ?_
    (repeat first | refine HReg.step ?_ | refine HCode.step ?_)
    refine HReq.mk ⟨by omega, by omega⟩ ?_
    (repeat first | refine HReg.step ?_ | refine HCode.step ?_)
    refine HLoad.one (v := .string (bs s)) (by exact hy.get (txts_get hs)) ?_
    (repeat first | refine HReg.step ?_ | refine HCode.step ?_)
    rw [seqB_bs, decide_eq_true rfl]
    (repeat first | refine HReg.step ?_ | refine HCode.step ?_)
    rw [w2]
    exact ⟨q - 1, by omega, SmInv.mk ⟨i + 1, rfl, by omega, rfl⟩⟩
  · (repeat first | refine HReg.step ?_ | refine HCode.step ?_)
    exact hk
theorem sameR_t {x : Rec} {ap ak bp bk : Option Addr} {cp ck dp dk : Nat} (hx : RecIn H x ap ak) (hy : RecIn H x bp bk)
    (hk : ∀ H', Upd [] H H' → K (.bool true) H') : HCalls Tryz.prog 33 [rv x ap cp ak ck, rv x bp dp bk dk] H K := by
  refine hcalls (fn := Tryz.f33) [(6, [(0, 0), (1, 0), (2, 0), (3, 0), (4, 0), (5, 0), (6, 0), (7, 0), (8, 0), (9, 0), (10, 0)])] mixed Tryz.func33 rfl rfl (by decide +kernel) ?_
  have hnp := hx.np
  have hnk := hx.nk
  (repeat first | refine HReg.step ?_ | refine HCode.step ?_)
  refine HNew.mk fun b1 hb1 => ?_
  have u1 : Upd [] H (H.upd b1 (.cells (rcells x ap cp ak ck).toArray 41)) := Upd.new hb1 _
  have o1 : RowAt (H.upd b1 (.cells (rcells x ap cp ak ck).toArray 41)) (some ⟨b1, 0, none⟩) (rcells x ap cp ak ck) := RowAt.of_cells (upd_same _ _ _)
  have hH' : H.upd b1 (.cells [Value.int .i64 x.kind, .int .u64 (x.id : Int), .slice ap x.ps.length cp, .slice ak x.ks.length ck].toArray 41) = H.upd b1 (.cells (rcells x ap cp ak ck).toArray 41) := rfl
  rw [hH']
  generalize hH1 : H.upd b1 (.cells (rcells x ap cp ak ck).toArray 41) = H1 at u1 o1
  (repeat first | refine HReg.step ?_ | refine HCode.step ?_)
  refine HNew.mk fun b2 hb2 => ?_
  have u2 : Upd [] H1 (H1.upd b2 (.cells (rcells x bp dp bk dk).toArray 41)) := Upd.new hb2 _
  have o2 : RowAt (H1.upd b2 (.cells (rcells x bp dp bk dk).toArray 41)) (some ⟨b2, 0, none⟩) (rcells x bp dp bk dk) := RowAt.of_cells (upd_same _ _ _)
  have hH'' : H1.upd b2 (.cells [Value.int .i64 x.kind, .int .u64 (x.id : Int), .slice bp x.ps.length dp, .slice bk x.ks.length dk].toArray 41) = H1.upd b2 (.cells (rcells x bp dp bk dk).toArray 41) := rfl
  rw [hH'']
  generalize hH2 : H1.upd b2 (.cells (rcells x bp dp bk dk).toArray 41) = H2 at u2 o2
  have o1 := o1.upd (S := []) u2 (.inr (Off.nil _))
  have u := u1.trans u2
  have hx2 := hx.upd0 u
  have hy2 := hy.upd0 u
  (repeat first | refine HReg.step ?_ | refine HCode.step ?_)
  refine HLoad.one (v := .int .i64 x.kind) (by exact o1.get (i := 0) rfl) ?_
  (repeat first | refine HReg.step ?_ | refine HCode.step ?_)
  refine HLoad.one (v := .int .i64 x.kind) (by exact o2.get (i := 0) rfl) ?_
  (repeat first | refine HReg.step ?_ | refine HCode.step ?_)
  rw [eqB_self x.kind]
  (repeat first | refine HReg.step ?_ | refine HCode.step ?_)
  refine HLoad.one (v := .int .u64 (x.id : Int)) (by exact o1.get (i := 1) rfl) ?_
  (repeat first | refine HReg.step ?_ | refine HCode.step ?_)
  refine HLoad.one (v := .int .u64 (x.id : Int)) (by exact o2.get (i := 1) rfl) ?_
  (repeat first | refine HReg.step ?_ | refine HCode.step ?_)
  rw [eqB_self (x.id : Int)]
  (repeat first | refine HReg.step ?_ | refine HCode.step ?_)
  refine HLoad.one (v := .slice ap x.ps.length cp) (by exact o1.get (i := 2) rfl) ?_
  (repeat first | refine HReg.step ?_ | refine HCode.step ?_)
  refine HLoad.one (v := .slice bp x.ps.length dp) (by exact o2.get (i := 2) rfl) ?_
  (repeat first | refine HReg.step ?_ | refine HCode.step ?_)
  rw [eqB_self ((x.ps.length : Nat) : Int)]
  (repeat first | refine HReg.step ?_ | refine HCode.step ?_)
  refine hloopC [4, 5, 27, 28, 29, 30, 31, 32, 33, 34, 35, 36, 37, 38, 39, 40, 41, 42, 43, 44] [5] (SmInv x.ps.length H2) rfl (by repeat' first | exact Resp.retD | exact Resp1.valuesK | refine Resp.blockD ?_ | refine Resp.thenD ?_ ?_ | refine Resp.hcode ?_) ?_ ?_
  · exact ⟨x.ps.length, SmInv.mk ⟨0, rfl, rfl, rfl⟩⟩
  rintro q _ fe H3 ⟨i, rfl, hmi, rfl⟩
  have w2 : wr .i64 ((i : Int) + 1) = ((i + 1 : Nat) : Int) := by rw [wr_i64 (by omega) (by omega)]; omega
  (repeat first | refine HReg.step ?_ | refine HCode.step ?_)
  refine HLoad.one (v := .slice ap x.ps.length cp) (by exact o1.get (i := 2) rfl) ?_
  (repeat first | refine HReg.step ?_ | refine HCode.step ?_)
  refine hif (fun h1 => ?_) (fun h1 => ?_)
  · have h1 := ltB_true.1 h1
    obtain ⟨p, hp⟩ : ∃ s, x.ps[i]? = some s := ⟨x.ps[i]'(by omega), by simp⟩
    have rx := hx2.rp
    have ry := hy2.rp
    obtain ⟨ba, bo, ha, _⟩ := rx _ _ (pairsV_get hp).1
    obtain ⟨bb, bo2, hb, _⟩ := ry _ _ (pairsV_get hp).1
    rw [ha] at rx
    rw [hb] at ry
    (repeat first | refine HReg.step ?_ | refine HCode.step ?_)
    refine HLoad.one (v := .slice ap x.ps.length cp) (by exact o1.get (i := 2) rfl) ?_
    rw [ha]
    (repeat first | refine HReg.step ?_ | refine HCode.step ?_)
    refine HReq.mk ⟨by omega, by omega⟩ ?_
    (repeat first | refine HReg.step ?_ | refine HCode.step ?_)
    refine HLoadN_pair rx hp ?_
    (repeat first | refine HReg.step ?_ | refine HCode.step ?_)
    refine HLoad.one (v := .slice bp x.ps.length dp) (by exact o2.get (i := 2) rfl) ?_
    rw [hb]
    (repeat first | refine HReg.step ?_ | refine HCode.step ?_)
    refine HReq.mk ⟨by omega, by omega⟩ ?_
    (repeat first | refine HReg.step ?_ | refine HCode.step ?_)
    refine HLoadN_pair ry hp ?_
    (repeat first | refine HReg.step ?_ | refine HCode.step ?_)
    refine pair_neq (p := p) ?_
    (repeat first | refine HReg.step ?_ | refine HCode.step ?_)
    rw [w2]
    exact ⟨q - 1, by omega, SmInv.mk ⟨i + 1, rfl, by omega, rfl⟩⟩
  · (repeat first | refine HReg.step ?_ | refine HCode.step ?_)
    refine HLoad.one (v := .slice ak x.ks.length ck) (by exact o1.get (i := 3) rfl) ?_
    (repeat first | refine HReg.step ?_ | refine HCode.step ?_)
    refine HLoad.one (v := .slice bk x.ks.length dk) (by exact o2.get (i := 3) rfl) ?_
    (repeat first | refine HReg.step ?_ | refine HCode.step ?_)
    refine HCall.mk ⟨Tryz.f52, Tryz.func52, by rfl, by rfl⟩ ?_
    refine sameS_t hx2.rk hy2.rk rfl rfl (by omega) ?_
    (repeat first | refine HReg.step ?_ | refine HCode.step ?_)
    exact hk H3 u
end
end Go.Proofs.YtfcmjomnpahllaaGreat
namespace Go.Proofs.YtfcmjomnpahllaaGreat
open Go Hv
set_option linter.unusedVariables false
set_option linter.unusedSimpArgs false
set_option maxRecDepth 10000
set_option maxHeartbeats 1000000
/-! A disk of one file, plainly. -/
def one (d : Fd) (n : ByteArray) (v : Option (List UInt8 × Nat)) : St := ⟨d, fun k => if k = n then v else none, if v.isSome then 1 else 0⟩
section
variable {d : Fd} {n : ByteArray} {v : Option (List UInt8 × Nat)}
theorem one_fs : (one d n v).fs n = v := if_pos rfl
theorem one_zero (n : ByteArray) : St0 = one ⟨false, false, 0, 0, 0⟩ n none := by
  unfold St0 one
  congr 1
  funext k
  split <;> rfl
theorem one_put (x : List UInt8 × Nat) : (one d n v).put n x = one d n (some x) := by
  unfold one St.put
  dsimp only
  congr 1
  · funext k
    by_cases h : k = n
    · rw [if_pos h, if_pos h]
    · rw [if_neg h, if_neg h, if_neg h]
  · cases v <;> simp
theorem one_crash (h : d.off = false) (keep : Int) : (one d n v).crash keep = one ⟨true, false, d.refuses, d.calls, d.keep⟩ n (v.map (crash1 keep)) := by
  unfold St.crash one
  dsimp only
  rw [if_neg (by rw [h]; simp)]
  congr 1
  · funext k
    by_cases hk : k = n
    · rw [if_pos hk, if_pos hk]
    · rw [if_neg hk, if_neg hk]; rfl
  · cases v <;> rfl
theorem one_crash_off (h : d.off = true) (keep : Int) : (one d n v).crash keep = one d n v := by unfold St.crash; rw [if_pos (show (one d n v).d.off = true from h)]
theorem one_call (h : d.armed = false) : (one d n v).call = one d n v := by unfold St.call; rw [if_neg (by show ¬ d.armed = true; rw [h]; simp)]
theorem one_call_n (h : d.armed = true) (hc : d.calls ≠ 0) : (one d n v).call = one { d with calls := d.calls - 1 } n v := by
  unfold St.call; rw [if_pos (show (one d n v).d.armed = true from h), if_neg (show ¬ (one d n v).d.calls = 0 from hc)]; rfl
theorem one_call_0 (h : d.armed = true) (hc : d.calls = 0) : (one d n v).call = (one d n v).crash d.keep := by
  unfold St.call; rw [if_pos (show (one d n v).d.armed = true from h), if_pos (show (one d n v).d.calls = 0 from hc)]; rfl
theorem one_readF (ha : d.armed = false) (ho : d.off = false) : (one d n v).readF n = match v with | none => (61, []) | some (x, _) => (0, x) := by
  unfold St.readF
  rw [one_call ha, if_neg (by show ¬ d.off = true; rw [ho]; simp), one_fs]
  cases v <;> rfl
theorem one_append {d' : Fd} {b : List UInt8} (ha : (one d n v).call = one d' n v) (ho : d'.off = false) (h1 : 1 ≤ n.size ∧ n.size ≤ 32) (hr : ¬ (0 < b.length ∧ 0 < d'.refuses)) :
    (one d n v).append n b = (0, one d' n (some ((v.getD ([], 0)).1 ++ b, (v.getD ([], 0)).2))) := by
  unfold St.append
  rw [ha]
  dsimp only
  rw [if_neg (by show ¬ d'.off = true; rw [ho]; simp), if_neg (fun h => h h1), if_neg (fun h => by
    have h2 : 16 ≤ (one d' n v).cnt := h.2
    unfold one at h2
    dsimp only at h2
    split at h2 <;> omega), if_neg (show ¬ (0 < b.length ∧ 0 < (one d' n v).d.refuses) from hr), one_put, one_fs]
theorem one_refused {d' : Fd} {b : List UInt8} (ha : (one d n v).call = one d' n v) (ho : d'.off = false) (h1 : 1 ≤ n.size ∧ n.size ≤ 32) (hb : 0 < b.length) (hr : 0 < d'.refuses) :
    (one d n v).append n b = (60, one { d' with refuses := d'.refuses - 1 } n v) := by
  unfold St.append
  rw [ha]
  dsimp only
  rw [if_neg (by show ¬ d'.off = true; rw [ho]; simp), if_neg (fun h => h h1), if_neg (fun h => by
    have h2 : 16 ≤ (one d' n v).cnt := h.2
    unfold one at h2
    dsimp only at h2
    split at h2 <;> omega), if_pos (show 0 < b.length ∧ 0 < (one d' n v).d.refuses from ⟨hb, hr⟩)]
  rfl
theorem one_sync {d' : Fd} {x : List UInt8} {y : Nat} (ha : (one d n (some (x, y))).call = one d' n (some (x, y))) (ho : d'.off = false) : (one d n (some (x, y))).sync n = (0, one d' n (some (x, x.length))) := by
  unfold St.sync
  rw [St.has_yes (x := x) (y := y) (by rw [ha]; exact ho) (by rw [ha]; exact one_fs), ha, one_put]
theorem one_cut {x : List UInt8} {y k : Nat} (ha : (one d n (some (x, y))).call = one d n (some (x, y))) (ho : d.off = false) (hk : k ≤ x.length) : (one d n (some (x, y))).call.cut n (k : Int) = (0, one d n (some (x.take k, min y k))) := by
  unfold St.cut
  rw [ha, St.has_yes (x := x) (y := y) (by rw [ha]; exact ho) (by rw [ha]; exact one_fs), ha, if_pos (by omega), one_put]
  rfl
theorem one_open_none (ha : d.armed = false) (ho : d.off = false) : openW (one d n none) n = (0, ([], 0), one d n none) := by
  unfold openW
  rw [one_readF ha ho]
  dsimp only
  rw [if_neg (by decide), if_pos rfl, one_call ha]
theorem one_open {x : List UInt8} {y k : Nat} {A : List Rec} (ha : d.armed = false) (ho : d.off = false) (hs : scanR x = (A, k)) (hk : k ≤ x.length) (hy : y ≤ x.length) :
    openW (one d n (some (x, y))) n = (0, (A, k), one d n (some (x.take k, min y k))) := by
  unfold openW
  rw [one_readF ha ho]
  dsimp only
  rw [if_pos rfl, hs]
  dsimp only
  by_cases h : k < x.length
  · rw [if_pos h, one_cut (one_call ha) ho hk]
    dsimp only
    rw [if_pos rfl]
  · have e : k = x.length := by omega
    subst e
    rw [if_neg h, one_call ha, List.take_length, Nat.min_eq_left hy]
/-- A record is appended to a file that is synced. -/
theorem one_appendW {x : Rec} {c : List UInt8} {k : Nat} (ha : d.armed = false) (ho : d.off = false) (hr : d.refuses ≤ 0) (h1 : 1 ≤ n.size ∧ n.size ≤ 32) (hx : Good x) (hv : (v.getD ([], 0)).1 = c) :
    appendW (one d n v) n k x = (0, k + (frameR (pay x)).length, one d n (some (c ++ frameR (pay x), (c ++ frameR (pay x)).length))) := by
  unfold appendW
  rw [build_good hx]
  dsimp only
  rw [if_neg (fun h => h rfl), one_append (one_call ha) ho h1 (fun h => by omega)]
  dsimp only
  rw [if_neg (fun h => h rfl), one_sync (one_call ha) ho, hv]
  dsimp only
  rw [if_neg (fun h => h rfl)]
theorem one_appendW_ref {d' : Fd} {x : Rec} {k : Nat} (ha : (one d n v).call = one d' n v) (ho : d'.off = false) (hr : 0 < d'.refuses) (h1 : 1 ≤ n.size ∧ n.size ≤ 32) (hx : Good x) :
    appendW (one d n v) n k x = (60, k, one { d' with refuses := d'.refuses - 1 } n v) := by
  unfold appendW
  rw [build_good hx]
  dsimp only
  rw [if_neg (fun h => h rfl), one_refused ha ho h1 (by have := frame_pos (pay x); omega) hr]
  dsimp only
  rw [if_pos (by decide)]
/-- The power goes off in the Sync. -/
theorem one_appendW_cut {d' : Fd} {x : Rec} {c : List UInt8} {k y : Nat} {w : List UInt8 × Nat} (ha : (one d n v).call = one d' n v) (ho : d'.off = false) (hr : d'.refuses ≤ 0) (h1 : 1 ≤ n.size ∧ n.size ≤ 32) (hx : Good x) (hv : v.getD ([], 0) = (c, y)) (hca : d'.armed = true) (hc0 : d'.calls = 0) (hw : crash1 d'.keep (c ++ frameR (pay x), y) = w) :
    appendW (one d n v) n k x = (62, k, one ⟨true, false, d'.refuses, d'.calls, d'.keep⟩ n (some w)) := by
  unfold appendW
  rw [build_good hx]
  dsimp only
  rw [if_neg (fun h => h rfl), one_append ha ho h1 (fun h => by omega), hv]
  dsimp only
  rw [if_neg (fun h => h rfl)]
  have e : (one d' n (some (c ++ frameR (pay x), y))).call = one ⟨true, false, d'.refuses, d'.calls, d'.keep⟩ n (some w) := by
    rw [one_call_0 hca hc0, one_crash ho, Option.map_some, hw]
  have e2 : (one d' n (some (c ++ frameR (pay x), y))).sync n = (62, one ⟨true, false, d'.refuses, d'.calls, d'.keep⟩ n (some w)) := by
    unfold St.sync
    rw [St.has_off (by rw [e]; rfl), e]
  rw [e2]
  dsimp only
  rw [if_pos (by decide)]
end
end Go.Proofs.YtfcmjomnpahllaaGreat
namespace Go.Proofs.YtfcmjomnpahllaaGreat
open Go Hv
set_option linter.unusedVariables false
set_option linter.unusedSimpArgs false
set_option maxRecDepth 10000
set_option maxHeartbeats 4000000
/-! sameRecords; a new disk. CUT2 -/
theorem Hv.GrpM.base' {e : Nat} {H1 H2 H : Heap} {vs : List Value} {ls : List (List UInt8)} (G : GrpM e H2 H vs ls) (hn : ∀ v ∈ vs, ∀ b ∈ vblk v, H1 b = none) (u : Upd [] H1 H) : GrpM e H1 H vs ls := ⟨G.grp, hn, u⟩
theorem DiskAt.rebase {H1 H2 H : Heap} {g r : Nat} {s : St} {fl : List Fl} (D : DiskAt H2 H g r s fl) (hn : ∀ b ∈ dblk g r fl, H1 b = none) (u : Upd [] H1 H) : DiskAt H1 H g r s fl := by
  have P := D.phys
  refine ⟨⟨P.obj, P.map, P.str, P.grp.base' (fun v hv b hb => ?_) u, P.np, P.nb, P.nn, P.syn, P.lim, hn g (mem_dblk.2 (.inl rfl)), hn r (mem_dblk.2 (.inr (.inl rfl))), fun f hf => hn _ (mem_dblk.2 (.inr (.inr (.inl ⟨f, hf, rfl⟩))))⟩, D.get, D.all, D.cnt, D.arm, D.lo, D.hi, D.rhi⟩
  obtain ⟨f, hf, rfl⟩ := List.mem_map.1 hv
  exact hn b (mem_dblk.2 (.inr (.inr (.inr ⟨f, hf, hb⟩))))
section
variable {H1 H : Heap} {g r N : Nat} {s : St} {fl : List Fl} {K : Value → Heap → Prop}
theorem size_f {n : ByteArray} (D : DiskAt H1 H g r s fl) (hk : ∀ fl' H', DiskAt H1 H' g r s.call fl' → Stp H H' g r fl fl' → K (.tuple #[.int .i64 ((s.readF n).2.length : Int), .int .i64 (s.readF n).1]) H') : HCalls Tryz.prog 32 [.pointer (some ⟨g, 0, none⟩), .string n] H K := by
  refine size_t D (fun e fl' H' D' S' h => ?_) (fun x y fl' H' ho hx D' S' => ?_)
  · rcases h with ⟨ho, rfl⟩ | ⟨ho, hn, rfl⟩
    · have e1 : s.readF n = (62, []) := by unfold St.readF; rw [if_pos ho]
      have := hk fl' H' D' S'
      rw [e1] at this; exact this
    · have e1 : s.readF n = (61, []) := by unfold St.readF; rw [if_neg (by rw [ho]; decide), hn]
      have := hk fl' H' D' S'
      rw [e1] at this; exact this
  · have e1 : s.readF n = (0, x) := by unfold St.readF; rw [if_neg (by rw [ho]; decide), hx]
    have := hk fl' H' D' S'
    rw [e1] at this; exact this
theorem wnew_t (hk : ∀ g r H', DiskAt eH H' g r St0 [] → Upd [] H (offD H' g r []) → K (.pointer (some ⟨g, 0, none⟩)) H') : HCalls Tryz.prog 5 [] H K := by
  refine new_t fun g r H' D u => ?_
  refine hk g r H' (D.rebase (fun b hb => rfl) (eH_upd _)) fun k hk hn => ?_
  have h : k ∉ dblk g r [] := fun hb => hn (D.phys.old k hb)
  unfold offD
  rw [lessH_of h, u k hk hn]
theorem offD_up (H : Heap) : Upd [] (offD H g r fl) H := less_upd _ _
end
theorem HLoadN_rec {H : Heap} {b off i : Nat} {qs : List PRec} {q : PRec} {K : List Value → Prop} (h : RowAt H (some ⟨b, off, none⟩) (recsV qs)) (hq : qs[i]? = some q) (hk : K q.cells) : HLoadN [H] b (off + i * 4) 4 K :=
  ⟨q.cells, fun H' hH j v hv => by
    rw [List.mem_singleton.1 hH, Nat.add_assoc]
    exact h.get (recsV_get hq j v hv), rfl, hk⟩
/-- Records in memory. -/
structure Recs (H : Heap) (a : Option Addr) (qs : List PRec) : Prop where
  row : RowAt H a (recsV qs)
  each : ∀ q ∈ qs, RecIn H q.r q.ap q.ak
theorem Recs.upd0 {H H' : Heap} {a : Option Addr} {qs : List PRec} (h : Recs H a qs) (u : Upd [] H H') : Recs H' a qs := ⟨h.row.upd (S := []) u (.inr (Off.nil _)), fun q hq => (h.each q hq).upd0 u⟩
theorem RecsAt.recs' {L L' : Heap} {qs : List PRec} {a : Option Addr} {c : Nat} (h : RecsAt L L' qs a c) : Recs L' a qs := ⟨h.row.rows, fun q hq => h.recIn hq⟩
section
variable {H : Heap} {K : Value → Heap → Prop}
theorem sameRs_t {a b : Option Addr} {n m c d : Nat} {qs ps : List PRec} (hq : Recs H a qs) (hp : Recs H b ps) (hn : qs.length = n) (hm : ps.length = m) (hlim : n ≤ 4000000000000000000) (he : qs.map PRec.r = ps.map PRec.r)
    (hk : ∀ H', Upd [] H H' → K (.bool true) H') : HCalls Tryz.prog 27 [.slice a n c, .slice b m d] H K := by
  have hl : ps.length = qs.length := by have := congrArg List.length he; simpa using this.symm
  subst hn
  obtain rfl : m = qs.length := by omega
  refine hcalls (fn := Tryz.f27) [(6, [(0, 0), (1, 0), (2, 0), (3, 0), (4, 0), (5, 0), (6, 0), (7, 0), (8, 0), (9, 0)])] mixed Tryz.func27 rfl rfl (by decide +kernel) ?_
  (repeat first | refine HReg.step ?_ | refine HCode.step ?_)
  rw [eqB_self ((qs.length : Nat) : Int)]
  (repeat first | refine HReg.step ?_ | refine HCode.step ?_)
  refine hloopC [4, 5, 11, 12, 13, 14, 15, 16, 17, 18, 19, 20, 21, 22, 23, 24, 25, 26] [5] (SnInv qs.length H) rfl (by repeat' first | exact Resp.retD | exact Resp1.valuesK | refine Resp.blockD ?_ | refine Resp.thenD ?_ ?_ | refine Resp.hcode ?_) ?_ ?_
  · exact ⟨qs.length, SnInv.mk ⟨0, rfl, rfl, Upd.refl _ _⟩⟩
  rintro q _ fe H1 ⟨i, rfl, hmi, u1⟩
  have w2 : wr .i64 ((i : Int) + 1) = ((i + 1 : Nat) : Int) := by rw [wr_i64 (by omega) (by omega)]; omega
  (repeat first | refine HReg.step ?_ | refine HCode.step ?_)
  refine hif (fun h1 => ?_) (fun h1 => ?_)
  · have h1 := ltB_true.1 h1
    obtain ⟨x, hx⟩ : ∃ s, qs[i]? = some s := ⟨qs[i]'(by omega), by simp⟩
    obtain ⟨y, hy⟩ : ∃ s, ps[i]? = some s := ⟨ps[i]'(by omega), by simp⟩
    have hxy : x.r = y.r := by
      have h2 : (qs.map PRec.r)[i]? = some x.r := by rw [List.getElem?_map, hx]; rfl
      have h3 : (ps.map PRec.r)[i]? = some y.r := by rw [List.getElem?_map, hy]; rfl
      rw [he, h3] at h2; exact (Option.some.inj h2).symm
    have rq := (hq.upd0 u1).row
    have rp := (hp.upd0 u1).row
    obtain ⟨ba, bo, rfl, _⟩ := rq _ _ (recsV_get hx 0 _ rfl)
    obtain ⟨bb, bo2, rfl, _⟩ := rp _ _ (recsV_get hy 0 _ rfl)
    (repeat first | refine HReg.step ?_ | refine HCode.step ?_)
    refine HReq.mk ⟨by omega, by omega⟩ ?_
    (repeat first | refine HReg.step ?_ | refine HCode.step ?_)
    refine HLoadN_rec rq hx ?_
    (repeat first | refine HReg.step ?_ | refine HCode.step ?_)
    refine HReq.mk ⟨by omega, by omega⟩ ?_
    (repeat first | refine HReg.step ?_ | refine HCode.step ?_)
    refine HLoadN_rec rp hy ?_
    (repeat first | refine HReg.step ?_ | refine HCode.step ?_)
    refine HCall.mk ⟨Tryz.f33, Tryz.func33, by rfl, by rfl⟩ ?_
    have ix := (hq.upd0 u1).each x (List.mem_of_getElem? hx)
    have iy := (hp.upd0 u1).each y (List.mem_of_getElem? hy)
    have e2 : rcells y.r y.ap y.cp y.ak y.ck = rcells x.r y.ap y.cp y.ak y.ck := by rw [hxy]
    rw [← hxy] at iy
    have key : HCalls Tryz.prog 33 [rv x.r x.ap x.cp x.ak x.ck, rv x.r y.ap y.cp y.ak y.ck] H1 (fun v H2 => v = .bool true ∧ Upd [] H1 H2) := sameR_t ix iy fun H2 u2 => ⟨rfl, u2⟩
    have e3 : (Value.agg y.cells.toArray) = rv x.r y.ap y.cp y.ak y.ck := by
      show Value.agg (rcells y.r y.ap y.cp y.ak y.ck).toArray = _
      rw [e2]; rfl
    rw [show (Value.agg y.cells.toArray) = rv x.r y.ap y.cp y.ak y.ck from e3]
    refine HCalls.mono key ?_
    rintro _ H2 ⟨rfl, u2⟩
    (repeat first | refine HReg.step ?_ | refine HCode.step ?_)
    rw [w2]
    exact ⟨q - 1, by omega, SnInv.mk ⟨i + 1, rfl, by omega, u1.trans u2⟩⟩
  · (repeat first | refine HReg.step ?_ | refine HCode.step ?_)
    exact hk H1 u1
end
end Go.Proofs.YtfcmjomnpahllaaGreat
namespace Go.Proofs.YtfcmjomnpahllaaGreat
open Go Hv Go.ChangeShapes Go.WideShapes Go.ChangeAt Go.RowKit
set_option linter.unusedVariables false
set_option linter.unusedSimpArgs false
set_option maxRecDepth 10000
set_option maxHeartbeats 1000000
/-! A record and a list of records, opened -/
theorem u64_wf {n : Int} (h : (Lit.int .u64 n).wf = true) : ∃ m : Nat, m < 18446744073709551616 ∧ n = (m : Int) := by
  have h : IntKind.u64.min ≤ n ∧ n ≤ IntKind.u64.max := by simpa [Lit.wf] using h
  have h1 : IntKind.u64.min = 0 := by decide
  have h2 : IntKind.u64.max = 18446744073709551615 := by decide
  exact ⟨n.toNat, by omega, by omega⟩
theorem open_stringU {H : Type} {enc : TypeId × Value → H} {P : Program} {w : World} {base : Nat} {spare : Nat → Bool} {held : Bool} {fuel : Nat} {t : TypeId} {v : Value} {x : DataW H × List MemPlace} (ht : P.underlying t = some .string)
    (h : DataW.trod enc P w base spare held fuel t [v] = some x) : ∃ l : List UInt8, v = .string (bs l) := by
  obtain ⟨s, hs, rfl, hm⟩ := DataW.trod_string ht h
  refine ⟨s.data.toList, ?_⟩
  cases hs
  show Value.string s = Value.string ⟨s.data.toList.toArray⟩
  rw [Array.toArray_toList]
def pcells (p : Txt × Txt) : List Value := [.string (bs p.1), .string (bs p.2)]
def wcells (p : Txt × Nat) : List Value := [.string (bs p.1), .int .u64 (p.2 : Int)]
theorem pairsV_split : ∀ {l : List (Txt × Txt)} {idx : Nat} {v : Value}, (pairsV l)[idx]? = some v → ∃ i k p, idx = i * 2 + k ∧ l[i]? = some p ∧ (pcells p)[k]? = some v
  | [], idx, v, h => by simp [pairsV] at h
  | p :: l, idx, v, h => by
    have e : (pcells p).length = 2 := rfl
    have h : (pcells p ++ pairsV l)[idx]? = some v := h
    by_cases hi : idx < 2
    · rw [List.getElem?_append_left (by rw [e]; exact hi)] at h
      exact ⟨0, idx, p, by omega, rfl, h⟩
    · rw [List.getElem?_append_right (by rw [e]; omega), e] at h
      obtain ⟨i, k, q, h1, h2, h3⟩ := pairsV_split h
      exact ⟨i + 1, k, q, by omega, by simpa using h2, h3⟩
theorem recsV_split : ∀ {l : List PRec} {idx : Nat} {v : Value}, (recsV l)[idx]? = some v → ∃ i k p, idx = i * 4 + k ∧ l[i]? = some p ∧ (PRec.cells p)[k]? = some v
  | [], idx, v, h => by simp [recsV] at h
  | p :: l, idx, v, h => by
    have e : (PRec.cells p).length = 4 := rfl
    have h : (PRec.cells p ++ recsV l)[idx]? = some v := h
    by_cases hi : idx < 4
    · rw [List.getElem?_append_left (by rw [e]; exact hi)] at h
      exact ⟨0, idx, p, by omega, rfl, h⟩
    · rw [List.getElem?_append_right (by rw [e]; omega), e] at h
      obtain ⟨i, k, q, h1, h2, h3⟩ := recsV_split h
      exact ⟨i + 1, k, q, by omega, by simpa using h2, h3⟩
theorem list2 {α : Type} {l : List α} (h : l.length = 2) : ∃ a b, l = [a, b] := by
  match l, h with
  | [a, b], _ => exact ⟨a, b, rfl⟩
theorem list4 {α : Type} {l : List α} (h : l.length = 4) : ∃ a b c d, l = [a, b, c, d] := by
  match l, h with
  | [a, b, c, d], _ => exact ⟨a, b, c, d, rfl⟩
section
variable {T : Type} {enc : TypeId × Value → T} {w : World} {base : Nat} {spare : Nat → Bool} {held : Bool} {ts : List TypeId} {ds : List (DataW T)} {j fuel : Nat} {a : Option Addr} {len cap : Nat} {x : DataW T} {pl : List MemPlace}
theorem open_pairs (hz : (DataW.weightsEach Tryz.prog ts ds).all (· ≤ reachBytes) = true) (hts : ts[j]? = some 38) (hds : ds[j]? = some x) (h : DataW.trod enc Tryz.prog w base spare held fuel 38 [.slice a len cap] = some (x, pl)) :
    ∃ ps : List (Txt × Txt), RowAt (heapOf w) a (pairsV ps) ∧ ps.length = len ∧ len ≤ cap ∧ len ≤ 4398046510976 := by
  rcases DataW.trod_slice Tryz.underlying38 h with ⟨hcs, hx⟩ | ⟨p, len', cap', elems, rest, n, _, hcs, hx, _, hl, _, hlen, hel, _, _⟩
  · cases hcs
    exact ⟨[], RowAt.nil _ _, rfl, Nat.le_refl _, Nat.zero_le _⟩
  · cases hcs
    obtain ⟨rfl, rfl⟩ := Prod.mk.inj hx
    have hc : Tryz.prog.cellsOf 100 = 2 := by kernel_rfl
    have hb : Tryz.prog.bytesOf 100 = 32 := by kernel_rfl
    obtain ⟨ps, hol, hoq⟩ := exists_list (Q := fun i o => (∀ (k : Nat) v, (pcells o)[k]? = some v → w.cell? (p.add (i * 2 + k)) = some v)) len (fun i hi => by
      have h4 := hel i hi
      rw [hc] at h4
      cases hv : elems[i]? with
      | none => rw [List.getElem?_eq_none_iff] at hv; omega
      | some y =>
        rw [hv] at h4
        obtain ⟨cs, hcs, htr⟩ := Option.bind_eq_some_iff.1 h4
        obtain ⟨hcl, hcg⟩ := cells_get hcs
        obtain ⟨c0, c1, rfl⟩ := list2 hcl
        obtain ⟨parts, hd, fl⟩ := trod_field Tryz.underlying100 htr
        obtain ⟨n0, y0, pt0, tr0⟩ := fl 0 _ c0 rfl (by kernel_rfl) rfl
        obtain ⟨s0, rfl⟩ := open_stringU Tryz.underlying9 tr0
        obtain ⟨n1, y1, pt1, tr1⟩ := fl 1 _ c1 rfl (by kernel_rfl) rfl
        obtain ⟨s1, rfl⟩ := open_stringU Tryz.underlying9 tr1
        refine ⟨(s0, s1), fun k v hk => ?_⟩
        have := hcg k v hk
        rw [Addr.add_add] at this; exact this)
    refine ⟨ps, rowAt_of fun idx v hv => ?_, hol, hl, ?_⟩
    · obtain ⟨i, k, o, rfl, h2, h3⟩ := pairsV_split hv
      exact hoq i o h2 k v h3
    · have := sized_slice hz hts hds Tryz.underlying38
      rw [hb, List.length_map, List.length_map, hlen] at this
      have hr : reachBytes = 140737488351232 := rfl
      omega
theorem open_rec {cs : List Value} (hz : (DataW.weightsEach Tryz.prog ts ds).all (· ≤ reachBytes) = true) (hts : ts[j]? = some 41) (hds : ds[j]? = some x) (hl : cs.length = 4) (h : DataW.trod enc Tryz.prog w base spare held fuel 41 cs = some (x, pl)) :
    ∃ m : PRec, cs = m.cells ∧ RecIn (heapOf w) m.r m.ap m.ak ∧ m.r.id < 18446744073709551616 := by
  obtain ⟨c0, c1, c2, c3, rfl⟩ := list4 hl
  obtain ⟨parts, hd, fl⟩ := trod_field Tryz.underlying41 h
  have hd : x = .agg parts := hd
  have hze := sized_struct hz hts (by rw [hds, hd]) Tryz.underlying41
  obtain ⟨n0, y0, pt0, tr0⟩ := fl 0 _ c0 rfl (by kernel_rfl) rfl
  obtain ⟨z0, he0, _, w0⟩ := DataW.trod_int Tryz.underlying3 tr0
  cases he0
  obtain ⟨n1, y1, pt1, tr1⟩ := fl 1 _ c1 rfl (by kernel_rfl) rfl
  obtain ⟨z1, he1, _, w1⟩ := DataW.trod_int Tryz.underlying37 tr1
  cases he1
  obtain ⟨v1, hv1, rfl⟩ := u64_wf w1
  obtain ⟨n2, y2, pt2, tr2⟩ := fl 2 _ c2 rfl (by kernel_rfl) rfl
  obtain ⟨a2, l2, q2, rfl⟩ := trod_slice1 Tryz.underlying38 tr2
  obtain ⟨ps, r2, e2, _, b2⟩ := open_pairs (j := 2) (x := y2.1) (pl := y2.2) hze rfl pt2 tr2
  subst e2
  obtain ⟨n3, y3, pt3, tr3⟩ := fl 3 _ c3 rfl (by kernel_rfl) rfl
  obtain ⟨a3, l3, q3, rfl⟩ := trod_slice1 Tryz.underlying39 tr3
  obtain ⟨ks, r3, e3, _, _, b3⟩ := open_texts (j := 3) (x := y3.1) (pl := y3.2) Tryz.underlying39 Tryz.underlying9 (by kernel_rfl) (by kernel_rfl) hze rfl pt3 tr3
  subst e3
  exact ⟨⟨⟨z0, v1, ps, ks⟩, a2, q2, a3, q3⟩, rfl, ⟨r2, r3, b2, b3⟩, hv1⟩
theorem open_recs (hz : (DataW.weightsEach Tryz.prog ts ds).all (· ≤ reachBytes) = true) (hts : ts[j]? = some 29) (hds : ds[j]? = some x) (h : DataW.trod enc Tryz.prog w base spare held fuel 29 [.slice a len cap] = some (x, pl)) :
    ∃ ps : List PRec, Recs (heapOf w) a ps ∧ ps.length = len ∧ len ≤ cap ∧ (∀ q ∈ ps, q.r.id < 18446744073709551616) ∧ len ≤ 2199023255488 := by
  rcases DataW.trod_slice Tryz.underlying29 h with ⟨hcs, hx⟩ | ⟨p, len', cap', elems, rest, n, _, hcs, hx, _, hl, _, hlen, hel, _, _⟩
  · cases hcs
    exact ⟨[], ⟨RowAt.nil _ _, fun o ho => by simp at ho⟩, rfl, Nat.le_refl _, fun o ho => by simp at ho, Nat.zero_le _⟩
  · cases hcs
    obtain ⟨rfl, rfl⟩ := Prod.mk.inj hx
    have hc : Tryz.prog.cellsOf 41 = 4 := by kernel_rfl
    have hb : Tryz.prog.bytesOf 41 = 64 := by kernel_rfl
    obtain ⟨ps, hol, hoq⟩ := exists_list (Q := fun i o => (∀ (k : Nat) v, (PRec.cells o)[k]? = some v → w.cell? (p.add (i * 4 + k)) = some v) ∧ RecIn (heapOf w) (PRec.r o) o.ap o.ak ∧ o.r.id < 18446744073709551616) len (fun i hi => by
      have h4 := hel i hi
      rw [hc] at h4
      cases hv : elems[i]? with
      | none => rw [List.getElem?_eq_none_iff] at hv; omega
      | some y =>
        rw [hv] at h4
        obtain ⟨cs, hcs, htr⟩ := Option.bind_eq_some_iff.1 h4
        obtain ⟨hcl, hcg⟩ := cells_get hcs
        obtain ⟨c0, c1, c2, c3, rfl⟩ := list4 hcl
        obtain ⟨parts, hd, fl⟩ := trod_field Tryz.underlying41 htr
        have hze := sized_elem_struct hz hts hds Tryz.underlying29 (i := i) (parts := parts) (by rw [List.getElem?_map, hv, ← hd]; rfl) Tryz.underlying41
        obtain ⟨n0, y0, pt0, tr0⟩ := fl 0 _ c0 rfl (by kernel_rfl) rfl
        obtain ⟨z0, he0, _, w0⟩ := DataW.trod_int Tryz.underlying3 tr0
        cases he0
        obtain ⟨n1, y1, pt1, tr1⟩ := fl 1 _ c1 rfl (by kernel_rfl) rfl
        obtain ⟨z1, he1, _, w1⟩ := DataW.trod_int Tryz.underlying37 tr1
        cases he1
        obtain ⟨v1, hv1, rfl⟩ := u64_wf w1
        obtain ⟨n2, y2, pt2, tr2⟩ := fl 2 _ c2 rfl (by kernel_rfl) rfl
        obtain ⟨a2, l2, q2, rfl⟩ := trod_slice1 Tryz.underlying38 tr2
        obtain ⟨ps, r2, e2, _, b2⟩ := open_pairs (j := 2) (x := y2.1) (pl := y2.2) hze rfl pt2 tr2
        subst e2
        obtain ⟨n3, y3, pt3, tr3⟩ := fl 3 _ c3 rfl (by kernel_rfl) rfl
        obtain ⟨a3, l3, q3, rfl⟩ := trod_slice1 Tryz.underlying39 tr3
        obtain ⟨ks, r3, e3, _, _, b3⟩ := open_texts (j := 3) (x := y3.1) (pl := y3.2) Tryz.underlying39 Tryz.underlying9 (by kernel_rfl) (by kernel_rfl) hze rfl pt3 tr3
        subst e3
        refine ⟨⟨⟨z0, v1, ps, ks⟩, a2, q2, a3, q3⟩, fun k v hk => ?_, ⟨r2, r3, b2, b3⟩, hv1⟩
        have := hcg k v hk
        rw [Addr.add_add] at this; exact this)
    refine ⟨ps, ⟨rowAt_of fun idx v hv => ?_, fun o ho => ?_⟩, hol, hl, fun o ho => ?_, ?_⟩
    · obtain ⟨i, k, o, rfl, h2, h3⟩ := recsV_split hv
      exact (hoq i o h2).1 k v h3
    · obtain ⟨i, hi⟩ := List.getElem?_of_mem ho
      exact (hoq i o hi).2.1
    · obtain ⟨i, hi⟩ := List.getElem?_of_mem ho
      exact (hoq i o hi).2.2
    · have := sized_slice hz hts hds Tryz.underlying29
      rw [hb, List.length_map, List.length_map, hlen] at this
      have hr : reachBytes = 140737488351232 := rfl
      omega
end
end Go.Proofs.YtfcmjomnpahllaaGreat
