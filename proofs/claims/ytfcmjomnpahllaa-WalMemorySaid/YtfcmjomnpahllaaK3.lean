import Derived.Test.YtfcmjomnpahllaaK2
namespace Go.Proofs.Ytfcmjomnpahllaa
open Go Hv
set_option linter.unusedVariables false
set_option linter.unusedSimpArgs false
set_option maxRecDepth 10000
set_option maxHeartbeats 1000000
/-! Records, plainly and in memory; Names, May -/
structure Rec where
  kind : Int
  id : Nat
  ps : List (Txt × Txt)
  ks : List Txt
def pairsV : List (Txt × Txt) → List Value
  | [] => []
  | p :: ps => .string (bs p.1) :: .string (bs p.2) :: pairsV ps
theorem pairsV_length : ∀ ps : List (Txt × Txt), (pairsV ps).length = ps.length * 2
  | [] => rfl
  | p :: ps => by simp only [pairsV, List.length_cons, pairsV_length ps]; omega
theorem pairsV_append : ∀ a b : List (Txt × Txt), pairsV (a ++ b) = pairsV a ++ pairsV b
  | [], b => rfl
  | p :: a, b => by simp only [pairsV, List.cons_append, pairsV_append a b]
theorem pairsV_get : ∀ {ps : List (Txt × Txt)} {i : Nat} {p : Txt × Txt}, ps[i]? = some p → (pairsV ps)[i * 2]? = some (.string (bs p.1)) ∧ (pairsV ps)[i * 2 + 1]? = some (.string (bs p.2))
  | [], i, p, h => by simp at h
  | q :: ps, 0, p, h => by simp at h; subst h; exact ⟨rfl, rfl⟩
  | q :: ps, i + 1, p, h => by
    have := pairsV_get (ps := ps) (i := i) (p := p) (by simpa using h)
    have e : (i + 1) * 2 = i * 2 + 2 := by omega
    rw [e]; exact this
theorem pairsV_take (ps : List (Txt × Txt)) : ∀ i, (pairsV ps).take (i * 2) = pairsV (ps.take i) := by
  induction ps with
  | nil => intro i; simp [pairsV]
  | cons p ps ih =>
    intro i
    cases i with
    | zero => simp [pairsV]
    | succ i =>
      have e : (i + 1) * 2 = i * 2 + 1 + 1 := by omega
      rw [e, List.take_succ_cons]
      show _ :: _ :: (pairsV ps).take (i * 2) = _
      rw [ih i]; rfl
theorem plain_pairs (ps : List (Txt × Txt)) : ∀ v ∈ pairsV ps, Value.plain v = true := by
  induction ps with
  | nil => intro v hv; simp [pairsV] at hv
  | cons p ps ih =>
    intro v hv
    rcases List.mem_cons.1 hv with rfl | hv
    · rfl
    · rcases List.mem_cons.1 hv with rfl | hv
      · rfl
      · exact ih v hv
theorem HLoadN_pair {H : Heap} {b off i : Nat} {ps : List (Txt × Txt)} {p : Txt × Txt} {K : List Value → Prop} (h : RowAt H (some ⟨b, off, none⟩) (pairsV ps)) (hp : ps[i]? = some p) (hk : K [.string (bs p.1), .string (bs p.2)]) : HLoadN [H] b (off + i * 2) 2 K := by
  obtain ⟨h1, h2⟩ := pairsV_get hp
  refine ⟨[.string (bs p.1), .string (bs p.2)], fun H' hH j v hv => ?_, rfl, hk⟩
  rw [List.mem_singleton.1 hH]
  match j, hv with
  | 0, hv => cases hv; exact h.get h1
  | 1, hv => cases hv; have := h.get h2; rwa [← Nat.add_assoc] at this
def rcells (r : Rec) (ap : Option Addr) (cp : Nat) (ak : Option Addr) (ck : Nat) : List Value := [.int .i64 r.kind, .int .u64 (r.id : Int), .slice ap r.ps.length cp, .slice ak r.ks.length ck]
def rv (r : Rec) (ap : Option Addr) (cp : Nat) (ak : Option Addr) (ck : Nat) : Value := .agg (rcells r ap cp ak ck).toArray
structure RecIn (H : Heap) (r : Rec) (ap ak : Option Addr) : Prop where
  rp : RowAt H ap (pairsV r.ps)
  rk : RowAt H ak (txts r.ks)
  np : r.ps.length ≤ 4398046510976
  nk : r.ks.length ≤ 8796093021952
theorem RecIn.upd0 {H H' : Heap} {r : Rec} {ap ak : Option Addr} (h : RecIn H r ap ak) (u : Upd [] H H') : RecIn H' r ap ak := ⟨h.rp.upd (S := []) u (.inr (Off.nil _)), h.rk.upd (S := []) u (.inr (Off.nil _)), h.np, h.nk⟩
def May (r : Rec) : Prop := 65536 ≤ r.id ∧ ((r.kind = 2 ∧ r.ps = [] ∧ r.ks = []) ∨ (r.kind = 1 ∧ Whole r.ks ∧ r.ps ≠ [] ∧ Rising (r.ps.map Prod.fst) ∧ ∀ p ∈ r.ps, p.1 ∈ r.ks ∧ p.2.length ≤ 65535))
theorem app_textsZ {a b : Option Addr} {k cap m c : Nat} {xs ys : List (List UInt8)} {H0 H : Heap} {K : Value → Heap → Prop} (hm : Made H0 H 9 1 a k cap (txts xs)) (hy : RowAt H b (txts ys)) (hyl : ys.length = m) (hb : k + m ≤ 8796093022208)
    (hk : ∀ a' cap' H', Made H0 H' 9 1 a' (k + m) cap' (txts (xs ++ ys)) → K (.slice a' (k + m) cap') H') :
    HSem Try.prog (Builtin.append_ #[26, 26] 26 [.slice a k cap, .slice b m c].toArray) H K := by
  refine append_madeG (ie := Try.t9) (z := .string ⟨#[]⟩) (xs := txts xs) (ys := txts ys) Try.underlying26 rfl rfl rfl (by decide) hm hy (by rw [txts_length, hyl]; exact (Nat.mul_one _).symm) (plain_txts _) (by show (k + m) * 16 ≤ _; omega) (by omega) fun a' cap' H' m' => ?_
  rw [← txts_append] at m'
  exact hk a' cap' H' m'
theorem made_nil (H : Heap) (e : TypeId) (size : Nat) : Made H H e size none 0 0 [] := ⟨OwnRow.nil _ _ _, Upd.refl _ _, fun p hp => by cases hp⟩
section
variable {H : Heap} {K : Value → Heap → Prop}
/-- A pair is stored whole. -/
theorem store_pair {b : Nat} {p : Txt × Txt} {xs : List Value} {K : Heap → Prop} (h : OwnRow H 50 1 (some ⟨b, 0, none⟩) 2 2 xs) (hl : xs.length = 2)
    (hk : ∀ H', OwnRow H' 50 1 (some ⟨b, 0, none⟩) 2 2 [.string (bs p.1), .string (bs p.2)] → Upd [b] H H' → K H') : storeN H b 0 0 K [.string (bs p.1), .string (bs p.2)] := by
  obtain ⟨x0, x1, rfl⟩ : ∃ a b, xs = [a, b] := by
    match xs, hl with
    | [a, b], _ => exact ⟨a, b, rfl⟩
  refine store_row h (v := .string (bs p.1)) rfl (i := 0) (by decide) (by rfl) fun H1 o1 u1 => ?_
  refine store_row o1 (v := .string (bs p.2)) rfl (i := 1) (by decide) (by rfl) fun H2 o2 u2 => ?_
  exact hk H2 o2 (u1.trans u2)
structure NmInv (ps : List (Txt × Txt)) (H : Heap) (m : Nat) (vs : List Value) (H' : Heap) : Prop where
  ex : ∃ (i : Nat) (a : Option Addr) (c : Nat), vs = [.slice a i c, .int .i64 (i : Int)] ∧ m + i = ps.length ∧ Made H H' 9 1 a i c (txts ((ps.take i).map Prod.fst))
theorem names_t {a : Option Addr} {n c : Nat} {ps : List (Txt × Txt)} (hr : RowAt H a (pairsV ps)) (hl : ps.length = n) (hn : n ≤ 4398046510976)
    (hk : ∀ a' c' H', Made H H' 9 1 a' n c' (txts (ps.map Prod.fst)) → K (.slice a' n c') H') : HCalls Try.prog 47 [.slice a n c] H K := by
  refine hcalls (fn := Try.f47) [] mixed Try.func47 rfl rfl (by decide +kernel) ?_
  (repeat first | refine HReg.step ?_ | refine HCode.step ?_)
  refine hloopC [3, 5, 8, 9, 10, 11, 12, 13, 14, 15, 16, 17] [3, 8] (NmInv ps H) rfl (by repeat' first | exact Resp.retD | exact Resp1.valuesK | refine Resp.blockD ?_ | refine Resp.thenD ?_ ?_ | refine Resp.hcode ?_) ?_ ?_
  · exact ⟨ps.length, NmInv.mk ⟨0, none, 0, rfl, rfl, made_nil _ _ _⟩⟩
  rintro m _ fe H1 ⟨i, a1, c1, rfl, hmi, m1⟩
  (repeat first | refine HReg.step ?_ | refine HCode.step ?_)
  refine hif (fun h1 => ?_) (fun h1 => ?_)
  · have h1 := ltB_true.1 h1
    have w2 : wr .i64 ((i : Int) + 1) = ((i + 1 : Nat) : Int) := by rw [wr_i64 (by omega) (by omega)]; omega
    obtain ⟨p, hp⟩ : ∃ p, ps[i]? = some p := ⟨ps[i]'(by omega), by simp⟩
    have hr1 := hr.upd (S := []) m1.upd (.inr (Off.nil _))
    obtain ⟨ba, bo, rfl, _⟩ := hr _ _ (pairsV_get hp).1
    (repeat first | refine HReg.step ?_ | refine HCode.step ?_)
    refine HReq.mk ⟨by omega, by omega⟩ ?_
    (repeat first | refine HReg.step ?_ | refine HCode.step ?_)
    refine HLoadN_pair hr1 hp ?_
    (repeat first | refine HReg.step ?_ | refine HCode.step ?_)
    refine HNew.mk fun b hb => ?_
    (repeat first | refine HReg.step ?_ | refine HCode.step ?_)
    refine store_pair (p := p) (OwnRow.lit (upd_same _ _ _) rfl) rfl fun H2 o2 u2 => ?_
    have u12 : Upd [] H1 H2 := Upd.drop (Upd.new hb _) u2 (fun x hx => by rw [List.mem_singleton.1 hx]; exact hb)
    (repeat first | refine HReg.step ?_ | refine HCode.step ?_)
    refine HLoad.one (v := .string (bs p.1)) (by exact o2.rows.get (i := 0) rfl) ?_
    (repeat first | refine HReg.step ?_ | refine HCode.step ?_)
    refine HReq.mk (by decide) ?_
    (repeat first | refine HReg.step ?_ | refine HCode.step ?_)
    refine HNew.mk fun b3 hb3 => ?_
    have u3 : Upd [] H2 (H2.upd b3 (.cells [Value.string (bs p.1)].toArray 9)) := Upd.new hb3 _
    have r3 : RowAt (H2.upd b3 (.cells [Value.string (bs p.1)].toArray 9)) (some ⟨b3, 0, none⟩) (txts [p.1]) := RowAt.of_cells (upd_same _ _ _)
    generalize hH3 : H2.upd b3 (.cells [Value.string (bs p.1)].toArray 9) = H3 at u3 r3
    (repeat first | refine HReg.step ?_ | refine HCode.step ?_)
    refine app_textsZ (m1.step (u12.trans u3)) r3 rfl (by omega) fun a4 c4 H4 m4 => ?_
    (repeat first | refine HReg.step ?_ | refine HCode.step ?_)
    rw [w2]
    refine ⟨m - 1, by omega, NmInv.mk ⟨i + 1, a4, c4, rfl, by omega, ?_⟩⟩
    have e : (ps.take (i + 1)).map Prod.fst = (ps.take i).map Prod.fst ++ [p.1] := by rw [List.take_add_one, hp]; simp
    rw [e]; exact m4
  · have h1 := ltB_false.1 h1
    have hi : i = n := by omega
    subst hi
    rw [List.take_of_length_le (by omega)] at m1
    (repeat first | refine HReg.step ?_ | refine HCode.step ?_)
    exact hk a1 c1 H1 m1
theorem name_t {id : Nat} (hk : ∀ t : Bool, (t = true ↔ 65536 ≤ id) → K (.bool t) H) : HCalls Try.prog 45 [.int .u64 (id : Int)] H K := by
  refine hcalls (fn := Try.f45) [] mixed Try.func45 rfl rfl rfl ?_
  (repeat first | refine HReg.step ?_ | refine HCode.step ?_)
  refine hk _ ⟨fun h => ?_, fun h => ?_⟩
  · have := not_ltB_true.1 h; omega
  · exact not_ltB_true.2 (by omega)
structure MyInv (r : Rec) (H : Heap) (m : Nat) (vs : List Value) (H' : Heap) : Prop where
  ex : ∃ i : Nat, vs = [.int .i64 (i : Int)] ∧ m + i = r.ps.length ∧ Upd [] H H' ∧ ∀ j p, j < i → r.ps[j]? = some p → p.1 ∈ r.ks ∧ p.2.length ≤ 65535
theorem may_t {r : Rec} {ap ak : Option Addr} {cp ck : Nat} (hr : RecIn H r ap ak)
    (hk : ∀ (t : Bool) H', (t = true ↔ May r) → Upd [] H H' → K (.bool t) H') : HCalls Try.prog 28 [rv r ap cp ak ck] H K := by
  refine hcalls (fn := Try.f28) [] mixed Try.func28 rfl rfl (by decide +kernel) ?_
  have hnp := hr.np
  have hnk := hr.nk
  (repeat first | refine HReg.step ?_ | refine HCode.step ?_)
  refine HNew.mk fun b1 hb1 => ?_
  have u1 : Upd [] H (H.upd b1 (.cells (rcells r ap cp ak ck).toArray 28)) := Upd.new hb1 _
  have o1 : RowAt (H.upd b1 (.cells (rcells r ap cp ak ck).toArray 28)) (some ⟨b1, 0, none⟩) (rcells r ap cp ak ck) := RowAt.of_cells (upd_same _ _ _)
  have hH' : H.upd b1 (.cells [Value.int .i64 r.kind, .int .u64 (r.id : Int), .slice ap r.ps.length cp, .slice ak r.ks.length ck].toArray 28) = H.upd b1 (.cells (rcells r ap cp ak ck).toArray 28) := rfl
  rw [hH']
  generalize hH1 : H.upd b1 (.cells (rcells r ap cp ak ck).toArray 28) = H1 at u1 o1
  have hr1 := hr.upd0 u1
  (repeat first | refine HReg.step ?_ | refine HCode.step ?_)
  refine HLoad.one (v := .int .u64 (r.id : Int)) (by exact o1.get (i := 1) rfl) ?_
  (repeat first | refine HReg.step ?_ | refine HCode.step ?_)
  refine HCall.mk ⟨Try.f45, Try.func45, by rfl, by rfl⟩ ?_
  refine name_t fun t ht => ?_
  cases t with
  | false =>
    (repeat first | refine HReg.step ?_ | refine HCode.step ?_)
    refine hk false H1 ⟨fun h => (by cases h), fun h => ?_⟩ u1
    exact ht.2 h.1
  | true =>
    have hid := ht.1 rfl
    (repeat first | refine HReg.step ?_ | refine HCode.step ?_)
    refine HLoad.one (v := .int .i64 r.kind) (by exact o1.get (i := 0) rfl) ?_
    (repeat first | refine HReg.step ?_ | refine HCode.step ?_)
    refine hif (fun h1 => ?_) (fun h1 => ?_)
    · have h1 := eqB_true.1 h1
      (repeat first | refine HReg.step ?_ | refine HCode.step ?_)
      refine HLoad.one (v := .slice ap r.ps.length cp) (by exact o1.get (i := 2) rfl) ?_
      (repeat first | refine HReg.step ?_ | refine HCode.step ?_)
      by_cases hp0 : r.ps = []
      · have hp1 : r.ps.length = 0 := by rw [hp0]; rfl
        rw [hp1]
        rw [show eqB ((0 : Nat) : Int) 0 = true from eqB_true.2 rfl]
        (repeat first | refine HReg.step ?_ | refine HCode.step ?_)
        refine HLoad.one (v := .slice ak r.ks.length ck) (by exact o1.get (i := 3) rfl) ?_
        (repeat first | refine HReg.step ?_ | refine HCode.step ?_)
        refine hk _ H1 ⟨fun h => ⟨hid, .inl ⟨h1, hp0, ?_⟩⟩, fun h => ?_⟩ u1
        · exact List.eq_nil_of_length_eq_zero (by have := eqB_true.1 h; omega)
        · rcases h.2 with h2 | h2
          · exact eqB_true.2 (by rw [h2.2.2]; rfl)
          · rw [h1] at h2; exact absurd h2.1 (by decide)
      · have hp1 : r.ps.length ≠ 0 := fun h => hp0 (List.eq_nil_of_length_eq_zero h)
        rw [show eqB ((r.ps.length : Nat) : Int) 0 = false from eqB_false.2 (by omega)]
        (repeat first | refine HReg.step ?_ | refine HCode.step ?_)
        refine hk false H1 ⟨fun h => (by cases h), fun h => ?_⟩ u1
        rcases h.2 with h2 | h2
        · exact absurd h2.2.1 hp0
        · rw [h1] at h2; exact absurd h2.1 (by decide)
    · have hk2 := eqB_false.1 h1
      (repeat first | refine HReg.step ?_ | refine HCode.step ?_)
      refine HLoad.one (v := .int .i64 r.kind) (by exact o1.get (i := 0) rfl) ?_
      (repeat first | refine HReg.step ?_ | refine HCode.step ?_)
      by_cases hk1 : r.kind = 1
      · rw [show eqB r.kind 1 = true from eqB_true.2 hk1]
        (repeat first | refine HReg.step ?_ | refine HCode.step ?_)
        refine HLoad.one (v := .slice ak r.ks.length ck) (by exact o1.get (i := 3) rfl) ?_
        (repeat first | refine HReg.step ?_ | refine HCode.step ?_)
        refine HCall.mk ⟨Try.f46, Try.func46, by rfl, by rfl⟩ ?_
        refine whole_t hr1.rk rfl fun t2 H2 ht2 u2 => ?_
        cases t2 with
        | false =>
          (repeat first | refine HReg.step ?_ | refine HCode.step ?_)
          refine hk false H2 ⟨fun h => (by cases h), fun h => ?_⟩ (u1.trans u2)
          rcases h.2 with h2 | h2
          · exact absurd h2.1 hk2
          · exact ht2.2 h2.2.1
        | true =>
          have hwh := ht2.1 rfl
          have o2 := o1.upd (S := []) u2 (.inr (Off.nil _))
          have hr2 := hr1.upd0 u2
          (repeat first | refine HReg.step ?_ | refine HCode.step ?_)
          refine HLoad.one (v := .slice ap r.ps.length cp) (by exact o2.get (i := 2) rfl) ?_
          (repeat first | refine HReg.step ?_ | refine HCode.step ?_)
          refine HCall.mk ⟨Try.f47, Try.func47, by rfl, by rfl⟩ ?_
          refine names_t hr2.rp rfl hnp fun a3 c3 H3 m3 => ?_
          have u13 := u1.trans (u2.trans m3.upd)
          have o3 := o2.upd (S := []) m3.upd (.inr (Off.nil _))
          have hr3 := hr2.upd0 m3.upd
          (repeat first | refine HReg.step ?_ | refine HCode.step ?_)
          by_cases hp0 : r.ps = []
          · have hp1 : r.ps.length = 0 := by rw [hp0]; rfl
            rw [hp1, show eqB ((0 : Nat) : Int) 0 = true from eqB_true.2 rfl]
            (repeat first | refine HReg.step ?_ | refine HCode.step ?_)
            refine hk false H3 ⟨fun h => (by cases h), fun h => ?_⟩ u13
            rcases h.2 with h2 | h2
            · exact absurd h2.1 hk2
            · exact absurd hp0 h2.2.2.1
          · have hp1 : r.ps.length ≠ 0 := fun h => hp0 (List.eq_nil_of_length_eq_zero h)
            rw [show eqB ((r.ps.length : Nat) : Int) 0 = false from eqB_false.2 (by omega)]
            (repeat first | refine HReg.step ?_ | refine HCode.step ?_)
            refine HCall.mk ⟨Try.f48, Try.func48, by rfl, by rfl⟩ ?_
            refine rising_t m3.own.rows (by simp) (by omega) fun t4 ht4 => ?_
            cases t4 with
            | false =>
              (repeat first | refine HReg.step ?_ | refine HCode.step ?_)
              refine hk false H3 ⟨fun h => (by cases h), fun h => ?_⟩ u13
              rcases h.2 with h2 | h2
              · exact absurd h2.1 hk2
              · exact ht4.2 h2.2.2.2.1
            | true =>
              have hris := ht4.1 rfl
              (repeat first | refine HReg.step ?_ | refine HCode.step ?_)
              refine HLoad.one (v := .slice ap r.ps.length cp) (by exact o3.get (i := 2) rfl) ?_
              (repeat first | refine HReg.step ?_ | refine HCode.step ?_)
              refine hloopC [2, 5, 49, 50, 51, 52, 53, 54, 55, 56, 57, 58, 59, 60, 61, 62, 63, 64, 65] [49] (MyInv r H3) rfl (by repeat' first | exact Resp.retD | exact Resp1.valuesK | refine Resp.blockD ?_ | refine Resp.thenD ?_ ?_ | refine Resp.hcode ?_) ?_ ?_
              · exact ⟨r.ps.length, MyInv.mk ⟨0, rfl, rfl, Upd.refl _ _, fun j p hj => by omega⟩⟩
              rintro m _ fe H4 ⟨i, rfl, hmi, u4, hall⟩
              have u14 := u13.trans u4
              (repeat first | refine HReg.step ?_ | refine HCode.step ?_)
              refine hif (fun h5 => ?_) (fun h5 => ?_)
              · have h5 := ltB_true.1 h5
                have w2 : wr .i64 ((i : Int) + 1) = ((i + 1 : Nat) : Int) := by rw [wr_i64 (by omega) (by omega)]; omega
                obtain ⟨p, hp⟩ : ∃ p, r.ps[i]? = some p := ⟨r.ps[i]'(by omega), by simp⟩
                have hpm := List.mem_of_getElem? hp
                have hr4 := hr3.upd0 u4
                have o4 := o3.upd (S := []) u4 (.inr (Off.nil _))
                obtain ⟨ba, bo, rfl, _⟩ := hr.rp _ _ (pairsV_get hp).1
                (repeat first | refine HReg.step ?_ | refine HCode.step ?_)
                refine HReq.mk ⟨by omega, by omega⟩ ?_
                (repeat first | refine HReg.step ?_ | refine HCode.step ?_)
                refine HLoadN_pair hr4.rp hp ?_
                (repeat first | refine HReg.step ?_ | refine HCode.step ?_)
                refine HNew.mk fun b5 hb5 => ?_
                (repeat first | refine HReg.step ?_ | refine HCode.step ?_)
                refine store_pair (p := p) (OwnRow.lit (upd_same _ _ _) rfl) rfl fun H6 o6 u6 => ?_
                have u46 : Upd [] H4 H6 := Upd.drop (Upd.new hb5 _) u6 (fun x hx => by rw [List.mem_singleton.1 hx]; exact hb5)
                have o46 := o4.upd (S := []) u46 (.inr (Off.nil _))
                (repeat first | refine HReg.step ?_ | refine HCode.step ?_)
                refine HLoad.one (v := .slice ak r.ks.length ck) (by exact o46.get (i := 3) rfl) ?_
                (repeat first | refine HReg.step ?_ | refine HCode.step ?_)
                refine HLoad.one (v := .string (bs p.1)) (by exact o6.rows.get (i := 0) rfl) ?_
                (repeat first | refine HReg.step ?_ | refine HCode.step ?_)
                refine HCall.mk ⟨Try.f49, Try.func49, by rfl, by rfl⟩ ?_
                refine Has_t (hr4.upd0 u46).rk rfl (by omega) fun t7 ht7 => ?_
                cases t7 with
                | false =>
                  (repeat first | refine HReg.step ?_ | refine HCode.step ?_)
                  refine hk false H6 ⟨fun h => (by cases h), fun h => ?_⟩ (u14.trans u46)
                  rcases h.2 with h2 | h2
                  · exact absurd h2.1 hk2
                  · exact ht7.2 ⟨hwh.2, (h2.2.2.2.2 p hpm).1⟩
                | true =>
                  have hin := (ht7.1 rfl).2
                  (repeat first | refine HReg.step ?_ | refine HCode.step ?_)
                  refine HLoad.one (v := .string (bs p.2)) (by exact o6.rows.get (i := 1) rfl) ?_
                  (repeat first | refine HReg.step ?_ | refine HCode.step ?_)
                  rw [bs_size]
                  refine hif (fun h8 => ?_) (fun h8 => ?_)
                  · have h8 := ltB_true.1 h8
                    (repeat first | refine HReg.step ?_ | refine HCode.step ?_)
                    refine hk false H6 ⟨fun h => (by cases h), fun h => ?_⟩ (u14.trans u46)
                    rcases h.2 with h2 | h2
                    · exact absurd h2.1 hk2
                    · have := (h2.2.2.2.2 p hpm).2; omega
                  · have h8 := ltB_false.1 h8
                    (repeat first | refine HReg.step ?_ | refine HCode.step ?_)
                    rw [w2]
                    refine ⟨m - 1, by omega, MyInv.mk ⟨i + 1, rfl, by omega, u4.trans u46, fun j q hj hq => ?_⟩⟩
                    by_cases e : j = i
                    · subst e; rw [hp] at hq; cases hq; exact ⟨hin, by omega⟩
                    · exact hall j q (by omega) hq
              · have h5 := ltB_false.1 h5
                (repeat first | refine HReg.step ?_ | refine HCode.step ?_)
                refine hk true H4 ⟨fun _ => ⟨hid, .inr ⟨hk1, hwh, hp0, hris, fun p hpm => ?_⟩⟩, fun _ => rfl⟩ u14
                obtain ⟨j, hj⟩ := List.getElem?_of_mem hpm
                have := (List.getElem?_eq_some_iff.1 hj).1
                exact hall j p (by omega) hj
      · rw [show eqB r.kind 1 = false from eqB_false.2 hk1]
        (repeat first | refine HReg.step ?_ | refine HCode.step ?_)
        refine hk false H1 ⟨fun h => (by cases h), fun h => ?_⟩ u1
        rcases h.2 with h2 | h2
        · exact absurd h2.1 hk2
        · exact absurd h2.1 hk1
end
end Go.Proofs.Ytfcmjomnpahllaa
