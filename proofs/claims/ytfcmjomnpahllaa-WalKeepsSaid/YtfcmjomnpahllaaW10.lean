import Derived.Test.YtfcmjomnpahllaaW9
namespace Go.Proofs.Ytfcmjomnpahllaa
open Go Hv
set_option linter.unusedVariables false
set_option linter.unusedSimpArgs false
set_option maxRecDepth 10000
set_option maxHeartbeats 4000000
/-! WalKeeps: told records, right. CUT2 -/
structure TRec where
  q : PRec
  d : Bool
def TRec.cells (t : TRec) : List Value := t.q.cells ++ [.bool t.d]
def toldV : List TRec → List Value
  | [] => []
  | t :: l => t.cells ++ toldV l
theorem toldV_length : ∀ l, (toldV l).length = l.length * 5
  | [] => rfl
  | t :: l => by
    show (t.cells ++ toldV l).length = _
    rw [List.length_append, toldV_length l, List.length_cons]
    show 5 + _ = _
    omega
theorem toldV_append : ∀ a b, toldV (a ++ b) = toldV a ++ toldV b
  | [], b => rfl
  | t :: a, b => by
    show t.cells ++ toldV (a ++ b) = t.cells ++ toldV a ++ toldV b
    rw [toldV_append a b, List.append_assoc]
theorem toldV_get : ∀ {l : List TRec} {i : Nat} {t : TRec}, l[i]? = some t → ∀ (k : Nat) v, t.cells[k]? = some v → (toldV l)[i * 5 + k]? = some v
  | [], i, q, h => by simp at h
  | p :: qs, 0, q, h => fun k v hk => by
    simp at h; subst h
    have : k < p.cells.length := (List.getElem?_eq_some_iff.1 hk).1
    show (p.cells ++ toldV qs)[0 * 5 + k]? = _
    rw [Nat.zero_mul, Nat.zero_add, List.getElem?_append_left this]; exact hk
  | p :: qs, i + 1, q, h => fun k v hk => by
    have ih := toldV_get (l := qs) (i := i) (t := q) (by simpa using h) k v hk
    have e : p.cells.length = 5 := rfl
    show (p.cells ++ toldV qs)[(i + 1) * 5 + k]? = _
    rw [List.getElem?_append_right (by rw [e]; omega), e]
    have e2 : (i + 1) * 5 + k - 5 = i * 5 + k := by omega
    rw [e2]; exact ih
/-- Told records in memory. -/
structure Tolds (H : Heap) (a : Option Addr) (ts : List TRec) : Prop where
  row : RowAt H a (toldV ts)
  each : ∀ t ∈ ts, RecIn H t.q.r t.q.ap t.q.ak
theorem Tolds.upd0 {H H' : Heap} {a : Option Addr} {ts : List TRec} (h : Tolds H a ts) (u : Upd [] H H') : Tolds H' a ts := ⟨h.row.upd (S := []) u (.inr (Off.nil _)), fun q hq => (h.each q hq).upd0 u⟩
theorem HLoadN_told {H : Heap} {b off i : Nat} {ts : List TRec} {t : TRec} {K : List Value → Prop} (h : RowAt H (some ⟨b, off, none⟩) (toldV ts)) (ht : ts[i]? = some t) (hk : K t.q.cells) : HLoadN [H] b (off + i * 5) 4 K :=
  ⟨t.q.cells, fun H' hH j v hv => by
    rw [List.mem_singleton.1 hH]
    have hj : j < 4 := (List.getElem?_eq_some_iff.1 hv).1
    have := h.get (toldV_get ht j v (by show (t.q.cells ++ [Value.bool t.d])[j]? = _; rw [List.getElem?_append_left hj]; exact hv))
    rw [Nat.add_assoc]; exact this, rfl, hk⟩
structure RtInv (H0 : Heap) (n m : Nat) (q : Nat) (vs : List Value) (H : Heap) : Prop where
  ex : ∃ i : Nat, vs = [.int .i64 ((min i n : Nat) : Int), .int .i64 (i : Int)] ∧ q + i = m ∧ Upd [] H0 H
section
variable {H : Heap} {K : Value → Heap → Prop}
theorem right_t {a b : Option Addr} {n m c d : Nat} {l : List PRec} {ts : List TRec} (hl : Recs H a l) (ht : Tolds H b ts) (hn : l.length = n) (hm : ts.length = m) (hnm : n ≤ m) (hlim : m ≤ 1000000)
    (hp : ∀ (i : Nat) (q : PRec) (t : TRec), l[i]? = some q → ts[i]? = some t → q.r = t.q.r) (hd : ∀ (i : Nat) (t : TRec), n ≤ i → ts[i]? = some t → t.d = false)
    (hk : ∀ H', Upd [] H H' → K (.bool true) H') : HCalls Try.prog 24 [.slice a n c, .slice b m d] H K := by
  refine hcalls (fn := Try.f24) [(5, [(0, 0), (1, 0), (2, 0), (3, 0), (4, 0), (5, 0), (6, 0), (7, 0), (8, 0), (9, 0), (10, 0), (11, 0), (12, 0), (13, 0), (14, 0), (15, 0)])] mixed Try.func24 rfl rfl (by decide +kernel) ?_
  (repeat first | refine HReg.step ?_ | refine HCode.step ?_)
  refine hloopC [4, 5, 6, 7, 8, 9, 10, 11, 12, 13, 14, 15, 16, 17, 18, 19, 20, 21, 22, 23, 24, 25, 26, 27, 28, 29, 30, 31, 32, 33, 34, 35] [5, 6] (RtInv H n m) rfl (by repeat' first | exact Resp.retD | exact Resp1.valuesK | refine Resp.blockD ?_ | refine Resp.thenD ?_ ?_ | refine Resp.hcode ?_) ?_ ?_
  · exact ⟨m, RtInv.mk ⟨0, by rw [Nat.zero_min]; rfl, by omega, Upd.refl _ _⟩⟩
  rintro q _ fe H1 ⟨i, rfl, hqi, u1⟩
  have hl1 := hl.upd0 u1
  have ht1 := ht.upd0 u1
  (repeat first | refine HReg.step ?_ | refine HCode.step ?_)
  refine hif (fun h1 => ?_) (fun h1 => ?_)
  · have h1 := ltB_true.1 h1
    have hi : i < m := by omega
    obtain ⟨t, hti⟩ : ∃ t, ts[i]? = some t := ⟨ts[i]'(by omega), by simp⟩
    obtain ⟨bb, bo, rfl, _⟩ := ht1.row _ _ (toldV_get hti 0 _ rfl)
    (repeat first | refine HReg.step ?_ | refine HCode.step ?_)
    by_cases hin : i < n
    · rw [Nat.min_eq_left (Nat.le_of_lt hin)]
      rw [show ltB ((i : Nat) : Int) ((n : Nat) : Int) = true from ltB_true.2 (by omega)]
      obtain ⟨p, hpi⟩ : ∃ p, l[i]? = some p := ⟨l[i]'(by omega), by simp⟩
      obtain ⟨ba, ao, rfl, _⟩ := hl1.row _ _ (recsV_get hpi 0 _ rfl)
      have hmem := List.mem_of_getElem? hpi
      have hmem2 := List.mem_of_getElem? hti
      (repeat first | refine HReg.step ?_ | refine HCode.step ?_)
      refine HReq.mk ⟨by omega, by omega⟩ ?_
      (repeat first | refine HReg.step ?_ | refine HCode.step ?_)
      refine HLoadN_rec hl1.row (by simpa using hpi) ?_
      (repeat first | refine HReg.step ?_ | refine HCode.step ?_)
      refine HReq.mk ⟨by omega, by omega⟩ ?_
      (repeat first | refine HReg.step ?_ | refine HCode.step ?_)
      refine HLoadN_told ht1.row (by simpa using hti) ?_
      (repeat first | refine HReg.step ?_ | refine HCode.step ?_)
      refine HCall.mk ⟨Try.f18, Try.func18, by rfl, by rfl⟩ ?_
      refine same_q (hp i p t hpi hti) (hl1.each p hmem) (ht1.each t hmem2) fun H2 u2 => ?_
      (repeat first | refine HReg.step ?_ | refine HCode.step ?_)
      rw [wr_i64 (by omega) (by omega)]
      refine Exists.intro (q - 1) ?_
      refine And.intro (by omega) ?_
      exact RtInv.mk ⟨i + 1, by rw [Nat.min_eq_left hin]; rfl, by omega, u1.trans u2⟩
    · rw [Nat.min_eq_right (by omega)]
      rw [show ltB ((n : Nat) : Int) ((n : Nat) : Int) = false from ltB_false.2 (by omega)]
      have hf := hd i t (by omega) hti
      (repeat first | refine HReg.step ?_ | refine HCode.step ?_)
      refine HReq.mk ⟨by omega, by omega⟩ ?_
      (repeat first | refine HReg.step ?_ | refine HCode.step ?_)
      refine HLoad.one (v := .bool t.d) (by
        have := ht1.row.get (toldV_get hti 4 (.bool t.d) rfl)
        rw [← Nat.add_assoc] at this
        exact this) ?_
      rw [hf]
      (repeat first | refine HReg.step ?_ | refine HCode.step ?_)
      rw [wr_i64 (by omega) (by omega)]
      refine Exists.intro (q - 1) ?_
      refine And.intro (by omega) ?_
      exact RtInv.mk ⟨i + 1, by rw [Nat.min_eq_right (by omega)]; rfl, by omega, u1⟩
  · have h1 := ltB_false.1 h1
    obtain rfl : i = m := by omega
    rw [Nat.min_eq_right hnm]
    (repeat first | refine HReg.step ?_ | refine HCode.step ?_)
    rw [eqB_self ((n : Nat) : Int)]
    exact hk H1 u1
end
end Go.Proofs.Ytfcmjomnpahllaa
