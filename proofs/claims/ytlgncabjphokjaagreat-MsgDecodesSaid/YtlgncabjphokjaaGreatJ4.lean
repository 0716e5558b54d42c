import Derived.Test.YtlgncabjphokjaaGreatJ3
namespace Go.Proofs.YtlgncabjphokjaaGreat
open Go Hv
set_option linter.unusedVariables false
set_option linter.unusedSimpArgs false
set_option maxRecDepth 10000
set_option maxHeartbeats 2000000
/-! The document's May. CUT2 -/
section
variable {H : Heap} {K : Value → Heap → Prop}
theorem rmay_t {x : MsgA} (hx : MsgIn H x)
    (hk : ∀ (t : Bool) H', (t = true ↔ MayM x.m) → Upd [] H H' → K (.bool t) H') : HCalls Tryz.prog 31 [x.val] H K := by
  refine hcalls (fn := Tryz.f31) [] mixed Tryz.func31 rfl rfl (by decide +kernel) ?_
  (repeat first | refine HReg.step ?_ | refine HCode.step ?_)
  refine HNew.mk fun b1 hb1 => ?_
  have u1 : Upd [] H (H.upd b1 (.cells x.cells.toArray 30)) := Upd.new hb1 _
  have o1 : RowAt (H.upd b1 (.cells x.cells.toArray 30)) (some ⟨b1, 0, none⟩) x.cells := RowAt.of_cells (upd_same _ _ _)
  have hH' : H.upd b1 (.cells [Value.int .i64 x.kind, .int .i64 x.client, .int .u64 (x.req : Int), .int .u64 (x.id : Int), .slice x.ap x.ps.length x.cp, .slice x.ak x.ks.length x.ck, .slice x.aw x.ws.length x.cw, .slice x.av x.vs.length x.cv].toArray 30) = H.upd b1 (.cells x.cells.toArray 30) := rfl
  rw [hH']
  generalize hH1 : H.upd b1 (.cells x.cells.toArray 30) = H1 at u1 o1
  have ro : ∀ {H'}, Upd [] H1 H' → RowAt H' (some ⟨b1, 0, none⟩) x.cells := fun u => o1.upd (S := []) u (.inr (Off.nil _))
  have rx : ∀ {H'}, Upd [] H1 H' → MsgIn H' x := fun u => hx.upd0 (u1.trans u)
  (repeat first | refine HReg.step ?_ | refine HCode.step ?_)
  refine HLoad.one (v := .int .i64 x.client) (by exact o1.get (i := 1) rfl) ?_
  (repeat first | refine HReg.step ?_ | refine HCode.step ?_)
  by_cases hc0 : 0 ≤ x.client
  case neg =>
    rw [show ltB x.client 0 = true from ltB_true.2 (by omega)]
    (repeat first | refine HReg.step ?_ | refine HCode.step ?_)
    exact hk false H1 ⟨fun h => (by cases h), fun h => absurd h.1.1 hc0⟩ u1
  rw [show ltB x.client 0 = false from ltB_false.2 (by omega)]
  (repeat first | refine HReg.step ?_ | refine HCode.step ?_)
  refine HLoad.one (v := .int .i64 x.client) (by exact o1.get (i := 1) rfl) ?_
  (repeat first | refine HReg.step ?_ | refine HCode.step ?_)
  by_cases hc1 : x.client < 16
  case neg =>
    rw [show ltB 15 x.client = true from ltB_true.2 (by omega)]
    (repeat first | refine HReg.step ?_ | refine HCode.step ?_)
    exact hk false H1 ⟨fun h => (by cases h), fun h => absurd h.1.2.1 hc1⟩ u1
  rw [show ltB 15 x.client = false from ltB_false.2 (by omega)]
  (repeat first | refine HReg.step ?_ | refine HCode.step ?_)
  refine HLoad.one (v := .int .u64 (x.req : Int)) (by exact o1.get (i := 2) rfl) ?_
  (repeat first | refine HReg.step ?_ | refine HCode.step ?_)
  refine hif (fun h1 => ?_) (fun h1 => ?_)
  · have h1 := ltB_true.1 h1
    (repeat first | refine HReg.step ?_ | refine HCode.step ?_)
    exact hk false H1 ⟨fun h => (by cases h), fun h => by have h' : 1 ≤ x.req := h.1.2.2; omega⟩ u1
  have h1 := ltB_false.1 h1
  have hmay : MayM x.m ↔ KindOk x.m := ⟨fun h => h.2, fun h => ⟨⟨hc0, hc1, by show 1 ≤ x.req; omega⟩, h⟩⟩
  (repeat first | refine HReg.step ?_ | refine HCode.step ?_)
  refine HLoad.one (v := .int .i64 x.kind) (by exact o1.get (i := 0) rfl) ?_
  (repeat first | refine HReg.step ?_ | refine HCode.step ?_)
  by_cases k1 : x.kind = 1
  · have un := kind1 k1
    rw [show eqB x.kind 1 = true from eqB_true.2 k1]
    (repeat first | refine HReg.step ?_ | refine HCode.step ?_)
    refine HLoadN_row o1 rfl ?_
    (repeat first | refine HReg.step ?_ | refine HCode.step ?_)
    refine HCall.mk ⟨Tryz.f49, Tryz.func49, by rfl, by rfl⟩ ?_
    refine ronly_t (p := true) (k := true) (w := false) (v := false) (rx (Upd.refl _ _)) fun t H2 ht u2 => ?_
    have on : t = true ↔ x.ws = [] ∧ x.vs = [] := by rw [ht]; simp
    cases t with
    | false =>
      (repeat first | refine HReg.step ?_ | refine HCode.step ?_)
      exact hk false H2 ⟨fun h => (by cases h), fun h => by have := on.2 ((fun h => (un.1 h).2.2) (hmay.1 h)); cases this⟩ (u1.trans u2)
    | true =>
    have on := on.1 rfl
    (repeat first | refine HReg.step ?_ | refine HCode.step ?_)
    refine HLoadN_row (ro u2) rfl ?_
    (repeat first | refine HReg.step ?_ | refine HCode.step ?_)
    refine HCall.mk ⟨Tryz.f50, Tryz.func50, by rfl, by rfl⟩ ?_
    refine rprep_t (rx u2) fun t3 H3 ht3 u3 => ?_
    (repeat first | refine HReg.step ?_ | refine HCode.step ?_)
    exact hk t3 H3 ⟨fun h => hmay.2 (un.2 ⟨(ht3.1 h).1, (ht3.1 h).2, on⟩), fun h => ht3.2 ⟨(un.1 (hmay.1 h)).1, (un.1 (hmay.1 h)).2.1⟩⟩ (u1.trans (u2.trans u3))
  rw [show eqB x.kind 1 = false from eqB_false.2 k1]
  (repeat first | refine HReg.step ?_ | refine HCode.step ?_)
  by_cases k2 : x.kind = 2
  · have un := kindc (.inl k2)
    rw [show eqB x.kind 2 = true from eqB_true.2 k2]
    (repeat first | refine HReg.step ?_ | refine HCode.step ?_)
    refine HLoadN_row o1 rfl ?_
    (repeat first | refine HReg.step ?_ | refine HCode.step ?_)
    refine HCall.mk ⟨Tryz.f49, Tryz.func49, by rfl, by rfl⟩ ?_
    refine ronly_t (p := false) (k := false) (w := false) (v := false) (rx (Upd.refl _ _)) fun t H2 ht u2 => ?_
    have on : t = true ↔ x.ps = [] ∧ x.ks = [] ∧ x.ws = [] ∧ x.vs = [] := by rw [ht]; simp
    cases t with
    | false =>
      (repeat first | refine HReg.step ?_ | refine HCode.step ?_)
      exact hk false H2 ⟨fun h => (by cases h), fun h => by have := on.2 ((fun h => (un.1 h).2) (hmay.1 h)); cases this⟩ (u1.trans u2)
    | true =>
    have on := on.1 rfl
    (repeat first | refine HReg.step ?_ | refine HCode.step ?_)
    refine HLoad.one (v := .int .u64 (x.id : Int)) (by exact (ro u2).get (i := 3) rfl) ?_
    (repeat first | refine HReg.step ?_ | refine HCode.step ?_)
    refine HCall.mk ⟨Tryz.f51, Tryz.func51, by rfl, by rfl⟩ ?_
    refine rid_t fun t3 ht3 => ?_
    (repeat first | refine HReg.step ?_ | refine HCode.step ?_)
    exact hk t3 H2 ⟨fun h => hmay.2 (un.2 ⟨ht3.1 h, on⟩), fun h => ht3.2 (un.1 (hmay.1 h)).1⟩ (u1.trans u2)
  rw [show eqB x.kind 2 = false from eqB_false.2 k2]
  (repeat first | refine HReg.step ?_ | refine HCode.step ?_)
  by_cases k5 : x.kind = 5
  · have un := kindc (.inr (.inl k5))
    rw [show eqB x.kind 5 = true from eqB_true.2 k5]
    (repeat first | refine HReg.step ?_ | refine HCode.step ?_)
    refine HLoadN_row o1 rfl ?_
    (repeat first | refine HReg.step ?_ | refine HCode.step ?_)
    refine HCall.mk ⟨Tryz.f49, Tryz.func49, by rfl, by rfl⟩ ?_
    refine ronly_t (p := false) (k := false) (w := false) (v := false) (rx (Upd.refl _ _)) fun t H2 ht u2 => ?_
    have on : t = true ↔ x.ps = [] ∧ x.ks = [] ∧ x.ws = [] ∧ x.vs = [] := by rw [ht]; simp
    cases t with
    | false =>
      (repeat first | refine HReg.step ?_ | refine HCode.step ?_)
      exact hk false H2 ⟨fun h => (by cases h), fun h => by have := on.2 ((fun h => (un.1 h).2) (hmay.1 h)); cases this⟩ (u1.trans u2)
    | true =>
    have on := on.1 rfl
    (repeat first | refine HReg.step ?_ | refine HCode.step ?_)
    refine HLoad.one (v := .int .u64 (x.id : Int)) (by exact (ro u2).get (i := 3) rfl) ?_
    (repeat first | refine HReg.step ?_ | refine HCode.step ?_)
    refine HCall.mk ⟨Tryz.f51, Tryz.func51, by rfl, by rfl⟩ ?_
    refine rid_t fun t3 ht3 => ?_
    (repeat first | refine HReg.step ?_ | refine HCode.step ?_)
    exact hk t3 H2 ⟨fun h => hmay.2 (un.2 ⟨ht3.1 h, on⟩), fun h => ht3.2 (un.1 (hmay.1 h)).1⟩ (u1.trans u2)
  rw [show eqB x.kind 5 = false from eqB_false.2 k5]
  (repeat first | refine HReg.step ?_ | refine HCode.step ?_)
  by_cases k6 : x.kind = 6
  · have un := kindc (.inr (.inr (.inl k6)))
    rw [show eqB x.kind 6 = true from eqB_true.2 k6]
    (repeat first | refine HReg.step ?_ | refine HCode.step ?_)
    refine HLoadN_row o1 rfl ?_
    (repeat first | refine HReg.step ?_ | refine HCode.step ?_)
    refine HCall.mk ⟨Tryz.f49, Tryz.func49, by rfl, by rfl⟩ ?_
    refine ronly_t (p := false) (k := false) (w := false) (v := false) (rx (Upd.refl _ _)) fun t H2 ht u2 => ?_
    have on : t = true ↔ x.ps = [] ∧ x.ks = [] ∧ x.ws = [] ∧ x.vs = [] := by rw [ht]; simp
    cases t with
    | false =>
      (repeat first | refine HReg.step ?_ | refine HCode.step ?_)
      exact hk false H2 ⟨fun h => (by cases h), fun h => by have := on.2 ((fun h => (un.1 h).2) (hmay.1 h)); cases this⟩ (u1.trans u2)
    | true =>
    have on := on.1 rfl
    (repeat first | refine HReg.step ?_ | refine HCode.step ?_)
    refine HLoad.one (v := .int .u64 (x.id : Int)) (by exact (ro u2).get (i := 3) rfl) ?_
    (repeat first | refine HReg.step ?_ | refine HCode.step ?_)
    refine HCall.mk ⟨Tryz.f51, Tryz.func51, by rfl, by rfl⟩ ?_
    refine rid_t fun t3 ht3 => ?_
    (repeat first | refine HReg.step ?_ | refine HCode.step ?_)
    exact hk t3 H2 ⟨fun h => hmay.2 (un.2 ⟨ht3.1 h, on⟩), fun h => ht3.2 (un.1 (hmay.1 h)).1⟩ (u1.trans u2)
  rw [show eqB x.kind 6 = false from eqB_false.2 k6]
  (repeat first | refine HReg.step ?_ | refine HCode.step ?_)
  by_cases k8 : x.kind = 8
  · have un := kindc (.inr (.inr (.inr k8)))
    rw [show eqB x.kind 8 = true from eqB_true.2 k8]
    (repeat first | refine HReg.step ?_ | refine HCode.step ?_)
    refine HLoadN_row o1 rfl ?_
    (repeat first | refine HReg.step ?_ | refine HCode.step ?_)
    refine HCall.mk ⟨Tryz.f49, Tryz.func49, by rfl, by rfl⟩ ?_
    refine ronly_t (p := false) (k := false) (w := false) (v := false) (rx (Upd.refl _ _)) fun t H2 ht u2 => ?_
    have on : t = true ↔ x.ps = [] ∧ x.ks = [] ∧ x.ws = [] ∧ x.vs = [] := by rw [ht]; simp
    cases t with
    | false =>
      (repeat first | refine HReg.step ?_ | refine HCode.step ?_)
      exact hk false H2 ⟨fun h => (by cases h), fun h => by have := on.2 ((fun h => (un.1 h).2) (hmay.1 h)); cases this⟩ (u1.trans u2)
    | true =>
    have on := on.1 rfl
    (repeat first | refine HReg.step ?_ | refine HCode.step ?_)
    refine HLoad.one (v := .int .u64 (x.id : Int)) (by exact (ro u2).get (i := 3) rfl) ?_
    (repeat first | refine HReg.step ?_ | refine HCode.step ?_)
    refine HCall.mk ⟨Tryz.f51, Tryz.func51, by rfl, by rfl⟩ ?_
    refine rid_t fun t3 ht3 => ?_
    (repeat first | refine HReg.step ?_ | refine HCode.step ?_)
    exact hk t3 H2 ⟨fun h => hmay.2 (un.2 ⟨ht3.1 h, on⟩), fun h => ht3.2 (un.1 (hmay.1 h)).1⟩ (u1.trans u2)
  rw [show eqB x.kind 8 = false from eqB_false.2 k8]
  (repeat first | refine HReg.step ?_ | refine HCode.step ?_)
  by_cases k3 : x.kind = 3
  · have un := kind3 k3
    rw [show eqB x.kind 3 = true from eqB_true.2 k3]
    (repeat first | refine HReg.step ?_ | refine HCode.step ?_)
    refine HLoadN_row o1 rfl ?_
    (repeat first | refine HReg.step ?_ | refine HCode.step ?_)
    refine HCall.mk ⟨Tryz.f49, Tryz.func49, by rfl, by rfl⟩ ?_
    refine ronly_t (p := false) (k := true) (w := false) (v := false) (rx (Upd.refl _ _)) fun t H2 ht u2 => ?_
    have on : t = true ↔ x.ps = [] ∧ x.ws = [] ∧ x.vs = [] := by rw [ht]; simp
    cases t with
    | false =>
      (repeat first | refine HReg.step ?_ | refine HCode.step ?_)
      exact hk false H2 ⟨fun h => (by cases h), fun h => by have := on.2 ((fun h => (un.1 h).2.2) (hmay.1 h)); cases this⟩ (u1.trans u2)
    | true =>
    have on := on.1 rfl
    (repeat first | refine HReg.step ?_ | refine HCode.step ?_)
    refine HLoad.one (v := .int .u64 (x.id : Int)) (by exact (ro u2).get (i := 3) rfl) ?_
    (repeat first | refine HReg.step ?_ | refine HCode.step ?_)
    by_cases hz : x.id = 0
    case neg =>
      rw [show eqB (x.id : Int) 0 = false from eqB_false.2 (by omega)]
      (repeat first | refine HReg.step ?_ | refine HCode.step ?_)
      exact hk false H2 ⟨fun h => (by cases h), fun h => absurd (un.1 (hmay.1 h)).1 hz⟩ (u1.trans u2)
    rw [show eqB (x.id : Int) 0 = true from eqB_true.2 (by omega)]
    (repeat first | refine HReg.step ?_ | refine HCode.step ?_)
    refine HLoad.one (v := .slice x.ak x.ks.length x.ck) (by exact (ro u2).get (i := 5) rfl) ?_
    (repeat first | refine HReg.step ?_ | refine HCode.step ?_)
    refine HCall.mk ⟨Tryz.f52, Tryz.func52, by rfl, by rfl⟩ ?_
    refine rset_t (rx u2).rk rfl (by have := hx.nk; omega) fun t3 ht3 => ?_
    (repeat first | refine HReg.step ?_ | refine HCode.step ?_)
    exact hk t3 H2 ⟨fun h => hmay.2 (un.2 ⟨hz, ht3.1 h, on⟩), fun h => ht3.2 (un.1 (hmay.1 h)).2.1⟩ (u1.trans u2)
  rw [show eqB x.kind 3 = false from eqB_false.2 k3]
  (repeat first | refine HReg.step ?_ | refine HCode.step ?_)
  by_cases k4 : x.kind = 4
  · have un := kind4 k4
    rw [show eqB x.kind 4 = true from eqB_true.2 k4]
    (repeat first | refine HReg.step ?_ | refine HCode.step ?_)
    refine HLoadN_row o1 rfl ?_
    (repeat first | refine HReg.step ?_ | refine HCode.step ?_)
    refine HCall.mk ⟨Tryz.f49, Tryz.func49, by rfl, by rfl⟩ ?_
    refine ronly_t (p := false) (k := false) (w := true) (v := false) (rx (Upd.refl _ _)) fun t H2 ht u2 => ?_
    have on : t = true ↔ x.ps = [] ∧ x.ks = [] ∧ x.vs = [] := by rw [ht]; simp
    cases t with
    | false =>
      (repeat first | refine HReg.step ?_ | refine HCode.step ?_)
      exact hk false H2 ⟨fun h => (by cases h), fun h => by have := on.2 ((fun h => (un.1 h).2.2) (hmay.1 h)); cases this⟩ (u1.trans u2)
    | true =>
    have on := on.1 rfl
    (repeat first | refine HReg.step ?_ | refine HCode.step ?_)
    refine HLoad.one (v := .int .u64 (x.id : Int)) (by exact (ro u2).get (i := 3) rfl) ?_
    (repeat first | refine HReg.step ?_ | refine HCode.step ?_)
    by_cases hz : x.id = 0
    case neg =>
      rw [show eqB (x.id : Int) 0 = false from eqB_false.2 (by omega)]
      (repeat first | refine HReg.step ?_ | refine HCode.step ?_)
      exact hk false H2 ⟨fun h => (by cases h), fun h => absurd (un.1 (hmay.1 h)).1 hz⟩ (u1.trans u2)
    rw [show eqB (x.id : Int) 0 = true from eqB_true.2 (by omega)]
    (repeat first | refine HReg.step ?_ | refine HCode.step ?_)
    refine HLoad.one (v := .slice x.aw x.ws.length x.cw) (by exact (ro u2).get (i := 6) rfl) ?_
    (repeat first | refine HReg.step ?_ | refine HCode.step ?_)
    refine HCall.mk ⟨Tryz.f53, Tryz.func53, by rfl, by rfl⟩ ?_
    refine rwants_t (rx u2).rw rfl hx.nw fun t3 H3 ht3 u3 => ?_
    (repeat first | refine HReg.step ?_ | refine HCode.step ?_)
    exact hk t3 H3 ⟨fun h => hmay.2 (un.2 ⟨hz, ht3.1 h, on⟩), fun h => ht3.2 (un.1 (hmay.1 h)).2.1⟩ (u1.trans (u2.trans u3))
  rw [show eqB x.kind 4 = false from eqB_false.2 k4]
  (repeat first | refine HReg.step ?_ | refine HCode.step ?_)
  by_cases k7 : x.kind = 7
  · have un := kind7 k7
    rw [show eqB x.kind 7 = true from eqB_true.2 k7]
    (repeat first | refine HReg.step ?_ | refine HCode.step ?_)
    refine HLoadN_row o1 rfl ?_
    (repeat first | refine HReg.step ?_ | refine HCode.step ?_)
    refine HCall.mk ⟨Tryz.f49, Tryz.func49, by rfl, by rfl⟩ ?_
    refine ronly_t (p := false) (k := false) (w := false) (v := true) (rx (Upd.refl _ _)) fun t H2 ht u2 => ?_
    have on : t = true ↔ x.ps = [] ∧ x.ks = [] ∧ x.ws = [] := by rw [ht]; simp
    cases t with
    | false =>
      (repeat first | refine HReg.step ?_ | refine HCode.step ?_)
      exact hk false H2 ⟨fun h => (by cases h), fun h => by have := on.2 ((fun h => (un.1 h).2.2) (hmay.1 h)); cases this⟩ (u1.trans u2)
    | true =>
    have on := on.1 rfl
    (repeat first | refine HReg.step ?_ | refine HCode.step ?_)
    refine HLoad.one (v := .int .u64 (x.id : Int)) (by exact (ro u2).get (i := 3) rfl) ?_
    (repeat first | refine HReg.step ?_ | refine HCode.step ?_)
    by_cases hz : x.id = 0
    case neg =>
      rw [show eqB (x.id : Int) 0 = false from eqB_false.2 (by omega)]
      (repeat first | refine HReg.step ?_ | refine HCode.step ?_)
      exact hk false H2 ⟨fun h => (by cases h), fun h => absurd (un.1 (hmay.1 h)).1 hz⟩ (u1.trans u2)
    rw [show eqB (x.id : Int) 0 = true from eqB_true.2 (by omega)]
    (repeat first | refine HReg.step ?_ | refine HCode.step ?_)
    refine HLoad.one (v := .slice x.av x.vs.length x.cv) (by exact (ro u2).get (i := 7) rfl) ?_
    (repeat first | refine HReg.step ?_ | refine HCode.step ?_)
    by_cases hl1 : x.vs.length = 1
    case neg =>
      rw [show eqB ((x.vs.length : Nat) : Int) 1 = false from eqB_false.2 (by omega)]
      (repeat first | refine HReg.step ?_ | refine HCode.step ?_)
      refine hk false H2 ⟨fun h => (by cases h), fun h => ?_⟩ (u1.trans u2)
      obtain ⟨v, hv, _⟩ := (un.1 (hmay.1 h)).2.1
      exact absurd (by rw [hv]; rfl) hl1
    obtain ⟨v, hv⟩ : ∃ v, x.vs[0]? = some v := ⟨x.vs[0]'(by omega), by simp⟩
    have hvs : x.vs = [v] := by
      cases hq : x.vs with
      | nil => rw [hq] at hl1; cases hl1
      | cons y ys =>
        rw [hq] at hv hl1
        cases hv
        exact congrArg (v :: ·) (List.eq_nil_of_length_eq_zero (by simpa using hl1))
    have hvm := List.mem_of_getElem? hv
    have rv := (rx u2).rv
    obtain ⟨ba, bo, hav, _⟩ := rv _ _ (versV_get hv 0 _ rfl)
    rw [show eqB ((x.vs.length : Nat) : Int) 1 = true from eqB_true.2 (by omega)]
    (repeat first | refine HReg.step ?_ | refine HCode.step ?_)
    refine HLoad.one (v := .slice x.av x.vs.length x.cv) (by exact (ro u2).get (i := 7) rfl) ?_
    rw [hav] at rv ⊢
    (repeat first | refine HReg.step ?_ | refine HCode.step ?_)
    refine HReq.mk (by omega) ?_
    (repeat first | refine HReg.step ?_ | refine HCode.step ?_)
    refine HLoadN_ver (i := 0) rv hv ?_
    (repeat first | refine HReg.step ?_ | refine HCode.step ?_)
    refine HCall.mk ⟨Tryz.f54, Tryz.func54, by rfl, by rfl⟩ ?_
    refine rver_t ((rx u2).vk v hvm) (hx.nvk v hvm) fun t3 H3 ht3 u3 => ?_
    (repeat first | refine HReg.step ?_ | refine HCode.step ?_)
    refine hk t3 H3 ⟨fun h => hmay.2 (un.2 ⟨hz, ⟨v, hvs, ht3.1 h⟩, on⟩), fun h => ht3.2 ?_⟩ (u1.trans (u2.trans u3))
    obtain ⟨v', hv', hc⟩ := (un.1 (hmay.1 h)).2.1
    rw [hvs] at hv'
    cases hv'
    exact hc
  rw [show eqB x.kind 7 = false from eqB_false.2 k7]
  (repeat first | refine HReg.step ?_ | refine HCode.step ?_)
  exact hk false H1 ⟨fun h => (by cases h), fun h => absurd (hmay.1 h) (kindno ⟨k1, k2, k5, k6, k8, k3, k4, k7⟩)⟩ u1
end
end Go.Proofs.YtlgncabjphokjaaGreat
