import Derived.Test.YtlgncabjphokjaaGreatG3
namespace Go.Proofs.YtlgncabjphokjaaGreat
open Go Hv
set_option linter.unusedVariables false
set_option linter.unusedSimpArgs false
set_option maxRecDepth 10000
set_option maxHeartbeats 1000000
/-! Messages: what may be. CUT2 -/
section
variable {H : Heap} {K : Value → Heap → Prop}
theorem seqB_nil (l : Txt) : seqB (bs l) ⟨#[]⟩ = decide (l = []) := seqB_bs l []
theorem content_t {x : VerA} (hr : RowAt H x.a (txts x.v.ks)) (hn : x.v.ks.length ≤ 8796093021952)
    (hk : ∀ (t : Bool) H', (t = true ↔ Content x.v) → Upd [] H H' → K (.bool t) H') : HCalls Tryz.prog 45 [.agg x.cells.toArray] H K := by
  refine hcalls (fn := Tryz.f45) [] mixed Tryz.func45 rfl rfl (by decide +kernel) ?_
  (repeat first | refine HReg.step ?_ | refine HCode.step ?_)
  refine HNew.mk fun b1 hb1 => ?_
  have u1 : Upd [] H (H.upd b1 (.cells x.cells.toArray 56)) := Upd.new hb1 _
  have o1 : RowAt (H.upd b1 (.cells x.cells.toArray 56)) (some ⟨b1, 0, none⟩) x.cells := RowAt.of_cells (upd_same _ _ _)
  have hH' : H.upd b1 (.cells [Value.string (bs x.v.key), .int .u64 (x.v.id : Int), .string (bs x.v.val), .slice x.a x.v.ks.length x.c].toArray 56) = H.upd b1 (.cells x.cells.toArray 56) := rfl
  rw [hH']
  generalize hH1 : H.upd b1 (.cells x.cells.toArray 56) = H1 at u1 o1
  (repeat first | refine HReg.step ?_ | refine HCode.step ?_)
  refine HLoad.one (v := .int .u64 (x.v.id : Int)) (by exact o1.get (i := 1) rfl) ?_
  (repeat first | refine HReg.step ?_ | refine HCode.step ?_)
  by_cases h0 : x.v.id = 0
  · have un : Content x.v ↔ (x.v.key.length ≤ 65535 ∧ x.v.val = [] ∧ x.v.ks = []) := ⟨fun h => by
      rcases h with h | h
      · exact ⟨h.2.1, h.2.2.1, h.2.2.2⟩
      · have := h.1; omega, fun h => .inl ⟨h0, h.1, h.2.1, h.2.2⟩⟩
    rw [show eqB ((x.v.id : Nat) : Int) 0 = true from eqB_true.2 (by omega)]
    (repeat first | refine HReg.step ?_ | refine HCode.step ?_)
    refine HLoad.one (v := .string (bs x.v.key)) (by exact o1.get (i := 0) rfl) ?_
    (repeat first | refine HReg.step ?_ | refine HCode.step ?_)
    rw [bs_size]
    refine hif (fun h1 => ?_) (fun h1 => ?_)
    · have h1 := not_ltB_true.1 h1
      (repeat first | refine HReg.step ?_ | refine HCode.step ?_)
      refine HLoad.one (v := .string (bs x.v.val)) (by exact o1.get (i := 2) rfl) ?_
      (repeat first | refine HReg.step ?_ | refine HCode.step ?_)
      rw [seqB_nil]
      by_cases hv : x.v.val = []
      · rw [decide_eq_true hv]
        (repeat first | refine HReg.step ?_ | refine HCode.step ?_)
        refine HLoad.one (v := .slice x.a x.v.ks.length x.c) (by exact o1.get (i := 3) rfl) ?_
        (repeat first | refine HReg.step ?_ | refine HCode.step ?_)
        refine hk _ H1 ⟨fun h => un.2 ⟨by omega, hv, ?_⟩, fun h => ?_⟩ u1
        · exact List.eq_nil_of_length_eq_zero (by have := eqB_true.1 h; omega)
        · exact eqB_true.2 (by rw [(un.1 h).2.2]; rfl)
      · rw [decide_eq_false hv]
        (repeat first | refine HReg.step ?_ | refine HCode.step ?_)
        refine hk false H1 ⟨fun h => (by cases h), fun h => ?_⟩ u1
        exact absurd (un.1 h).2.1 hv
    · have h1 := not_ltB_false.1 h1
      (repeat first | refine HReg.step ?_ | refine HCode.step ?_)
      refine hk false H1 ⟨fun h => (by cases h), fun h => ?_⟩ u1
      have := (un.1 h).1; omega
  · have un : Content x.v ↔ (65536 ≤ x.v.id ∧ x.v.val.length ≤ 65535 ∧ Whole x.v.ks ∧ x.v.key ∈ x.v.ks) := ⟨fun h => by
      rcases h with h | h
      · exact absurd h.1 h0
      · exact h, fun h => .inr h⟩
    rw [show eqB ((x.v.id : Nat) : Int) 0 = false from eqB_false.2 (by omega)]
    (repeat first | refine HReg.step ?_ | refine HCode.step ?_)
    refine HLoad.one (v := .int .u64 (x.v.id : Int)) (by exact o1.get (i := 1) rfl) ?_
    (repeat first | refine HReg.step ?_ | refine HCode.step ?_)
    refine HCall.mk ⟨Tryz.f42, Tryz.func42, by rfl, by rfl⟩ ?_
    refine one_t fun t ht => ?_
    cases t with
    | false =>
      (repeat first | refine HReg.step ?_ | refine HCode.step ?_)
      refine hk false H1 ⟨fun h => (by cases h), fun h => ?_⟩ u1
      exact ht.2 (un.1 h).1
    | true =>
      have hid := ht.1 rfl
      (repeat first | refine HReg.step ?_ | refine HCode.step ?_)
      refine HLoad.one (v := .string (bs x.v.val)) (by exact o1.get (i := 2) rfl) ?_
      (repeat first | refine HReg.step ?_ | refine HCode.step ?_)
      rw [bs_size]
      refine hif (fun h1 => ?_) (fun h1 => ?_)
      · have h1 := not_ltB_true.1 h1
        (repeat first | refine HReg.step ?_ | refine HCode.step ?_)
        refine HLoad.one (v := .slice x.a x.v.ks.length x.c) (by exact o1.get (i := 3) rfl) ?_
        (repeat first | refine HReg.step ?_ | refine HCode.step ?_)
        refine HCall.mk ⟨Tryz.f40, Tryz.func40, by rfl, by rfl⟩ ?_
        refine ordered_t (hr.upd (S := []) u1 (.inr (Off.nil _))) rfl (by omega) fun t2 H2 ht2 u2 => ?_
        have o2 := o1.upd (S := []) u2 (.inr (Off.nil _))
        cases t2 with
        | false =>
          (repeat first | refine HReg.step ?_ | refine HCode.step ?_)
          refine hk false H2 ⟨fun h => (by cases h), fun h => ?_⟩ (u1.trans u2)
          exact ht2.2 (un.1 h).2.2.1
        | true =>
          have hwh := ht2.1 rfl
          (repeat first | refine HReg.step ?_ | refine HCode.step ?_)
          refine HLoad.one (v := .slice x.a x.v.ks.length x.c) (by exact o2.get (i := 3) rfl) ?_
          (repeat first | refine HReg.step ?_ | refine HCode.step ?_)
          refine HLoad.one (v := .string (bs x.v.key)) (by exact o2.get (i := 0) rfl) ?_
          (repeat first | refine HReg.step ?_ | refine HCode.step ?_)
          refine HCall.mk ⟨Tryz.f63, Tryz.func63, by rfl, by rfl⟩ ?_
          refine Has_t (hr.upd (S := []) (u1.trans u2) (.inr (Off.nil _))) rfl (by omega) fun t3 ht3 => ?_
          (repeat first | refine HReg.step ?_ | refine HCode.step ?_)
          exact hk t3 H2 ⟨fun h => un.2 ⟨hid, by omega, hwh, (ht3.1 h).2⟩, fun h => ht3.2 ⟨hwh.2, (un.1 h).2.2.2⟩⟩ (u1.trans u2)
      · have h1 := not_ltB_false.1 h1
        (repeat first | refine HReg.step ?_ | refine HCode.step ?_)
        refine hk false H1 ⟨fun h => (by cases h), fun h => ?_⟩ u1
        have := (un.1 h).2.1; omega
/-- What is left of a message when the fields of its kind are taken out. -/
structure BareR (x y : MsgA) (t : Bool) : Prop where
  iff : (t = true ∧ y.id = 0 ∧ y.ps = [] ∧ y.ks = [] ∧ y.ws = [] ∧ y.vs = []) ↔ KindOk x.m
  lp : y.ps.length ≤ x.ps.length
  lk : y.ks.length ≤ x.ks.length
  lw : y.ws.length ≤ x.ws.length
  lv : y.vs.length ≤ x.vs.length
theorem vs_nil {x : MsgA} (h : x.m.vs = []) : x.vs = [] := by
  have h : x.vs.map VerA.v = [] := h
  exact List.map_eq_nil_iff.1 h
theorem kind1 {x : MsgA} (h : x.kind = 1) : KindOk x.m ↔ (65536 ≤ x.id ∧ (Whole x.ks ∧ PairsOk x.ps x.ks) ∧ x.ws = [] ∧ x.vs = []) := by
  refine ⟨fun k => ?_, fun k => .inl ⟨h, k.1, k.2.1, k.2.2.1, by show x.vs.map VerA.v = []; rw [k.2.2.2]; rfl⟩⟩
  have h : x.m.kind = 1 := h
  rcases k with k | k | k | k | k
  · exact ⟨k.2.1, k.2.2.1, k.2.2.2.1, vs_nil k.2.2.2.2⟩
  · have := k.1; omega
  · have := k.1; omega
  · have := k.1; omega
  · have := k.1; omega
theorem kindc {x : MsgA} (h : x.kind = 2 ∨ x.kind = 5 ∨ x.kind = 6 ∨ x.kind = 8) : KindOk x.m ↔ (65536 ≤ x.id ∧ x.ps = [] ∧ x.ks = [] ∧ x.ws = [] ∧ x.vs = []) := by
  refine ⟨fun k => ?_, fun k => .inr (.inl ⟨h, k.1, k.2.1, k.2.2.1, k.2.2.2.1, by show x.vs.map VerA.v = []; rw [k.2.2.2.2]; rfl⟩)⟩
  have h : x.m.kind = 2 ∨ x.m.kind = 5 ∨ x.m.kind = 6 ∨ x.m.kind = 8 := h
  rcases k with k | k | k | k | k
  · have := k.1; omega
  · exact ⟨k.2.1, k.2.2.1, k.2.2.2.1, k.2.2.2.2.1, vs_nil k.2.2.2.2.2⟩
  · have := k.1; omega
  · have := k.1; omega
  · have := k.1; omega
theorem kind3 {x : MsgA} (h : x.kind = 3) : KindOk x.m ↔ (x.id = 0 ∧ Valid x.ks ∧ x.ps = [] ∧ x.ws = [] ∧ x.vs = []) := by
  refine ⟨fun k => ?_, fun k => .inr (.inr (.inl ⟨h, k.1, k.2.1, k.2.2.1, k.2.2.2.1, by show x.vs.map VerA.v = []; rw [k.2.2.2.2]; rfl⟩))⟩
  have h : x.m.kind = 3 := h
  rcases k with k | k | k | k | k
  · have := k.1; omega
  · have := k.1; omega
  · exact ⟨k.2.1, k.2.2.1, k.2.2.2.1, k.2.2.2.2.1, vs_nil k.2.2.2.2.2⟩
  · have := k.1; omega
  · have := k.1; omega
theorem kind4 {x : MsgA} (h : x.kind = 4) : KindOk x.m ↔ (x.id = 0 ∧ WantsOk x.ws ∧ x.ps = [] ∧ x.ks = [] ∧ x.vs = []) := by
  refine ⟨fun k => ?_, fun k => .inr (.inr (.inr (.inl ⟨h, k.1, k.2.1, k.2.2.1, k.2.2.2.1, by show x.vs.map VerA.v = []; rw [k.2.2.2.2]; rfl⟩)))⟩
  have h : x.m.kind = 4 := h
  rcases k with k | k | k | k | k
  · have := k.1; omega
  · have := k.1; omega
  · have := k.1; omega
  · exact ⟨k.2.1, k.2.2.1, k.2.2.2.1, k.2.2.2.2.1, vs_nil k.2.2.2.2.2⟩
  · have := k.1; omega
theorem kind7 {x : MsgA} (h : x.kind = 7) : KindOk x.m ↔ (x.id = 0 ∧ (∃ v, x.vs = [v] ∧ Content v.v) ∧ x.ps = [] ∧ x.ks = [] ∧ x.ws = []) := by
  refine ⟨fun k => ?_, fun k => ?_⟩
  · have h : x.m.kind = 7 := h
    rcases k with k | k | k | k | k
    · have := k.1; omega
    · have := k.1; omega
    · have := k.1; omega
    · have := k.1; omega
    · refine ⟨k.2.1, ?_, k.2.2.2⟩
      obtain ⟨v, hv, hc⟩ := k.2.2.1
      have hv : x.vs.map VerA.v = [v] := hv
      cases hx : x.vs with
      | nil => rw [hx] at hv; cases hv
      | cons y ys =>
        rw [hx, List.map_cons] at hv
        obtain ⟨e1, e2⟩ := List.cons.inj hv
        rw [List.map_eq_nil_iff.1 e2]
        exact ⟨y, rfl, by rw [e1]; exact hc⟩
  · obtain ⟨v, hv, hc⟩ := k.2.1
    exact .inr (.inr (.inr (.inr ⟨h, k.1, ⟨v.v, by show x.vs.map VerA.v = [v.v]; rw [hv]; rfl, hc⟩, k.2.2⟩)))
theorem kindno {x : MsgA} (h : x.kind ≠ 1 ∧ x.kind ≠ 2 ∧ x.kind ≠ 5 ∧ x.kind ≠ 6 ∧ x.kind ≠ 8 ∧ x.kind ≠ 3 ∧ x.kind ≠ 4 ∧ x.kind ≠ 7) : ¬ KindOk x.m := fun k => by
  have h : x.m.kind ≠ 1 ∧ x.m.kind ≠ 2 ∧ x.m.kind ≠ 5 ∧ x.m.kind ≠ 6 ∧ x.m.kind ≠ 8 ∧ x.m.kind ≠ 3 ∧ x.m.kind ≠ 4 ∧ x.m.kind ≠ 7 := h
  rcases k with k | k | k | k | k <;> (have := k.1; omega)
def zeroA : MsgA := ⟨0, 0, 0, 0, [], none, 0, [], none, 0, [], none, 0, [], none, 0⟩
/-- The copy of a message that bare works on, and its answer's cells. -/
structure BrS (H : Heap) (b1 b2 : Nat) (y : MsgA) (H' : Heap) : Prop where
  o1 : OwnRow H' 30 1 (some ⟨b1, 0, none⟩) 8 8 y.cells
  o2 : OwnRow H' 30 1 (some ⟨b2, 0, none⟩) 8 8 zeroA.cells
  u : Upd [] H H'
  n1 : H b1 = none
  n2 : H b2 = none
  ne : b1 ≠ b2
theorem BrS.upd0 {b1 b2 : Nat} {y : MsgA} {H1 H2 : Heap} (s : BrS H b1 b2 y H1) (u : Upd [] H1 H2) : BrS H b1 b2 y H2 := ⟨s.o1.upd u (Off.nil _), s.o2.upd u (Off.nil _), s.u.trans u, s.n1, s.n2, s.ne⟩
theorem BrS.set {b1 b2 : Nat} {y y' : MsgA} {H1 H2 : Heap} (s : BrS H b1 b2 y H1) (o : OwnRow H2 30 1 (some ⟨b1, 0, none⟩) 8 8 y'.cells) (u : Upd [b1] H1 H2) : BrS H b1 b2 y' H2 :=
  ⟨o, s.o2.upd u (fun p hp hb => by cases hp; exact s.ne (List.mem_singleton.1 hb).symm), Upd.drop s.u u (fun b hb => by rw [List.mem_singleton.1 hb]; exact s.n1), s.n1, s.n2, s.ne⟩
theorem bare_t {x : MsgA} (hx : MsgIn H x)
    (hk : ∀ (t : Bool) (y : MsgA) H', BareR x y t → Upd [] H H' → K (.tuple #[y.val, .bool t]) H') : HCalls Tryz.prog 23 [x.val] H K := by
  refine hcalls (fn := Tryz.f23) [] mixed Tryz.func23 rfl rfl (by decide +kernel) ?_
  (repeat first | refine HReg.step ?_ | refine HCode.step ?_)
  refine HNew.mk fun b1 hb1 => ?_
  have u1 : Upd [] H (H.upd b1 (.cells x.cells.toArray 30)) := Upd.new hb1 _
  have o1 : OwnRow (H.upd b1 (.cells x.cells.toArray 30)) 30 1 (some ⟨b1, 0, none⟩) 8 8 x.cells := OwnRow.lit (upd_same _ _ _) rfl
  have hH' : H.upd b1 (.cells [Value.int .i64 x.kind, .int .i64 x.client, .int .u64 (x.req : Int), .int .u64 (x.id : Int), .slice x.ap x.ps.length x.cp, .slice x.ak x.ks.length x.ck, .slice x.aw x.ws.length x.cw, .slice x.av x.vs.length x.cv].toArray 30) = H.upd b1 (.cells x.cells.toArray 30) := rfl
  rw [hH']
  generalize hH1 : H.upd b1 (.cells x.cells.toArray 30) = H1 at u1 o1
  (repeat first | refine HReg.step ?_ | refine HCode.step ?_)
  refine HNew.mk fun b2 hb2 => ?_
  have n2 : H b2 = none := Upd.none (S := []) u1 (by simp) hb2
  have s : BrS H b1 b2 x (H1.upd b2 (.cells zeroA.cells.toArray 30)) := ⟨o1.upd (Upd.new hb2 _) (Off.nil _), OwnRow.lit (upd_same _ _ _) rfl, u1.trans (Upd.new hb2 _), hb1, n2, fun e => o1.there rfl (by rw [e]; exact hb2)⟩
  have hH2' : H1.upd b2 (.cells [Value.int .i64 0, .int .i64 0, .int .u64 0, .int .u64 0, .slice none 0 0, .slice none 0 0, .slice none 0 0, .slice none 0 0].toArray 30) = H1.upd b2 (.cells zeroA.cells.toArray 30) := rfl
  rw [hH2']
  generalize hH2 : H1.upd b2 (.cells zeroA.cells.toArray 30) = H2 at s
  clear o1 u1 hH1 hH'
  (repeat first | refine HReg.step ?_ | refine HCode.step ?_)
  refine HLoad.one (v := .int .i64 x.kind) (by exact s.o1.rows.get (i := 0) rfl) ?_
  (repeat first | refine HReg.step ?_ | refine HCode.step ?_)
  refine hif (fun h1 => ?_) (fun h1 => ?_)
  · have h1 := eqB_true.1 h1
    have un := kind1 h1
    (repeat first | refine HReg.step ?_ | refine HCode.step ?_)
    refine HLoad.one (v := .slice x.ak x.ks.length x.ck) (by exact s.o1.rows.get (i := 5) rfl) ?_
    (repeat first | refine HReg.step ?_ | refine HCode.step ?_)
    refine HCall.mk ⟨Tryz.f40, Tryz.func40, by rfl, by rfl⟩ ?_
    refine ordered_t (hx.upd0 s.u).rk rfl (by have := hx.nk; omega) fun t H3 ht u3 => ?_
    have s := s.upd0 u3
    cases t with
    | false =>
      (repeat first | refine HReg.step ?_ | refine HCode.step ?_)
      refine store_row s.o1 (v := .slice none 0 0) rfl (i := 5) (by decide) (by rfl) fun H' o' u' => ?_
      have s : BrS H b1 b2 { x with ks := [], ak := none, ck := 0 } H' := s.set (y' := { x with ks := [], ak := none, ck := 0 }) o' u'
      (repeat first | refine HReg.step ?_ | refine HCode.step ?_)
      refine store_row s.o1 (v := .slice none 0 0) rfl (i := 4) (by decide) (by rfl) fun H' o' u' => ?_
      have s : BrS H b1 b2 { x with ks := [], ak := none, ck := 0, ps := [], ap := none, cp := 0 } H' := s.set (y' := { x with ks := [], ak := none, ck := 0, ps := [], ap := none, cp := 0 }) o' u'
      (repeat first | refine HReg.step ?_ | refine HCode.step ?_)
      refine HLoadN_row s.o1.rows rfl ?_
      (repeat first | refine HReg.step ?_ | refine HCode.step ?_)
      refine store_msg (x := { x with ks := [], ak := none, ck := 0, ps := [], ap := none, cp := 0 }) s.o2 rfl fun H9 o9 u9 => ?_
      (repeat first | refine HReg.step ?_ | refine HCode.step ?_)
      refine HLoadN_row o9.rows rfl ?_
      exact hk false { x with ks := [], ak := none, ck := 0, ps := [], ap := none, cp := 0 } H9 ⟨⟨fun h => (by cases h.1), fun h => by have := ht.2 (un.1 h).2.1.1; cases this⟩, Nat.zero_le _, Nat.zero_le _, Nat.le_refl _, Nat.le_refl _⟩ (Upd.drop s.u u9 (fun b hb => by rw [List.mem_singleton.1 hb]; exact s.n2))
    | true =>
      have hwh := ht.1 rfl
      (repeat first | refine HReg.step ?_ | refine HCode.step ?_)
      refine HLoad.one (v := .slice x.ap x.ps.length x.cp) (by exact s.o1.rows.get (i := 4) rfl) ?_
      (repeat first | refine HReg.step ?_ | refine HCode.step ?_)
      refine HLoad.one (v := .slice x.ak x.ks.length x.ck) (by exact s.o1.rows.get (i := 5) rfl) ?_
      (repeat first | refine HReg.step ?_ | refine HCode.step ?_)
      refine HCall.mk ⟨Tryz.f41, Tryz.func41, by rfl, by rfl⟩ ?_
      refine pairs_t (hx.upd0 s.u).rp rfl hx.np (hx.upd0 s.u).rk rfl (by have := hx.nk; omega) fun t2 H4 ht2 u4 => ?_
      have s := s.upd0 u4
      cases t2 with
      | false =>
        (repeat first | refine HReg.step ?_ | refine HCode.step ?_)
        refine store_row s.o1 (v := .slice none 0 0) rfl (i := 5) (by decide) (by rfl) fun H' o' u' => ?_
        have s : BrS H b1 b2 { x with ks := [], ak := none, ck := 0 } H' := s.set (y' := { x with ks := [], ak := none, ck := 0 }) o' u'
        (repeat first | refine HReg.step ?_ | refine HCode.step ?_)
        refine store_row s.o1 (v := .slice none 0 0) rfl (i := 4) (by decide) (by rfl) fun H' o' u' => ?_
        have s : BrS H b1 b2 { x with ks := [], ak := none, ck := 0, ps := [], ap := none, cp := 0 } H' := s.set (y' := { x with ks := [], ak := none, ck := 0, ps := [], ap := none, cp := 0 }) o' u'
        (repeat first | refine HReg.step ?_ | refine HCode.step ?_)
        refine HLoadN_row s.o1.rows rfl ?_
        (repeat first | refine HReg.step ?_ | refine HCode.step ?_)
        refine store_msg (x := { x with ks := [], ak := none, ck := 0, ps := [], ap := none, cp := 0 }) s.o2 rfl fun H9 o9 u9 => ?_
        (repeat first | refine HReg.step ?_ | refine HCode.step ?_)
        refine HLoadN_row o9.rows rfl ?_
        exact hk false { x with ks := [], ak := none, ck := 0, ps := [], ap := none, cp := 0 } H9 ⟨⟨fun h => (by cases h.1), fun h => by have := ht2.2 ⟨(un.1 h).2.1.2.1, (un.1 h).2.1.2.2.1, fun p hp => ⟨⟨hwh.2, ((un.1 h).2.1.2.2.2 p hp).1⟩, ((un.1 h).2.1.2.2.2 p hp).2⟩⟩; cases this⟩, Nat.zero_le _, Nat.zero_le _, Nat.le_refl _, Nat.le_refl _⟩ (Upd.drop s.u u9 (fun b hb => by rw [List.mem_singleton.1 hb]; exact s.n2))
      | true =>
        have hpo := ht2.1 rfl
        (repeat first | refine HReg.step ?_ | refine HCode.step ?_)
        refine store_row s.o1 (v := .slice none 0 0) rfl (i := 5) (by decide) (by rfl) fun H' o' u' => ?_
        have s : BrS H b1 b2 { x with ks := [], ak := none, ck := 0 } H' := s.set (y' := { x with ks := [], ak := none, ck := 0 }) o' u'
        (repeat first | refine HReg.step ?_ | refine HCode.step ?_)
        refine store_row s.o1 (v := .slice none 0 0) rfl (i := 4) (by decide) (by rfl) fun H' o' u' => ?_
        have s : BrS H b1 b2 { x with ks := [], ak := none, ck := 0, ps := [], ap := none, cp := 0 } H' := s.set (y' := { x with ks := [], ak := none, ck := 0, ps := [], ap := none, cp := 0 }) o' u'
        (repeat first | refine HReg.step ?_ | refine HCode.step ?_)
        refine HLoad.one (v := .int .u64 (x.id : Int)) (by exact s.o1.rows.get (i := 3) rfl) ?_
        (repeat first | refine HReg.step ?_ | refine HCode.step ?_)
        refine HCall.mk ⟨Tryz.f42, Tryz.func42, by rfl, by rfl⟩ ?_
        refine one_t fun t8 ht8 => ?_
        (repeat first | refine HReg.step ?_ | refine HCode.step ?_)
        refine store_row s.o1 (v := .int .u64 0) rfl (i := 3) (by decide) (by rfl) fun H' o' u' => ?_
        have s : BrS H b1 b2 { x with ks := [], ak := none, ck := 0, ps := [], ap := none, cp := 0, id := 0 } H' := s.set (y' := { x with ks := [], ak := none, ck := 0, ps := [], ap := none, cp := 0, id := 0 }) o' u'
        (repeat first | refine HReg.step ?_ | refine HCode.step ?_)
        refine HLoadN_row s.o1.rows rfl ?_
        (repeat first | refine HReg.step ?_ | refine HCode.step ?_)
        refine store_msg (x := { x with ks := [], ak := none, ck := 0, ps := [], ap := none, cp := 0, id := 0 }) s.o2 rfl fun H9 o9 u9 => ?_
        (repeat first | refine HReg.step ?_ | refine HCode.step ?_)
        refine HLoadN_row o9.rows rfl ?_
        exact hk t8 { x with ks := [], ak := none, ck := 0, ps := [], ap := none, cp := 0, id := 0 } H9 ⟨⟨fun h => un.2 ⟨ht8.1 h.1, ⟨hwh, hpo.1, hpo.2.1, fun p hp => ⟨(hpo.2.2 p hp).1.2, (hpo.2.2 p hp).2⟩⟩, h.2.2.2.2⟩, fun h => ⟨ht8.2 (un.1 h).1, rfl, rfl, rfl, (un.1 h).2.2⟩⟩, Nat.zero_le _, Nat.zero_le _, Nat.le_refl _, Nat.le_refl _⟩ (Upd.drop s.u u9 (fun b hb => by rw [List.mem_singleton.1 hb]; exact s.n2))
  have h1 := eqB_false.1 h1
  (repeat first | refine HReg.step ?_ | refine HCode.step ?_)
  by_cases h2 : x.kind = 2
  · have un := kindc (.inl h2)
    rw [show eqB x.kind 2 = true from eqB_true.2 h2]
    (repeat first | refine HReg.step ?_ | refine HCode.step ?_)
    refine HLoad.one (v := .int .u64 (x.id : Int)) (by exact s.o1.rows.get (i := 3) rfl) ?_
    (repeat first | refine HReg.step ?_ | refine HCode.step ?_)
    refine HCall.mk ⟨Tryz.f42, Tryz.func42, by rfl, by rfl⟩ ?_
    refine one_t fun t8 ht8 => ?_
    (repeat first | refine HReg.step ?_ | refine HCode.step ?_)
    refine store_row s.o1 (v := .int .u64 0) rfl (i := 3) (by decide) (by rfl) fun H' o' u' => ?_
    have s : BrS H b1 b2 { x with id := 0 } H' := s.set (y' := { x with id := 0 }) o' u'
    (repeat first | refine HReg.step ?_ | refine HCode.step ?_)
    refine HLoadN_row s.o1.rows rfl ?_
    (repeat first | refine HReg.step ?_ | refine HCode.step ?_)
    refine store_msg (x := { x with id := 0 }) s.o2 rfl fun H9 o9 u9 => ?_
    (repeat first | refine HReg.step ?_ | refine HCode.step ?_)
    refine HLoadN_row o9.rows rfl ?_
    exact hk t8 { x with id := 0 } H9 ⟨⟨fun h => un.2 ⟨ht8.1 h.1, h.2.2⟩, fun h => ⟨ht8.2 (un.1 h).1, rfl, (un.1 h).2⟩⟩, Nat.le_refl _, Nat.le_refl _, Nat.le_refl _, Nat.le_refl _⟩ (Upd.drop s.u u9 (fun b hb => by rw [List.mem_singleton.1 hb]; exact s.n2))
  rw [show eqB x.kind 2 = false from eqB_false.2 h2]
  (repeat first | refine HReg.step ?_ | refine HCode.step ?_)
  by_cases h5 : x.kind = 5
  · have un := kindc (.inr (.inl h5))
    rw [show eqB x.kind 5 = true from eqB_true.2 h5]
    (repeat first | refine HReg.step ?_ | refine HCode.step ?_)
    refine HLoad.one (v := .int .u64 (x.id : Int)) (by exact s.o1.rows.get (i := 3) rfl) ?_
    (repeat first | refine HReg.step ?_ | refine HCode.step ?_)
    refine HCall.mk ⟨Tryz.f42, Tryz.func42, by rfl, by rfl⟩ ?_
    refine one_t fun t8 ht8 => ?_
    (repeat first | refine HReg.step ?_ | refine HCode.step ?_)
    refine store_row s.o1 (v := .int .u64 0) rfl (i := 3) (by decide) (by rfl) fun H' o' u' => ?_
    have s : BrS H b1 b2 { x with id := 0 } H' := s.set (y' := { x with id := 0 }) o' u'
    (repeat first | refine HReg.step ?_ | refine HCode.step ?_)
    refine HLoadN_row s.o1.rows rfl ?_
    (repeat first | refine HReg.step ?_ | refine HCode.step ?_)
    refine store_msg (x := { x with id := 0 }) s.o2 rfl fun H9 o9 u9 => ?_
    (repeat first | refine HReg.step ?_ | refine HCode.step ?_)
    refine HLoadN_row o9.rows rfl ?_
    exact hk t8 { x with id := 0 } H9 ⟨⟨fun h => un.2 ⟨ht8.1 h.1, h.2.2⟩, fun h => ⟨ht8.2 (un.1 h).1, rfl, (un.1 h).2⟩⟩, Nat.le_refl _, Nat.le_refl _, Nat.le_refl _, Nat.le_refl _⟩ (Upd.drop s.u u9 (fun b hb => by rw [List.mem_singleton.1 hb]; exact s.n2))
  rw [show eqB x.kind 5 = false from eqB_false.2 h5]
  (repeat first | refine HReg.step ?_ | refine HCode.step ?_)
  by_cases h6 : x.kind = 6
  · have un := kindc (.inr (.inr (.inl h6)))
    rw [show eqB x.kind 6 = true from eqB_true.2 h6]
    (repeat first | refine HReg.step ?_ | refine HCode.step ?_)
    refine HLoad.one (v := .int .u64 (x.id : Int)) (by exact s.o1.rows.get (i := 3) rfl) ?_
    (repeat first | refine HReg.step ?_ | refine HCode.step ?_)
    refine HCall.mk ⟨Tryz.f42, Tryz.func42, by rfl, by rfl⟩ ?_
    refine one_t fun t8 ht8 => ?_
    (repeat first | refine HReg.step ?_ | refine HCode.step ?_)
    refine store_row s.o1 (v := .int .u64 0) rfl (i := 3) (by decide) (by rfl) fun H' o' u' => ?_
    have s : BrS H b1 b2 { x with id := 0 } H' := s.set (y' := { x with id := 0 }) o' u'
    (repeat first | refine HReg.step ?_ | refine HCode.step ?_)
    refine HLoadN_row s.o1.rows rfl ?_
    (repeat first | refine HReg.step ?_ | refine HCode.step ?_)
    refine store_msg (x := { x with id := 0 }) s.o2 rfl fun H9 o9 u9 => ?_
    (repeat first | refine HReg.step ?_ | refine HCode.step ?_)
    refine HLoadN_row o9.rows rfl ?_
    exact hk t8 { x with id := 0 } H9 ⟨⟨fun h => un.2 ⟨ht8.1 h.1, h.2.2⟩, fun h => ⟨ht8.2 (un.1 h).1, rfl, (un.1 h).2⟩⟩, Nat.le_refl _, Nat.le_refl _, Nat.le_refl _, Nat.le_refl _⟩ (Upd.drop s.u u9 (fun b hb => by rw [List.mem_singleton.1 hb]; exact s.n2))
  rw [show eqB x.kind 6 = false from eqB_false.2 h6]
  (repeat first | refine HReg.step ?_ | refine HCode.step ?_)
  by_cases h8 : x.kind = 8
  · have un := kindc (.inr (.inr (.inr h8)))
    rw [show eqB x.kind 8 = true from eqB_true.2 h8]
    (repeat first | refine HReg.step ?_ | refine HCode.step ?_)
    refine HLoad.one (v := .int .u64 (x.id : Int)) (by exact s.o1.rows.get (i := 3) rfl) ?_
    (repeat first | refine HReg.step ?_ | refine HCode.step ?_)
    refine HCall.mk ⟨Tryz.f42, Tryz.func42, by rfl, by rfl⟩ ?_
    refine one_t fun t8 ht8 => ?_
    (repeat first | refine HReg.step ?_ | refine HCode.step ?_)
    refine store_row s.o1 (v := .int .u64 0) rfl (i := 3) (by decide) (by rfl) fun H' o' u' => ?_
    have s : BrS H b1 b2 { x with id := 0 } H' := s.set (y' := { x with id := 0 }) o' u'
    (repeat first | refine HReg.step ?_ | refine HCode.step ?_)
    refine HLoadN_row s.o1.rows rfl ?_
    (repeat first | refine HReg.step ?_ | refine HCode.step ?_)
    refine store_msg (x := { x with id := 0 }) s.o2 rfl fun H9 o9 u9 => ?_
    (repeat first | refine HReg.step ?_ | refine HCode.step ?_)
    refine HLoadN_row o9.rows rfl ?_
    exact hk t8 { x with id := 0 } H9 ⟨⟨fun h => un.2 ⟨ht8.1 h.1, h.2.2⟩, fun h => ⟨ht8.2 (un.1 h).1, rfl, (un.1 h).2⟩⟩, Nat.le_refl _, Nat.le_refl _, Nat.le_refl _, Nat.le_refl _⟩ (Upd.drop s.u u9 (fun b hb => by rw [List.mem_singleton.1 hb]; exact s.n2))
  rw [show eqB x.kind 8 = false from eqB_false.2 h8]
  (repeat first | refine HReg.step ?_ | refine HCode.step ?_)
  by_cases h3 : x.kind = 3
  · have un := kind3 h3
    rw [show eqB x.kind 3 = true from eqB_true.2 h3]
    (repeat first | refine HReg.step ?_ | refine HCode.step ?_)
    refine HLoad.one (v := .slice x.ak x.ks.length x.ck) (by exact s.o1.rows.get (i := 5) rfl) ?_
    (repeat first | refine HReg.step ?_ | refine HCode.step ?_)
    refine HCall.mk ⟨Tryz.f43, Tryz.func43, by rfl, by rfl⟩ ?_
    refine valid_t (hx.upd0 s.u).rk rfl fun t H3 ht u3 => ?_
    have s := s.upd0 u3
    (repeat first | refine HReg.step ?_ | refine HCode.step ?_)
    refine store_row s.o1 (v := .slice none 0 0) rfl (i := 5) (by decide) (by rfl) fun H' o' u' => ?_
    have s : BrS H b1 b2 { x with ks := [], ak := none, ck := 0 } H' := s.set (y' := { x with ks := [], ak := none, ck := 0 }) o' u'
    (repeat first | refine HReg.step ?_ | refine HCode.step ?_)
    refine HLoadN_row s.o1.rows rfl ?_
    (repeat first | refine HReg.step ?_ | refine HCode.step ?_)
    refine store_msg (x := { x with ks := [], ak := none, ck := 0 }) s.o2 rfl fun H9 o9 u9 => ?_
    (repeat first | refine HReg.step ?_ | refine HCode.step ?_)
    refine HLoadN_row o9.rows rfl ?_
    exact hk t { x with ks := [], ak := none, ck := 0 } H9 ⟨⟨fun h => un.2 ⟨h.2.1, ht.1 h.1, h.2.2.1, h.2.2.2.2⟩, fun h => ⟨ht.2 (un.1 h).2.1, (un.1 h).1, (un.1 h).2.2.1, rfl, (un.1 h).2.2.2⟩⟩, Nat.le_refl _, Nat.zero_le _, Nat.le_refl _, Nat.le_refl _⟩ (Upd.drop s.u u9 (fun b hb => by rw [List.mem_singleton.1 hb]; exact s.n2))
  rw [show eqB x.kind 3 = false from eqB_false.2 h3]
  (repeat first | refine HReg.step ?_ | refine HCode.step ?_)
  by_cases h4 : x.kind = 4
  · have un := kind4 h4
    rw [show eqB x.kind 4 = true from eqB_true.2 h4]
    (repeat first | refine HReg.step ?_ | refine HCode.step ?_)
    refine HLoad.one (v := .slice x.aw x.ws.length x.cw) (by exact s.o1.rows.get (i := 6) rfl) ?_
    (repeat first | refine HReg.step ?_ | refine HCode.step ?_)
    refine HCall.mk ⟨Tryz.f44, Tryz.func44, by rfl, by rfl⟩ ?_
    refine wants_t (hx.upd0 s.u).rw rfl hx.nw fun t H3 ht u3 => ?_
    have s := s.upd0 u3
    (repeat first | refine HReg.step ?_ | refine HCode.step ?_)
    refine store_row s.o1 (v := .slice none 0 0) rfl (i := 6) (by decide) (by rfl) fun H' o' u' => ?_
    have s : BrS H b1 b2 { x with ws := [], aw := none, cw := 0 } H' := s.set (y' := { x with ws := [], aw := none, cw := 0 }) o' u'
    (repeat first | refine HReg.step ?_ | refine HCode.step ?_)
    refine HLoadN_row s.o1.rows rfl ?_
    (repeat first | refine HReg.step ?_ | refine HCode.step ?_)
    refine store_msg (x := { x with ws := [], aw := none, cw := 0 }) s.o2 rfl fun H9 o9 u9 => ?_
    (repeat first | refine HReg.step ?_ | refine HCode.step ?_)
    refine HLoadN_row o9.rows rfl ?_
    exact hk t { x with ws := [], aw := none, cw := 0 } H9 ⟨⟨fun h => un.2 ⟨h.2.1, ht.1 h.1, h.2.2.1, h.2.2.2.1, h.2.2.2.2.2⟩, fun h => ⟨ht.2 (un.1 h).2.1, (un.1 h).1, (un.1 h).2.2.1, (un.1 h).2.2.2.1, rfl, (un.1 h).2.2.2.2⟩⟩, Nat.le_refl _, Nat.le_refl _, Nat.zero_le _, Nat.le_refl _⟩ (Upd.drop s.u u9 (fun b hb => by rw [List.mem_singleton.1 hb]; exact s.n2))
  rw [show eqB x.kind 4 = false from eqB_false.2 h4]
  (repeat first | refine HReg.step ?_ | refine HCode.step ?_)
  by_cases h7 : x.kind = 7
  · have un := kind7 h7
    rw [show eqB x.kind 7 = true from eqB_true.2 h7]
    (repeat first | refine HReg.step ?_ | refine HCode.step ?_)
    refine HLoad.one (v := .slice x.av x.vs.length x.cv) (by exact s.o1.rows.get (i := 7) rfl) ?_
    (repeat first | refine HReg.step ?_ | refine HCode.step ?_)
    by_cases hl1 : x.vs.length = 1
    · obtain ⟨v, hv⟩ : ∃ v, x.vs[0]? = some v := ⟨x.vs[0]'(by omega), by simp⟩
      have hvs : x.vs = [v] := by
        cases hq : x.vs with
        | nil => rw [hq] at hl1; cases hl1
        | cons y ys =>
          rw [hq] at hv hl1
          cases hv
          exact congrArg (v :: ·) (List.eq_nil_of_length_eq_zero (by simpa using hl1))
      have hvm := List.mem_of_getElem? hv
      rw [show eqB ((x.vs.length : Nat) : Int) 1 = true from eqB_true.2 (by omega)]
      (repeat first | refine HReg.step ?_ | refine HCode.step ?_)
      refine HLoad.one (v := .slice x.av x.vs.length x.cv) (by exact s.o1.rows.get (i := 7) rfl) ?_
      obtain ⟨bv, ov, hav, _⟩ := hx.rv _ _ (versV_get hv 0 _ rfl)
      rw [hav]
      (repeat first | refine HReg.step ?_ | refine HCode.step ?_)
      refine HReq.mk ⟨by omega, by omega⟩ ?_
      (repeat first | refine HReg.step ?_ | refine HCode.step ?_)
      have hrv := (hx.upd0 s.u).rv
      rw [hav] at hrv
      refine HLoadN_ver (i := 0) hrv hv ?_
      (repeat first | refine HReg.step ?_ | refine HCode.step ?_)
      refine HCall.mk ⟨Tryz.f45, Tryz.func45, by rfl, by rfl⟩ ?_
      refine content_t ((hx.upd0 s.u).vk v hvm) (hx.nvk v hvm) fun t H3 ht u3 => ?_
      have s := s.upd0 u3
      (repeat first | refine HReg.step ?_ | refine HCode.step ?_)
      refine store_row s.o1 (v := .slice none 0 0) rfl (i := 7) (by decide) (by rfl) fun H' o' u' => ?_
      have s : BrS H b1 b2 { x with vs := [], av := none, cv := 0 } H' := s.set (y' := { x with vs := [], av := none, cv := 0 }) o' u'
      (repeat first | refine HReg.step ?_ | refine HCode.step ?_)
      refine HLoadN_row s.o1.rows rfl ?_
      (repeat first | refine HReg.step ?_ | refine HCode.step ?_)
      refine store_msg (x := { x with vs := [], av := none, cv := 0 }) s.o2 rfl fun H9 o9 u9 => ?_
      (repeat first | refine HReg.step ?_ | refine HCode.step ?_)
      refine HLoadN_row o9.rows rfl ?_
      exact hk t { x with vs := [], av := none, cv := 0 } H9 ⟨⟨fun h => un.2 ⟨h.2.1, ⟨v, hvs, ht.1 h.1⟩, h.2.2.1, h.2.2.2.1, h.2.2.2.2.1⟩, fun h => ⟨ht.2 (by obtain ⟨w, hw, hc⟩ := (un.1 h).2.1; rw [hvs] at hw; cases hw; exact hc), (un.1 h).1, (un.1 h).2.2.1, (un.1 h).2.2.2.1, (un.1 h).2.2.2.2, rfl⟩⟩, Nat.le_refl _, Nat.le_refl _, Nat.le_refl _, Nat.zero_le _⟩ (Upd.drop s.u u9 (fun b hb => by rw [List.mem_singleton.1 hb]; exact s.n2))
    · rw [show eqB ((x.vs.length : Nat) : Int) 1 = false from eqB_false.2 (by omega)]
      (repeat first | refine HReg.step ?_ | refine HCode.step ?_)
      refine store_row s.o1 (v := .slice none 0 0) rfl (i := 7) (by decide) (by rfl) fun H' o' u' => ?_
      have s : BrS H b1 b2 { x with vs := [], av := none, cv := 0 } H' := s.set (y' := { x with vs := [], av := none, cv := 0 }) o' u'
      (repeat first | refine HReg.step ?_ | refine HCode.step ?_)
      refine HLoadN_row s.o1.rows rfl ?_
      (repeat first | refine HReg.step ?_ | refine HCode.step ?_)
      refine store_msg (x := { x with vs := [], av := none, cv := 0 }) s.o2 rfl fun H9 o9 u9 => ?_
      (repeat first | refine HReg.step ?_ | refine HCode.step ?_)
      refine HLoadN_row o9.rows rfl ?_
      exact hk false { x with vs := [], av := none, cv := 0 } H9 ⟨⟨fun h => (by cases h.1), fun h => by obtain ⟨w, hw, hc⟩ := (un.1 h).2.1; rw [hw] at hl1; exact absurd rfl hl1⟩, Nat.le_refl _, Nat.le_refl _, Nat.le_refl _, Nat.zero_le _⟩ (Upd.drop s.u u9 (fun b hb => by rw [List.mem_singleton.1 hb]; exact s.n2))
  rw [show eqB x.kind 7 = false from eqB_false.2 h7]
  (repeat first | refine HReg.step ?_ | refine HCode.step ?_)
  refine HLoadN_row s.o1.rows rfl ?_
  (repeat first | refine HReg.step ?_ | refine HCode.step ?_)
  refine store_msg (x := x) s.o2 rfl fun H9 o9 u9 => ?_
  (repeat first | refine HReg.step ?_ | refine HCode.step ?_)
  refine HLoadN_row o9.rows rfl ?_
  exact hk false x H9 ⟨⟨fun h => (by cases h.1), fun h => absurd h (kindno ⟨h1, h2, h5, h6, h8, h3, h4, h7⟩)⟩, Nat.le_refl _, Nat.le_refl _, Nat.le_refl _, Nat.le_refl _⟩ (Upd.drop s.u u9 (fun b hb => by rw [List.mem_singleton.1 hb]; exact s.n2))
theorem may_t {x : MsgA} (hx : MsgIn H x)
    (hk : ∀ (t : Bool) H', (t = true ↔ MayM x.m) → Upd [] H H' → K (.bool t) H') : HCalls Tryz.prog 11 [x.val] H K := by
  refine hcalls (fn := Tryz.f11) [] mixed Tryz.func11 rfl rfl (by decide +kernel) ?_
  (repeat first | refine HReg.step ?_ | refine HCode.step ?_)
  refine HNew.mk fun b1 hb1 => ?_
  have u1 : Upd [] H (H.upd b1 (.cells x.cells.toArray 30)) := Upd.new hb1 _
  have o1 : RowAt (H.upd b1 (.cells x.cells.toArray 30)) (some ⟨b1, 0, none⟩) x.cells := RowAt.of_cells (upd_same _ _ _)
  have hH' : H.upd b1 (.cells [Value.int .i64 x.kind, .int .i64 x.client, .int .u64 (x.req : Int), .int .u64 (x.id : Int), .slice x.ap x.ps.length x.cp, .slice x.ak x.ks.length x.ck, .slice x.aw x.ws.length x.cw, .slice x.av x.vs.length x.cv].toArray 30) = H.upd b1 (.cells x.cells.toArray 30) := rfl
  rw [hH']
  generalize hH1 : H.upd b1 (.cells x.cells.toArray 30) = H1 at u1 o1
  have hno : ¬ (0 ≤ x.client ∧ x.client < 16 ∧ 1 ≤ x.req) → K (.bool false) H1 := fun h => hk false H1 ⟨fun h => (by cases h), fun h' => absurd h'.1 h⟩ u1
  (repeat first | refine HReg.step ?_ | refine HCode.step ?_)
  refine HLoad.one (v := .int .i64 x.client) (by exact o1.get (i := 1) rfl) ?_
  (repeat first | refine HReg.step ?_ | refine HCode.step ?_)
  by_cases h1 : x.client < 0
  · rw [ltB_true.2 h1]
    (repeat first | refine HReg.step ?_ | refine HCode.step ?_)
    exact hno (by omega)
  rw [ltB_false.2 (Int.not_lt.1 h1)]
  (repeat first | refine HReg.step ?_ | refine HCode.step ?_)
  refine HLoad.one (v := .int .i64 x.client) (by exact o1.get (i := 1) rfl) ?_
  (repeat first | refine HReg.step ?_ | refine HCode.step ?_)
  refine hif (fun h2 => ?_) (fun h2 => ?_)
  · have h2 := not_ltB_true.1 h2
    (repeat first | refine HReg.step ?_ | refine HCode.step ?_)
    exact hno (by omega)
  have h2 := not_ltB_false.1 h2
  (repeat first | refine HReg.step ?_ | refine HCode.step ?_)
  refine HLoad.one (v := .int .u64 (x.req : Int)) (by exact o1.get (i := 2) rfl) ?_
  (repeat first | refine HReg.step ?_ | refine HCode.step ?_)
  refine hif (fun h3 => ?_) (fun h3 => ?_)
  · have h3 := ltB_true.1 h3
    (repeat first | refine HReg.step ?_ | refine HCode.step ?_)
    exact hno (by omega)
  have h3 := ltB_false.1 h3
  have hhead : 0 ≤ x.client ∧ x.client < 16 ∧ 1 ≤ x.req := ⟨by omega, h2, by omega⟩
  (repeat first | refine HReg.step ?_ | refine HCode.step ?_)
  refine HLoadN_row o1 rfl ?_
  (repeat first | refine HReg.step ?_ | refine HCode.step ?_)
  refine HCall.mk ⟨Tryz.f23, Tryz.func23, by rfl, by rfl⟩ ?_
  refine bare_t (hx.upd0 u1) fun t y H2 br u2 => ?_
  have u12 := u1.trans u2
  have b1' := br.lp
  have b2' := br.lk
  have b3' := br.lw
  have b4' := br.lv
  have c1' := hx.np
  have c2' := hx.nk
  have c3' := hx.nw
  have c4' := hx.nv
  have fin : ∀ (b : Bool) H', Upd [] H2 H' → (b = true ↔ (t = true ∧ y.id = 0 ∧ y.ps = [] ∧ y.ks = [] ∧ y.ws = [] ∧ y.vs = [])) → K (.bool b) H' := fun b H' u h =>
    hk b H' ⟨fun hb => ⟨hhead, br.iff.1 (h.1 hb)⟩, fun hm => h.2 (br.iff.2 hm.2)⟩ (u12.trans u)
  (repeat first | refine HReg.step ?_ | refine HCode.step ?_)
  refine HNew.mk fun b3 hb3 => ?_
  (repeat first | refine HReg.step ?_ | refine HCode.step ?_)
  refine store_msg (x := y) (OwnRow.lit (upd_same _ _ _) rfl) rfl fun H3 o3 u3 => ?_
  have u23 : Upd [] H2 H3 := Upd.drop (Upd.new hb3 _) u3 (fun x hx => by rw [List.mem_singleton.1 hx]; exact hb3)
  have r3 := o3.rows
  (repeat first | refine HReg.step ?_ | refine HCode.step ?_)
  cases t with
  | false =>
    (repeat first | refine HReg.step ?_ | refine HCode.step ?_)
    exact fin false H3 u23 ⟨fun h => (by cases h), fun h => (by cases h.1)⟩
  | true =>
    (repeat first | refine HReg.step ?_ | refine HCode.step ?_)
    refine HLoad.one (v := .int .u64 (y.id : Int)) (by exact r3.get (i := 3) rfl) ?_
    (repeat first | refine HReg.step ?_ | refine HCode.step ?_)
    by_cases h4 : y.id = 0
    · rw [show eqB ((y.id : Nat) : Int) 0 = true from eqB_true.2 (by omega)]
      have a1 : wr .i64 ((y.ps.length : Int) + (y.ks.length : Int)) = ((y.ps.length + y.ks.length : Nat) : Int) := by rw [wr_i64 (by omega) (by omega)]; omega
      have a2 : wr .i64 (((y.ps.length + y.ks.length : Nat) : Int) + (y.ws.length : Int)) = ((y.ps.length + y.ks.length + y.ws.length : Nat) : Int) := by rw [wr_i64 (by omega) (by omega)]; omega
      have a3 : wr .i64 (((y.ps.length + y.ks.length + y.ws.length : Nat) : Int) + (y.vs.length : Int)) = ((y.ps.length + y.ks.length + y.ws.length + y.vs.length : Nat) : Int) := by rw [wr_i64 (by omega) (by omega)]; omega
      (repeat first | refine HReg.step ?_ | refine HCode.step ?_)
      refine HLoad.one (v := .slice y.ap y.ps.length y.cp) (by exact r3.get (i := 4) rfl) ?_
      (repeat first | refine HReg.step ?_ | refine HCode.step ?_)
      refine HLoad.one (v := .slice y.ak y.ks.length y.ck) (by exact r3.get (i := 5) rfl) ?_
      (repeat first | refine HReg.step ?_ | refine HCode.step ?_)
      rw [a1]
      refine HLoad.one (v := .slice y.aw y.ws.length y.cw) (by exact r3.get (i := 6) rfl) ?_
      (repeat first | refine HReg.step ?_ | refine HCode.step ?_)
      rw [a2]
      refine HLoad.one (v := .slice y.av y.vs.length y.cv) (by exact r3.get (i := 7) rfl) ?_
      (repeat first | refine HReg.step ?_ | refine HCode.step ?_)
      rw [a3]
      refine fin _ H3 u23 ⟨fun h => ?_, fun h => ?_⟩
      · have h := eqB_true.1 h
        exact ⟨rfl, h4, List.eq_nil_of_length_eq_zero (by omega), List.eq_nil_of_length_eq_zero (by omega), List.eq_nil_of_length_eq_zero (by omega), List.eq_nil_of_length_eq_zero (by omega)⟩
      · rw [h.2.2.1, h.2.2.2.1, h.2.2.2.2.1, h.2.2.2.2.2]
        exact eqB_true.2 rfl
    · rw [show eqB ((y.id : Nat) : Int) 0 = false from eqB_false.2 (by omega)]
      (repeat first | refine HReg.step ?_ | refine HCode.step ?_)
      exact fin false H3 u23 ⟨fun h => (by cases h), fun h => absurd h.2.1 h4⟩
end
end Go.Proofs.YtlgncabjphokjaaGreat
