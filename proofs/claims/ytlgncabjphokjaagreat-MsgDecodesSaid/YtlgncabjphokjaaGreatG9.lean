import Derived.Test.YtlgncabjphokjaaGreatG8
namespace Go.Proofs.YtlgncabjphokjaaGreat
open Go Hv
set_option linter.unusedVariables false
set_option linter.unusedSimpArgs false
set_option maxRecDepth 10000
set_option maxHeartbeats 1000000
/-! Two messages compared. CUT2 -/
theorem bs_beq (a b : Txt) : ((bs a) == (bs b)) = decide (a = b) := by
  by_cases h : a = b
  · subst h
    rw [decide_eq_true rfl]
    show ((a.toArray : Array UInt8) == a.toArray) = true
    simp
  · rw [decide_eq_false h]
    show ((a.toArray : Array UInt8) == b.toArray) = false
    simp [h]
open Go.Op in
theorem eqs2 {P : Program} (d : Nat) {t : TypeId} (hu : P.underlying t = some .string) (a b : Txt) (w : World) : (Op.equalIn (d + 1) t (.string (bs a)) (.string (bs b))).run P w = .ok (decide (a = b)) w := by
  unfold Op.equalIn; simp [run_underlying hu]
  have := bs_beq a b
  rw [this]
open Go.Op in
theorem equ2 {P : Program} (d : Nat) {t : TypeId} (hu : P.underlying t = some (.int .u64)) (a b : Nat) (w : World) : (Op.equalIn (d + 1) t (.int .u64 (a : Int)) (.int .u64 (b : Int))).run P w = .ok (decide (a = b)) w := by
  unfold Op.equalIn; simp [run_underlying hu]
  by_cases h : a = b
  · simp [h]
  · simp [h]; omega
def pv (p : Txt × Txt) : Value := .agg [Value.string (bs p.1), .string (bs p.2)].toArray
def wv (p : Txt × Nat) : Value := .agg [Value.string (bs p.1), .int .u64 (p.2 : Int)].toArray
open Go.Op in
theorem pair_neq {x y : Operand} {p q : Txt × Txt} {K : Value → Prop} (hk : K (.bool (!decide (p = q)))) : HBin Tryz.prog .neq 50 x y (pv p) (pv q) K := by
  refine ⟨_, hk, fun w => ?_⟩
  have part0 : ∀ (a b : ByteArray) (w : World), (part 9 [Value.string a, .string b].toArray 0).run Tryz.prog w = .ok (.string a) w := fun a b w => by kernel_rfl
  have part1 : ∀ (a b : ByteArray) (w : World), (part 9 [Value.string a, .string b].toArray 1).run Tryz.prog w = .ok (.string b) w := fun a b w => by kernel_rfl
  have g : (eqGuard .neq 50 x y (pv p) (pv q)).run Tryz.prog w = .ok () w := by
    kernel_rfl
  have e := (binOp_eq_ 50 (pv p) (pv q) (by simp [pv]) (by simp [pv]) (by simp [pv]) (by simp [pv])).2
  rw [Sem.run_bind, g, Result.andThen_ok, e, Sem.run_bind]
  have : (Op.equalIn (9999 + 1) 50 (pv p) (pv q)).run Tryz.prog w = .ok (decide (p = q)) w := by
    unfold Op.equalIn
    rw [Sem.run_bind, run_underlying Tryz.underlying50, Result.andThen_ok]
    have hst : Tryz.prog.stoodInHeld 50 = false := by kernel_rfl
    have q1 := fun a b w => eqs2 (P := Tryz.prog) 9998 Tryz.underlying9 a b w
    obtain ⟨p1, p2⟩ := p
    obtain ⟨r1, r2⟩ := q
    simp only [pv]
    by_cases h1 : p1 = r1
    · by_cases h2 : p2 = r2
      · simp [program, hst, part0, part1, q1, Sem.run, h1, h2]
      · simp [program, hst, part0, part1, q1, Sem.run, h1, h2]
    · simp [program, hst, part0, part1, q1, Sem.run, h1]
  rw [this]; rfl
open Go.Op in
theorem want_neq {x y : Operand} {p q : Txt × Nat} {K : Value → Prop} (hk : K (.bool (!decide (p = q)))) : HBin Tryz.prog .neq 54 x y (wv p) (wv q) K := by
  refine ⟨_, hk, fun w => ?_⟩
  have part0 : ∀ (a : ByteArray) (b : Int) (w : World), (part 9 [Value.string a, .int .u64 b].toArray 0).run Tryz.prog w = .ok (.string a) w := fun a b w => by kernel_rfl
  have part1 : ∀ (a : ByteArray) (b : Int) (w : World), (part 24 [Value.string a, .int .u64 b].toArray 1).run Tryz.prog w = .ok (.int .u64 b) w := fun a b w => by kernel_rfl
  have g : (eqGuard .neq 54 x y (wv p) (wv q)).run Tryz.prog w = .ok () w := by
    kernel_rfl
  have e := (binOp_eq_ 54 (wv p) (wv q) (by simp [wv]) (by simp [wv]) (by simp [wv]) (by simp [wv])).2
  rw [Sem.run_bind, g, Result.andThen_ok, e, Sem.run_bind]
  have : (Op.equalIn (9999 + 1) 54 (wv p) (wv q)).run Tryz.prog w = .ok (decide (p = q)) w := by
    unfold Op.equalIn
    rw [Sem.run_bind, run_underlying Tryz.underlying54, Result.andThen_ok]
    have hst : Tryz.prog.stoodInHeld 54 = false := by kernel_rfl
    have q1 := fun a b w => eqs2 (P := Tryz.prog) 9998 Tryz.underlying9 a b w
    have q2 := fun a b w => equ2 (P := Tryz.prog) 9998 Tryz.underlying24 a b w
    obtain ⟨p1, p2⟩ := p
    obtain ⟨r1, r2⟩ := q
    simp only [wv]
    by_cases h1 : p1 = r1
    · by_cases h2 : p2 = r2
      · simp [program, hst, part0, part1, q1, q2, Sem.run, h1, h2]
      · simp [program, hst, part0, part1, q1, q2, Sem.run, h1, h2]
    · simp [program, hst, part0, part1, q1, q2, Sem.run, h1]
  rw [this]; rfl
structure StInv (l k : List Txt) (H : Heap) (m : Nat) (vs : List Value) (H' : Heap) : Prop where
  ex : ∃ i : Nat, vs = [.int .i64 (i : Int)] ∧ m + i = l.length ∧ H' = H ∧ l.take i = k.take i
section
variable {H : Heap} {K : Value → Heap → Prop}
theorem take_ne {α : Type} {l k : List α} {i : Nat} {x y : α} (hx : l[i]? = some x) (hy : k[i]? = some y) (h : x ≠ y) : l ≠ k := fun e => by
  rw [e, hy] at hx; exact h (Option.some.inj hx).symm
theorem take_eq_next {α : Type} {l k : List α} {i : Nat} {x : α} (hx : l[i]? = some x) (hy : k[i]? = some x) (h : l.take i = k.take i) : l.take (i + 1) = k.take (i + 1) := by
  rw [List.take_add_one, List.take_add_one, hx, hy, h]
theorem sameTexts_t {a b : Option Addr} {n m c d : Nat} {l k : List Txt} (hx : RowAt H a (txts l)) (hy : RowAt H b (txts k)) (hn : l.length = n) (hm : k.length = m) (hlim : n ≤ 9000000000000000000)
    (hk : K (.bool (decide (l = k))) H) : HCalls Tryz.prog 16 [.slice a n c, .slice b m d] H K := by
  refine hcalls (fn := Tryz.f16) [(6, [(0, 0), (1, 0), (2, 0), (3, 0), (4, 0), (5, 0), (6, 0), (7, 0), (8, 0)])] mixed Tryz.func16 rfl rfl (by decide +kernel) ?_
  subst hn hm
  (repeat first | refine HReg.step ?_ | refine HCode.step ?_)
  by_cases hl : l.length = k.length
  · rw [show eqB ((l.length : Nat) : Int) ((k.length : Nat) : Int) = true from eqB_true.2 (by omega)]
    (repeat first | refine HReg.step ?_ | refine HCode.step ?_)
    refine hloopC [4, 5, 11, 12, 13, 14, 15, 16, 17, 18, 19, 20, 21, 22, 23, 24, 25] [5] (StInv l k H) rfl (by repeat' first | exact Resp.retD | exact Resp1.valuesK | refine Resp.blockD ?_ | refine Resp.thenD ?_ ?_ | refine Resp.hcode ?_) ?_ ?_
    · exact ⟨l.length, StInv.mk ⟨0, rfl, rfl, rfl, rfl⟩⟩
    rintro q _ fe H1 ⟨i, rfl, hmi, rfl, ht⟩
    have w2 : wr .i64 ((i : Int) + 1) = ((i + 1 : Nat) : Int) := by rw [wr_i64 (by omega) (by omega)]; omega
    (repeat first | refine HReg.step ?_ | refine HCode.step ?_)
    refine hif (fun h1 => ?_) (fun h1 => ?_)
    · have h1 := ltB_true.1 h1
      obtain ⟨s, hs⟩ : ∃ s, l[i]? = some s := ⟨l[i]'(by omega), by simp⟩
      obtain ⟨s', hs'⟩ : ∃ s, k[i]? = some s := ⟨k[i]'(by omega), by simp⟩
      obtain ⟨ba, bo, rfl, _⟩ := hx i _ (txts_get hs)
      obtain ⟨bb, bo2, rfl, _⟩ := hy i _ (txts_get hs')
      (repeat first | refine HReg.step ?_ | refine HCode.step ?_)
      refine HReq.mk ⟨by omega, by omega⟩ ?_
      (repeat first | refine HReg.step ?_ | refine HCode.step ?_)
      refine HLoad.one (v := .string (bs s)) (by exact hx.get (txts_get hs)) ?_
      (repeat first | refine HReg.step ?_ | refine HCode.step ?_)
      refine HReq.mk ⟨by omega, by omega⟩ ?_
      (repeat first | refine HReg.step ?_ | refine HCode.step ?_)
      refine HLoad.one (v := .string (bs s')) (by exact hy.get (txts_get hs')) ?_
      (repeat first | refine HReg.step ?_ | refine HCode.step ?_)
      rw [seqB_bs]
      by_cases he : s = s'
      · rw [decide_eq_true he]
        subst he
        (repeat first | refine HReg.step ?_ | refine HCode.step ?_)
        rw [w2]
        exact ⟨q - 1, by omega, StInv.mk ⟨i + 1, rfl, by omega, rfl, take_eq_next hs hs' ht⟩⟩
      · rw [decide_eq_false he]
        rw [decide_eq_false (take_ne hs hs' he)] at hk
        (repeat first | refine HReg.step ?_ | refine HCode.step ?_)
        exact hk
    · have h1 := ltB_false.1 h1
      have e : l = k := by
        rw [List.take_of_length_le (by omega), List.take_of_length_le (by omega)] at ht; exact ht
      rw [decide_eq_true e] at hk
      (repeat first | refine HReg.step ?_ | refine HCode.step ?_)
      exact hk
  · rw [show eqB ((l.length : Nat) : Int) ((k.length : Nat) : Int) = false from eqB_false.2 (by omega)]
    rw [decide_eq_false (fun e => hl (by rw [e]))] at hk
    (repeat first | refine HReg.step ?_ | refine HCode.step ?_)
    exact hk
structure SpInv2 (l k : List (Txt × Txt)) (H : Heap) (m : Nat) (vs : List Value) (H' : Heap) : Prop where
  ex : ∃ i : Nat, vs = [.int .i64 (i : Int)] ∧ m + i = l.length ∧ H' = H ∧ l.take i = k.take i
structure SwInv2 (l k : List (Txt × Nat)) (H : Heap) (m : Nat) (vs : List Value) (H' : Heap) : Prop where
  ex : ∃ i : Nat, vs = [.int .i64 (i : Int)] ∧ m + i = l.length ∧ H' = H ∧ l.take i = k.take i
theorem HLoadN_ver3 {H H' H'' : Heap} {b off i : Nat} {xs : List VerA} {x : VerA} {K : List Value → Prop} (h : RowAt H (some ⟨b, off, none⟩) (versV xs)) (h' : RowAt H' (some ⟨b, off, none⟩) (versV xs)) (h'' : RowAt H'' (some ⟨b, off, none⟩) (versV xs)) (hx : xs[i]? = some x) (hk : K x.cells) : HLoadN [H, H', H''] b (off + i * 4) 4 K :=
  ⟨x.cells, fun Hx hH j v hv => by
    rw [Nat.add_assoc]
    simp only [List.mem_cons, List.not_mem_nil, or_false] at hH
    rcases hH with rfl | rfl | rfl
    · exact h.get (versV_get hx j v hv)
    · exact h'.get (versV_get hx j v hv)
    · exact h''.get (versV_get hx j v hv), rfl, hk⟩
theorem HLoadN_ver4 {H H' H'' H3 : Heap} {b off i : Nat} {xs : List VerA} {x : VerA} {K : List Value → Prop} (h : RowAt H (some ⟨b, off, none⟩) (versV xs)) (h' : RowAt H' (some ⟨b, off, none⟩) (versV xs)) (h'' : RowAt H'' (some ⟨b, off, none⟩) (versV xs)) (h3 : RowAt H3 (some ⟨b, off, none⟩) (versV xs)) (hx : xs[i]? = some x) (hk : K x.cells) : HLoadN [H, H', H'', H3] b (off + i * 4) 4 K :=
  ⟨x.cells, fun Hx hH j v hv => by
    rw [Nat.add_assoc]
    simp only [List.mem_cons, List.not_mem_nil, or_false] at hH
    rcases hH with rfl | rfl | rfl | rfl
    · exact h.get (versV_get hx j v hv)
    · exact h'.get (versV_get hx j v hv)
    · exact h''.get (versV_get hx j v hv)
    · exact h3.get (versV_get hx j v hv), rfl, hk⟩
structure SvJ (H3 : Heap) (v w : VerA) (vs : List Value) (H' : Heap) : Prop where
  ex : ∃ b8 b9 : Nat, vs = [.pointer (some ⟨b8, 0, none⟩), .pointer (some ⟨b9, 0, none⟩)] ∧ Upd [] H3 H' ∧ RowAt H' (some ⟨b8, 0, none⟩) v.cells ∧ RowAt H' (some ⟨b9, 0, none⟩) w.cells
structure SvInv2 (l k : List VerA) (H : Heap) (m : Nat) (vs : List Value) (H' : Heap) : Prop where
  ex : ∃ i : Nat, vs = [.int .i64 (i : Int)] ∧ m + i = l.length ∧ Upd [] H H' ∧ (l.map VerA.v).take i = (k.map VerA.v).take i
theorem same_t2 {x y : MsgA} (hx : MsgIn H x) (hy : MsgIn H y)
    (hk : ∀ (t : Bool) H', (t = true ↔ x.m = y.m) → Upd [] H H' → K (.bool t) H') : HCalls Tryz.prog 7 [x.val, y.val] H K := by
  refine hcalls (fn := Tryz.f7) [(8, [(0, 0), (1, 0), (2, 0), (3, 0), (4, 0), (5, 0), (6, 0), (7, 0), (8, 0), (9, 0), (10, 0)]), (13, [(0, 0), (1, 0), (2, 0), (3, 0), (4, 0), (5, 0), (6, 0), (7, 0), (8, 0), (9, 0), (10, 0)]), (18, [(10, 0), (11, 0), (0, 2), (1, 2), (2, 2), (3, 2), (4, 2), (12, 0), (5, 3), (6, 3), (7, 3), (8, 3), (9, 3), (13, 0)]), (1018, [(11, 0), (10, 0), (0, 2), (1, 2), (2, 2), (3, 2), (4, 2), (12, 0), (5, 3), (6, 3), (7, 3), (8, 3), (9, 3), (13, 0)]), (2018, [(10, 11)])] mixed Tryz.func7 rfl rfl (by decide +kernel) ?_
  (repeat first | refine HReg.step ?_ | refine HCode.step ?_)
  refine HNew.mk fun b1 hb1 => ?_
  have u1 : Upd [] H (H.upd b1 (.cells x.cells.toArray 30)) := Upd.new hb1 _
  have o1 : RowAt (H.upd b1 (.cells x.cells.toArray 30)) (some ⟨b1, 0, none⟩) x.cells := RowAt.of_cells (upd_same _ _ _)
  have hH' : H.upd b1 (.cells [Value.int .i64 x.kind, .int .i64 x.client, .int .u64 (x.req : Int), .int .u64 (x.id : Int), .slice x.ap x.ps.length x.cp, .slice x.ak x.ks.length x.ck, .slice x.aw x.ws.length x.cw, .slice x.av x.vs.length x.cv].toArray 30) = H.upd b1 (.cells x.cells.toArray 30) := rfl
  rw [hH']
  generalize hH1 : H.upd b1 (.cells x.cells.toArray 30) = H1 at u1 o1
  (repeat first | refine HReg.step ?_ | refine HCode.step ?_)
  refine HNew.mk fun b2 hb2 => ?_
  have u2 : Upd [] H1 (H1.upd b2 (.cells y.cells.toArray 30)) := Upd.new hb2 _
  have o2 : RowAt (H1.upd b2 (.cells y.cells.toArray 30)) (some ⟨b2, 0, none⟩) y.cells := RowAt.of_cells (upd_same _ _ _)
  have hH'' : H1.upd b2 (.cells [Value.int .i64 y.kind, .int .i64 y.client, .int .u64 (y.req : Int), .int .u64 (y.id : Int), .slice y.ap y.ps.length y.cp, .slice y.ak y.ks.length y.ck, .slice y.aw y.ws.length y.cw, .slice y.av y.vs.length y.cv].toArray 30) = H1.upd b2 (.cells y.cells.toArray 30) := rfl
  rw [hH'']
  generalize hH2 : H1.upd b2 (.cells y.cells.toArray 30) = H2 at u2 o2
  have o1 := o1.upd (S := []) u2 (.inr (Off.nil _))
  have u := u1.trans u2
  have hx2 := hx.upd0 u
  have hy2 := hy.upd0 u
  clear hH' hH'' hH1 hH2 u1 u2
  have no : ∀ H', Upd [] H2 H' → x.m ≠ y.m → K (.bool false) H' := fun H' u' h => hk false H' ⟨fun h => (by cases h), fun h' => absurd h' h⟩ (u.trans u')
  (repeat first | refine HReg.step ?_ | refine HCode.step ?_)
  refine HLoad.one (v := .int .i64 x.kind) (by exact o1.get (i := 0) rfl) ?_
  (repeat first | refine HReg.step ?_ | refine HCode.step ?_)
  refine HLoad.one (v := .int .i64 y.kind) (by exact o2.get (i := 0) rfl) ?_
  (repeat first | refine HReg.step ?_ | refine HCode.step ?_)
  by_cases c0 : x.kind = y.kind
  case neg =>
    rw [show eqB x.kind y.kind = false from eqB_false.2 (by omega)]
    (repeat first | refine HReg.step ?_ | refine HCode.step ?_)
    exact no H2 (Upd.refl _ _) (fun e => c0 (congrArg Msg.kind e))
  rw [show eqB x.kind y.kind = true from eqB_true.2 (by omega)]
  (repeat first | refine HReg.step ?_ | refine HCode.step ?_)
  refine HLoad.one (v := .int .i64 x.client) (by exact o1.get (i := 1) rfl) ?_
  (repeat first | refine HReg.step ?_ | refine HCode.step ?_)
  refine HLoad.one (v := .int .i64 y.client) (by exact o2.get (i := 1) rfl) ?_
  (repeat first | refine HReg.step ?_ | refine HCode.step ?_)
  by_cases c1 : x.client = y.client
  case neg =>
    rw [show eqB x.client y.client = false from eqB_false.2 (by omega)]
    (repeat first | refine HReg.step ?_ | refine HCode.step ?_)
    exact no H2 (Upd.refl _ _) (fun e => c1 (congrArg Msg.client e))
  rw [show eqB x.client y.client = true from eqB_true.2 (by omega)]
  (repeat first | refine HReg.step ?_ | refine HCode.step ?_)
  refine HLoad.one (v := .int .u64 ((x.req : Nat) : Int)) (by exact o1.get (i := 2) rfl) ?_
  (repeat first | refine HReg.step ?_ | refine HCode.step ?_)
  refine HLoad.one (v := .int .u64 ((y.req : Nat) : Int)) (by exact o2.get (i := 2) rfl) ?_
  (repeat first | refine HReg.step ?_ | refine HCode.step ?_)
  by_cases c2 : x.req = y.req
  case neg =>
    rw [show eqB ((x.req : Nat) : Int) ((y.req : Nat) : Int) = false from eqB_false.2 (by omega)]
    (repeat first | refine HReg.step ?_ | refine HCode.step ?_)
    exact no H2 (Upd.refl _ _) (fun e => c2 (congrArg Msg.req e))
  rw [show eqB ((x.req : Nat) : Int) ((y.req : Nat) : Int) = true from eqB_true.2 (by omega)]
  (repeat first | refine HReg.step ?_ | refine HCode.step ?_)
  refine HLoad.one (v := .int .u64 ((x.id : Nat) : Int)) (by exact o1.get (i := 3) rfl) ?_
  (repeat first | refine HReg.step ?_ | refine HCode.step ?_)
  refine HLoad.one (v := .int .u64 ((y.id : Nat) : Int)) (by exact o2.get (i := 3) rfl) ?_
  (repeat first | refine HReg.step ?_ | refine HCode.step ?_)
  by_cases c3 : x.id = y.id
  case neg =>
    rw [show eqB ((x.id : Nat) : Int) ((y.id : Nat) : Int) = false from eqB_false.2 (by omega)]
    (repeat first | refine HReg.step ?_ | refine HCode.step ?_)
    exact no H2 (Upd.refl _ _) (fun e => c3 (congrArg Msg.id e))
  rw [show eqB ((x.id : Nat) : Int) ((y.id : Nat) : Int) = true from eqB_true.2 (by omega)]
  (repeat first | refine HReg.step ?_ | refine HCode.step ?_)
  refine HLoad.one (v := .slice x.ak x.ks.length x.ck) (by exact o1.get (i := 5) rfl) ?_
  (repeat first | refine HReg.step ?_ | refine HCode.step ?_)
  refine HLoad.one (v := .slice y.ak y.ks.length y.ck) (by exact o2.get (i := 5) rfl) ?_
  (repeat first | refine HReg.step ?_ | refine HCode.step ?_)
  refine HCall.mk ⟨Tryz.f16, Tryz.func16, by rfl, by rfl⟩ ?_
  refine sameTexts_t hx2.rk hy2.rk rfl rfl (by have := hx.nk; omega) ?_
  by_cases ck : x.ks = y.ks
  case neg =>
    rw [decide_eq_false ck]
    (repeat first | refine HReg.step ?_ | refine HCode.step ?_)
    exact no H2 (Upd.refl _ _) (fun e => ck (congrArg Msg.ks e))
  rw [decide_eq_true ck]
  (repeat first | refine HReg.step ?_ | refine HCode.step ?_)
  refine HLoad.one (v := .slice x.ap x.ps.length x.cp) (by exact o1.get (i := 4) rfl) ?_
  (repeat first | refine HReg.step ?_ | refine HCode.step ?_)
  refine HLoad.one (v := .slice y.ap y.ps.length y.cp) (by exact o2.get (i := 4) rfl) ?_
  (repeat first | refine HReg.step ?_ | refine HCode.step ?_)
  by_cases cps : x.ps.length = y.ps.length
  case neg =>
    rw [show eqB ((x.ps.length : Nat) : Int) ((y.ps.length : Nat) : Int) = false from eqB_false.2 (by omega)]
    (repeat first | refine HReg.step ?_ | refine HCode.step ?_)
    exact no H2 (Upd.refl _ _) (fun e => cps (congrArg (fun m : Msg => m.ps.length) e))
  rw [show eqB ((x.ps.length : Nat) : Int) ((y.ps.length : Nat) : Int) = true from eqB_true.2 (by omega)]
  (repeat first | refine HReg.step ?_ | refine HCode.step ?_)
  refine HLoad.one (v := .slice x.aw x.ws.length x.cw) (by exact o1.get (i := 6) rfl) ?_
  (repeat first | refine HReg.step ?_ | refine HCode.step ?_)
  refine HLoad.one (v := .slice y.aw y.ws.length y.cw) (by exact o2.get (i := 6) rfl) ?_
  (repeat first | refine HReg.step ?_ | refine HCode.step ?_)
  by_cases cws : x.ws.length = y.ws.length
  case neg =>
    rw [show eqB ((x.ws.length : Nat) : Int) ((y.ws.length : Nat) : Int) = false from eqB_false.2 (by omega)]
    (repeat first | refine HReg.step ?_ | refine HCode.step ?_)
    exact no H2 (Upd.refl _ _) (fun e => cws (congrArg (fun m : Msg => m.ws.length) e))
  rw [show eqB ((x.ws.length : Nat) : Int) ((y.ws.length : Nat) : Int) = true from eqB_true.2 (by omega)]
  (repeat first | refine HReg.step ?_ | refine HCode.step ?_)
  refine HLoad.one (v := .slice x.av x.vs.length x.cv) (by exact o1.get (i := 7) rfl) ?_
  (repeat first | refine HReg.step ?_ | refine HCode.step ?_)
  refine HLoad.one (v := .slice y.av y.vs.length y.cv) (by exact o2.get (i := 7) rfl) ?_
  (repeat first | refine HReg.step ?_ | refine HCode.step ?_)
  by_cases cvs : x.vs.length = y.vs.length
  case neg =>
    rw [show eqB ((x.vs.length : Nat) : Int) ((y.vs.length : Nat) : Int) = false from eqB_false.2 (by omega)]
    (repeat first | refine HReg.step ?_ | refine HCode.step ?_)
    exact no H2 (Upd.refl _ _) (fun e => cvs (by have := congrArg (fun m : Msg => m.vs.length) e; simpa [MsgA.m] using this))
  rw [show eqB ((x.vs.length : Nat) : Int) ((y.vs.length : Nat) : Int) = true from eqB_true.2 (by omega)]
  (repeat first | refine HReg.step ?_ | refine HCode.step ?_)
  refine hloopC [4, 5, 69, 70, 71, 72, 73, 74, 75, 76, 77, 78, 79, 80, 81, 82, 83, 84, 85, 86] [5] (SpInv2 x.ps y.ps H2) rfl (by repeat' first | exact Resp.retD | exact Resp1.valuesK | refine Resp.blockD ?_ | refine Resp.thenD ?_ ?_ | refine Resp.hcode ?_) ?_ ?_
  · exact ⟨x.ps.length, SpInv2.mk ⟨0, rfl, rfl, rfl, rfl⟩⟩
  rintro q0 _ fe0 H3 ⟨i0, rfl, hm0, hH3, ht0⟩
  have hH3 := hH3.symm
  subst hH3
  (repeat first | refine HReg.step ?_ | refine HCode.step ?_)
  refine HLoad.one (v := .slice x.ap x.ps.length x.cp) (by exact o1.get (i := 4) rfl) ?_
  (repeat first | refine HReg.step ?_ | refine HCode.step ?_)
  refine hif (fun h1 => ?_) (fun h1 => ?_)
  · have h1 := ltB_true.1 h1
    have w2 : wr .i64 ((i0 : Int) + 1) = ((i0 + 1 : Nat) : Int) := by have := hx.np; rw [wr_i64 (by omega) (by omega)]; omega
    obtain ⟨s, hs⟩ : ∃ s, x.ps[i0]? = some s := ⟨x.ps[i0]'(by omega), by simp⟩
    obtain ⟨s', hs'⟩ : ∃ s, y.ps[i0]? = some s := ⟨y.ps[i0]'(by omega), by simp⟩
    have rx := hx2.rp
    have ry := hy2.rp
    obtain ⟨ba, bo, hax, _⟩ := rx _ _ (pairsV_get hs).1
    obtain ⟨bb, bo2, hay, _⟩ := ry _ _ (pairsV_get hs').1
    (repeat first | refine HReg.step ?_ | refine HCode.step ?_)
    refine HLoad.one (v := .slice x.ap x.ps.length x.cp) (by exact o1.get (i := 4) rfl) ?_
    rw [hax] at rx ⊢
    (repeat first | refine HReg.step ?_ | refine HCode.step ?_)
    refine HReq.mk ⟨by omega, by omega⟩ ?_
    (repeat first | refine HReg.step ?_ | refine HCode.step ?_)
    refine HLoadN_pair rx hs ?_
    (repeat first | refine HReg.step ?_ | refine HCode.step ?_)
    refine HLoad.one (v := .slice y.ap y.ps.length y.cp) (by exact o2.get (i := 4) rfl) ?_
    rw [hay] at ry ⊢
    (repeat first | refine HReg.step ?_ | refine HCode.step ?_)
    refine HReq.mk ⟨by omega, by omega⟩ ?_
    (repeat first | refine HReg.step ?_ | refine HCode.step ?_)
    refine HLoadN_pair ry hs' ?_
    (repeat first | refine HReg.step ?_ | refine HCode.step ?_)
    refine pair_neq (p := s) (q := s') ?_
    (repeat first | refine HReg.step ?_ | refine HCode.step ?_)
    by_cases he : s = s'
    · rw [decide_eq_true he]
      subst he
      (repeat first | refine HReg.step ?_ | refine HCode.step ?_)
      rw [w2]
      exact ⟨q0 - 1, by omega, SpInv2.mk ⟨i0 + 1, rfl, by omega, rfl, take_eq_next hs hs' ht0⟩⟩
    · rw [decide_eq_false he]
      (repeat first | refine HReg.step ?_ | refine HCode.step ?_)
      exact no _ (Upd.refl _ _) (fun e => take_ne hs hs' he (congrArg Msg.ps e))
  have h1 := ltB_false.1 h1
  have eps : x.ps = y.ps := by
    rw [List.take_of_length_le (by omega), List.take_of_length_le (by omega)] at ht0; exact ht0
  (repeat first | refine HReg.step ?_ | refine HCode.step ?_)
  refine hloopC [4, 6, 87, 88, 89, 90, 91, 92, 93, 94, 95, 96, 97, 98, 99, 100, 101, 102, 103, 104] [6] (SwInv2 x.ws y.ws H2) rfl (by repeat' first | exact Resp.retD | exact Resp1.valuesK | refine Resp.blockD ?_ | refine Resp.thenD ?_ ?_ | refine Resp.hcode ?_) ?_ ?_
  · exact ⟨x.ws.length, SwInv2.mk ⟨0, rfl, rfl, rfl, rfl⟩⟩
  rintro q1 _ fe1 H3 ⟨i1, rfl, hm1, hH3, ht1⟩
  have hH3 := hH3.symm
  subst hH3
  (repeat first | refine HReg.step ?_ | refine HCode.step ?_)
  refine HLoad.one (v := .slice x.aw x.ws.length x.cw) (by exact o1.get (i := 6) rfl) ?_
  (repeat first | refine HReg.step ?_ | refine HCode.step ?_)
  refine hif (fun h1 => ?_) (fun h1 => ?_)
  · have h1 := ltB_true.1 h1
    have w2 : wr .i64 ((i1 : Int) + 1) = ((i1 + 1 : Nat) : Int) := by have := hx.nw; rw [wr_i64 (by omega) (by omega)]; omega
    obtain ⟨s, hs⟩ : ∃ s, x.ws[i1]? = some s := ⟨x.ws[i1]'(by omega), by simp⟩
    obtain ⟨s', hs'⟩ : ∃ s, y.ws[i1]? = some s := ⟨y.ws[i1]'(by omega), by simp⟩
    have rx := hx2.rw
    have ry := hy2.rw
    obtain ⟨ba, bo, hax, _⟩ := rx _ _ (wantsV_get hs).1
    obtain ⟨bb, bo2, hay, _⟩ := ry _ _ (wantsV_get hs').1
    (repeat first | refine HReg.step ?_ | refine HCode.step ?_)
    refine HLoad.one (v := .slice x.aw x.ws.length x.cw) (by exact o1.get (i := 6) rfl) ?_
    rw [hax] at rx ⊢
    (repeat first | refine HReg.step ?_ | refine HCode.step ?_)
    refine HReq.mk ⟨by omega, by omega⟩ ?_
    (repeat first | refine HReg.step ?_ | refine HCode.step ?_)
    refine HLoadN_want rx hs ?_
    (repeat first | refine HReg.step ?_ | refine HCode.step ?_)
    refine HLoad.one (v := .slice y.aw y.ws.length y.cw) (by exact o2.get (i := 6) rfl) ?_
    rw [hay] at ry ⊢
    (repeat first | refine HReg.step ?_ | refine HCode.step ?_)
    refine HReq.mk ⟨by omega, by omega⟩ ?_
    (repeat first | refine HReg.step ?_ | refine HCode.step ?_)
    refine HLoadN_want ry hs' ?_
    (repeat first | refine HReg.step ?_ | refine HCode.step ?_)
    refine want_neq (p := s) (q := s') ?_
    (repeat first | refine HReg.step ?_ | refine HCode.step ?_)
    by_cases he : s = s'
    · rw [decide_eq_true he]
      subst he
      (repeat first | refine HReg.step ?_ | refine HCode.step ?_)
      rw [w2]
      exact ⟨q1 - 1, by omega, SwInv2.mk ⟨i1 + 1, rfl, by omega, rfl, take_eq_next hs hs' ht1⟩⟩
    · rw [decide_eq_false he]
      (repeat first | refine HReg.step ?_ | refine HCode.step ?_)
      exact no _ (Upd.refl _ _) (fun e => take_ne hs hs' he (congrArg Msg.ws e))
  have h1 := ltB_false.1 h1
  have ews : x.ws = y.ws := by
    rw [List.take_of_length_le (by omega), List.take_of_length_le (by omega)] at ht1; exact ht1
  (repeat first | refine HReg.step ?_ | refine HCode.step ?_)
  refine hloopC [4, 7, 8, 9, 105, 106, 107, 108, 109, 110, 111, 112, 113, 114, 115, 116, 117, 118, 119, 120, 121, 122, 123, 124, 125, 126, 127, 128, 129, 130, 131, 132, 133, 134, 135, 136, 137, 138, 139, 140, 141, 142, 143, 144, 145, 146, 147, 148] [7] (SvInv2 x.vs y.vs H2) rfl (by repeat' first | exact Resp.retD | exact Resp1.valuesK | refine Resp.blockD ?_ | refine Resp.thenD ?_ ?_ | refine Resp.hcode ?_) ?_ ?_
  · exact ⟨x.vs.length, SvInv2.mk ⟨0, rfl, rfl, Upd.refl _ _, rfl⟩⟩
  rintro q2 _ fe2 H3 ⟨i2, rfl, hm2, u3, ht2⟩
  have o1 := o1.upd (S := []) u3 (.inr (Off.nil _))
  have o2 := o2.upd (S := []) u3 (.inr (Off.nil _))
  (repeat first | refine HReg.step ?_ | refine HCode.step ?_)
  refine HLoad.one (v := .slice x.av x.vs.length x.cv) (by exact o1.get (i := 7) rfl) ?_
  (repeat first | refine HReg.step ?_ | refine HCode.step ?_)
  refine hif (fun h1 => ?_) (fun h1 => ?_)
  · have h1 := ltB_true.1 h1
    have w2 : wr .i64 ((i2 : Int) + 1) = ((i2 + 1 : Nat) : Int) := by have := hx.nv; rw [wr_i64 (by omega) (by omega)]; omega
    obtain ⟨v, hv⟩ : ∃ s, x.vs[i2]? = some s := ⟨x.vs[i2]'(by omega), by simp⟩
    obtain ⟨w, hw⟩ : ∃ s, y.vs[i2]? = some s := ⟨y.vs[i2]'(by omega), by simp⟩
    have hvm := List.mem_of_getElem? hv
    have hwm := List.mem_of_getElem? hw
    have hx3 := hx2.upd0 u3
    have hy3 := hy2.upd0 u3
    have rx := hx3.rv
    have ry := hy3.rv
    obtain ⟨ba, bo, hax, _⟩ := rx _ _ (versV_get hv 0 _ rfl)
    obtain ⟨bb, bo2, hay, _⟩ := ry _ _ (versV_get hw 0 _ rfl)
    obtain ⟨Z, hZ⟩ : ∃ Z : List Value, [Value.string ⟨#[]⟩, .int .u64 0, .string ⟨#[]⟩, .slice none 0 0] = Z := ⟨_, rfl⟩
    ((repeat refine HReg.step ?_); first | (show HCode _ _ _ (Code.seq (Code.region _ _ _) _) _ _ _; refine hcutC (a := Code.region _ _ _) [8, 9, 112, 113, 114, 115, 116, 117, 118, 119, 120, 121] [8, 9] (SvJ H3 v w) rfl (by repeat' first | exact Resp.retD | exact Resp1.valuesK | refine Resp.blockD ?_ | refine Resp.thenD ?_ ?_ | refine Resp.hcode ?_) ?_ ?_) | (refine HCode.step ?_; (repeat refine HReg.step ?_); first | (show HCode _ _ _ (Code.seq (Code.region _ _ _) _) _ _ _; refine hcutC (a := Code.region _ _ _) [8, 9, 112, 113, 114, 115, 116, 117, 118, 119, 120, 121] [8, 9] (SvJ H3 v w) rfl (by repeat' first | exact Resp.retD | exact Resp1.valuesK | refine Resp.blockD ?_ | refine Resp.thenD ?_ ?_ | refine Resp.hcode ?_) ?_ ?_) | (refine HCode.step ?_; (repeat refine HReg.step ?_); first | (show HCode _ _ _ (Code.seq (Code.region _ _ _) _) _ _ _; refine hcutC (a := Code.region _ _ _) [8, 9, 112, 113, 114, 115, 116, 117, 118, 119, 120, 121] [8, 9] (SvJ H3 v w) rfl (by repeat' first | exact Resp.retD | exact Resp1.valuesK | refine Resp.blockD ?_ | refine Resp.thenD ?_ ?_ | refine Resp.hcode ?_) ?_ ?_) | (refine HCode.step ?_; (repeat refine HReg.step ?_); first | (show HCode _ _ _ (Code.seq (Code.region _ _ _) _) _ _ _; refine hcutC (a := Code.region _ _ _) [8, 9, 112, 113, 114, 115, 116, 117, 118, 119, 120, 121] [8, 9] (SvJ H3 v w) rfl (by repeat' first | exact Resp.retD | exact Resp1.valuesK | refine Resp.blockD ?_ | refine Resp.thenD ?_ ?_ | refine Resp.hcode ?_) ?_ ?_) | (refine HCode.step ?_; (repeat refine HReg.step ?_); first | (show HCode _ _ _ (Code.seq (Code.region _ _ _) _) _ _ _; refine hcutC (a := Code.region _ _ _) [8, 9, 112, 113, 114, 115, 116, 117, 118, 119, 120, 121] [8, 9] (SvJ H3 v w) rfl (by repeat' first | exact Resp.retD | exact Resp1.valuesK | refine Resp.blockD ?_ | refine Resp.thenD ?_ ?_ | refine Resp.hcode ?_) ?_ ?_) | (refine HCode.step ?_; (repeat refine HReg.step ?_); first | (show HCode _ _ _ (Code.seq (Code.region _ _ _) _) _ _ _; refine hcutC (a := Code.region _ _ _) [8, 9, 112, 113, 114, 115, 116, 117, 118, 119, 120, 121] [8, 9] (SvJ H3 v w) rfl (by repeat' first | exact Resp.retD | exact Resp1.valuesK | refine Resp.blockD ?_ | refine Resp.thenD ?_ ?_ | refine Resp.hcode ?_) ?_ ?_) | (refine HCode.step ?_; (repeat refine HReg.step ?_); first | (show HCode _ _ _ (Code.seq (Code.region _ _ _) _) _ _ _; refine hcutC (a := Code.region _ _ _) [8, 9, 112, 113, 114, 115, 116, 117, 118, 119, 120, 121] [8, 9] (SvJ H3 v w) rfl (by repeat' first | exact Resp.retD | exact Resp1.valuesK | refine Resp.blockD ?_ | refine Resp.thenD ?_ ?_ | refine Resp.hcode ?_) ?_ ?_) | (refine HCode.step ?_; (repeat refine HReg.step ?_); first | (show HCode _ _ _ (Code.seq (Code.region _ _ _) _) _ _ _; refine hcutC (a := Code.region _ _ _) [8, 9, 112, 113, 114, 115, 116, 117, 118, 119, 120, 121] [8, 9] (SvJ H3 v w) rfl (by repeat' first | exact Resp.retD | exact Resp1.valuesK | refine Resp.blockD ?_ | refine Resp.thenD ?_ ?_ | refine Resp.hcode ?_) ?_ ?_) | (refine HCode.step ?_; (repeat refine HReg.step ?_); first | (show HCode _ _ _ (Code.seq (Code.region _ _ _) _) _ _ _; refine hcutC (a := Code.region _ _ _) [8, 9, 112, 113, 114, 115, 116, 117, 118, 119, 120, 121] [8, 9] (SvJ H3 v w) rfl (by repeat' first | exact Resp.retD | exact Resp1.valuesK | refine Resp.blockD ?_ | refine Resp.thenD ?_ ?_ | refine Resp.hcode ?_) ?_ ?_) | (refine HCode.step ?_; (repeat refine HReg.step ?_); first | (show HCode _ _ _ (Code.seq (Code.region _ _ _) _) _ _ _; refine hcutC (a := Code.region _ _ _) [8, 9, 112, 113, 114, 115, 116, 117, 118, 119, 120, 121] [8, 9] (SvJ H3 v w) rfl (by repeat' first | exact Resp.retD | exact Resp1.valuesK | refine Resp.blockD ?_ | refine Resp.thenD ?_ ?_ | refine Resp.hcode ?_) ?_ ?_) | (refine HCode.step ?_; (repeat refine HReg.step ?_); first | (show HCode _ _ _ (Code.seq (Code.region _ _ _) _) _ _ _; refine hcutC (a := Code.region _ _ _) [8, 9, 112, 113, 114, 115, 116, 117, 118, 119, 120, 121] [8, 9] (SvJ H3 v w) rfl (by repeat' first | exact Resp.retD | exact Resp1.valuesK | refine Resp.blockD ?_ | refine Resp.thenD ?_ ?_ | refine Resp.hcode ?_) ?_ ?_) | (refine HCode.step ?_; (repeat refine HReg.step ?_); first | (show HCode _ _ _ (Code.seq (Code.region _ _ _) _) _ _ _; refine hcutC (a := Code.region _ _ _) [8, 9, 112, 113, 114, 115, 116, 117, 118, 119, 120, 121] [8, 9] (SvJ H3 v w) rfl (by repeat' first | exact Resp.retD | exact Resp1.valuesK | refine Resp.blockD ?_ | refine Resp.thenD ?_ ?_ | refine Resp.hcode ?_) ?_ ?_) | (refine HCode.step ?_; (repeat refine HReg.step ?_); first | (show HCode _ _ _ (Code.seq (Code.region _ _ _) _) _ _ _; refine hcutC (a := Code.region _ _ _) [8, 9, 112, 113, 114, 115, 116, 117, 118, 119, 120, 121] [8, 9] (SvJ H3 v w) rfl (by repeat' first | exact Resp.retD | exact Resp1.valuesK | refine Resp.blockD ?_ | refine Resp.thenD ?_ ?_ | refine Resp.hcode ?_) ?_ ?_) | (refine HCode.step ?_; (repeat refine HReg.step ?_); first | (show HCode _ _ _ (Code.seq (Code.region _ _ _) _) _ _ _; refine hcutC (a := Code.region _ _ _) [8, 9, 112, 113, 114, 115, 116, 117, 118, 119, 120, 121] [8, 9] (SvJ H3 v w) rfl (by repeat' first | exact Resp.retD | exact Resp1.valuesK | refine Resp.blockD ?_ | refine Resp.thenD ?_ ?_ | refine Resp.hcode ?_) ?_ ?_) | (refine HCode.step ?_; (repeat refine HReg.step ?_); first | (show HCode _ _ _ (Code.seq (Code.region _ _ _) _) _ _ _; refine hcutC (a := Code.region _ _ _) [8, 9, 112, 113, 114, 115, 116, 117, 118, 119, 120, 121] [8, 9] (SvJ H3 v w) rfl (by repeat' first | exact Resp.retD | exact Resp1.valuesK | refine Resp.blockD ?_ | refine Resp.thenD ?_ ?_ | refine Resp.hcode ?_) ?_ ?_) | (refine HCode.step ?_; (repeat refine HReg.step ?_); first | (show HCode _ _ _ (Code.seq (Code.region _ _ _) _) _ _ _; refine hcutC (a := Code.region _ _ _) [8, 9, 112, 113, 114, 115, 116, 117, 118, 119, 120, 121] [8, 9] (SvJ H3 v w) rfl (by repeat' first | exact Resp.retD | exact Resp1.valuesK | refine Resp.blockD ?_ | refine Resp.thenD ?_ ?_ | refine Resp.hcode ?_) ?_ ?_) | (refine HCode.step ?_; (repeat refine HReg.step ?_); first | (show HCode _ _ _ (Code.seq (Code.region _ _ _) _) _ _ _; refine hcutC (a := Code.region _ _ _) [8, 9, 112, 113, 114, 115, 116, 117, 118, 119, 120, 121] [8, 9] (SvJ H3 v w) rfl (by repeat' first | exact Resp.retD | exact Resp1.valuesK | refine Resp.blockD ?_ | refine Resp.thenD ?_ ?_ | refine Resp.hcode ?_) ?_ ?_) | (refine HCode.step ?_; (repeat refine HReg.step ?_); first | (show HCode _ _ _ (Code.seq (Code.region _ _ _) _) _ _ _; refine hcutC (a := Code.region _ _ _) [8, 9, 112, 113, 114, 115, 116, 117, 118, 119, 120, 121] [8, 9] (SvJ H3 v w) rfl (by repeat' first | exact Resp.retD | exact Resp1.valuesK | refine Resp.blockD ?_ | refine Resp.thenD ?_ ?_ | refine Resp.hcode ?_) ?_ ?_) | (refine HCode.step ?_; (repeat refine HReg.step ?_); first | (show HCode _ _ _ (Code.seq (Code.region _ _ _) _) _ _ _; refine hcutC (a := Code.region _ _ _) [8, 9, 112, 113, 114, 115, 116, 117, 118, 119, 120, 121] [8, 9] (SvJ H3 v w) rfl (by repeat' first | exact Resp.retD | exact Resp1.valuesK | refine Resp.blockD ?_ | refine Resp.thenD ?_ ?_ | refine Resp.hcode ?_) ?_ ?_) | (refine HCode.step ?_; (repeat refine HReg.step ?_); first | (show HCode _ _ _ (Code.seq (Code.region _ _ _) _) _ _ _; refine hcutC (a := Code.region _ _ _) [8, 9, 112, 113, 114, 115, 116, 117, 118, 119, 120, 121] [8, 9] (SvJ H3 v w) rfl (by repeat' first | exact Resp.retD | exact Resp1.valuesK | refine Resp.blockD ?_ | refine Resp.thenD ?_ ?_ | refine Resp.hcode ?_) ?_ ?_) | (refine HCode.step ?_; (repeat refine HReg.step ?_); (show HCode _ _ _ (Code.seq (Code.region _ _ _) _) _ _ _; refine hcutC (a := Code.region _ _ _) [8, 9, 112, 113, 114, 115, 116, 117, 118, 119, 120, 121] [8, 9] (SvJ H3 v w) rfl (by repeat' first | exact Resp.retD | exact Resp1.valuesK | refine Resp.blockD ?_ | refine Resp.thenD ?_ ?_ | refine Resp.hcode ?_) ?_ ?_))))))))))))))))))))))
    · (repeat first | refine HReg.step ?_ | refine HCode.step ?_)
      refine And.intro ?_ ?_
      · (repeat first | refine HReg.step ?_ | refine HCode.step ?_)
        refine HNew.mk fun b8 hb8 => ?_
        have oa : OwnRow (H3.upd b8 (.cells Z.toArray 56)) 56 1 (some ⟨b8, 0, none⟩) 4 4 Z := OwnRow.lit (upd_same _ _ _) (by rw [← hZ]; rfl)
        have u34 : Upd [] H3 (H3.upd b8 (.cells Z.toArray 56)) := Upd.new hb8 _
        rw [hZ]
        generalize hH4 : H3.upd b8 (.cells Z.toArray 56) = H4 at oa u34
        (repeat first | refine HReg.step ?_ | refine HCode.step ?_)
        refine HNew.mk fun b9 hb9 => ?_
        have ob : OwnRow (H4.upd b9 (.cells Z.toArray 56)) 56 1 (some ⟨b9, 0, none⟩) 4 4 Z := OwnRow.lit (upd_same _ _ _) (by rw [← hZ]; rfl)
        have u45 : Upd [] H4 (H4.upd b9 (.cells Z.toArray 56)) := Upd.new hb9 _
        have ne : b8 ≠ b9 := fun e => by rw [e] at oa; exact oa.there rfl hb9
        have hb93 : H3 b9 = none := Upd.none (S := []) u34 (by simp) hb9
        rw [hZ]
        have oa := oa.upd u45 (Off.nil _)
        generalize hH5 : H4.upd b9 (.cells Z.toArray 56) = H5 at oa ob u45
        have u35 := u34.trans u45
        (repeat first | refine HReg.step ?_ | refine HCode.step ?_)
        refine HLoad_three (v := .slice x.av x.vs.length x.cv) (by exact (o1.upd (S := []) u35 (.inr (Off.nil _))).get (i := 7) rfl) (by exact (o1.upd (S := []) u34 (.inr (Off.nil _))).get (i := 7) rfl) (by exact o1.get (i := 7) rfl) ?_
        rw [hax] at rx ⊢
        (repeat first | refine HReg.step ?_ | refine HCode.step ?_)
        refine HReq.mk ⟨by omega, by omega⟩ ?_
        (repeat first | refine HReg.step ?_ | refine HCode.step ?_)
        refine HLoadN_ver3 (rx.upd (S := []) u35 (.inr (Off.nil _))) (rx.upd (S := []) u34 (.inr (Off.nil _))) rx hv ?_
        (repeat first | refine HReg.step ?_ | refine HCode.step ?_)
        refine store_ver (x := v) oa (by rw [← hZ]; rfl) fun H6 o6 u6 => ?_
        have u36 : Upd [] H3 H6 := Upd.drop u35 u6 (fun q hq => by rw [List.mem_singleton.1 hq]; exact hb8)
        have off6 : Off [b8] (some ⟨b9, 0, none⟩) := fun q hq hb => by cases hq; exact ne.symm (List.mem_singleton.1 hb)
        have o96 := ob.upd u6 off6
        (repeat first | refine HReg.step ?_ | refine HCode.step ?_)
        refine HLoad_four (v := .slice y.av y.vs.length y.cv) (by exact (o2.upd (S := []) u36 (.inr (Off.nil _))).get (i := 7) rfl) (by exact (o2.upd (S := []) u35 (.inr (Off.nil _))).get (i := 7) rfl) (by exact (o2.upd (S := []) u34 (.inr (Off.nil _))).get (i := 7) rfl) (by exact o2.get (i := 7) rfl) ?_
        rw [hay] at ry ⊢
        (repeat first | refine HReg.step ?_ | refine HCode.step ?_)
        refine HReq.mk ⟨by omega, by omega⟩ ?_
        (repeat first | refine HReg.step ?_ | refine HCode.step ?_)
        refine HLoadN_ver4 (ry.upd (S := []) u36 (.inr (Off.nil _))) (ry.upd (S := []) u35 (.inr (Off.nil _))) (ry.upd (S := []) u34 (.inr (Off.nil _))) ry hw ?_
        (repeat first | refine HReg.step ?_ | refine HCode.step ?_)
        refine store_ver (x := w) o96 (by rw [← hZ]; rfl) fun H7 o7 u7 => ?_
        have off7 : Off [b9] (some ⟨b8, 0, none⟩) := fun q hq hb => by cases hq; exact ne (List.mem_singleton.1 hb)
        (repeat first | refine HReg.step ?_ | refine HCode.step ?_)
        exact SvJ.mk ⟨b8, b9, rfl, Upd.drop u36 u7 (fun q hq => by rw [List.mem_singleton.1 hq]; exact hb93), (o6.upd u7 off7).rows, o7.rows⟩
      · (repeat first | refine HReg.step ?_ | refine HCode.step ?_)
        refine HNew.mk fun b9 hb9 => ?_
        have oa : OwnRow (H3.upd b9 (.cells Z.toArray 56)) 56 1 (some ⟨b9, 0, none⟩) 4 4 Z := OwnRow.lit (upd_same _ _ _) (by rw [← hZ]; rfl)
        have u34 : Upd [] H3 (H3.upd b9 (.cells Z.toArray 56)) := Upd.new hb9 _
        rw [hZ]
        generalize hH4 : H3.upd b9 (.cells Z.toArray 56) = H4 at oa u34
        (repeat first | refine HReg.step ?_ | refine HCode.step ?_)
        refine HNew.mk fun b8 hb8 => ?_
        have ob : OwnRow (H4.upd b8 (.cells Z.toArray 56)) 56 1 (some ⟨b8, 0, none⟩) 4 4 Z := OwnRow.lit (upd_same _ _ _) (by rw [← hZ]; rfl)
        have u45 : Upd [] H4 (H4.upd b8 (.cells Z.toArray 56)) := Upd.new hb8 _
        have ne : b9 ≠ b8 := fun e => by rw [e] at oa; exact oa.there rfl hb8
        have hb83 : H3 b8 = none := Upd.none (S := []) u34 (by simp) hb8
        rw [hZ]
        have oa := oa.upd u45 (Off.nil _)
        generalize hH5 : H4.upd b8 (.cells Z.toArray 56) = H5 at oa ob u45
        have u35 := u34.trans u45
        (repeat first | refine HReg.step ?_ | refine HCode.step ?_)
        refine HLoad_three (v := .slice x.av x.vs.length x.cv) (by exact (o1.upd (S := []) u35 (.inr (Off.nil _))).get (i := 7) rfl) (by exact (o1.upd (S := []) u34 (.inr (Off.nil _))).get (i := 7) rfl) (by exact o1.get (i := 7) rfl) ?_
        rw [hax] at rx ⊢
        (repeat first | refine HReg.step ?_ | refine HCode.step ?_)
        refine HReq.mk ⟨by omega, by omega⟩ ?_
        (repeat first | refine HReg.step ?_ | refine HCode.step ?_)
        refine HLoadN_ver3 (rx.upd (S := []) u35 (.inr (Off.nil _))) (rx.upd (S := []) u34 (.inr (Off.nil _))) rx hv ?_
        (repeat first | refine HReg.step ?_ | refine HCode.step ?_)
        refine store_ver (x := v) ob (by rw [← hZ]; rfl) fun H6 o6 u6 => ?_
        have u36 : Upd [] H3 H6 := Upd.drop u35 u6 (fun q hq => by rw [List.mem_singleton.1 hq]; exact hb83)
        have off6 : Off [b8] (some ⟨b9, 0, none⟩) := fun q hq hb => by cases hq; exact ne (List.mem_singleton.1 hb)
        have o96 := oa.upd u6 off6
        (repeat first | refine HReg.step ?_ | refine HCode.step ?_)
        refine HLoad_four (v := .slice y.av y.vs.length y.cv) (by exact (o2.upd (S := []) u36 (.inr (Off.nil _))).get (i := 7) rfl) (by exact (o2.upd (S := []) u35 (.inr (Off.nil _))).get (i := 7) rfl) (by exact (o2.upd (S := []) u34 (.inr (Off.nil _))).get (i := 7) rfl) (by exact o2.get (i := 7) rfl) ?_
        rw [hay] at ry ⊢
        (repeat first | refine HReg.step ?_ | refine HCode.step ?_)
        refine HReq.mk ⟨by omega, by omega⟩ ?_
        (repeat first | refine HReg.step ?_ | refine HCode.step ?_)
        refine HLoadN_ver4 (ry.upd (S := []) u36 (.inr (Off.nil _))) (ry.upd (S := []) u35 (.inr (Off.nil _))) (ry.upd (S := []) u34 (.inr (Off.nil _))) ry hw ?_
        (repeat first | refine HReg.step ?_ | refine HCode.step ?_)
        refine store_ver (x := w) o96 (by rw [← hZ]; rfl) fun H7 o7 u7 => ?_
        have off7 : Off [b9] (some ⟨b8, 0, none⟩) := fun q hq hb => by cases hq; exact ne.symm (List.mem_singleton.1 hb)
        (repeat first | refine HReg.step ?_ | refine HCode.step ?_)
        exact SvJ.mk ⟨b8, b9, rfl, Upd.drop u36 u7 (fun q hq => by rw [List.mem_singleton.1 hq]; exact hb9), (o6.upd u7 off7).rows, o7.rows⟩
    rintro _ fe H6 ⟨b8, b9, rfl, u6, r8, r9⟩
    (repeat first | refine HReg.step ?_ | refine HCode.step ?_)
    have bad : v.v ≠ w.v → ∀ H', Upd [] H6 H' → K (.bool false) H' := fun h H' u' => no H' (u3.trans (u6.trans u')) (fun e => by
      have e2 : x.vs.map VerA.v = y.vs.map VerA.v := congrArg Msg.vs e
      have h1 : (x.vs.map VerA.v)[i2]? = some v.v := by rw [List.getElem?_map, hv]; rfl
      have h2 : (y.vs.map VerA.v)[i2]? = some w.v := by rw [List.getElem?_map, hw]; rfl
      rw [e2, h2] at h1
      exact h (Option.some.inj h1).symm)
    refine HLoad.one (v := .string (bs v.v.key)) (by exact r8.get (i := 0) rfl) ?_
    (repeat first | refine HReg.step ?_ | refine HCode.step ?_)
    refine HLoad.one (v := .string (bs w.v.key)) (by exact r9.get (i := 0) rfl) ?_
    (repeat first | refine HReg.step ?_ | refine HCode.step ?_)
    rw [seqB_bs]
    by_cases d0 : v.v.key = w.v.key
    case neg =>
      rw [decide_eq_false d0]
      (repeat first | refine HReg.step ?_ | refine HCode.step ?_)
      exact bad (fun e => d0 (congrArg Ver.key e)) H6 (Upd.refl _ _)
    rw [decide_eq_true d0]
    (repeat first | refine HReg.step ?_ | refine HCode.step ?_)
    refine HLoad.one (v := .int .u64 (v.v.id : Int)) (by exact r8.get (i := 1) rfl) ?_
    (repeat first | refine HReg.step ?_ | refine HCode.step ?_)
    refine HLoad.one (v := .int .u64 (w.v.id : Int)) (by exact r9.get (i := 1) rfl) ?_
    (repeat first | refine HReg.step ?_ | refine HCode.step ?_)
    by_cases d1 : v.v.id = w.v.id
    case neg =>
      rw [show eqB ((v.v.id : Nat) : Int) ((w.v.id : Nat) : Int) = false from eqB_false.2 (by omega)]
      (repeat first | refine HReg.step ?_ | refine HCode.step ?_)
      exact bad (fun e => d1 (congrArg Ver.id e)) H6 (Upd.refl _ _)
    rw [show eqB ((v.v.id : Nat) : Int) ((w.v.id : Nat) : Int) = true from eqB_true.2 (by omega)]
    (repeat first | refine HReg.step ?_ | refine HCode.step ?_)
    refine HLoad.one (v := .string (bs v.v.val)) (by exact r8.get (i := 2) rfl) ?_
    (repeat first | refine HReg.step ?_ | refine HCode.step ?_)
    refine HLoad.one (v := .string (bs w.v.val)) (by exact r9.get (i := 2) rfl) ?_
    (repeat first | refine HReg.step ?_ | refine HCode.step ?_)
    rw [seqB_bs]
    by_cases d2 : v.v.val = w.v.val
    case neg =>
      rw [decide_eq_false d2]
      (repeat first | refine HReg.step ?_ | refine HCode.step ?_)
      exact bad (fun e => d2 (congrArg Ver.val e)) H6 (Upd.refl _ _)
    rw [decide_eq_true d2]
    (repeat first | refine HReg.step ?_ | refine HCode.step ?_)
    refine HLoad.one (v := .slice v.a v.v.ks.length v.c) (by exact r8.get (i := 3) rfl) ?_
    (repeat first | refine HReg.step ?_ | refine HCode.step ?_)
    refine HLoad.one (v := .slice w.a w.v.ks.length w.c) (by exact r9.get (i := 3) rfl) ?_
    (repeat first | refine HReg.step ?_ | refine HCode.step ?_)
    refine HCall.mk ⟨Tryz.f16, Tryz.func16, by rfl, by rfl⟩ ?_
    refine sameTexts_t ((hx3.upd0 u6).vk v hvm) ((hy3.upd0 u6).vk w hwm) rfl rfl (by have := hx.nvk v hvm; omega) ?_
    by_cases d3 : v.v.ks = w.v.ks
    case neg =>
      rw [decide_eq_false d3]
      (repeat first | refine HReg.step ?_ | refine HCode.step ?_)
      exact bad (fun e => d3 (congrArg Ver.ks e)) H6 (Upd.refl _ _)
    rw [decide_eq_true d3]
    (repeat first | refine HReg.step ?_ | refine HCode.step ?_)
    have evw : v.v = w.v := by
      show Ver.mk v.v.key v.v.id v.v.val v.v.ks = Ver.mk w.v.key w.v.id w.v.val w.v.ks
      rw [d0, d1, d2, d3]
    rw [w2]
    exact ⟨q2 - 1, by omega, SvInv2.mk ⟨i2 + 1, rfl, by omega, u3.trans u6, take_eq_next (x := v.v) (by rw [List.getElem?_map, hv]; rfl) (by rw [List.getElem?_map, hw, evw]; rfl) ht2⟩⟩
  have h1 := ltB_false.1 h1
  have evs : x.vs.map VerA.v = y.vs.map VerA.v := by
    rw [List.take_of_length_le (by rw [List.length_map]; omega), List.take_of_length_le (by rw [List.length_map]; omega)] at ht2; exact ht2
  have em : x.m = y.m := by
    show Msg.mk x.kind x.client x.req x.id x.ps x.ks x.ws (x.vs.map VerA.v) = Msg.mk y.kind y.client y.req y.id y.ps y.ks y.ws (y.vs.map VerA.v)
    rw [c0, c1, c2, c3, eps, ck, ews, evs]
  (repeat first | refine HReg.step ?_ | refine HCode.step ?_)
  exact hk true H3 ⟨fun _ => em, fun _ => rfl⟩ (u.trans u3)
end
end Go.Proofs.YtlgncabjphokjaaGreat
