import Derived.Test.YtocejipjnklieaaE7
import Derived.Test.YtocejipjnklieaaP2
namespace Go.Proofs.Ytocejipjnklieaa
open Go Hv
set_option linter.unusedVariables false
set_option linter.unusedSimpArgs false
set_option maxRecDepth 10000
set_option maxHeartbeats 4000000
/-! DiskArms. CUT2 -/
theorem HLoadN_op2 {H H' : Heap} {b off i : Nat} {os : List OpA} {o : OpA} {K : List Value → Prop} (h : RowAt H (some ⟨b, off, none⟩) (orow os)) (h' : RowAt H' (some ⟨b, off, none⟩) (orow os)) (ho : os[i]? = some o) (hk : K o.cells) : HLoadN [H, H'] b (off + i * 7) 7 K :=
  ⟨o.cells, fun H2 hH j v hv => by
    rw [Nat.add_assoc]
    rcases List.mem_cons.1 hH with rfl | hH
    · exact h.get (orow_get ho j v hv)
    · rw [List.mem_singleton.1 hH]; exact h'.get (orow_get ho j v hv), rfl, hk⟩
theorem HLoadN_row2 {H H' : Heap} {b off n : Nat} {vs : List Value} {K : List Value → Prop} (h : RowAt H (some ⟨b, off, none⟩) vs) (h' : RowAt H' (some ⟨b, off, none⟩) vs) (hl : vs.length = n) (hk : K vs) : HLoadN [H, H'] b off n K :=
  ⟨vs, fun H2 hH j v hv => by
    rcases List.mem_cons.1 hH with rfl | hH
    · exact h.get hv
    · rw [List.mem_singleton.1 hH]; exact h'.get hv, hl, hk⟩
theorem opSum_take {ops : List OpA} {i : Nat} {o : OpA} (h : ops[i]? = some o) : opSum (ops.take (i + 1)) = opSum (ops.take i) + o.o.b.length := by
  unfold opSum
  rw [List.take_add_one, h, List.map_append, List.sum_append]
  simp
theorem opSum_le (ops : List OpA) (i : Nat) : opSum (ops.take i) ≤ opSum ops := by
  have : opSum ops = opSum (ops.take i) + opSum (ops.drop i) := by
    unfold opSum
    rw [← List.sum_append, ← List.map_append, List.take_append_drop]
  omega
theorem Many.base {H1 H : Heap} {ds : List Dsk} {d : Dsk} {i : Nat} (M : Many H1 H ds) (h : ds[i]? = some d) : Upd [] H1 H := (M.each i d h).base
theorem store_op {b : Nat} {o : OpA} {H : Heap} {xs : List Value} {K : Heap → Prop} (h : OwnRow H 48 1 (some ⟨b, 0, none⟩) 7 7 xs) (hl : xs.length = 7)
    (hk : ∀ H', OwnRow H' 48 1 (some ⟨b, 0, none⟩) 7 7 o.cells → Upd [b] H H' → K H') : storeN H b 0 0 K o.cells := by
  obtain ⟨x0, x1, x2, x3, x4, x5, x6, rfl⟩ := list7 hl
  refine store_row h (v := .int .i64 o.o.kind) rfl (i := 0) (by decide) (by rfl) fun H1 o1 u1 => ?_
  refine store_row o1 (v := .int .i64 o.o.who) rfl (i := 1) (by decide) (by rfl) fun H2 o2 u2 => ?_
  refine store_row o2 (v := .string (bs o.o.name)) rfl (i := 2) (by decide) (by rfl) fun H3 o3 u3 => ?_
  refine store_row o3 (v := .string (bs o.o.to)) rfl (i := 3) (by decide) (by rfl) fun H4 o4 u4 => ?_
  refine store_row o4 (v := .slice o.a o.o.b.length o.c) rfl (i := 4) (by decide) (by rfl) fun H5 o5 u5 => ?_
  refine store_row o5 (v := .int .i64 o.o.n) rfl (i := 5) (by decide) (by rfl) fun H6 o6 u6 => ?_
  refine store_row o6 (v := .int .i64 o.o.k) rfl (i := 6) (by decide) (by rfl) fun H7 o7 u7 => ?_
  exact hk H7 o7 ((((((u1.trans u2).trans u3).trans u4).trans u5).trans u6).trans u7)
theorem store_shot {b : Nat} {H : Heap} {x0 x1 : Option Addr} {n0 n1 c0 c1 : Nat} {xs : List Value} {K : Heap → Prop} (h : OwnRow H 55 1 (some ⟨b, 0, none⟩) 2 2 xs) (hl : xs.length = 2)
    (hk : ∀ H', OwnRow H' 55 1 (some ⟨b, 0, none⟩) 2 2 [.slice x0 n0 c0, .slice x1 n1 c1] → Upd [b] H H' → K H') : storeN H b 0 0 K [.slice x0 n0 c0, .slice x1 n1 c1] := by
  obtain ⟨y0, y1, rfl⟩ : ∃ a b, xs = [a, b] := by
    match xs, hl with
    | [a, b], _ => exact ⟨a, b, rfl⟩
  refine store_row h (v := .slice x0 n0 c0) rfl (i := 0) (by decide) (by rfl) fun H1 o1 u1 => ?_
  refine store_row o1 (v := .slice x1 n1 c1) rfl (i := 1) (by decide) (by rfl) fun H2 o2 u2 => ?_
  exact hk H2 o2 (u1.trans u2)
structure F1Inv (H1 : Heap) (ops : List OpA) (ga ra gb rb : Nat) (m : Nat) (vs : List Value) (H' : Heap) : Prop where
  ex : ∃ (i : Nat) (s : St) (fa fb : List Fl), vs = [.int .i64 (i : Int)] ∧ m + i = ops.length ∧ Many H1 H' [⟨ga, ra, s, fa⟩, ⟨gb, rb, s, fb⟩] ∧ s.Ok (opSum (ops.take i))
structure F1J (H1 : Heap) (ops : List OpA) (ga ra gb rb : Nat) (vs : List Value) (H' : Heap) : Prop where
  ex : ∃ (s : St) (fa fb : List Fl), vs = [] ∧ Many H1 H' [⟨ga, ra, s, fa⟩, ⟨gb, rb, s, fb⟩] ∧ s.Ok (opSum ops)
structure F2Inv (H1 : Heap) (ops : List OpA) (N : Nat) (keep : Int) (ga ra gb rb : Nat) (m : Nat) (vs : List Value) (H' : Heap) : Prop where
  ex : ∃ (i : Nat) (left : Int) (sa sb : St) (fa fb : List Fl), vs = [.int .i64 left, .int .i64 (i : Int)] ∧ m + i = ops.length ∧ Many H1 H' [⟨ga, ra, sa, fa⟩, ⟨gb, rb, sb, fb⟩] ∧ Arms left keep sa sb ∧ sa.Ok (N + opSum (ops.take i)) ∧ sb.Ok (N + opSum (ops.take i)) ∧ left ≤ 31 ∧ -(i : Int) ≤ left
structure F2J (H1 : Heap) (M0 : Nat) (keep : Int) (ga ra gb rb : Nat) (vs : List Value) (H' : Heap) : Prop where
  ex : ∃ (left : Int) (sa sb : St) (fa fb : List Fl), vs = [.int .i64 left] ∧ Many H1 H' [⟨ga, ra, sa, fa⟩, ⟨gb, rb, sb, fb⟩] ∧ Arms left keep sa sb ∧ sa.Ok M0 ∧ sb.Ok M0
structure F3J (H1 : Heap) (o : OpA) (left keep : Int) (N : Nat) (sa sb : St) (ga ra gb rb b14 : Nat) (fa : List Fl) (vs : List Value) (H' : Heap) : Prop where
  ex : ∃ (left' : Int) (sb' : St) (fb : List Fl), vs = [.int .i64 left'] ∧ Many H1 H' [⟨ga, ra, sa, fa⟩, ⟨gb, rb, sb', fb⟩] ∧ OwnRow H' 48 1 (some ⟨b14, 0, none⟩) 7 7 o.cells ∧ sb'.Ok N ∧
    ((o.o.counts ∧ left' = left - 1 ∧ sb' = if left = 0 then sb.crash keep else sb) ∨ (¬ o.o.counts ∧ left' = left ∧ sb' = sb))
section
variable {H : Heap} {K : Value → Heap → Prop}
theorem arms_t {a0 a1 : Option Addr} {c0 c1 : Nat} {ops0 ops1 : List OpA} {n keep : Int} (hr0 : RowAt H a0 (orow ops0)) (hr1 : RowAt H a1 (orow ops1)) (h0 : ∀ o ∈ ops0, OpIn H o) (h1 : ∀ o ∈ ops1, OpIn H o)
    (l0 : ops0.length ≤ 1048576) (l1 : ops1.length ≤ 1048576) (s0 : opSum ops0 ≤ 1048576) (s1 : opSum ops1 ≤ 1048576)
    (hk : ∀ H', Upd [] H H' → K (.bool true) H') : HCalls Try.prog 7 [.slice a0 ops0.length c0, .slice a1 ops1.length c1, .int .i64 n, .int .i64 keep] H K := by
  refine hcalls (fn := Try.f7) [(10, [(0, 0), (1, 0), (2, 0), (3, 0), (4, 0), (5, 0), (6, 1), (7, 1), (8, 1), (9, 1), (10, 1), (11, 0), (12, 0)]), (26, [(0, 0), (1, 0), (2, 0), (3, 1), (4, 1), (5, 0), (6, 0), (7, 0), (8, 0), (9, 0), (10, 1), (11, 0), (12, 0), (13, 0)])] mixed Try.func7 rfl rfl (by decide +kernel) ?_
  (repeat first | refine HReg.step ?_ | refine HCode.step ?_)
  refine HCall.mk ⟨Try.f9, Try.func9, by rfl, by rfl⟩ ?_
  refine alive_t fun H1 u1 => ?_
  (repeat first | refine HReg.step ?_ | refine HCode.step ?_)
  refine HCall.mk ⟨Try.f10, Try.func10, by rfl, by rfl⟩ ?_
  refine new_t fun ga ra H2 Da ua => ?_
  (repeat first | refine HReg.step ?_ | refine HCode.step ?_)
  refine HCall.mk ⟨Try.f10, Try.func10, by rfl, by rfl⟩ ?_
  refine new_t fun gb rb H3 Db ub => ?_
  have M1 : Many H1 H2 [⟨ga, ra, St0, []⟩] := (Many.nil H1 H1).add (Upd.refl _ _) Da ua
  have M2 : Many H1 H3 [⟨ga, ra, St0, []⟩, ⟨gb, rb, St0, []⟩] := M1.add ua Db ub
  have r0 := hr0.upd (S := []) u1 (.inr (Off.nil _))
  have r1 := hr1.upd (S := []) u1 (.inr (Off.nil _))
  ((repeat refine HReg.step ?_); first | (show HCode _ _ _ (Code.seq (Code.seq (Code.region _ _ _) (Code.block _ _)) _) _ _ _; refine hcutC (a := Code.seq (Code.region _ _ _) (Code.block _ _)) [8, 11, 29, 30, 31, 32, 33, 34, 35, 36, 37, 38, 39, 40, 41, 42, 43, 44, 45, 46, 47] [] (F1J H1 ops0 ga ra gb rb) rfl (by repeat' first | exact Resp.retD | exact Resp1.valuesK | refine Resp.blockD ?_ | refine Resp.thenD ?_ ?_ | refine Resp.hcode ?_) ?_ ?_) | (refine HCode.step ?_; (repeat refine HReg.step ?_); first | (show HCode _ _ _ (Code.seq (Code.seq (Code.region _ _ _) (Code.block _ _)) _) _ _ _; refine hcutC (a := Code.seq (Code.region _ _ _) (Code.block _ _)) [8, 11, 29, 30, 31, 32, 33, 34, 35, 36, 37, 38, 39, 40, 41, 42, 43, 44, 45, 46, 47] [] (F1J H1 ops0 ga ra gb rb) rfl (by repeat' first | exact Resp.retD | exact Resp1.valuesK | refine Resp.blockD ?_ | refine Resp.thenD ?_ ?_ | refine Resp.hcode ?_) ?_ ?_) | (refine HCode.step ?_; (repeat refine HReg.step ?_); first | (show HCode _ _ _ (Code.seq (Code.seq (Code.region _ _ _) (Code.block _ _)) _) _ _ _; refine hcutC (a := Code.seq (Code.region _ _ _) (Code.block _ _)) [8, 11, 29, 30, 31, 32, 33, 34, 35, 36, 37, 38, 39, 40, 41, 42, 43, 44, 45, 46, 47] [] (F1J H1 ops0 ga ra gb rb) rfl (by repeat' first | exact Resp.retD | exact Resp1.valuesK | refine Resp.blockD ?_ | refine Resp.thenD ?_ ?_ | refine Resp.hcode ?_) ?_ ?_) | (refine HCode.step ?_; (repeat refine HReg.step ?_); first | (show HCode _ _ _ (Code.seq (Code.seq (Code.region _ _ _) (Code.block _ _)) _) _ _ _; refine hcutC (a := Code.seq (Code.region _ _ _) (Code.block _ _)) [8, 11, 29, 30, 31, 32, 33, 34, 35, 36, 37, 38, 39, 40, 41, 42, 43, 44, 45, 46, 47] [] (F1J H1 ops0 ga ra gb rb) rfl (by repeat' first | exact Resp.retD | exact Resp1.valuesK | refine Resp.blockD ?_ | refine Resp.thenD ?_ ?_ | refine Resp.hcode ?_) ?_ ?_) | (refine HCode.step ?_; (repeat refine HReg.step ?_); first | (show HCode _ _ _ (Code.seq (Code.seq (Code.region _ _ _) (Code.block _ _)) _) _ _ _; refine hcutC (a := Code.seq (Code.region _ _ _) (Code.block _ _)) [8, 11, 29, 30, 31, 32, 33, 34, 35, 36, 37, 38, 39, 40, 41, 42, 43, 44, 45, 46, 47] [] (F1J H1 ops0 ga ra gb rb) rfl (by repeat' first | exact Resp.retD | exact Resp1.valuesK | refine Resp.blockD ?_ | refine Resp.thenD ?_ ?_ | refine Resp.hcode ?_) ?_ ?_) | (refine HCode.step ?_; (repeat refine HReg.step ?_); first | (show HCode _ _ _ (Code.seq (Code.seq (Code.region _ _ _) (Code.block _ _)) _) _ _ _; refine hcutC (a := Code.seq (Code.region _ _ _) (Code.block _ _)) [8, 11, 29, 30, 31, 32, 33, 34, 35, 36, 37, 38, 39, 40, 41, 42, 43, 44, 45, 46, 47] [] (F1J H1 ops0 ga ra gb rb) rfl (by repeat' first | exact Resp.retD | exact Resp1.valuesK | refine Resp.blockD ?_ | refine Resp.thenD ?_ ?_ | refine Resp.hcode ?_) ?_ ?_) | (refine HCode.step ?_; (repeat refine HReg.step ?_); first | (show HCode _ _ _ (Code.seq (Code.seq (Code.region _ _ _) (Code.block _ _)) _) _ _ _; refine hcutC (a := Code.seq (Code.region _ _ _) (Code.block _ _)) [8, 11, 29, 30, 31, 32, 33, 34, 35, 36, 37, 38, 39, 40, 41, 42, 43, 44, 45, 46, 47] [] (F1J H1 ops0 ga ra gb rb) rfl (by repeat' first | exact Resp.retD | exact Resp1.valuesK | refine Resp.blockD ?_ | refine Resp.thenD ?_ ?_ | refine Resp.hcode ?_) ?_ ?_) | (refine HCode.step ?_; (repeat refine HReg.step ?_); first | (show HCode _ _ _ (Code.seq (Code.seq (Code.region _ _ _) (Code.block _ _)) _) _ _ _; refine hcutC (a := Code.seq (Code.region _ _ _) (Code.block _ _)) [8, 11, 29, 30, 31, 32, 33, 34, 35, 36, 37, 38, 39, 40, 41, 42, 43, 44, 45, 46, 47] [] (F1J H1 ops0 ga ra gb rb) rfl (by repeat' first | exact Resp.retD | exact Resp1.valuesK | refine Resp.blockD ?_ | refine Resp.thenD ?_ ?_ | refine Resp.hcode ?_) ?_ ?_) | (refine HCode.step ?_; (repeat refine HReg.step ?_); first | (show HCode _ _ _ (Code.seq (Code.seq (Code.region _ _ _) (Code.block _ _)) _) _ _ _; refine hcutC (a := Code.seq (Code.region _ _ _) (Code.block _ _)) [8, 11, 29, 30, 31, 32, 33, 34, 35, 36, 37, 38, 39, 40, 41, 42, 43, 44, 45, 46, 47] [] (F1J H1 ops0 ga ra gb rb) rfl (by repeat' first | exact Resp.retD | exact Resp1.valuesK | refine Resp.blockD ?_ | refine Resp.thenD ?_ ?_ | refine Resp.hcode ?_) ?_ ?_) | (refine HCode.step ?_; (repeat refine HReg.step ?_); first | (show HCode _ _ _ (Code.seq (Code.seq (Code.region _ _ _) (Code.block _ _)) _) _ _ _; refine hcutC (a := Code.seq (Code.region _ _ _) (Code.block _ _)) [8, 11, 29, 30, 31, 32, 33, 34, 35, 36, 37, 38, 39, 40, 41, 42, 43, 44, 45, 46, 47] [] (F1J H1 ops0 ga ra gb rb) rfl (by repeat' first | exact Resp.retD | exact Resp1.valuesK | refine Resp.blockD ?_ | refine Resp.thenD ?_ ?_ | refine Resp.hcode ?_) ?_ ?_) | (refine HCode.step ?_; (repeat refine HReg.step ?_); first | (show HCode _ _ _ (Code.seq (Code.seq (Code.region _ _ _) (Code.block _ _)) _) _ _ _; refine hcutC (a := Code.seq (Code.region _ _ _) (Code.block _ _)) [8, 11, 29, 30, 31, 32, 33, 34, 35, 36, 37, 38, 39, 40, 41, 42, 43, 44, 45, 46, 47] [] (F1J H1 ops0 ga ra gb rb) rfl (by repeat' first | exact Resp.retD | exact Resp1.valuesK | refine Resp.blockD ?_ | refine Resp.thenD ?_ ?_ | refine Resp.hcode ?_) ?_ ?_) | (refine HCode.step ?_; (repeat refine HReg.step ?_); first | (show HCode _ _ _ (Code.seq (Code.seq (Code.region _ _ _) (Code.block _ _)) _) _ _ _; refine hcutC (a := Code.seq (Code.region _ _ _) (Code.block _ _)) [8, 11, 29, 30, 31, 32, 33, 34, 35, 36, 37, 38, 39, 40, 41, 42, 43, 44, 45, 46, 47] [] (F1J H1 ops0 ga ra gb rb) rfl (by repeat' first | exact Resp.retD | exact Resp1.valuesK | refine Resp.blockD ?_ | refine Resp.thenD ?_ ?_ | refine Resp.hcode ?_) ?_ ?_) | (refine HCode.step ?_; (repeat refine HReg.step ?_); first | (show HCode _ _ _ (Code.seq (Code.seq (Code.region _ _ _) (Code.block _ _)) _) _ _ _; refine hcutC (a := Code.seq (Code.region _ _ _) (Code.block _ _)) [8, 11, 29, 30, 31, 32, 33, 34, 35, 36, 37, 38, 39, 40, 41, 42, 43, 44, 45, 46, 47] [] (F1J H1 ops0 ga ra gb rb) rfl (by repeat' first | exact Resp.retD | exact Resp1.valuesK | refine Resp.blockD ?_ | refine Resp.thenD ?_ ?_ | refine Resp.hcode ?_) ?_ ?_) | (refine HCode.step ?_; (repeat refine HReg.step ?_); first | (show HCode _ _ _ (Code.seq (Code.seq (Code.region _ _ _) (Code.block _ _)) _) _ _ _; refine hcutC (a := Code.seq (Code.region _ _ _) (Code.block _ _)) [8, 11, 29, 30, 31, 32, 33, 34, 35, 36, 37, 38, 39, 40, 41, 42, 43, 44, 45, 46, 47] [] (F1J H1 ops0 ga ra gb rb) rfl (by repeat' first | exact Resp.retD | exact Resp1.valuesK | refine Resp.blockD ?_ | refine Resp.thenD ?_ ?_ | refine Resp.hcode ?_) ?_ ?_) | (refine HCode.step ?_; (repeat refine HReg.step ?_); first | (show HCode _ _ _ (Code.seq (Code.seq (Code.region _ _ _) (Code.block _ _)) _) _ _ _; refine hcutC (a := Code.seq (Code.region _ _ _) (Code.block _ _)) [8, 11, 29, 30, 31, 32, 33, 34, 35, 36, 37, 38, 39, 40, 41, 42, 43, 44, 45, 46, 47] [] (F1J H1 ops0 ga ra gb rb) rfl (by repeat' first | exact Resp.retD | exact Resp1.valuesK | refine Resp.blockD ?_ | refine Resp.thenD ?_ ?_ | refine Resp.hcode ?_) ?_ ?_) | (refine HCode.step ?_; (repeat refine HReg.step ?_); first | (show HCode _ _ _ (Code.seq (Code.seq (Code.region _ _ _) (Code.block _ _)) _) _ _ _; refine hcutC (a := Code.seq (Code.region _ _ _) (Code.block _ _)) [8, 11, 29, 30, 31, 32, 33, 34, 35, 36, 37, 38, 39, 40, 41, 42, 43, 44, 45, 46, 47] [] (F1J H1 ops0 ga ra gb rb) rfl (by repeat' first | exact Resp.retD | exact Resp1.valuesK | refine Resp.blockD ?_ | refine Resp.thenD ?_ ?_ | refine Resp.hcode ?_) ?_ ?_) | (refine HCode.step ?_; (repeat refine HReg.step ?_); first | (show HCode _ _ _ (Code.seq (Code.seq (Code.region _ _ _) (Code.block _ _)) _) _ _ _; refine hcutC (a := Code.seq (Code.region _ _ _) (Code.block _ _)) [8, 11, 29, 30, 31, 32, 33, 34, 35, 36, 37, 38, 39, 40, 41, 42, 43, 44, 45, 46, 47] [] (F1J H1 ops0 ga ra gb rb) rfl (by repeat' first | exact Resp.retD | exact Resp1.valuesK | refine Resp.blockD ?_ | refine Resp.thenD ?_ ?_ | refine Resp.hcode ?_) ?_ ?_) | (refine HCode.step ?_; (repeat refine HReg.step ?_); first | (show HCode _ _ _ (Code.seq (Code.seq (Code.region _ _ _) (Code.block _ _)) _) _ _ _; refine hcutC (a := Code.seq (Code.region _ _ _) (Code.block _ _)) [8, 11, 29, 30, 31, 32, 33, 34, 35, 36, 37, 38, 39, 40, 41, 42, 43, 44, 45, 46, 47] [] (F1J H1 ops0 ga ra gb rb) rfl (by repeat' first | exact Resp.retD | exact Resp1.valuesK | refine Resp.blockD ?_ | refine Resp.thenD ?_ ?_ | refine Resp.hcode ?_) ?_ ?_) | (refine HCode.step ?_; (repeat refine HReg.step ?_); first | (show HCode _ _ _ (Code.seq (Code.seq (Code.region _ _ _) (Code.block _ _)) _) _ _ _; refine hcutC (a := Code.seq (Code.region _ _ _) (Code.block _ _)) [8, 11, 29, 30, 31, 32, 33, 34, 35, 36, 37, 38, 39, 40, 41, 42, 43, 44, 45, 46, 47] [] (F1J H1 ops0 ga ra gb rb) rfl (by repeat' first | exact Resp.retD | exact Resp1.valuesK | refine Resp.blockD ?_ | refine Resp.thenD ?_ ?_ | refine Resp.hcode ?_) ?_ ?_) | (refine HCode.step ?_; (repeat refine HReg.step ?_); first | (show HCode _ _ _ (Code.seq (Code.seq (Code.region _ _ _) (Code.block _ _)) _) _ _ _; refine hcutC (a := Code.seq (Code.region _ _ _) (Code.block _ _)) [8, 11, 29, 30, 31, 32, 33, 34, 35, 36, 37, 38, 39, 40, 41, 42, 43, 44, 45, 46, 47] [] (F1J H1 ops0 ga ra gb rb) rfl (by repeat' first | exact Resp.retD | exact Resp1.valuesK | refine Resp.blockD ?_ | refine Resp.thenD ?_ ?_ | refine Resp.hcode ?_) ?_ ?_) | (refine HCode.step ?_; (repeat refine HReg.step ?_); (show HCode _ _ _ (Code.seq (Code.seq (Code.region _ _ _) (Code.block _ _)) _) _ _ _; refine hcutC (a := Code.seq (Code.region _ _ _) (Code.block _ _)) [8, 11, 29, 30, 31, 32, 33, 34, 35, 36, 37, 38, 39, 40, 41, 42, 43, 44, 45, 46, 47] [] (F1J H1 ops0 ga ra gb rb) rfl (by repeat' first | exact Resp.retD | exact Resp1.valuesK | refine Resp.blockD ?_ | refine Resp.thenD ?_ ?_ | refine Resp.hcode ?_) ?_ ?_))))))))))))))))))))))
  · (repeat first | refine HReg.step ?_ | refine HCode.step ?_)
    refine hloopC [8, 11, 29, 30, 31, 32, 33, 34, 35, 36, 37, 38, 39, 40, 41, 42, 43, 44, 45, 46, 47] [11] (F1Inv H1 ops0 ga ra gb rb) rfl (by repeat' first | exact Resp.retD | exact Resp1.valuesK | refine Resp.blockD ?_ | refine Resp.thenD ?_ ?_ | refine Resp.hcode ?_) ?_ ?_
    · exact ⟨ops0.length, F1Inv.mk ⟨0, St0, [], [], rfl, rfl, M2, ok0 _⟩⟩
    rintro m _ fe H4 ⟨i, s, fa, fb, rfl, hmi, M, ok⟩
    have wi : wr .i64 ((i : Int) + 1) = ((i + 1 : Nat) : Int) := by rw [wr_i64 (by omega) (by omega)]; omega
    (repeat first | refine HReg.step ?_ | refine HCode.step ?_)
    refine hif (fun h2 => ?_) (fun h2 => ?_)
    · have h2 := ltB_true.1 h2
      obtain ⟨o, ho⟩ : ∃ o, ops0[i]? = some o := ⟨ops0[i]'(by omega), by simp⟩
      obtain ⟨ba, bo, rfl, _⟩ := r0 _ _ (orow_get ho 0 _ rfl)
      have hin := (h0 o (List.mem_of_getElem? ho)).upd0 u1
      have hs := opSum_take ho
      have hle := opSum_le ops0 (i + 1)
      have rr := r0.upd (S := []) (M.base (i := 0) rfl) (.inr (Off.nil _))
      (repeat first | refine HReg.step ?_ | refine HCode.step ?_)
      refine HReq.mk ⟨by omega, by omega⟩ ?_
      (repeat first | refine HReg.step ?_ | refine HCode.step ?_)
      refine HLoadN_op rr ho ?_
      (repeat first | refine HReg.step ?_ | refine HCode.step ?_)
      refine HCall.mk ⟨Try.f29, Try.func29, by rfl, by rfl⟩ ?_
      refine does_t (o := o.o) (a := o.a) (c := o.c) (M.each 0 _ rfl) ok (hin.upd0 (M.base (i := 0) rfl)).row (by omega) hin.fits fun fa' H5 D5 S5 => ?_
      have M5 := M.step (i := 0) rfl D5 S5
      simp only [List.set] at M5
      have rr5 := r0.upd (S := []) (M5.base (i := 0) rfl) (.inr (Off.nil _))
      (repeat first | refine HReg.step ?_ | refine HCode.step ?_)
      refine HReq.mk ⟨by omega, by omega⟩ ?_
      (repeat first | refine HReg.step ?_ | refine HCode.step ?_)
      refine HLoadN_op2 rr5 rr ho ?_
      (repeat first | refine HReg.step ?_ | refine HCode.step ?_)
      refine HCall.mk ⟨Try.f29, Try.func29, by rfl, by rfl⟩ ?_
      refine does_t (o := o.o) (a := o.a) (c := o.c) (M5.each 1 _ rfl) ok (hin.upd0 (M5.base (i := 0) rfl)).row (by omega) hin.fits fun fb' H6 D6 S6 => ?_
      have M6 := M5.step (i := 1) rfl D6 S6
      simp only [List.set] at M6
      (repeat first | refine HReg.step ?_ | refine HCode.step ?_)
      rw [eqB_self]
      (repeat first | refine HReg.step ?_ | refine HCode.step ?_)
      rw [wi]
      exact ⟨m - 1, by omega, F1Inv.mk ⟨i + 1, _, fa', fb', rfl, by omega, M6, by rw [hs]; exact ok.does o.o⟩⟩
    · have h2 := ltB_false.1 h2
      (repeat first | refine HReg.step ?_ | refine HCode.step ?_)
      obtain rfl : i = ops0.length := by omega
      rw [List.take_length] at ok
      exact F1J.mk ⟨s, fa, fb, rfl, M, ok⟩
  rintro _ fe1 H4 ⟨s, fa, fb, rfl, M, ok⟩
  (repeat first | refine HReg.step ?_ | refine HCode.step ?_)
  refine HCall.mk ⟨Try.f17, Try.func17, by rfl, by rfl⟩ ?_
  refine up_t (M.each 0 _ rfl) fun H5 D5 S5 => ?_
  have M5 := M.step (i := 0) rfl D5 S5
  simp only [List.set] at M5
  (repeat first | refine HReg.step ?_ | refine HCode.step ?_)
  refine HCall.mk ⟨Try.f17, Try.func17, by rfl, by rfl⟩ ?_
  refine up_t (M5.each 1 _ rfl) fun H6 D6 S6 => ?_
  have M6 := M5.step (i := 1) rfl D6 S6
  simp only [List.set] at M6
  have ha : bitsS .and .i64 n 31 = n % 32 := and_mask n 5 (by decide)
  have hn0 : 0 ≤ n % 32 := Int.emod_nonneg _ (by decide)
  have hn1 : n % 32 < 32 := Int.emod_lt_of_pos _ (by decide)
  (repeat first | refine HReg.step ?_ | refine HCode.step ?_)
  rw [ha]
  generalize n % 32 = n' at hn0 hn1
  (repeat first | refine HReg.step ?_ | refine HCode.step ?_)
  refine HCall.mk ⟨Try.f14, Try.func14, by rfl, by rfl⟩ ?_
  refine arm_t (M6.each 0 _ rfl) (by omega) (by omega) fun H7 D7 S7 => ?_
  have M7 := M6.step (i := 0) rfl D7 S7
  simp only [List.set] at M7
  clear M2 M5 M6 M D5 S5 D6 S6 D7 S7 Da Db M1 ua ub
  ((repeat refine HReg.step ?_); first | (show HCode _ _ _ (Code.seq (Code.seq (Code.region _ _ _) (Code.block _ _)) _) _ _ _; refine hcutC (a := Code.seq (Code.region _ _ _) (Code.block _ _)) [8, 12, 13, 14, 59, 60, 61, 62, 63, 64, 65, 66, 67, 68, 69, 70, 71, 72, 73, 74, 75, 76, 77, 78, 79, 80, 81, 82, 83, 84, 85, 86, 87, 88, 89, 90, 91, 92, 93, 94, 95, 96, 97, 98, 99, 100, 101, 102, 103, 104, 105, 106, 107, 108, 109, 110] [12] (F2J H1 (opSum ops0 + opSum ops1) keep ga ra gb rb) rfl (by repeat' first | exact Resp.retD | exact Resp1.valuesK | refine Resp.blockD ?_ | refine Resp.thenD ?_ ?_ | refine Resp.hcode ?_) ?_ ?_) | (refine HCode.step ?_; (repeat refine HReg.step ?_); first | (show HCode _ _ _ (Code.seq (Code.seq (Code.region _ _ _) (Code.block _ _)) _) _ _ _; refine hcutC (a := Code.seq (Code.region _ _ _) (Code.block _ _)) [8, 12, 13, 14, 59, 60, 61, 62, 63, 64, 65, 66, 67, 68, 69, 70, 71, 72, 73, 74, 75, 76, 77, 78, 79, 80, 81, 82, 83, 84, 85, 86, 87, 88, 89, 90, 91, 92, 93, 94, 95, 96, 97, 98, 99, 100, 101, 102, 103, 104, 105, 106, 107, 108, 109, 110] [12] (F2J H1 (opSum ops0 + opSum ops1) keep ga ra gb rb) rfl (by repeat' first | exact Resp.retD | exact Resp1.valuesK | refine Resp.blockD ?_ | refine Resp.thenD ?_ ?_ | refine Resp.hcode ?_) ?_ ?_) | (refine HCode.step ?_; (repeat refine HReg.step ?_); first | (show HCode _ _ _ (Code.seq (Code.seq (Code.region _ _ _) (Code.block _ _)) _) _ _ _; refine hcutC (a := Code.seq (Code.region _ _ _) (Code.block _ _)) [8, 12, 13, 14, 59, 60, 61, 62, 63, 64, 65, 66, 67, 68, 69, 70, 71, 72, 73, 74, 75, 76, 77, 78, 79, 80, 81, 82, 83, 84, 85, 86, 87, 88, 89, 90, 91, 92, 93, 94, 95, 96, 97, 98, 99, 100, 101, 102, 103, 104, 105, 106, 107, 108, 109, 110] [12] (F2J H1 (opSum ops0 + opSum ops1) keep ga ra gb rb) rfl (by repeat' first | exact Resp.retD | exact Resp1.valuesK | refine Resp.blockD ?_ | refine Resp.thenD ?_ ?_ | refine Resp.hcode ?_) ?_ ?_) | (refine HCode.step ?_; (repeat refine HReg.step ?_); first | (show HCode _ _ _ (Code.seq (Code.seq (Code.region _ _ _) (Code.block _ _)) _) _ _ _; refine hcutC (a := Code.seq (Code.region _ _ _) (Code.block _ _)) [8, 12, 13, 14, 59, 60, 61, 62, 63, 64, 65, 66, 67, 68, 69, 70, 71, 72, 73, 74, 75, 76, 77, 78, 79, 80, 81, 82, 83, 84, 85, 86, 87, 88, 89, 90, 91, 92, 93, 94, 95, 96, 97, 98, 99, 100, 101, 102, 103, 104, 105, 106, 107, 108, 109, 110] [12] (F2J H1 (opSum ops0 + opSum ops1) keep ga ra gb rb) rfl (by repeat' first | exact Resp.retD | exact Resp1.valuesK | refine Resp.blockD ?_ | refine Resp.thenD ?_ ?_ | refine Resp.hcode ?_) ?_ ?_) | (refine HCode.step ?_; (repeat refine HReg.step ?_); first | (show HCode _ _ _ (Code.seq (Code.seq (Code.region _ _ _) (Code.block _ _)) _) _ _ _; refine hcutC (a := Code.seq (Code.region _ _ _) (Code.block _ _)) [8, 12, 13, 14, 59, 60, 61, 62, 63, 64, 65, 66, 67, 68, 69, 70, 71, 72, 73, 74, 75, 76, 77, 78, 79, 80, 81, 82, 83, 84, 85, 86, 87, 88, 89, 90, 91, 92, 93, 94, 95, 96, 97, 98, 99, 100, 101, 102, 103, 104, 105, 106, 107, 108, 109, 110] [12] (F2J H1 (opSum ops0 + opSum ops1) keep ga ra gb rb) rfl (by repeat' first | exact Resp.retD | exact Resp1.valuesK | refine Resp.blockD ?_ | refine Resp.thenD ?_ ?_ | refine Resp.hcode ?_) ?_ ?_) | (refine HCode.step ?_; (repeat refine HReg.step ?_); first | (show HCode _ _ _ (Code.seq (Code.seq (Code.region _ _ _) (Code.block _ _)) _) _ _ _; refine hcutC (a := Code.seq (Code.region _ _ _) (Code.block _ _)) [8, 12, 13, 14, 59, 60, 61, 62, 63, 64, 65, 66, 67, 68, 69, 70, 71, 72, 73, 74, 75, 76, 77, 78, 79, 80, 81, 82, 83, 84, 85, 86, 87, 88, 89, 90, 91, 92, 93, 94, 95, 96, 97, 98, 99, 100, 101, 102, 103, 104, 105, 106, 107, 108, 109, 110] [12] (F2J H1 (opSum ops0 + opSum ops1) keep ga ra gb rb) rfl (by repeat' first | exact Resp.retD | exact Resp1.valuesK | refine Resp.blockD ?_ | refine Resp.thenD ?_ ?_ | refine Resp.hcode ?_) ?_ ?_) | (refine HCode.step ?_; (repeat refine HReg.step ?_); first | (show HCode _ _ _ (Code.seq (Code.seq (Code.region _ _ _) (Code.block _ _)) _) _ _ _; refine hcutC (a := Code.seq (Code.region _ _ _) (Code.block _ _)) [8, 12, 13, 14, 59, 60, 61, 62, 63, 64, 65, 66, 67, 68, 69, 70, 71, 72, 73, 74, 75, 76, 77, 78, 79, 80, 81, 82, 83, 84, 85, 86, 87, 88, 89, 90, 91, 92, 93, 94, 95, 96, 97, 98, 99, 100, 101, 102, 103, 104, 105, 106, 107, 108, 109, 110] [12] (F2J H1 (opSum ops0 + opSum ops1) keep ga ra gb rb) rfl (by repeat' first | exact Resp.retD | exact Resp1.valuesK | refine Resp.blockD ?_ | refine Resp.thenD ?_ ?_ | refine Resp.hcode ?_) ?_ ?_) | (refine HCode.step ?_; (repeat refine HReg.step ?_); first | (show HCode _ _ _ (Code.seq (Code.seq (Code.region _ _ _) (Code.block _ _)) _) _ _ _; refine hcutC (a := Code.seq (Code.region _ _ _) (Code.block _ _)) [8, 12, 13, 14, 59, 60, 61, 62, 63, 64, 65, 66, 67, 68, 69, 70, 71, 72, 73, 74, 75, 76, 77, 78, 79, 80, 81, 82, 83, 84, 85, 86, 87, 88, 89, 90, 91, 92, 93, 94, 95, 96, 97, 98, 99, 100, 101, 102, 103, 104, 105, 106, 107, 108, 109, 110] [12] (F2J H1 (opSum ops0 + opSum ops1) keep ga ra gb rb) rfl (by repeat' first | exact Resp.retD | exact Resp1.valuesK | refine Resp.blockD ?_ | refine Resp.thenD ?_ ?_ | refine Resp.hcode ?_) ?_ ?_) | (refine HCode.step ?_; (repeat refine HReg.step ?_); first | (show HCode _ _ _ (Code.seq (Code.seq (Code.region _ _ _) (Code.block _ _)) _) _ _ _; refine hcutC (a := Code.seq (Code.region _ _ _) (Code.block _ _)) [8, 12, 13, 14, 59, 60, 61, 62, 63, 64, 65, 66, 67, 68, 69, 70, 71, 72, 73, 74, 75, 76, 77, 78, 79, 80, 81, 82, 83, 84, 85, 86, 87, 88, 89, 90, 91, 92, 93, 94, 95, 96, 97, 98, 99, 100, 101, 102, 103, 104, 105, 106, 107, 108, 109, 110] [12] (F2J H1 (opSum ops0 + opSum ops1) keep ga ra gb rb) rfl (by repeat' first | exact Resp.retD | exact Resp1.valuesK | refine Resp.blockD ?_ | refine Resp.thenD ?_ ?_ | refine Resp.hcode ?_) ?_ ?_) | (refine HCode.step ?_; (repeat refine HReg.step ?_); first | (show HCode _ _ _ (Code.seq (Code.seq (Code.region _ _ _) (Code.block _ _)) _) _ _ _; refine hcutC (a := Code.seq (Code.region _ _ _) (Code.block _ _)) [8, 12, 13, 14, 59, 60, 61, 62, 63, 64, 65, 66, 67, 68, 69, 70, 71, 72, 73, 74, 75, 76, 77, 78, 79, 80, 81, 82, 83, 84, 85, 86, 87, 88, 89, 90, 91, 92, 93, 94, 95, 96, 97, 98, 99, 100, 101, 102, 103, 104, 105, 106, 107, 108, 109, 110] [12] (F2J H1 (opSum ops0 + opSum ops1) keep ga ra gb rb) rfl (by repeat' first | exact Resp.retD | exact Resp1.valuesK | refine Resp.blockD ?_ | refine Resp.thenD ?_ ?_ | refine Resp.hcode ?_) ?_ ?_) | (refine HCode.step ?_; (repeat refine HReg.step ?_); first | (show HCode _ _ _ (Code.seq (Code.seq (Code.region _ _ _) (Code.block _ _)) _) _ _ _; refine hcutC (a := Code.seq (Code.region _ _ _) (Code.block _ _)) [8, 12, 13, 14, 59, 60, 61, 62, 63, 64, 65, 66, 67, 68, 69, 70, 71, 72, 73, 74, 75, 76, 77, 78, 79, 80, 81, 82, 83, 84, 85, 86, 87, 88, 89, 90, 91, 92, 93, 94, 95, 96, 97, 98, 99, 100, 101, 102, 103, 104, 105, 106, 107, 108, 109, 110] [12] (F2J H1 (opSum ops0 + opSum ops1) keep ga ra gb rb) rfl (by repeat' first | exact Resp.retD | exact Resp1.valuesK | refine Resp.blockD ?_ | refine Resp.thenD ?_ ?_ | refine Resp.hcode ?_) ?_ ?_) | (refine HCode.step ?_; (repeat refine HReg.step ?_); first | (show HCode _ _ _ (Code.seq (Code.seq (Code.region _ _ _) (Code.block _ _)) _) _ _ _; refine hcutC (a := Code.seq (Code.region _ _ _) (Code.block _ _)) [8, 12, 13, 14, 59, 60, 61, 62, 63, 64, 65, 66, 67, 68, 69, 70, 71, 72, 73, 74, 75, 76, 77, 78, 79, 80, 81, 82, 83, 84, 85, 86, 87, 88, 89, 90, 91, 92, 93, 94, 95, 96, 97, 98, 99, 100, 101, 102, 103, 104, 105, 106, 107, 108, 109, 110] [12] (F2J H1 (opSum ops0 + opSum ops1) keep ga ra gb rb) rfl (by repeat' first | exact Resp.retD | exact Resp1.valuesK | refine Resp.blockD ?_ | refine Resp.thenD ?_ ?_ | refine Resp.hcode ?_) ?_ ?_) | (refine HCode.step ?_; (repeat refine HReg.step ?_); first | (show HCode _ _ _ (Code.seq (Code.seq (Code.region _ _ _) (Code.block _ _)) _) _ _ _; refine hcutC (a := Code.seq (Code.region _ _ _) (Code.block _ _)) [8, 12, 13, 14, 59, 60, 61, 62, 63, 64, 65, 66, 67, 68, 69, 70, 71, 72, 73, 74, 75, 76, 77, 78, 79, 80, 81, 82, 83, 84, 85, 86, 87, 88, 89, 90, 91, 92, 93, 94, 95, 96, 97, 98, 99, 100, 101, 102, 103, 104, 105, 106, 107, 108, 109, 110] [12] (F2J H1 (opSum ops0 + opSum ops1) keep ga ra gb rb) rfl (by repeat' first | exact Resp.retD | exact Resp1.valuesK | refine Resp.blockD ?_ | refine Resp.thenD ?_ ?_ | refine Resp.hcode ?_) ?_ ?_) | (refine HCode.step ?_; (repeat refine HReg.step ?_); first | (show HCode _ _ _ (Code.seq (Code.seq (Code.region _ _ _) (Code.block _ _)) _) _ _ _; refine hcutC (a := Code.seq (Code.region _ _ _) (Code.block _ _)) [8, 12, 13, 14, 59, 60, 61, 62, 63, 64, 65, 66, 67, 68, 69, 70, 71, 72, 73, 74, 75, 76, 77, 78, 79, 80, 81, 82, 83, 84, 85, 86, 87, 88, 89, 90, 91, 92, 93, 94, 95, 96, 97, 98, 99, 100, 101, 102, 103, 104, 105, 106, 107, 108, 109, 110] [12] (F2J H1 (opSum ops0 + opSum ops1) keep ga ra gb rb) rfl (by repeat' first | exact Resp.retD | exact Resp1.valuesK | refine Resp.blockD ?_ | refine Resp.thenD ?_ ?_ | refine Resp.hcode ?_) ?_ ?_) | (refine HCode.step ?_; (repeat refine HReg.step ?_); first | (show HCode _ _ _ (Code.seq (Code.seq (Code.region _ _ _) (Code.block _ _)) _) _ _ _; refine hcutC (a := Code.seq (Code.region _ _ _) (Code.block _ _)) [8, 12, 13, 14, 59, 60, 61, 62, 63, 64, 65, 66, 67, 68, 69, 70, 71, 72, 73, 74, 75, 76, 77, 78, 79, 80, 81, 82, 83, 84, 85, 86, 87, 88, 89, 90, 91, 92, 93, 94, 95, 96, 97, 98, 99, 100, 101, 102, 103, 104, 105, 106, 107, 108, 109, 110] [12] (F2J H1 (opSum ops0 + opSum ops1) keep ga ra gb rb) rfl (by repeat' first | exact Resp.retD | exact Resp1.valuesK | refine Resp.blockD ?_ | refine Resp.thenD ?_ ?_ | refine Resp.hcode ?_) ?_ ?_) | (refine HCode.step ?_; (repeat refine HReg.step ?_); first | (show HCode _ _ _ (Code.seq (Code.seq (Code.region _ _ _) (Code.block _ _)) _) _ _ _; refine hcutC (a := Code.seq (Code.region _ _ _) (Code.block _ _)) [8, 12, 13, 14, 59, 60, 61, 62, 63, 64, 65, 66, 67, 68, 69, 70, 71, 72, 73, 74, 75, 76, 77, 78, 79, 80, 81, 82, 83, 84, 85, 86, 87, 88, 89, 90, 91, 92, 93, 94, 95, 96, 97, 98, 99, 100, 101, 102, 103, 104, 105, 106, 107, 108, 109, 110] [12] (F2J H1 (opSum ops0 + opSum ops1) keep ga ra gb rb) rfl (by repeat' first | exact Resp.retD | exact Resp1.valuesK | refine Resp.blockD ?_ | refine Resp.thenD ?_ ?_ | refine Resp.hcode ?_) ?_ ?_) | (refine HCode.step ?_; (repeat refine HReg.step ?_); first | (show HCode _ _ _ (Code.seq (Code.seq (Code.region _ _ _) (Code.block _ _)) _) _ _ _; refine hcutC (a := Code.seq (Code.region _ _ _) (Code.block _ _)) [8, 12, 13, 14, 59, 60, 61, 62, 63, 64, 65, 66, 67, 68, 69, 70, 71, 72, 73, 74, 75, 76, 77, 78, 79, 80, 81, 82, 83, 84, 85, 86, 87, 88, 89, 90, 91, 92, 93, 94, 95, 96, 97, 98, 99, 100, 101, 102, 103, 104, 105, 106, 107, 108, 109, 110] [12] (F2J H1 (opSum ops0 + opSum ops1) keep ga ra gb rb) rfl (by repeat' first | exact Resp.retD | exact Resp1.valuesK | refine Resp.blockD ?_ | refine Resp.thenD ?_ ?_ | refine Resp.hcode ?_) ?_ ?_) | (refine HCode.step ?_; (repeat refine HReg.step ?_); first | (show HCode _ _ _ (Code.seq (Code.seq (Code.region _ _ _) (Code.block _ _)) _) _ _ _; refine hcutC (a := Code.seq (Code.region _ _ _) (Code.block _ _)) [8, 12, 13, 14, 59, 60, 61, 62, 63, 64, 65, 66, 67, 68, 69, 70, 71, 72, 73, 74, 75, 76, 77, 78, 79, 80, 81, 82, 83, 84, 85, 86, 87, 88, 89, 90, 91, 92, 93, 94, 95, 96, 97, 98, 99, 100, 101, 102, 103, 104, 105, 106, 107, 108, 109, 110] [12] (F2J H1 (opSum ops0 + opSum ops1) keep ga ra gb rb) rfl (by repeat' first | exact Resp.retD | exact Resp1.valuesK | refine Resp.blockD ?_ | refine Resp.thenD ?_ ?_ | refine Resp.hcode ?_) ?_ ?_) | (refine HCode.step ?_; (repeat refine HReg.step ?_); first | (show HCode _ _ _ (Code.seq (Code.seq (Code.region _ _ _) (Code.block _ _)) _) _ _ _; refine hcutC (a := Code.seq (Code.region _ _ _) (Code.block _ _)) [8, 12, 13, 14, 59, 60, 61, 62, 63, 64, 65, 66, 67, 68, 69, 70, 71, 72, 73, 74, 75, 76, 77, 78, 79, 80, 81, 82, 83, 84, 85, 86, 87, 88, 89, 90, 91, 92, 93, 94, 95, 96, 97, 98, 99, 100, 101, 102, 103, 104, 105, 106, 107, 108, 109, 110] [12] (F2J H1 (opSum ops0 + opSum ops1) keep ga ra gb rb) rfl (by repeat' first | exact Resp.retD | exact Resp1.valuesK | refine Resp.blockD ?_ | refine Resp.thenD ?_ ?_ | refine Resp.hcode ?_) ?_ ?_) | (refine HCode.step ?_; (repeat refine HReg.step ?_); first | (show HCode _ _ _ (Code.seq (Code.seq (Code.region _ _ _) (Code.block _ _)) _) _ _ _; refine hcutC (a := Code.seq (Code.region _ _ _) (Code.block _ _)) [8, 12, 13, 14, 59, 60, 61, 62, 63, 64, 65, 66, 67, 68, 69, 70, 71, 72, 73, 74, 75, 76, 77, 78, 79, 80, 81, 82, 83, 84, 85, 86, 87, 88, 89, 90, 91, 92, 93, 94, 95, 96, 97, 98, 99, 100, 101, 102, 103, 104, 105, 106, 107, 108, 109, 110] [12] (F2J H1 (opSum ops0 + opSum ops1) keep ga ra gb rb) rfl (by repeat' first | exact Resp.retD | exact Resp1.valuesK | refine Resp.blockD ?_ | refine Resp.thenD ?_ ?_ | refine Resp.hcode ?_) ?_ ?_) | (refine HCode.step ?_; (repeat refine HReg.step ?_); (show HCode _ _ _ (Code.seq (Code.seq (Code.region _ _ _) (Code.block _ _)) _) _ _ _; refine hcutC (a := Code.seq (Code.region _ _ _) (Code.block _ _)) [8, 12, 13, 14, 59, 60, 61, 62, 63, 64, 65, 66, 67, 68, 69, 70, 71, 72, 73, 74, 75, 76, 77, 78, 79, 80, 81, 82, 83, 84, 85, 86, 87, 88, 89, 90, 91, 92, 93, 94, 95, 96, 97, 98, 99, 100, 101, 102, 103, 104, 105, 106, 107, 108, 109, 110] [12] (F2J H1 (opSum ops0 + opSum ops1) keep ga ra gb rb) rfl (by repeat' first | exact Resp.retD | exact Resp1.valuesK | refine Resp.blockD ?_ | refine Resp.thenD ?_ ?_ | refine Resp.hcode ?_) ?_ ?_))))))))))))))))))))))
  · (repeat first | refine HReg.step ?_ | refine HCode.step ?_)
    refine hloopC [8, 12, 13, 14, 59, 60, 61, 62, 63, 64, 65, 66, 67, 68, 69, 70, 71, 72, 73, 74, 75, 76, 77, 78, 79, 80, 81, 82, 83, 84, 85, 86, 87, 88, 89, 90, 91, 92, 93, 94, 95, 96, 97, 98, 99, 100, 101, 102, 103, 104, 105, 106, 107, 108, 109, 110] [12, 13] (F2Inv H1 ops1 (opSum ops0) keep ga ra gb rb) rfl (by repeat' first | exact Resp.retD | exact Resp1.valuesK | refine Resp.blockD ?_ | refine Resp.thenD ?_ ?_ | refine Resp.hcode ?_) ?_ ?_
    · exact ⟨ops1.length, F2Inv.mk ⟨0, n', _, _, _, _, rfl, rfl, M7, Arms.start hn0, (ok.upp.arms _ _).mono (Nat.le_add_right _ _), ok.upp.mono (Nat.le_add_right _ _), by omega, by omega⟩⟩
    rintro m _ fe H8 ⟨i, left, sa, sb, fa, fb, rfl, hmi, M, ar, oka, okb, hl1, hl2⟩
    have wi : wr .i64 ((i : Int) + 1) = ((i + 1 : Nat) : Int) := by rw [wr_i64 (by omega) (by omega)]; omega
    (repeat first | refine HReg.step ?_ | refine HCode.step ?_)
    refine hif (fun h2 => ?_) (fun h2 => ?_)
    · have h2 := ltB_true.1 h2
      obtain ⟨o, ho⟩ : ∃ o, ops1[i]? = some o := ⟨ops1[i]'(by omega), by simp⟩
      obtain ⟨ba, bo, rfl, _⟩ := r1 _ _ (orow_get ho 0 _ rfl)
      have hin := (h1 o (List.mem_of_getElem? ho)).upd0 u1
      have hs := opSum_take ho
      have hle := opSum_le ops1 (i + 1)
      have rr := r1.upd (S := []) (M.base (i := 0) rfl) (.inr (Off.nil _))
      (repeat first | refine HReg.step ?_ | refine HCode.step ?_)
      refine HReq.mk ⟨by omega, by omega⟩ ?_
      (repeat first | refine HReg.step ?_ | refine HCode.step ?_)
      refine HLoadN_op rr ho ?_
      (repeat first | refine HReg.step ?_ | refine HCode.step ?_)
      refine HNew.mk fun b14 hb14 => ?_
      (repeat first | refine HReg.step ?_ | refine HCode.step ?_)
      refine store_op (o := o) (OwnRow.lit (upd_same _ _ _) rfl) rfl fun H9 o9 u9 => ?_
      have u9 : Upd [] H8 H9 := Upd.drop (Upd.new hb14 _) u9 (fun q hq => by rw [List.mem_singleton.1 hq]; exact hb14)
      have M9 := M.upd0 u9
      have kd := o9.rows.get (i := 0) rfl
      have hf := hin.fits
      by_cases hsk : o.o.kind = 12 ∨ o.o.kind = 9 ∨ o.o.kind = 10
      · (repeat first | refine HReg.step ?_ | refine HCode.step ?_)
        refine HLoad.one (v := .int .i64 o.o.kind) (by exact kd) ?_
        by_cases e12 : o.o.kind = 12
        · (repeat first | refine HReg.step ?_ | refine HCode.step ?_)
          rw [eqB_true.2 e12]
          (repeat first | refine HReg.step ?_ | refine HCode.step ?_)
          rw [wi]
          exact ⟨m - 1, by omega, F2Inv.mk ⟨i + 1, left, sa, sb, fa, fb, rfl, by omega, M9, ar, oka.mono (by omega), okb.mono (by omega), hl1, by omega⟩⟩
        (repeat first | refine HReg.step ?_ | refine HCode.step ?_)
        rw [eqB_false.2 e12]
        (repeat first | refine HReg.step ?_ | refine HCode.step ?_)
        refine HLoad.one (v := .int .i64 o.o.kind) (by exact kd) ?_
        by_cases e9 : o.o.kind = 9
        · (repeat first | refine HReg.step ?_ | refine HCode.step ?_)
          rw [eqB_true.2 e9]
          (repeat first | refine HReg.step ?_ | refine HCode.step ?_)
          rw [wi]
          exact ⟨m - 1, by omega, F2Inv.mk ⟨i + 1, left, sa, sb, fa, fb, rfl, by omega, M9, ar, oka.mono (by omega), okb.mono (by omega), hl1, by omega⟩⟩
        (repeat first | refine HReg.step ?_ | refine HCode.step ?_)
        rw [eqB_false.2 e9]
        (repeat first | refine HReg.step ?_ | refine HCode.step ?_)
        refine HLoad.one (v := .int .i64 o.o.kind) (by exact kd) ?_
        by_cases e10 : o.o.kind = 10
        · (repeat first | refine HReg.step ?_ | refine HCode.step ?_)
          rw [eqB_true.2 e10]
          (repeat first | refine HReg.step ?_ | refine HCode.step ?_)
          rw [wi]
          exact ⟨m - 1, by omega, F2Inv.mk ⟨i + 1, left, sa, sb, fa, fb, rfl, by omega, M9, ar, oka.mono (by omega), okb.mono (by omega), hl1, by omega⟩⟩
        exact absurd hsk (by omega)
      have k12 : o.o.kind ≠ 12 := fun e => hsk (.inl e)
      have k9 : o.o.kind ≠ 9 := fun e => hsk (.inr (.inl e))
      have k10 : o.o.kind ≠ 10 := fun e => hsk (.inr (.inr e))
      (repeat first | refine HReg.step ?_ | refine HCode.step ?_)
      refine HLoad.one (v := .int .i64 o.o.kind) (by exact kd) ?_
      (repeat first | refine HReg.step ?_ | refine HCode.step ?_)
      rw [eqB_false.2 k12]
      (repeat first | refine HReg.step ?_ | refine HCode.step ?_)
      refine HLoad.one (v := .int .i64 o.o.kind) (by exact kd) ?_
      (repeat first | refine HReg.step ?_ | refine HCode.step ?_)
      rw [eqB_false.2 k9]
      (repeat first | refine HReg.step ?_ | refine HCode.step ?_)
      refine HLoad.one (v := .int .i64 o.o.kind) (by exact kd) ?_
      (repeat first | refine HReg.step ?_ | refine HCode.step ?_)
      rw [eqB_false.2 k10]
      ((repeat refine HReg.step ?_); first | (show HCode _ _ _ (Code.seq (Code.seq (Code.region _ _ _) (Code.cond _ _ _)) _) _ _ _; refine hcutC (a := Code.seq (Code.region _ _ _) (Code.cond _ _ _)) [12, 82, 83, 84, 85, 86, 87, 88, 89, 90, 91, 92, 93, 94, 95, 96] [12] (F3J H1 o left keep (opSum ops0 + opSum (ops1.take i)) sa sb ga ra gb rb b14 fa) rfl (by repeat' first | exact Resp.retD | exact Resp1.valuesK | refine Resp.blockD ?_ | refine Resp.thenD ?_ ?_ | refine Resp.hcode ?_) ?_ ?_) | (refine HCode.step ?_; (repeat refine HReg.step ?_); first | (show HCode _ _ _ (Code.seq (Code.seq (Code.region _ _ _) (Code.cond _ _ _)) _) _ _ _; refine hcutC (a := Code.seq (Code.region _ _ _) (Code.cond _ _ _)) [12, 82, 83, 84, 85, 86, 87, 88, 89, 90, 91, 92, 93, 94, 95, 96] [12] (F3J H1 o left keep (opSum ops0 + opSum (ops1.take i)) sa sb ga ra gb rb b14 fa) rfl (by repeat' first | exact Resp.retD | exact Resp1.valuesK | refine Resp.blockD ?_ | refine Resp.thenD ?_ ?_ | refine Resp.hcode ?_) ?_ ?_) | (refine HCode.step ?_; (repeat refine HReg.step ?_); first | (show HCode _ _ _ (Code.seq (Code.seq (Code.region _ _ _) (Code.cond _ _ _)) _) _ _ _; refine hcutC (a := Code.seq (Code.region _ _ _) (Code.cond _ _ _)) [12, 82, 83, 84, 85, 86, 87, 88, 89, 90, 91, 92, 93, 94, 95, 96] [12] (F3J H1 o left keep (opSum ops0 + opSum (ops1.take i)) sa sb ga ra gb rb b14 fa) rfl (by repeat' first | exact Resp.retD | exact Resp1.valuesK | refine Resp.blockD ?_ | refine Resp.thenD ?_ ?_ | refine Resp.hcode ?_) ?_ ?_) | (refine HCode.step ?_; (repeat refine HReg.step ?_); first | (show HCode _ _ _ (Code.seq (Code.seq (Code.region _ _ _) (Code.cond _ _ _)) _) _ _ _; refine hcutC (a := Code.seq (Code.region _ _ _) (Code.cond _ _ _)) [12, 82, 83, 84, 85, 86, 87, 88, 89, 90, 91, 92, 93, 94, 95, 96] [12] (F3J H1 o left keep (opSum ops0 + opSum (ops1.take i)) sa sb ga ra gb rb b14 fa) rfl (by repeat' first | exact Resp.retD | exact Resp1.valuesK | refine Resp.blockD ?_ | refine Resp.thenD ?_ ?_ | refine Resp.hcode ?_) ?_ ?_) | (refine HCode.step ?_; (repeat refine HReg.step ?_); first | (show HCode _ _ _ (Code.seq (Code.seq (Code.region _ _ _) (Code.cond _ _ _)) _) _ _ _; refine hcutC (a := Code.seq (Code.region _ _ _) (Code.cond _ _ _)) [12, 82, 83, 84, 85, 86, 87, 88, 89, 90, 91, 92, 93, 94, 95, 96] [12] (F3J H1 o left keep (opSum ops0 + opSum (ops1.take i)) sa sb ga ra gb rb b14 fa) rfl (by repeat' first | exact Resp.retD | exact Resp1.valuesK | refine Resp.blockD ?_ | refine Resp.thenD ?_ ?_ | refine Resp.hcode ?_) ?_ ?_) | (refine HCode.step ?_; (repeat refine HReg.step ?_); first | (show HCode _ _ _ (Code.seq (Code.seq (Code.region _ _ _) (Code.cond _ _ _)) _) _ _ _; refine hcutC (a := Code.seq (Code.region _ _ _) (Code.cond _ _ _)) [12, 82, 83, 84, 85, 86, 87, 88, 89, 90, 91, 92, 93, 94, 95, 96] [12] (F3J H1 o left keep (opSum ops0 + opSum (ops1.take i)) sa sb ga ra gb rb b14 fa) rfl (by repeat' first | exact Resp.retD | exact Resp1.valuesK | refine Resp.blockD ?_ | refine Resp.thenD ?_ ?_ | refine Resp.hcode ?_) ?_ ?_) | (refine HCode.step ?_; (repeat refine HReg.step ?_); first | (show HCode _ _ _ (Code.seq (Code.seq (Code.region _ _ _) (Code.cond _ _ _)) _) _ _ _; refine hcutC (a := Code.seq (Code.region _ _ _) (Code.cond _ _ _)) [12, 82, 83, 84, 85, 86, 87, 88, 89, 90, 91, 92, 93, 94, 95, 96] [12] (F3J H1 o left keep (opSum ops0 + opSum (ops1.take i)) sa sb ga ra gb rb b14 fa) rfl (by repeat' first | exact Resp.retD | exact Resp1.valuesK | refine Resp.blockD ?_ | refine Resp.thenD ?_ ?_ | refine Resp.hcode ?_) ?_ ?_) | (refine HCode.step ?_; (repeat refine HReg.step ?_); first | (show HCode _ _ _ (Code.seq (Code.seq (Code.region _ _ _) (Code.cond _ _ _)) _) _ _ _; refine hcutC (a := Code.seq (Code.region _ _ _) (Code.cond _ _ _)) [12, 82, 83, 84, 85, 86, 87, 88, 89, 90, 91, 92, 93, 94, 95, 96] [12] (F3J H1 o left keep (opSum ops0 + opSum (ops1.take i)) sa sb ga ra gb rb b14 fa) rfl (by repeat' first | exact Resp.retD | exact Resp1.valuesK | refine Resp.blockD ?_ | refine Resp.thenD ?_ ?_ | refine Resp.hcode ?_) ?_ ?_) | (refine HCode.step ?_; (repeat refine HReg.step ?_); first | (show HCode _ _ _ (Code.seq (Code.seq (Code.region _ _ _) (Code.cond _ _ _)) _) _ _ _; refine hcutC (a := Code.seq (Code.region _ _ _) (Code.cond _ _ _)) [12, 82, 83, 84, 85, 86, 87, 88, 89, 90, 91, 92, 93, 94, 95, 96] [12] (F3J H1 o left keep (opSum ops0 + opSum (ops1.take i)) sa sb ga ra gb rb b14 fa) rfl (by repeat' first | exact Resp.retD | exact Resp1.valuesK | refine Resp.blockD ?_ | refine Resp.thenD ?_ ?_ | refine Resp.hcode ?_) ?_ ?_) | (refine HCode.step ?_; (repeat refine HReg.step ?_); first | (show HCode _ _ _ (Code.seq (Code.seq (Code.region _ _ _) (Code.cond _ _ _)) _) _ _ _; refine hcutC (a := Code.seq (Code.region _ _ _) (Code.cond _ _ _)) [12, 82, 83, 84, 85, 86, 87, 88, 89, 90, 91, 92, 93, 94, 95, 96] [12] (F3J H1 o left keep (opSum ops0 + opSum (ops1.take i)) sa sb ga ra gb rb b14 fa) rfl (by repeat' first | exact Resp.retD | exact Resp1.valuesK | refine Resp.blockD ?_ | refine Resp.thenD ?_ ?_ | refine Resp.hcode ?_) ?_ ?_) | (refine HCode.step ?_; (repeat refine HReg.step ?_); first | (show HCode _ _ _ (Code.seq (Code.seq (Code.region _ _ _) (Code.cond _ _ _)) _) _ _ _; refine hcutC (a := Code.seq (Code.region _ _ _) (Code.cond _ _ _)) [12, 82, 83, 84, 85, 86, 87, 88, 89, 90, 91, 92, 93, 94, 95, 96] [12] (F3J H1 o left keep (opSum ops0 + opSum (ops1.take i)) sa sb ga ra gb rb b14 fa) rfl (by repeat' first | exact Resp.retD | exact Resp1.valuesK | refine Resp.blockD ?_ | refine Resp.thenD ?_ ?_ | refine Resp.hcode ?_) ?_ ?_) | (refine HCode.step ?_; (repeat refine HReg.step ?_); first | (show HCode _ _ _ (Code.seq (Code.seq (Code.region _ _ _) (Code.cond _ _ _)) _) _ _ _; refine hcutC (a := Code.seq (Code.region _ _ _) (Code.cond _ _ _)) [12, 82, 83, 84, 85, 86, 87, 88, 89, 90, 91, 92, 93, 94, 95, 96] [12] (F3J H1 o left keep (opSum ops0 + opSum (ops1.take i)) sa sb ga ra gb rb b14 fa) rfl (by repeat' first | exact Resp.retD | exact Resp1.valuesK | refine Resp.blockD ?_ | refine Resp.thenD ?_ ?_ | refine Resp.hcode ?_) ?_ ?_) | (refine HCode.step ?_; (repeat refine HReg.step ?_); first | (show HCode _ _ _ (Code.seq (Code.seq (Code.region _ _ _) (Code.cond _ _ _)) _) _ _ _; refine hcutC (a := Code.seq (Code.region _ _ _) (Code.cond _ _ _)) [12, 82, 83, 84, 85, 86, 87, 88, 89, 90, 91, 92, 93, 94, 95, 96] [12] (F3J H1 o left keep (opSum ops0 + opSum (ops1.take i)) sa sb ga ra gb rb b14 fa) rfl (by repeat' first | exact Resp.retD | exact Resp1.valuesK | refine Resp.blockD ?_ | refine Resp.thenD ?_ ?_ | refine Resp.hcode ?_) ?_ ?_) | (refine HCode.step ?_; (repeat refine HReg.step ?_); first | (show HCode _ _ _ (Code.seq (Code.seq (Code.region _ _ _) (Code.cond _ _ _)) _) _ _ _; refine hcutC (a := Code.seq (Code.region _ _ _) (Code.cond _ _ _)) [12, 82, 83, 84, 85, 86, 87, 88, 89, 90, 91, 92, 93, 94, 95, 96] [12] (F3J H1 o left keep (opSum ops0 + opSum (ops1.take i)) sa sb ga ra gb rb b14 fa) rfl (by repeat' first | exact Resp.retD | exact Resp1.valuesK | refine Resp.blockD ?_ | refine Resp.thenD ?_ ?_ | refine Resp.hcode ?_) ?_ ?_) | (refine HCode.step ?_; (repeat refine HReg.step ?_); first | (show HCode _ _ _ (Code.seq (Code.seq (Code.region _ _ _) (Code.cond _ _ _)) _) _ _ _; refine hcutC (a := Code.seq (Code.region _ _ _) (Code.cond _ _ _)) [12, 82, 83, 84, 85, 86, 87, 88, 89, 90, 91, 92, 93, 94, 95, 96] [12] (F3J H1 o left keep (opSum ops0 + opSum (ops1.take i)) sa sb ga ra gb rb b14 fa) rfl (by repeat' first | exact Resp.retD | exact Resp1.valuesK | refine Resp.blockD ?_ | refine Resp.thenD ?_ ?_ | refine Resp.hcode ?_) ?_ ?_) | (refine HCode.step ?_; (repeat refine HReg.step ?_); first | (show HCode _ _ _ (Code.seq (Code.seq (Code.region _ _ _) (Code.cond _ _ _)) _) _ _ _; refine hcutC (a := Code.seq (Code.region _ _ _) (Code.cond _ _ _)) [12, 82, 83, 84, 85, 86, 87, 88, 89, 90, 91, 92, 93, 94, 95, 96] [12] (F3J H1 o left keep (opSum ops0 + opSum (ops1.take i)) sa sb ga ra gb rb b14 fa) rfl (by repeat' first | exact Resp.retD | exact Resp1.valuesK | refine Resp.blockD ?_ | refine Resp.thenD ?_ ?_ | refine Resp.hcode ?_) ?_ ?_) | (refine HCode.step ?_; (repeat refine HReg.step ?_); first | (show HCode _ _ _ (Code.seq (Code.seq (Code.region _ _ _) (Code.cond _ _ _)) _) _ _ _; refine hcutC (a := Code.seq (Code.region _ _ _) (Code.cond _ _ _)) [12, 82, 83, 84, 85, 86, 87, 88, 89, 90, 91, 92, 93, 94, 95, 96] [12] (F3J H1 o left keep (opSum ops0 + opSum (ops1.take i)) sa sb ga ra gb rb b14 fa) rfl (by repeat' first | exact Resp.retD | exact Resp1.valuesK | refine Resp.blockD ?_ | refine Resp.thenD ?_ ?_ | refine Resp.hcode ?_) ?_ ?_) | (refine HCode.step ?_; (repeat refine HReg.step ?_); first | (show HCode _ _ _ (Code.seq (Code.seq (Code.region _ _ _) (Code.cond _ _ _)) _) _ _ _; refine hcutC (a := Code.seq (Code.region _ _ _) (Code.cond _ _ _)) [12, 82, 83, 84, 85, 86, 87, 88, 89, 90, 91, 92, 93, 94, 95, 96] [12] (F3J H1 o left keep (opSum ops0 + opSum (ops1.take i)) sa sb ga ra gb rb b14 fa) rfl (by repeat' first | exact Resp.retD | exact Resp1.valuesK | refine Resp.blockD ?_ | refine Resp.thenD ?_ ?_ | refine Resp.hcode ?_) ?_ ?_) | (refine HCode.step ?_; (repeat refine HReg.step ?_); first | (show HCode _ _ _ (Code.seq (Code.seq (Code.region _ _ _) (Code.cond _ _ _)) _) _ _ _; refine hcutC (a := Code.seq (Code.region _ _ _) (Code.cond _ _ _)) [12, 82, 83, 84, 85, 86, 87, 88, 89, 90, 91, 92, 93, 94, 95, 96] [12] (F3J H1 o left keep (opSum ops0 + opSum (ops1.take i)) sa sb ga ra gb rb b14 fa) rfl (by repeat' first | exact Resp.retD | exact Resp1.valuesK | refine Resp.blockD ?_ | refine Resp.thenD ?_ ?_ | refine Resp.hcode ?_) ?_ ?_) | (refine HCode.step ?_; (repeat refine HReg.step ?_); first | (show HCode _ _ _ (Code.seq (Code.seq (Code.region _ _ _) (Code.cond _ _ _)) _) _ _ _; refine hcutC (a := Code.seq (Code.region _ _ _) (Code.cond _ _ _)) [12, 82, 83, 84, 85, 86, 87, 88, 89, 90, 91, 92, 93, 94, 95, 96] [12] (F3J H1 o left keep (opSum ops0 + opSum (ops1.take i)) sa sb ga ra gb rb b14 fa) rfl (by repeat' first | exact Resp.retD | exact Resp1.valuesK | refine Resp.blockD ?_ | refine Resp.thenD ?_ ?_ | refine Resp.hcode ?_) ?_ ?_) | (refine HCode.step ?_; (repeat refine HReg.step ?_); (show HCode _ _ _ (Code.seq (Code.seq (Code.region _ _ _) (Code.cond _ _ _)) _) _ _ _; refine hcutC (a := Code.seq (Code.region _ _ _) (Code.cond _ _ _)) [12, 82, 83, 84, 85, 86, 87, 88, 89, 90, 91, 92, 93, 94, 95, 96] [12] (F3J H1 o left keep (opSum ops0 + opSum (ops1.take i)) sa sb ga ra gb rb b14 fa) rfl (by repeat' first | exact Resp.retD | exact Resp1.valuesK | refine Resp.blockD ?_ | refine Resp.thenD ?_ ?_ | refine Resp.hcode ?_) ?_ ?_))))))))))))))))))))))
      · have D9 := M9.each 1 _ rfl
        have wl : wr .i64 (left - 1) = left - 1 := wr_i64 (by omega) (by omega)
        (repeat first | refine HReg.step ?_ | refine HCode.step ?_)
        refine HLoad.one (v := .int .i64 o.o.kind) (by exact kd) ?_
        by_cases hc1 : 1 ≤ o.o.kind
        · (repeat first | refine HReg.step ?_ | refine HCode.step ?_)
          rw [ltB_false.2 hc1]
          (repeat first | refine HReg.step ?_ | refine HCode.step ?_)
          refine HLoad.one (v := .int .i64 o.o.kind) (by exact kd) ?_
          by_cases hc8 : o.o.kind ≤ 8
          · have hc : o.o.counts := ⟨hc1, hc8⟩
            (repeat first | refine HReg.step ?_ | refine HCode.step ?_)
            rw [ltB_false.2 hc8]
            (repeat first | refine HReg.step ?_ | refine HCode.step ?_)
            refine hif (fun h3 => ?_) (fun h3 => ?_)
            · have h3 := eqB_true.1 h3
              (repeat first | refine HReg.step ?_ | refine HCode.step ?_)
              refine HCall.mk ⟨Try.f31, Try.func31, by rfl, by rfl⟩ ?_
              refine crash_t D9 fun fb' H10 D10 S10 => ?_
              have M10 := M9.step (i := 1) rfl D10 S10
              simp only [List.set] at M10
              have o10 := o9.upd S10.upd (off_notin (D9.offT o9 (by decide) (by decide) (by decide)))
              (repeat first | refine HReg.step ?_ | refine HCode.step ?_)
              rw [wl]
              exact F3J.mk ⟨left - 1, sb.crash keep, fb', rfl, M10, o10, okb.crash keep, .inl ⟨hc, rfl, (if_pos h3).symm⟩⟩
            · have h3 := eqB_false.1 h3
              (repeat first | refine HReg.step ?_ | refine HCode.step ?_)
              rw [wl]
              exact F3J.mk ⟨left - 1, sb, fb, rfl, M9, o9, okb, .inl ⟨hc, rfl, (if_neg h3).symm⟩⟩
          · (repeat first | refine HReg.step ?_ | refine HCode.step ?_)
            rw [ltB_true.2 (show (8 : Int) < o.o.kind by omega)]
            (repeat first | refine HReg.step ?_ | refine HCode.step ?_)
            exact F3J.mk ⟨left, sb, fb, rfl, M9, o9, okb, .inr ⟨fun h => hc8 h.2, rfl, rfl⟩⟩
        · (repeat first | refine HReg.step ?_ | refine HCode.step ?_)
          rw [ltB_true.2 (show o.o.kind < 1 by omega)]
          (repeat first | refine HReg.step ?_ | refine HCode.step ?_)
          exact F3J.mk ⟨left, sb, fb, rfl, M9, o9, okb, .inr ⟨fun h => hc1 h.1, rfl, rfl⟩⟩
      rintro _ fe2 H10 ⟨left', sb', fb', rfl, M10, o14, okb', hcase⟩
      have har : (sa.does o.o).1 = (sb'.does o.o).1 ∧ Arms left' keep (sa.does o.o).2 (sb'.does o.o).2 := by
        rcases hcase with ⟨hc, rfl, rfl⟩ | ⟨hc, rfl, rfl⟩
        · exact ar.counted hc
        · exact ar.other hc k9 k10 k12
      have hl' : left' ≤ 31 ∧ -((i + 1 : Nat) : Int) ≤ left' := by
        rcases hcase with ⟨_, rfl, _⟩ | ⟨_, rfl, _⟩ <;> omega
      have D10 := M10.each 0 _ rfl
      (repeat first | refine HReg.step ?_ | refine HCode.step ?_)
      refine HLoadN_row o14.rows rfl ?_
      (repeat first | refine HReg.step ?_ | refine HCode.step ?_)
      refine HCall.mk ⟨Try.f29, Try.func29, by rfl, by rfl⟩ ?_
      refine does_t (o := o.o) (a := o.a) (c := o.c) D10 oka (hin.upd0 (M10.base (i := 0) rfl)).row (by omega) hf fun fa' H11 D11 S11 => ?_
      have M11 := M10.step (i := 0) rfl D11 S11
      simp only [List.set] at M11
      have o15 := o14.upd S11.upd (off_notin (D10.offT o14 (by decide) (by decide) (by decide)))
      (repeat first | refine HReg.step ?_ | refine HCode.step ?_)
      refine HLoadN_row2 o15.rows o14.rows rfl ?_
      (repeat first | refine HReg.step ?_ | refine HCode.step ?_)
      refine HCall.mk ⟨Try.f29, Try.func29, by rfl, by rfl⟩ ?_
      refine does_t (o := o.o) (a := o.a) (c := o.c) (M11.each 1 _ rfl) okb' (hin.upd0 (M11.base (i := 0) rfl)).row (by omega) hf fun fb2 H12 D12 S12 => ?_
      have M12 := M11.step (i := 1) rfl D12 S12
      simp only [List.set] at M12
      (repeat first | refine HReg.step ?_ | refine HCode.step ?_)
      rw [har.1, eqB_self]
      (repeat first | refine HReg.step ?_ | refine HCode.step ?_)
      refine HCall.mk ⟨Try.f26, Try.func26, by rfl, by rfl⟩ ?_
      refine down_t (M12.each 0 _ rfl) ?_
      (repeat first | refine HReg.step ?_ | refine HCode.step ?_)
      refine HCall.mk ⟨Try.f26, Try.func26, by rfl, by rfl⟩ ?_
      refine down_t (M12.each 1 _ rfl) ?_
      have hoff := har.2.off
      have fin : F2Inv H1 ops1 (opSum ops0) keep ga ra gb rb (m - 1) [.int .i64 left', .int .i64 ((i + 1 : Nat) : Int)] H12 :=
        F2Inv.mk ⟨i + 1, left', _, _, fa', fb2, rfl, by omega, M12, har.2, (oka.does o.o).mono (by omega), (okb'.does o.o).mono (by omega), hl'.1, hl'.2⟩
      generalize (sa.does o.o).2.d.off = x at hoff
      generalize (sb'.does o.o).2.d.off = y at hoff
      subst hoff
      cases x
      · (repeat first | refine HReg.step ?_ | refine HCode.step ?_)
        rw [wi]
        exact ⟨m - 1, by omega, fin⟩
      · (repeat first | refine HReg.step ?_ | refine HCode.step ?_)
        rw [wi]
        exact ⟨m - 1, by omega, fin⟩
    · have h2 := ltB_false.1 h2
      (repeat first | refine HReg.step ?_ | refine HCode.step ?_)
      obtain rfl : i = ops1.length := by omega
      rw [List.take_length] at oka okb
      exact F2J.mk ⟨left, sa, sb, fa, fb, rfl, M, ar, oka, okb⟩
  rintro _ fe2 H8 ⟨left, sa, sb, fa, fb, rfl, M, ar, oka, okb⟩
  (repeat first | refine HReg.step ?_ | refine HCode.step ?_)
  refine hif (fun h3 => ?_) (fun h3 => ?_)
  · have h3 := not_ltB_true.1 h3
    have hfa : sa.d.off = false := by
      rcases ar with ⟨_, h, _⟩ | ⟨h, _⟩
      · exact h
      · omega
    have hfb : sb.d.off = false := by rw [← ar.off]; exact hfa
    (repeat first | refine HReg.step ?_ | refine HCode.step ?_)
    refine HCall.mk ⟨Try.f26, Try.func26, by rfl, by rfl⟩ ?_
    refine down_t (M.each 0 _ rfl) ?_
    (repeat first | refine HReg.step ?_ | refine HCode.step ?_)
    rw [hfa]
    (repeat first | refine HReg.step ?_ | refine HCode.step ?_)
    refine HCall.mk ⟨Try.f26, Try.func26, by rfl, by rfl⟩ ?_
    refine down_t (M.each 1 _ rfl) ?_
    (repeat first | refine HReg.step ?_ | refine HCode.step ?_)
    rw [hfb]
    (repeat first | refine HReg.step ?_ | refine HCode.step ?_)
    exact hk H8 (u1.trans (M.base (i := 0) rfl))
  · (repeat first | refine HReg.step ?_ | refine HCode.step ?_)
    refine HCall.mk ⟨Try.f30, Try.func30, by rfl, by rfl⟩ ?_
    have DA := M.each 0 _ rfl
    have DB := M.each 1 _ rfl
    refine shot_t DA oka (by omega) fun v1 ns1 fa' H9 D9 S9 nm1 g1 sh1 => ?_
    have M9 := M.step (i := 0) rfl D9 S9
    simp only [List.set] at M9
    obtain ⟨xN, xB, dN, dB, xs, rfl, _⟩ := sh1.ex
    (repeat first | refine HReg.step ?_ | refine HCode.step ?_)
    refine HNew.mk fun b15 hb15 => ?_
    (repeat first | refine HReg.step ?_ | refine HCode.step ?_)
    refine store_shot (OwnRow.lit (upd_same _ _ _) rfl) rfl fun H10 o15 u10 => ?_
    have u10 : Upd [] H9 H10 := Upd.drop (Upd.new hb15 _) u10 (fun q hq => by rw [List.mem_singleton.1 hq]; exact hb15)
    have M10 := M9.upd0 u10
    have DB10 := M10.each 1 _ rfl
    (repeat first | refine HReg.step ?_ | refine HCode.step ?_)
    refine HCall.mk ⟨Try.f30, Try.func30, by rfl, by rfl⟩ ?_
    refine shot_t DB10 okb (by omega) fun v2 ns2 fb' H11 D11 S11 nm2 g2 sh2 => ?_
    have M11 := M10.step (i := 1) rfl D11 S11
    simp only [List.set] at M11
    have V1 := sh1.shv (H' := H11) (T := dblk gb rb fb) ((u10.mono (fun k hk => by simp at hk)).trans S11.upd) (fun x hz _ _ hx => by
      rcases hz with h | h
      · exact M.apart 0 1 _ _ (by decide) rfl rfl x h hx
      · exact DB.phys.live x hx h)
    have o15 := o15.upd S11.upd (off_notin (DB10.offT o15 (by decide) (by decide) (by decide)))
    obtain ⟨yN, yB, eN, eB, ys, rfl, _⟩ := sh2.ex
    (repeat first | refine HReg.step ?_ | refine HCode.step ?_)
    refine HNew.mk fun b17 hb17 => ?_
    (repeat first | refine HReg.step ?_ | refine HCode.step ?_)
    refine store_shot (OwnRow.lit (upd_same _ _ _) rfl) rfl fun H12 o17 u12 => ?_
    have u12 : Upd [] H11 H12 := Upd.drop (Upd.new hb17 _) u12 (fun q hq => by rw [List.mem_singleton.1 hq]; exact hb17)
    have V2 := sh2.shv (H' := H12) (T := []) u12 (fun x _ _ _ => by simp)
    have V1 := V1.upd0 u12
    have o15 := o15.upd u12 (Off.nil _)
    have hns : ns2 = ns1 := nm2.uniq nm1 fun k => by rw [ar.fs]
    subst hns
    have hbt : ns2.map (bytesAt sb) = ns2.map (bytesAt sa) := List.map_congr_left fun t _ => by unfold bytesAt; rw [ar.fs]
    rw [hbt] at V2
    (repeat first | refine HReg.step ?_ | refine HCode.step ?_)
    refine HLoadN_row o15.rows rfl ?_
    (repeat first | refine HReg.step ?_ | refine HCode.step ?_)
    refine HLoadN_row o17.rows rfl ?_
    (repeat first | refine HReg.step ?_ | refine HCode.step ?_)
    refine HCall.mk ⟨Try.f32, Try.func32, by rfl, by rfl⟩ ?_
    refine sameShot_t V1 V2 (by omega) (by rw [List.length_map]; omega) fun H13 u13 => ?_
    (repeat first | refine HReg.step ?_ | refine HCode.step ?_)
    exact hk H13 (u1.trans ((M11.base (i := 0) rfl).trans (u12.trans u13)))
end
end Go.Proofs.Ytocejipjnklieaa
