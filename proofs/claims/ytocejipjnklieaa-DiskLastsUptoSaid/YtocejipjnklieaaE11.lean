import Derived.Test.YtocejipjnklieaaE10
import Derived.Test.YtocejipjnklieaaP4
namespace Go.Proofs.Ytocejipjnklieaa
open Go Hv
set_option linter.unusedVariables false
set_option linter.unusedSimpArgs false
set_option maxRecDepth 10000
set_option maxHeartbeats 4000000
/-! DiskLasts. CUT2 -/
theorem set_eq_self {α : Type} {l : List α} {i : Nat} {x : α} (h : l[i]? = some x) : l.set i x = l := by
  apply List.ext_getElem?
  intro j
  rw [List.getElem?_set]
  split
  · rename_i e; subst e
    have := (List.getElem?_eq_some_iff.1 h).1
    rw [if_pos this, h]
  · rfl
def ptrV (g : Nat) : Value := .pointer (some ⟨g, 0, none⟩)
theorem ptr_get {gs : List Nat} {ds : List Dsk} {k : Nat} {d : Dsk} (h : ds.map Dsk.g = gs) (hd : ds[k]? = some d) : (gs.map ptrV)[k]? = some (ptrV d.g) := by
  rw [← h, List.map_map, List.getElem?_map, hd]; rfl
def runT (ops : List OpA) (i : Nat) : St := St0.run ((ops.take i).map OpA.o)
theorem runT_snoc {ops : List OpA} {i : Nat} {o : OpA} (h : ops[i]? = some o) : runT ops (i + 1) = runOne (runT ops i) o.o := by
  unfold runT
  rw [List.take_add_one, h, Option.toList_some, List.map_append, List.map_cons, List.map_nil, run_snoc]
theorem runT_ok (ops : List OpA) : ∀ i, (runT ops i).Ok (opSum (ops.take i)) := by
  intro i
  induction i with
  | zero => exact ok0 _
  | succ i ih =>
    cases h : ops[i]? with
    | none =>
      have : ops.take (i + 1) = ops.take i := by rw [List.take_add_one, h]; simp
      unfold runT
      rw [this]; exact ih
    | some o =>
      rw [runT_snoc h, opSum_take h]
      unfold runOne
      split
      · exact ih.does o.o
      · exact ih.mono (by omega)
theorem runT_live (ops : List OpA) (i : Nat) : Live (runT ops i) := live0.run _
def stOf (R mid : St) (k j : Nat) : St := if j < k then R else if j = k then mid else St0
structure LaInv (B0 : Heap) (gs : List Nat) (R : St) (m : Nat) (vs : List Value) (H' : Heap) : Prop where
  ex : ∃ (k : Nat) (ds : List Dsk), vs = [.int .i64 (k : Int)] ∧ m + k = 4 ∧ Many B0 H' ds ∧ ds.map Dsk.g = gs ∧ ∀ (j : Nat) (d : Dsk), ds[j]? = some d → d.s = stOf R St0 k j
structure LaJ (B0 : Heap) (gs : List Nat) (R : St) (vs : List Value) (H' : Heap) : Prop where
  ex : ∃ (ds : List Dsk), vs = [] ∧ Many B0 H' ds ∧ ds.map Dsk.g = gs ∧ ∀ (j : Nat) (d : Dsk), ds[j]? = some d → d.s = R
structure LbInv (B0 : Heap) (gs : List Nat) (ops : List OpA) (R : St) (k : Nat) (m : Nat) (vs : List Value) (H' : Heap) : Prop where
  ex : ∃ (i : Nat) (ds : List Dsk), vs = [.int .i64 (i : Int)] ∧ m + i = ops.length ∧ Many B0 H' ds ∧ ds.map Dsk.g = gs ∧ ∀ (j : Nat) (d : Dsk), ds[j]? = some d → d.s = stOf R (runT ops i) k j
structure LcInv (B : Heap) (R : St) (N : Nat) (ns : List Txt) (d0 d1 d2 : Dsk) (g3 r3 : Nat) (m : Nat) (vs : List Value) (H' : Heap) : Prop where
  ex : ∃ (i : Nat) (s3 : St) (f3 : List Fl), vs = [.int .i64 (i : Int)] ∧ m + i = ns.length ∧ Many B H' [d0, d1, d2, ⟨g3, r3, s3, f3⟩] ∧ Syd R s3 (ns.take i) ∧ s3.Ok N
structure LcJ (B : Heap) (R : St) (N : Nat) (ns : List Txt) (d0 d1 d2 : Dsk) (g3 r3 : Nat) (vs : List Value) (H' : Heap) : Prop where
  ex : ∃ (s3 : St) (f3 : List Fl), vs = [] ∧ Many B H' [d0, d1, d2, ⟨g3, r3, s3, f3⟩] ∧ Syd R s3 ns ∧ s3.Ok N
structure LdJ (H1 : Heap) (vs : List Value) (H' : Heap) : Prop where
  ex : vs = [] ∧ H' = H1
theorem ShV.get {H : Heap} {aN aB : Option Addr} {cN cB n m : Nat} {ns : List Txt} {bl : List (List UInt8)} (h : ShV H (.agg [.slice aN n cN, .slice aB m cB].toArray) ns bl) : RowAt H aN (txts ns) ∧ m = bl.length ∧ ∃ vs, RowAt H aB vs ∧ All2 (RdV H) vs bl := by
  obtain ⟨xN, xB, dN, dB, vs, e, r1, r2, al⟩ := h
  injection e with e
  have e := congrArg Array.toList e
  simp only [List.toList_toArray] at e
  injection e with e1 e2
  injection e2 with e2 _
  injection e1 with e1 _ _
  injection e2 with e2 e3 _
  subst e1 e2
  exact ⟨r1, e3, vs, r2, al⟩
theorem names_map {s R : St} {ns ns' : List Txt} {f : List UInt8 × Nat → List UInt8 × Nat} (h : Nms s ns) (h' : Nms R ns') (hf : ∀ k, s.fs k = (R.fs k).map f) : ns = ns' :=
  h.uniq h' fun k => by rw [hf]; exact map_none_iff
theorem bytes_map {s R : St} {ns : List Txt} {f : List UInt8 × Nat → List UInt8 × Nat} (h' : Nms R ns) (hf : ∀ k, s.fs k = (R.fs k).map f) : ns.map (bytesAt s) = ns.map fun t => (f ((R.fs (bs t)).getD ([], 0))).1 :=
  List.map_congr_left fun t ht => by
    have hn := (h'.mem t).1 ht
    obtain ⟨x, hx⟩ := Option.ne_none_iff_exists'.1 hn
    unfold bytesAt
    rw [hf, hx]; rfl
section
variable {H : Heap} {K : Value → Heap → Prop}
theorem lasts_t {a0 : Option Addr} {c0 : Nat} {ops : List OpA} {less more : Int} (hr0 : RowAt H a0 (orow ops)) (h0 : ∀ o ∈ ops, OpIn H o) (l0 : ops.length ≤ 1048576) (s0 : opSum ops ≤ 1048576)
    (hk : ∀ H', Upd [] H H' → K (.bool true) H') : HCalls Try.prog 6 [.slice a0 ops.length c0, .int .i64 less, .int .i64 more] H K := by
  refine hcalls (fn := Try.f6) [(13, [(0, 0), (1, 0), (2, 0), (3, 0), (4, 0), (5, 0), (6, 0), (7, 0)]), (20, [(0, 0), (1, 0), (2, 0), (3, 0), (4, 0), (5, 0), (6, 0), (7, 0), (8, 0)]), (40, [(0, 0), (1, 0), (2, 0), (3, 0), (4, 0), (5, 0), (6, 0), (7, 0), (8, 0), (9, 0), (10, 0), (11, 0), (12, 0), (13, 0), (14, 0), (15, 0), (16, 0), (17, 0), (18, 0), (19, 0), (20, 0), (21, 0), (22, 0), (23, 0), (24, 0), (25, 0), (26, 0), (27, 0), (28, 0), (29, 0), (30, 0), (31, 0), (32, 0), (33, 0), (34, 0), (35, 0), (36, 0), (37, 0), (38, 0), (39, 0), (40, 0), (41, 0), (42, 0), (43, 0), (44, 0), (45, 0), (46, 0), (47, 0), (48, 0)])] mixed Try.func6 rfl rfl (by decide +kernel) ?_
  (repeat first | refine HReg.step ?_ | refine HCode.step ?_)
  refine HCall.mk ⟨Try.f9, Try.func9, by rfl, by rfl⟩ ?_
  refine alive_t fun H1 u1 => ?_
  (repeat first | refine HReg.step ?_ | refine HCode.step ?_)
  refine HCall.mk ⟨Try.f10, Try.func10, by rfl, by rfl⟩ ?_
  refine new_t fun g0 r0 Q0 D0 u0d => ?_
  have M0 : Many H1 Q0 [⟨g0, r0, St0, []⟩] := (Many.nil H1 H1).add (Upd.refl _ _) D0 u0d
  (repeat first | refine HReg.step ?_ | refine HCode.step ?_)
  refine HCall.mk ⟨Try.f10, Try.func10, by rfl, by rfl⟩ ?_
  refine new_t fun g1 r1 Q1 D1 u1d => ?_
  have M1 : Many H1 Q1 [⟨g0, r0, St0, []⟩, ⟨g1, r1, St0, []⟩] := M0.add u0d D1 u1d
  have ub1 := u0d.trans u1d
  (repeat first | refine HReg.step ?_ | refine HCode.step ?_)
  refine HCall.mk ⟨Try.f10, Try.func10, by rfl, by rfl⟩ ?_
  refine new_t fun g2 r2 Q2 D2 u2d => ?_
  have M2 : Many H1 Q2 [⟨g0, r0, St0, []⟩, ⟨g1, r1, St0, []⟩, ⟨g2, r2, St0, []⟩] := M1.add ub1 D2 u2d
  have ub2 := ub1.trans u2d
  (repeat first | refine HReg.step ?_ | refine HCode.step ?_)
  refine HCall.mk ⟨Try.f10, Try.func10, by rfl, by rfl⟩ ?_
  refine new_t fun g3 r3 Q3 D3 u3d => ?_
  have M3 : Many H1 Q3 [⟨g0, r0, St0, []⟩, ⟨g1, r1, St0, []⟩, ⟨g2, r2, St0, []⟩, ⟨g3, r3, St0, []⟩] := M2.add ub2 D3 u3d
  have ub3 := ub2.trans u3d
  (repeat first | refine HReg.step ?_ | refine HCode.step ?_)
  refine HNew.mk fun b7 hb7 => ?_
  (repeat first | refine HReg.step ?_ | refine HCode.step ?_)
  refine store_row (OwnRow.lit (cap := 4) (size := 1) (upd_same _ _ _) rfl) (v := ptrV g0) rfl (i := 0) (by decide) (by rfl) fun W0 w0 x0 => ?_
  refine store_row w0 (v := ptrV g1) rfl (i := 1) (by decide) (by rfl) fun W1 w1 x1 => ?_
  refine store_row w1 (v := ptrV g2) rfl (i := 2) (by decide) (by rfl) fun W2 w2 x2 => ?_
  refine store_row w2 (v := ptrV g3) rfl (i := 3) (by decide) (by rfl) fun H5 o7 x3 => ?_
  have o7 : OwnRow H5 52 1 (some ⟨b7, 0, none⟩) 4 4 ([g0, g1, g2, g3].map ptrV) := o7
  have u5 : Upd [] Q3 H5 := Upd.drop (Upd.new hb7 _) (((x0.trans x1).trans x2).trans x3) (fun q hq => by rw [List.mem_singleton.1 hq]; exact hb7)
  have M5 := M3.upd0 u5
  have uB := u1.trans (M5.rest (i := 0) rfl)
  have rO := hr0.upd (S := []) uB (.inr (Off.nil _))
  have h0 : ∀ o ∈ ops, OpIn _ o := fun o ho => (h0 o ho).upd0 uB
  have o7 := M5.keepO o7 (by decide) (by decide) (by decide)
  have M5 := M5.less
  generalize lessH H5 (dskB [⟨g0, r0, St0, []⟩, ⟨g1, r1, St0, []⟩, ⟨g2, r2, St0, []⟩, ⟨g3, r3, St0, []⟩]) = B0 at *
  obtain ⟨gs, hgs⟩ : ∃ gs, gs = [g0, g1, g2, g3] := ⟨_, rfl⟩
  rw [← hgs] at o7
  have hg : ([⟨g0, r0, St0, []⟩, ⟨g1, r1, St0, []⟩, ⟨g2, r2, St0, []⟩, ⟨g3, r3, St0, []⟩] : List Dsk).map Dsk.g = gs := by rw [hgs]; rfl
  obtain ⟨R, hR⟩ : ∃ R, R = runT ops ops.length := ⟨_, rfl⟩
  have okR : R.Ok (opSum ops) := by have := runT_ok ops ops.length; rw [List.take_length] at this; rw [hR]; exact this
  have lvR : Live R := by rw [hR]; exact runT_live _ _
  clear D0 D1 D2 D3 M0 M1 M2 M3 w0 w1 w2 x0 x1 x2 x3 hb7 u5 u0d u1d u2d u3d ub1 ub2 ub3
  ((repeat refine HReg.step ?_); first | (show HCode _ _ _ (Code.seq (Code.seq (Code.region _ _ _) (Code.block _ _)) _) _ _ _; refine hcutC (a := Code.seq (Code.region _ _ _) (Code.block _ _)) [6, 8, 9, 32, 33, 34, 35, 36, 37, 38, 39, 40, 41, 42, 43, 44, 45, 46, 47, 48, 49, 50, 51, 52, 53, 54, 55, 56, 57, 58, 59] [] (LaJ B0 gs R) rfl (by repeat' first | exact Resp.retD | exact Resp1.valuesK | refine Resp.blockD ?_ | refine Resp.thenD ?_ ?_ | refine Resp.hcode ?_) ?_ ?_) | (refine HCode.step ?_; (repeat refine HReg.step ?_); first | (show HCode _ _ _ (Code.seq (Code.seq (Code.region _ _ _) (Code.block _ _)) _) _ _ _; refine hcutC (a := Code.seq (Code.region _ _ _) (Code.block _ _)) [6, 8, 9, 32, 33, 34, 35, 36, 37, 38, 39, 40, 41, 42, 43, 44, 45, 46, 47, 48, 49, 50, 51, 52, 53, 54, 55, 56, 57, 58, 59] [] (LaJ B0 gs R) rfl (by repeat' first | exact Resp.retD | exact Resp1.valuesK | refine Resp.blockD ?_ | refine Resp.thenD ?_ ?_ | refine Resp.hcode ?_) ?_ ?_) | (refine HCode.step ?_; (repeat refine HReg.step ?_); first | (show HCode _ _ _ (Code.seq (Code.seq (Code.region _ _ _) (Code.block _ _)) _) _ _ _; refine hcutC (a := Code.seq (Code.region _ _ _) (Code.block _ _)) [6, 8, 9, 32, 33, 34, 35, 36, 37, 38, 39, 40, 41, 42, 43, 44, 45, 46, 47, 48, 49, 50, 51, 52, 53, 54, 55, 56, 57, 58, 59] [] (LaJ B0 gs R) rfl (by repeat' first | exact Resp.retD | exact Resp1.valuesK | refine Resp.blockD ?_ | refine Resp.thenD ?_ ?_ | refine Resp.hcode ?_) ?_ ?_) | (refine HCode.step ?_; (repeat refine HReg.step ?_); first | (show HCode _ _ _ (Code.seq (Code.seq (Code.region _ _ _) (Code.block _ _)) _) _ _ _; refine hcutC (a := Code.seq (Code.region _ _ _) (Code.block _ _)) [6, 8, 9, 32, 33, 34, 35, 36, 37, 38, 39, 40, 41, 42, 43, 44, 45, 46, 47, 48, 49, 50, 51, 52, 53, 54, 55, 56, 57, 58, 59] [] (LaJ B0 gs R) rfl (by repeat' first | exact Resp.retD | exact Resp1.valuesK | refine Resp.blockD ?_ | refine Resp.thenD ?_ ?_ | refine Resp.hcode ?_) ?_ ?_) | (refine HCode.step ?_; (repeat refine HReg.step ?_); first | (show HCode _ _ _ (Code.seq (Code.seq (Code.region _ _ _) (Code.block _ _)) _) _ _ _; refine hcutC (a := Code.seq (Code.region _ _ _) (Code.block _ _)) [6, 8, 9, 32, 33, 34, 35, 36, 37, 38, 39, 40, 41, 42, 43, 44, 45, 46, 47, 48, 49, 50, 51, 52, 53, 54, 55, 56, 57, 58, 59] [] (LaJ B0 gs R) rfl (by repeat' first | exact Resp.retD | exact Resp1.valuesK | refine Resp.blockD ?_ | refine Resp.thenD ?_ ?_ | refine Resp.hcode ?_) ?_ ?_) | (refine HCode.step ?_; (repeat refine HReg.step ?_); first | (show HCode _ _ _ (Code.seq (Code.seq (Code.region _ _ _) (Code.block _ _)) _) _ _ _; refine hcutC (a := Code.seq (Code.region _ _ _) (Code.block _ _)) [6, 8, 9, 32, 33, 34, 35, 36, 37, 38, 39, 40, 41, 42, 43, 44, 45, 46, 47, 48, 49, 50, 51, 52, 53, 54, 55, 56, 57, 58, 59] [] (LaJ B0 gs R) rfl (by repeat' first | exact Resp.retD | exact Resp1.valuesK | refine Resp.blockD ?_ | refine Resp.thenD ?_ ?_ | refine Resp.hcode ?_) ?_ ?_) | (refine HCode.step ?_; (repeat refine HReg.step ?_); first | (show HCode _ _ _ (Code.seq (Code.seq (Code.region _ _ _) (Code.block _ _)) _) _ _ _; refine hcutC (a := Code.seq (Code.region _ _ _) (Code.block _ _)) [6, 8, 9, 32, 33, 34, 35, 36, 37, 38, 39, 40, 41, 42, 43, 44, 45, 46, 47, 48, 49, 50, 51, 52, 53, 54, 55, 56, 57, 58, 59] [] (LaJ B0 gs R) rfl (by repeat' first | exact Resp.retD | exact Resp1.valuesK | refine Resp.blockD ?_ | refine Resp.thenD ?_ ?_ | refine Resp.hcode ?_) ?_ ?_) | (refine HCode.step ?_; (repeat refine HReg.step ?_); first | (show HCode _ _ _ (Code.seq (Code.seq (Code.region _ _ _) (Code.block _ _)) _) _ _ _; refine hcutC (a := Code.seq (Code.region _ _ _) (Code.block _ _)) [6, 8, 9, 32, 33, 34, 35, 36, 37, 38, 39, 40, 41, 42, 43, 44, 45, 46, 47, 48, 49, 50, 51, 52, 53, 54, 55, 56, 57, 58, 59] [] (LaJ B0 gs R) rfl (by repeat' first | exact Resp.retD | exact Resp1.valuesK | refine Resp.blockD ?_ | refine Resp.thenD ?_ ?_ | refine Resp.hcode ?_) ?_ ?_) | (refine HCode.step ?_; (repeat refine HReg.step ?_); first | (show HCode _ _ _ (Code.seq (Code.seq (Code.region _ _ _) (Code.block _ _)) _) _ _ _; refine hcutC (a := Code.seq (Code.region _ _ _) (Code.block _ _)) [6, 8, 9, 32, 33, 34, 35, 36, 37, 38, 39, 40, 41, 42, 43, 44, 45, 46, 47, 48, 49, 50, 51, 52, 53, 54, 55, 56, 57, 58, 59] [] (LaJ B0 gs R) rfl (by repeat' first | exact Resp.retD | exact Resp1.valuesK | refine Resp.blockD ?_ | refine Resp.thenD ?_ ?_ | refine Resp.hcode ?_) ?_ ?_) | (refine HCode.step ?_; (repeat refine HReg.step ?_); first | (show HCode _ _ _ (Code.seq (Code.seq (Code.region _ _ _) (Code.block _ _)) _) _ _ _; refine hcutC (a := Code.seq (Code.region _ _ _) (Code.block _ _)) [6, 8, 9, 32, 33, 34, 35, 36, 37, 38, 39, 40, 41, 42, 43, 44, 45, 46, 47, 48, 49, 50, 51, 52, 53, 54, 55, 56, 57, 58, 59] [] (LaJ B0 gs R) rfl (by repeat' first | exact Resp.retD | exact Resp1.valuesK | refine Resp.blockD ?_ | refine Resp.thenD ?_ ?_ | refine Resp.hcode ?_) ?_ ?_) | (refine HCode.step ?_; (repeat refine HReg.step ?_); first | (show HCode _ _ _ (Code.seq (Code.seq (Code.region _ _ _) (Code.block _ _)) _) _ _ _; refine hcutC (a := Code.seq (Code.region _ _ _) (Code.block _ _)) [6, 8, 9, 32, 33, 34, 35, 36, 37, 38, 39, 40, 41, 42, 43, 44, 45, 46, 47, 48, 49, 50, 51, 52, 53, 54, 55, 56, 57, 58, 59] [] (LaJ B0 gs R) rfl (by repeat' first | exact Resp.retD | exact Resp1.valuesK | refine Resp.blockD ?_ | refine Resp.thenD ?_ ?_ | refine Resp.hcode ?_) ?_ ?_) | (refine HCode.step ?_; (repeat refine HReg.step ?_); first | (show HCode _ _ _ (Code.seq (Code.seq (Code.region _ _ _) (Code.block _ _)) _) _ _ _; refine hcutC (a := Code.seq (Code.region _ _ _) (Code.block _ _)) [6, 8, 9, 32, 33, 34, 35, 36, 37, 38, 39, 40, 41, 42, 43, 44, 45, 46, 47, 48, 49, 50, 51, 52, 53, 54, 55, 56, 57, 58, 59] [] (LaJ B0 gs R) rfl (by repeat' first | exact Resp.retD | exact Resp1.valuesK | refine Resp.blockD ?_ | refine Resp.thenD ?_ ?_ | refine Resp.hcode ?_) ?_ ?_) | (refine HCode.step ?_; (repeat refine HReg.step ?_); first | (show HCode _ _ _ (Code.seq (Code.seq (Code.region _ _ _) (Code.block _ _)) _) _ _ _; refine hcutC (a := Code.seq (Code.region _ _ _) (Code.block _ _)) [6, 8, 9, 32, 33, 34, 35, 36, 37, 38, 39, 40, 41, 42, 43, 44, 45, 46, 47, 48, 49, 50, 51, 52, 53, 54, 55, 56, 57, 58, 59] [] (LaJ B0 gs R) rfl (by repeat' first | exact Resp.retD | exact Resp1.valuesK | refine Resp.blockD ?_ | refine Resp.thenD ?_ ?_ | refine Resp.hcode ?_) ?_ ?_) | (refine HCode.step ?_; (repeat refine HReg.step ?_); first | (show HCode _ _ _ (Code.seq (Code.seq (Code.region _ _ _) (Code.block _ _)) _) _ _ _; refine hcutC (a := Code.seq (Code.region _ _ _) (Code.block _ _)) [6, 8, 9, 32, 33, 34, 35, 36, 37, 38, 39, 40, 41, 42, 43, 44, 45, 46, 47, 48, 49, 50, 51, 52, 53, 54, 55, 56, 57, 58, 59] [] (LaJ B0 gs R) rfl (by repeat' first | exact Resp.retD | exact Resp1.valuesK | refine Resp.blockD ?_ | refine Resp.thenD ?_ ?_ | refine Resp.hcode ?_) ?_ ?_) | (refine HCode.step ?_; (repeat refine HReg.step ?_); first | (show HCode _ _ _ (Code.seq (Code.seq (Code.region _ _ _) (Code.block _ _)) _) _ _ _; refine hcutC (a := Code.seq (Code.region _ _ _) (Code.block _ _)) [6, 8, 9, 32, 33, 34, 35, 36, 37, 38, 39, 40, 41, 42, 43, 44, 45, 46, 47, 48, 49, 50, 51, 52, 53, 54, 55, 56, 57, 58, 59] [] (LaJ B0 gs R) rfl (by repeat' first | exact Resp.retD | exact Resp1.valuesK | refine Resp.blockD ?_ | refine Resp.thenD ?_ ?_ | refine Resp.hcode ?_) ?_ ?_) | (refine HCode.step ?_; (repeat refine HReg.step ?_); first | (show HCode _ _ _ (Code.seq (Code.seq (Code.region _ _ _) (Code.block _ _)) _) _ _ _; refine hcutC (a := Code.seq (Code.region _ _ _) (Code.block _ _)) [6, 8, 9, 32, 33, 34, 35, 36, 37, 38, 39, 40, 41, 42, 43, 44, 45, 46, 47, 48, 49, 50, 51, 52, 53, 54, 55, 56, 57, 58, 59] [] (LaJ B0 gs R) rfl (by repeat' first | exact Resp.retD | exact Resp1.valuesK | refine Resp.blockD ?_ | refine Resp.thenD ?_ ?_ | refine Resp.hcode ?_) ?_ ?_) | (refine HCode.step ?_; (repeat refine HReg.step ?_); first | (show HCode _ _ _ (Code.seq (Code.seq (Code.region _ _ _) (Code.block _ _)) _) _ _ _; refine hcutC (a := Code.seq (Code.region _ _ _) (Code.block _ _)) [6, 8, 9, 32, 33, 34, 35, 36, 37, 38, 39, 40, 41, 42, 43, 44, 45, 46, 47, 48, 49, 50, 51, 52, 53, 54, 55, 56, 57, 58, 59] [] (LaJ B0 gs R) rfl (by repeat' first | exact Resp.retD | exact Resp1.valuesK | refine Resp.blockD ?_ | refine Resp.thenD ?_ ?_ | refine Resp.hcode ?_) ?_ ?_) | (refine HCode.step ?_; (repeat refine HReg.step ?_); first | (show HCode _ _ _ (Code.seq (Code.seq (Code.region _ _ _) (Code.block _ _)) _) _ _ _; refine hcutC (a := Code.seq (Code.region _ _ _) (Code.block _ _)) [6, 8, 9, 32, 33, 34, 35, 36, 37, 38, 39, 40, 41, 42, 43, 44, 45, 46, 47, 48, 49, 50, 51, 52, 53, 54, 55, 56, 57, 58, 59] [] (LaJ B0 gs R) rfl (by repeat' first | exact Resp.retD | exact Resp1.valuesK | refine Resp.blockD ?_ | refine Resp.thenD ?_ ?_ | refine Resp.hcode ?_) ?_ ?_) | (refine HCode.step ?_; (repeat refine HReg.step ?_); first | (show HCode _ _ _ (Code.seq (Code.seq (Code.region _ _ _) (Code.block _ _)) _) _ _ _; refine hcutC (a := Code.seq (Code.region _ _ _) (Code.block _ _)) [6, 8, 9, 32, 33, 34, 35, 36, 37, 38, 39, 40, 41, 42, 43, 44, 45, 46, 47, 48, 49, 50, 51, 52, 53, 54, 55, 56, 57, 58, 59] [] (LaJ B0 gs R) rfl (by repeat' first | exact Resp.retD | exact Resp1.valuesK | refine Resp.blockD ?_ | refine Resp.thenD ?_ ?_ | refine Resp.hcode ?_) ?_ ?_) | (refine HCode.step ?_; (repeat refine HReg.step ?_); first | (show HCode _ _ _ (Code.seq (Code.seq (Code.region _ _ _) (Code.block _ _)) _) _ _ _; refine hcutC (a := Code.seq (Code.region _ _ _) (Code.block _ _)) [6, 8, 9, 32, 33, 34, 35, 36, 37, 38, 39, 40, 41, 42, 43, 44, 45, 46, 47, 48, 49, 50, 51, 52, 53, 54, 55, 56, 57, 58, 59] [] (LaJ B0 gs R) rfl (by repeat' first | exact Resp.retD | exact Resp1.valuesK | refine Resp.blockD ?_ | refine Resp.thenD ?_ ?_ | refine Resp.hcode ?_) ?_ ?_) | (refine HCode.step ?_; (repeat refine HReg.step ?_); (show HCode _ _ _ (Code.seq (Code.seq (Code.region _ _ _) (Code.block _ _)) _) _ _ _; refine hcutC (a := Code.seq (Code.region _ _ _) (Code.block _ _)) [6, 8, 9, 32, 33, 34, 35, 36, 37, 38, 39, 40, 41, 42, 43, 44, 45, 46, 47, 48, 49, 50, 51, 52, 53, 54, 55, 56, 57, 58, 59] [] (LaJ B0 gs R) rfl (by repeat' first | exact Resp.retD | exact Resp1.valuesK | refine Resp.blockD ?_ | refine Resp.thenD ?_ ?_ | refine Resp.hcode ?_) ?_ ?_))))))))))))))))))))))
  · (repeat first | refine HReg.step ?_ | refine HCode.step ?_)
    refine hloopC [6, 8, 9, 32, 33, 34, 35, 36, 37, 38, 39, 40, 41, 42, 43, 44, 45, 46, 47, 48, 49, 50, 51, 52, 53, 54, 55, 56, 57, 58, 59] [8] (LaInv B0 gs R) rfl (by repeat' first | exact Resp.retD | exact Resp1.valuesK | refine Resp.blockD ?_ | refine Resp.thenD ?_ ?_ | refine Resp.hcode ?_) ?_ ?_
    · exact ⟨4, LaInv.mk ⟨0, _, rfl, rfl, M5, hg, fun j d hd => by
        have hm := List.mem_of_getElem? hd
        have hs : d.s = St0 := by
          simp only [List.mem_cons, List.not_mem_nil, or_false] at hm
          rcases hm with rfl | rfl | rfl | rfl <;> rfl
        rw [hs]; unfold stOf; rw [if_neg (by omega)]; split <;> rfl⟩⟩
    rintro m _ fe H6 ⟨k, ds, rfl, hmk, M, hdg, hds⟩
    have wk : wr .i64 ((k : Int) + 1) = ((k + 1 : Nat) : Int) := by rw [wr_i64 (by omega) (by omega)]; omega
    have hlen : ds.length = 4 := by have := congrArg List.length hdg; rw [List.length_map, hgs] at this; exact this
    (repeat first | refine HReg.step ?_ | refine HCode.step ?_)
    refine hif (fun h1 => ?_) (fun h1 => ?_)
    · have h1 := ltB_true.1 h1
      obtain ⟨d, hd⟩ : ∃ d, ds[k]? = some d := ⟨ds[k]'(by omega), by simp⟩
      (repeat first | refine HReg.step ?_ | refine HCode.step ?_)
      refine HReq.mk ⟨by omega, by omega⟩ ?_
      (repeat first | refine HReg.step ?_ | refine HCode.step ?_)
      refine HLoad.one (v := ptrV d.g) ((o7.upd (M.base hd) (Off.nil _)).rows.get (ptr_get hdg hd)) ?_
      (repeat first | refine HReg.step ?_ | refine HCode.step ?_)
      refine hloopC [9, 40, 41, 42, 43, 44, 45, 46, 47, 48, 49, 50, 51, 52, 53, 54, 55, 56, 57, 58, 59] [9] (LbInv B0 gs ops R k) rfl (by repeat' first | exact Resp.retD | exact Resp1.valuesK | refine Resp.blockD ?_ | refine Resp.thenD ?_ ?_ | refine Resp.hcode ?_) ?_ ?_
      · exact ⟨ops.length, LbInv.mk ⟨0, ds, rfl, rfl, M, hdg, fun j e he => by rw [hds j e he]; rfl⟩⟩
      clear M hdg hds hlen hd
      rintro m2 _ fe H7 ⟨i, ds, rfl, hmi, M, hdg, hds⟩
      have wi : wr .i64 ((i : Int) + 1) = ((i + 1 : Nat) : Int) := by rw [wr_i64 (by omega) (by omega)]; omega
      have hlen : ds.length = 4 := by have := congrArg List.length hdg; rw [List.length_map, hgs] at this; exact this
      obtain ⟨d, hd⟩ : ∃ d, ds[k]? = some d := ⟨ds[k]'(by omega), by simp⟩
      have hdk := hds k d hd
      (repeat first | refine HReg.step ?_ | refine HCode.step ?_)
      refine hif (fun h2 => ?_) (fun h2 => ?_)
      · have h2 := ltB_true.1 h2
        obtain ⟨p, hp⟩ : ∃ o, ops[i]? = some o := ⟨ops[i]'(by omega), by simp⟩
        obtain ⟨ba, bo, rfl, _⟩ := rO _ _ (orow_get hp 0 _ rfl)
        have hin := h0 p (List.mem_of_getElem? hp)
        have hs := opSum_take hp
        have hle := opSum_le ops (i + 1)
        have rr := rO.upd (S := []) (M.base hd) (.inr (Off.nil _))
        have hsn := runT_snoc hp
        have hmid : d.s = runT ops i := by rw [hdk]; unfold stOf; rw [if_neg (by omega), if_pos rfl]
        (repeat first | refine HReg.step ?_ | refine HCode.step ?_)
        refine HReq.mk ⟨by omega, by omega⟩ ?_
        (repeat first | refine HReg.step ?_ | refine HCode.step ?_)
        refine HLoad.one (v := .int .i64 p.o.kind) (by exact rr.get (orow_get hp 0 _ rfl)) ?_
        (repeat first | refine HReg.step ?_ | refine HCode.step ?_)
        refine hif (fun h3 => ?_) (fun h3 => ?_)
        · have h3 := ltB_true.1 h3
          (repeat first | refine HReg.step ?_ | refine HCode.step ?_)
          refine HReq.mk ⟨by omega, by omega⟩ ?_
          (repeat first | refine HReg.step ?_ | refine HCode.step ?_)
          refine HLoad.one (v := ptrV d.g) ((o7.upd (M.base hd) (Off.nil _)).rows.get (ptr_get hdg hd)) ?_
          (repeat first | refine HReg.step ?_ | refine HCode.step ?_)
          refine HReq.mk ⟨by omega, by omega⟩ ?_
          (repeat first | refine HReg.step ?_ | refine HCode.step ?_)
          refine HLoadN_op rr hp ?_
          (repeat first | refine HReg.step ?_ | refine HCode.step ?_)
          refine HCall.mk ⟨Try.f29, Try.func29, by rfl, by rfl⟩ ?_
          have ok : d.s.Ok (opSum (ops.take i)) := by rw [hmid]; exact runT_ok ops i
          refine does_t (o := p.o) (a := p.a) (c := p.c) (M.each k d hd) ok (hin.upd0 (M.base hd)).row (by omega) hin.fits fun fl' H8 D8 S8 => ?_
          have M8 := M.step hd D8 S8
          (repeat first | refine HReg.step ?_ | refine HCode.step ?_)
          rw [wi]
          refine ⟨m2 - 1, by omega, LbInv.mk ⟨i + 1, _, rfl, by omega, M8, ?_, fun j e he => ?_⟩⟩
          · rw [List.map_set, set_eq_self (by rw [List.getElem?_map, hd]; rfl)]; exact hdg
          · rw [List.getElem?_set] at he
            split at he
            · rename_i e1; subst e1
              rw [if_pos (List.getElem?_eq_some_iff.1 hd).1] at he
              cases he
              show (d.s.does p.o).2 = _
              unfold stOf
              rw [if_neg (by omega), if_pos rfl, hsn, hmid]
              unfold runOne
              rw [if_pos h3]
            · rename_i e1
              rw [hds j e he]
              unfold stOf
              rw [if_neg (c := j = k) (fun h => e1 h.symm), if_neg (c := j = k) (fun h => e1 h.symm)]
        · have h3 := ltB_false.1 h3
          (repeat first | refine HReg.step ?_ | refine HCode.step ?_)
          rw [wi]
          refine ⟨m2 - 1, by omega, LbInv.mk ⟨i + 1, ds, rfl, by omega, M, hdg, fun j e he => ?_⟩⟩
          rw [hds j e he]
          unfold stOf
          rw [hsn]
          unfold runOne
          rw [if_neg (c := p.o.kind < 9) (by omega)]
      · have h2 := ltB_false.1 h2
        obtain rfl : i = ops.length := by omega
        (repeat first | refine HReg.step ?_ | refine HCode.step ?_)
        rw [wk]
        refine ⟨m - 1, by omega, LaInv.mk ⟨k + 1, ds, rfl, by omega, M, hdg, fun j e he => ?_⟩⟩
        rw [hds j e he]
        unfold stOf
        by_cases h5 : j < k
        · rw [if_pos h5, if_pos (by omega)]
        · rw [if_neg h5]
          by_cases h6 : j = k
          · rw [if_pos h6, if_pos (by omega), hR]
          · rw [if_neg h6, if_neg (by omega)]; split <;> rfl
    · have h1 := ltB_false.1 h1
      (repeat first | refine HReg.step ?_ | refine HCode.step ?_)
      obtain rfl : k = 4 := by omega
      exact LaJ.mk ⟨ds, rfl, M, hdg, fun j e he => by
        have := (List.getElem?_eq_some_iff.1 he).1
        rw [hds j e he]; unfold stOf; rw [if_pos (by omega)]⟩
  rintro _ fe1 H6 ⟨ds, rfl, M, hdg, hds⟩
  clear M5 hg
  obtain ⟨r0', r1', r2', r3', f0, f1, f2, f3, rfl⟩ : ∃ r0' r1' r2' r3' f0 f1 f2 f3, ds = [⟨g0, r0', R, f0⟩, ⟨g1, r1', R, f1⟩, ⟨g2, r2', R, f2⟩, ⟨g3, r3', R, f3⟩] := by
    rw [hgs] at hdg
    match ds, hdg with
    | [d0, d1, d2, d3], h =>
      injection h with e0 h
      injection h with e1 h
      injection h with e2 h
      injection h with e3 _
      have s0 := hds 0 d0 rfl
      have s1 := hds 1 d1 rfl
      have s2 := hds 2 d2 rfl
      have s3 := hds 3 d3 rfl
      obtain ⟨x0, y0, z0, w0⟩ := d0
      obtain ⟨x1, y1, z1, w1⟩ := d1
      obtain ⟨x2, y2, z2, w2⟩ := d2
      obtain ⟨x3, y3, z3, w3⟩ := d3
      simp only at e0 e1 e2 e3 s0 s1 s2 s3
      subst e0 e1 e2 e3 s0 s1 s2 s3
      exact ⟨y0, y1, y2, y3, w0, w1, w2, w3, rfl⟩
  clear hds hdg
  rw [hgs] at o7
  have l5 : opSum ops ≤ 140737488355328 := by omega
  (repeat first | refine HReg.step ?_ | refine HCode.step ?_)
  refine HReq.mk ⟨by decide, by decide⟩ ?_
  (repeat first | refine HReg.step ?_ | refine HCode.step ?_)
  refine HLoad.one (v := ptrV g0) ((o7.upd (M.base (i := 0) rfl) (Off.nil _)).rows.get (i := 0) rfl) ?_
  (repeat first | refine HReg.step ?_ | refine HCode.step ?_)
  refine HCall.mk ⟨Try.f30, Try.func30, by rfl, by rfl⟩ ?_
  refine many_shot (i := 0) (d := ⟨g0, r0', R, f0⟩) M rfl okR l5 fun x40 y40 c40 e40 ns40 fl40 G40 B40 N40 ub40 V40 nm40 g40s => ?_
  simp only [List.set] at N40
  have o7 := o7.upd ub40 (Off.nil _)
  (repeat first | refine HReg.step ?_ | refine HCode.step ?_)
  refine HNew.mk fun b40s hb40s => ?_
  (repeat first | refine HReg.step ?_ | refine HCode.step ?_)
  refine store_shot (OwnRow.lit (upd_same _ _ _) rfl) rfl fun P40 o40 u40 => ?_
  have u40 : Upd [] G40 P40 := Upd.drop (Upd.new hb40s _) u40 (fun q hq => by rw [List.mem_singleton.1 hq]; exact hb40s)
  have N40 := N40.upd0 u40
  have w40 := N40.rest (i := 0) rfl
  have o40 := N40.keepO o40 (by decide) (by decide) (by decide)
  have V40 := V40.upd0 w40
  have o7 := o7.upd w40 (Off.nil _)
  have N40 := N40.less
  have uB := uB.trans (ub40.trans w40)
  obtain ⟨R40, _, vs40, S40, A40⟩ := V40.get
  generalize hBe : lessH P40 (dskB [⟨g0, r0', R.upp, fl40⟩, ⟨g1, r1', R, f1⟩, ⟨g2, r2', R, f2⟩, ⟨g3, r3', R, f3⟩]) = B4 at *
  rw [lvR.upp] at N40
  ((repeat refine HReg.step ?_); first | (show HCode _ _ _ (Code.seq (Code.seq (Code.region _ _ _) (Code.block _ _)) _) _ _ _; refine hcutC (a := Code.seq (Code.region _ _ _) (Code.block _ _)) [6, 12, 68, 69, 70, 71, 72, 73, 74, 75, 76, 77, 78, 79, 80, 81, 82, 83] [] (LcJ B4 R (opSum ops) ns40 ⟨g0, r0', R, fl40⟩ ⟨g1, r1', R, f1⟩ ⟨g2, r2', R, f2⟩ g3 r3') rfl (by repeat' first | exact Resp.retD | exact Resp1.valuesK | refine Resp.blockD ?_ | refine Resp.thenD ?_ ?_ | refine Resp.hcode ?_) ?_ ?_) | (refine HCode.step ?_; (repeat refine HReg.step ?_); first | (show HCode _ _ _ (Code.seq (Code.seq (Code.region _ _ _) (Code.block _ _)) _) _ _ _; refine hcutC (a := Code.seq (Code.region _ _ _) (Code.block _ _)) [6, 12, 68, 69, 70, 71, 72, 73, 74, 75, 76, 77, 78, 79, 80, 81, 82, 83] [] (LcJ B4 R (opSum ops) ns40 ⟨g0, r0', R, fl40⟩ ⟨g1, r1', R, f1⟩ ⟨g2, r2', R, f2⟩ g3 r3') rfl (by repeat' first | exact Resp.retD | exact Resp1.valuesK | refine Resp.blockD ?_ | refine Resp.thenD ?_ ?_ | refine Resp.hcode ?_) ?_ ?_) | (refine HCode.step ?_; (repeat refine HReg.step ?_); first | (show HCode _ _ _ (Code.seq (Code.seq (Code.region _ _ _) (Code.block _ _)) _) _ _ _; refine hcutC (a := Code.seq (Code.region _ _ _) (Code.block _ _)) [6, 12, 68, 69, 70, 71, 72, 73, 74, 75, 76, 77, 78, 79, 80, 81, 82, 83] [] (LcJ B4 R (opSum ops) ns40 ⟨g0, r0', R, fl40⟩ ⟨g1, r1', R, f1⟩ ⟨g2, r2', R, f2⟩ g3 r3') rfl (by repeat' first | exact Resp.retD | exact Resp1.valuesK | refine Resp.blockD ?_ | refine Resp.thenD ?_ ?_ | refine Resp.hcode ?_) ?_ ?_) | (refine HCode.step ?_; (repeat refine HReg.step ?_); first | (show HCode _ _ _ (Code.seq (Code.seq (Code.region _ _ _) (Code.block _ _)) _) _ _ _; refine hcutC (a := Code.seq (Code.region _ _ _) (Code.block _ _)) [6, 12, 68, 69, 70, 71, 72, 73, 74, 75, 76, 77, 78, 79, 80, 81, 82, 83] [] (LcJ B4 R (opSum ops) ns40 ⟨g0, r0', R, fl40⟩ ⟨g1, r1', R, f1⟩ ⟨g2, r2', R, f2⟩ g3 r3') rfl (by repeat' first | exact Resp.retD | exact Resp1.valuesK | refine Resp.blockD ?_ | refine Resp.thenD ?_ ?_ | refine Resp.hcode ?_) ?_ ?_) | (refine HCode.step ?_; (repeat refine HReg.step ?_); first | (show HCode _ _ _ (Code.seq (Code.seq (Code.region _ _ _) (Code.block _ _)) _) _ _ _; refine hcutC (a := Code.seq (Code.region _ _ _) (Code.block _ _)) [6, 12, 68, 69, 70, 71, 72, 73, 74, 75, 76, 77, 78, 79, 80, 81, 82, 83] [] (LcJ B4 R (opSum ops) ns40 ⟨g0, r0', R, fl40⟩ ⟨g1, r1', R, f1⟩ ⟨g2, r2', R, f2⟩ g3 r3') rfl (by repeat' first | exact Resp.retD | exact Resp1.valuesK | refine Resp.blockD ?_ | refine Resp.thenD ?_ ?_ | refine Resp.hcode ?_) ?_ ?_) | (refine HCode.step ?_; (repeat refine HReg.step ?_); first | (show HCode _ _ _ (Code.seq (Code.seq (Code.region _ _ _) (Code.block _ _)) _) _ _ _; refine hcutC (a := Code.seq (Code.region _ _ _) (Code.block _ _)) [6, 12, 68, 69, 70, 71, 72, 73, 74, 75, 76, 77, 78, 79, 80, 81, 82, 83] [] (LcJ B4 R (opSum ops) ns40 ⟨g0, r0', R, fl40⟩ ⟨g1, r1', R, f1⟩ ⟨g2, r2', R, f2⟩ g3 r3') rfl (by repeat' first | exact Resp.retD | exact Resp1.valuesK | refine Resp.blockD ?_ | refine Resp.thenD ?_ ?_ | refine Resp.hcode ?_) ?_ ?_) | (refine HCode.step ?_; (repeat refine HReg.step ?_); first | (show HCode _ _ _ (Code.seq (Code.seq (Code.region _ _ _) (Code.block _ _)) _) _ _ _; refine hcutC (a := Code.seq (Code.region _ _ _) (Code.block _ _)) [6, 12, 68, 69, 70, 71, 72, 73, 74, 75, 76, 77, 78, 79, 80, 81, 82, 83] [] (LcJ B4 R (opSum ops) ns40 ⟨g0, r0', R, fl40⟩ ⟨g1, r1', R, f1⟩ ⟨g2, r2', R, f2⟩ g3 r3') rfl (by repeat' first | exact Resp.retD | exact Resp1.valuesK | refine Resp.blockD ?_ | refine Resp.thenD ?_ ?_ | refine Resp.hcode ?_) ?_ ?_) | (refine HCode.step ?_; (repeat refine HReg.step ?_); first | (show HCode _ _ _ (Code.seq (Code.seq (Code.region _ _ _) (Code.block _ _)) _) _ _ _; refine hcutC (a := Code.seq (Code.region _ _ _) (Code.block _ _)) [6, 12, 68, 69, 70, 71, 72, 73, 74, 75, 76, 77, 78, 79, 80, 81, 82, 83] [] (LcJ B4 R (opSum ops) ns40 ⟨g0, r0', R, fl40⟩ ⟨g1, r1', R, f1⟩ ⟨g2, r2', R, f2⟩ g3 r3') rfl (by repeat' first | exact Resp.retD | exact Resp1.valuesK | refine Resp.blockD ?_ | refine Resp.thenD ?_ ?_ | refine Resp.hcode ?_) ?_ ?_) | (refine HCode.step ?_; (repeat refine HReg.step ?_); first | (show HCode _ _ _ (Code.seq (Code.seq (Code.region _ _ _) (Code.block _ _)) _) _ _ _; refine hcutC (a := Code.seq (Code.region _ _ _) (Code.block _ _)) [6, 12, 68, 69, 70, 71, 72, 73, 74, 75, 76, 77, 78, 79, 80, 81, 82, 83] [] (LcJ B4 R (opSum ops) ns40 ⟨g0, r0', R, fl40⟩ ⟨g1, r1', R, f1⟩ ⟨g2, r2', R, f2⟩ g3 r3') rfl (by repeat' first | exact Resp.retD | exact Resp1.valuesK | refine Resp.blockD ?_ | refine Resp.thenD ?_ ?_ | refine Resp.hcode ?_) ?_ ?_) | (refine HCode.step ?_; (repeat refine HReg.step ?_); first | (show HCode _ _ _ (Code.seq (Code.seq (Code.region _ _ _) (Code.block _ _)) _) _ _ _; refine hcutC (a := Code.seq (Code.region _ _ _) (Code.block _ _)) [6, 12, 68, 69, 70, 71, 72, 73, 74, 75, 76, 77, 78, 79, 80, 81, 82, 83] [] (LcJ B4 R (opSum ops) ns40 ⟨g0, r0', R, fl40⟩ ⟨g1, r1', R, f1⟩ ⟨g2, r2', R, f2⟩ g3 r3') rfl (by repeat' first | exact Resp.retD | exact Resp1.valuesK | refine Resp.blockD ?_ | refine Resp.thenD ?_ ?_ | refine Resp.hcode ?_) ?_ ?_) | (refine HCode.step ?_; (repeat refine HReg.step ?_); first | (show HCode _ _ _ (Code.seq (Code.seq (Code.region _ _ _) (Code.block _ _)) _) _ _ _; refine hcutC (a := Code.seq (Code.region _ _ _) (Code.block _ _)) [6, 12, 68, 69, 70, 71, 72, 73, 74, 75, 76, 77, 78, 79, 80, 81, 82, 83] [] (LcJ B4 R (opSum ops) ns40 ⟨g0, r0', R, fl40⟩ ⟨g1, r1', R, f1⟩ ⟨g2, r2', R, f2⟩ g3 r3') rfl (by repeat' first | exact Resp.retD | exact Resp1.valuesK | refine Resp.blockD ?_ | refine Resp.thenD ?_ ?_ | refine Resp.hcode ?_) ?_ ?_) | (refine HCode.step ?_; (repeat refine HReg.step ?_); first | (show HCode _ _ _ (Code.seq (Code.seq (Code.region _ _ _) (Code.block _ _)) _) _ _ _; refine hcutC (a := Code.seq (Code.region _ _ _) (Code.block _ _)) [6, 12, 68, 69, 70, 71, 72, 73, 74, 75, 76, 77, 78, 79, 80, 81, 82, 83] [] (LcJ B4 R (opSum ops) ns40 ⟨g0, r0', R, fl40⟩ ⟨g1, r1', R, f1⟩ ⟨g2, r2', R, f2⟩ g3 r3') rfl (by repeat' first | exact Resp.retD | exact Resp1.valuesK | refine Resp.blockD ?_ | refine Resp.thenD ?_ ?_ | refine Resp.hcode ?_) ?_ ?_) | (refine HCode.step ?_; (repeat refine HReg.step ?_); first | (show HCode _ _ _ (Code.seq (Code.seq (Code.region _ _ _) (Code.block _ _)) _) _ _ _; refine hcutC (a := Code.seq (Code.region _ _ _) (Code.block _ _)) [6, 12, 68, 69, 70, 71, 72, 73, 74, 75, 76, 77, 78, 79, 80, 81, 82, 83] [] (LcJ B4 R (opSum ops) ns40 ⟨g0, r0', R, fl40⟩ ⟨g1, r1', R, f1⟩ ⟨g2, r2', R, f2⟩ g3 r3') rfl (by repeat' first | exact Resp.retD | exact Resp1.valuesK | refine Resp.blockD ?_ | refine Resp.thenD ?_ ?_ | refine Resp.hcode ?_) ?_ ?_) | (refine HCode.step ?_; (repeat refine HReg.step ?_); first | (show HCode _ _ _ (Code.seq (Code.seq (Code.region _ _ _) (Code.block _ _)) _) _ _ _; refine hcutC (a := Code.seq (Code.region _ _ _) (Code.block _ _)) [6, 12, 68, 69, 70, 71, 72, 73, 74, 75, 76, 77, 78, 79, 80, 81, 82, 83] [] (LcJ B4 R (opSum ops) ns40 ⟨g0, r0', R, fl40⟩ ⟨g1, r1', R, f1⟩ ⟨g2, r2', R, f2⟩ g3 r3') rfl (by repeat' first | exact Resp.retD | exact Resp1.valuesK | refine Resp.blockD ?_ | refine Resp.thenD ?_ ?_ | refine Resp.hcode ?_) ?_ ?_) | (refine HCode.step ?_; (repeat refine HReg.step ?_); first | (show HCode _ _ _ (Code.seq (Code.seq (Code.region _ _ _) (Code.block _ _)) _) _ _ _; refine hcutC (a := Code.seq (Code.region _ _ _) (Code.block _ _)) [6, 12, 68, 69, 70, 71, 72, 73, 74, 75, 76, 77, 78, 79, 80, 81, 82, 83] [] (LcJ B4 R (opSum ops) ns40 ⟨g0, r0', R, fl40⟩ ⟨g1, r1', R, f1⟩ ⟨g2, r2', R, f2⟩ g3 r3') rfl (by repeat' first | exact Resp.retD | exact Resp1.valuesK | refine Resp.blockD ?_ | refine Resp.thenD ?_ ?_ | refine Resp.hcode ?_) ?_ ?_) | (refine HCode.step ?_; (repeat refine HReg.step ?_); first | (show HCode _ _ _ (Code.seq (Code.seq (Code.region _ _ _) (Code.block _ _)) _) _ _ _; refine hcutC (a := Code.seq (Code.region _ _ _) (Code.block _ _)) [6, 12, 68, 69, 70, 71, 72, 73, 74, 75, 76, 77, 78, 79, 80, 81, 82, 83] [] (LcJ B4 R (opSum ops) ns40 ⟨g0, r0', R, fl40⟩ ⟨g1, r1', R, f1⟩ ⟨g2, r2', R, f2⟩ g3 r3') rfl (by repeat' first | exact Resp.retD | exact Resp1.valuesK | refine Resp.blockD ?_ | refine Resp.thenD ?_ ?_ | refine Resp.hcode ?_) ?_ ?_) | (refine HCode.step ?_; (repeat refine HReg.step ?_); first | (show HCode _ _ _ (Code.seq (Code.seq (Code.region _ _ _) (Code.block _ _)) _) _ _ _; refine hcutC (a := Code.seq (Code.region _ _ _) (Code.block _ _)) [6, 12, 68, 69, 70, 71, 72, 73, 74, 75, 76, 77, 78, 79, 80, 81, 82, 83] [] (LcJ B4 R (opSum ops) ns40 ⟨g0, r0', R, fl40⟩ ⟨g1, r1', R, f1⟩ ⟨g2, r2', R, f2⟩ g3 r3') rfl (by repeat' first | exact Resp.retD | exact Resp1.valuesK | refine Resp.blockD ?_ | refine Resp.thenD ?_ ?_ | refine Resp.hcode ?_) ?_ ?_) | (refine HCode.step ?_; (repeat refine HReg.step ?_); first | (show HCode _ _ _ (Code.seq (Code.seq (Code.region _ _ _) (Code.block _ _)) _) _ _ _; refine hcutC (a := Code.seq (Code.region _ _ _) (Code.block _ _)) [6, 12, 68, 69, 70, 71, 72, 73, 74, 75, 76, 77, 78, 79, 80, 81, 82, 83] [] (LcJ B4 R (opSum ops) ns40 ⟨g0, r0', R, fl40⟩ ⟨g1, r1', R, f1⟩ ⟨g2, r2', R, f2⟩ g3 r3') rfl (by repeat' first | exact Resp.retD | exact Resp1.valuesK | refine Resp.blockD ?_ | refine Resp.thenD ?_ ?_ | refine Resp.hcode ?_) ?_ ?_) | (refine HCode.step ?_; (repeat refine HReg.step ?_); first | (show HCode _ _ _ (Code.seq (Code.seq (Code.region _ _ _) (Code.block _ _)) _) _ _ _; refine hcutC (a := Code.seq (Code.region _ _ _) (Code.block _ _)) [6, 12, 68, 69, 70, 71, 72, 73, 74, 75, 76, 77, 78, 79, 80, 81, 82, 83] [] (LcJ B4 R (opSum ops) ns40 ⟨g0, r0', R, fl40⟩ ⟨g1, r1', R, f1⟩ ⟨g2, r2', R, f2⟩ g3 r3') rfl (by repeat' first | exact Resp.retD | exact Resp1.valuesK | refine Resp.blockD ?_ | refine Resp.thenD ?_ ?_ | refine Resp.hcode ?_) ?_ ?_) | (refine HCode.step ?_; (repeat refine HReg.step ?_); first | (show HCode _ _ _ (Code.seq (Code.seq (Code.region _ _ _) (Code.block _ _)) _) _ _ _; refine hcutC (a := Code.seq (Code.region _ _ _) (Code.block _ _)) [6, 12, 68, 69, 70, 71, 72, 73, 74, 75, 76, 77, 78, 79, 80, 81, 82, 83] [] (LcJ B4 R (opSum ops) ns40 ⟨g0, r0', R, fl40⟩ ⟨g1, r1', R, f1⟩ ⟨g2, r2', R, f2⟩ g3 r3') rfl (by repeat' first | exact Resp.retD | exact Resp1.valuesK | refine Resp.blockD ?_ | refine Resp.thenD ?_ ?_ | refine Resp.hcode ?_) ?_ ?_) | (refine HCode.step ?_; (repeat refine HReg.step ?_); (show HCode _ _ _ (Code.seq (Code.seq (Code.region _ _ _) (Code.block _ _)) _) _ _ _; refine hcutC (a := Code.seq (Code.region _ _ _) (Code.block _ _)) [6, 12, 68, 69, 70, 71, 72, 73, 74, 75, 76, 77, 78, 79, 80, 81, 82, 83] [] (LcJ B4 R (opSum ops) ns40 ⟨g0, r0', R, fl40⟩ ⟨g1, r1', R, f1⟩ ⟨g2, r2', R, f2⟩ g3 r3') rfl (by repeat' first | exact Resp.retD | exact Resp1.valuesK | refine Resp.blockD ?_ | refine Resp.thenD ?_ ?_ | refine Resp.hcode ?_) ?_ ?_))))))))))))))))))))))
  · (repeat first | refine HReg.step ?_ | refine HCode.step ?_)
    refine hloopC [6, 12, 68, 69, 70, 71, 72, 73, 74, 75, 76, 77, 78, 79, 80, 81, 82, 83] [12] (LcInv B4 R (opSum ops) ns40 ⟨g0, r0', R, fl40⟩ ⟨g1, r1', R, f1⟩ ⟨g2, r2', R, f2⟩ g3 r3') rfl (by repeat' first | exact Resp.retD | exact Resp1.valuesK | refine Resp.blockD ?_ | refine Resp.thenD ?_ ?_ | refine Resp.hcode ?_) ?_ ?_
    · exact ⟨ns40.length, LcInv.mk ⟨0, R, f3, rfl, rfl, N40, by rw [List.take_zero]; exact Syd.start lvR, okR⟩⟩
    rintro m _ fe H7 ⟨i, s3, f3, rfl, hmi, M, sy, ok3⟩
    have wi : wr .i64 ((i : Int) + 1) = ((i + 1 : Nat) : Int) := by rw [wr_i64 (by omega) (by omega)]; omega
    have ub := M.base (i := 0) rfl
    (repeat first | refine HReg.step ?_ | refine HCode.step ?_)
    refine HLoad.one (v := .slice x40 ns40.length c40) (by exact (o40.upd ub (Off.nil _)).rows.get (i := 0) rfl) ?_
    (repeat first | refine HReg.step ?_ | refine HCode.step ?_)
    refine hif (fun h1 => ?_) (fun h1 => ?_)
    · have h1 := ltB_true.1 h1
      obtain ⟨t, ht⟩ : ∃ t, ns40[i]? = some t := ⟨ns40[i]'(by omega), by simp⟩
      obtain ⟨bx, ox, hx, cx⟩ := (R40.upd (S := []) ub (.inr (Off.nil _))) i _ (txts_get ht)
      obtain ⟨e1, sy'⟩ := sy.step (t := t) ((nm40.mem t).1 (List.mem_of_getElem? ht))
      have o40x := (o40.upd ub (Off.nil _)).rows.get (i := 0) rfl
      rw [hx] at o40x
      (repeat first | refine HReg.step ?_ | refine HCode.step ?_)
      refine HReq.mk ⟨by decide, by decide⟩ ?_
      (repeat first | refine HReg.step ?_ | refine HCode.step ?_)
      refine HLoad.one (v := ptrV g3) ((o7.upd ub (Off.nil _)).rows.get (i := 3) rfl) ?_
      (repeat first | refine HReg.step ?_ | refine HCode.step ?_)
      refine HLoad.one (by exact o40x) ?_
      (repeat first | refine HReg.step ?_ | refine HCode.step ?_)
      refine HReq.mk ⟨by omega, by omega⟩ ?_
      (repeat first | refine HReg.step ?_ | refine HCode.step ?_)
      refine HLoad.one (by exact cx) ?_
      (repeat first | refine HReg.step ?_ | refine HCode.step ?_)
      refine HCall.mk ⟨Try.f13, Try.func13, by rfl, by rfl⟩ ?_
      refine sync_f (n := bs t) (M.each 3 _ rfl) fun f3' H8 D8 S8 => ?_
      have M8 := M.step (i := 3) rfl D8 S8
      simp only [List.set] at M8
      (repeat first | refine HReg.step ?_ | refine HCode.step ?_)
      rw [e1, eqB_self 0]
      (repeat first | refine HReg.step ?_ | refine HCode.step ?_)
      rw [wi]
      refine ⟨m - 1, by omega, LcInv.mk ⟨i + 1, _, f3', rfl, by omega, M8, ?_, ok3.sync _⟩⟩
      rw [List.take_add_one, ht]
      exact sy'
    · have h1 := ltB_false.1 h1
      (repeat first | refine HReg.step ?_ | refine HCode.step ?_)
      obtain rfl : i = ns40.length := by omega
      rw [List.take_length] at sy
      exact LcJ.mk ⟨s3, f3, rfl, M, sy, ok3⟩
  rintro _ fe2 H7 ⟨s3, f3', rfl, M7, sy, ok3⟩
  have ha1 : bitsS .and .i64 less 65535 = less % 65536 := and_mask less 16 (by decide)
  have ha2 : bitsS .and .i64 more 65535 = more % 65536 := and_mask more 16 (by decide)
  have p1 : 0 ≤ less % 65536 := Int.emod_nonneg _ (by decide)
  have p2 : less % 65536 < 65536 := Int.emod_lt_of_pos _ (by decide)
  have p3 : 0 ≤ more % 65536 := Int.emod_nonneg _ (by decide)
  have p4 : more % 65536 < 65536 := Int.emod_lt_of_pos _ (by decide)
  obtain ⟨L, hL⟩ : ∃ L : Nat, less % 65536 = (L : Int) := ⟨(less % 65536).toNat, by omega⟩
  obtain ⟨D, hD⟩ : ∃ D : Nat, more % 65536 = (D : Int) := ⟨(more % 65536).toNat, by omega⟩
  have wM : wr .i64 ((L : Int) + (D : Int)) = ((L + D : Nat) : Int) := by rw [wr_i64 (by omega) (by omega)]; omega
  (repeat first | refine HReg.step ?_ | refine HCode.step ?_)
  rw [ha1, hL]
  (repeat first | refine HReg.step ?_ | refine HCode.step ?_)
  rw [ha2, hD, wM]
  generalize hM : L + D = M at *
  (repeat first | refine HReg.step ?_ | refine HCode.step ?_)
  refine HReq.mk ⟨by decide, by decide⟩ ?_
  (repeat first | refine HReg.step ?_ | refine HCode.step ?_)
  refine HLoad.one (v := ptrV g1) ((o7.upd (M7.base (i := 0) rfl) (Off.nil _)).rows.get (i := 1) rfl) ?_
  (repeat first | refine HReg.step ?_ | refine HCode.step ?_)
  refine HCall.mk ⟨Try.f31, Try.func31, by rfl, by rfl⟩ ?_
  refine crash_t (M7.each 1 _ rfl) fun f8 H8 D8 S8 => ?_
  have M8 := M7.step (i := 1) rfl D8 S8
  simp only [List.set] at M8
  (repeat first | refine HReg.step ?_ | refine HCode.step ?_)
  refine HReq.mk ⟨by decide, by decide⟩ ?_
  (repeat first | refine HReg.step ?_ | refine HCode.step ?_)
  refine HLoad.one (v := ptrV g2) ((o7.upd (M8.base (i := 0) rfl) (Off.nil _)).rows.get (i := 2) rfl) ?_
  (repeat first | refine HReg.step ?_ | refine HCode.step ?_)
  refine HCall.mk ⟨Try.f31, Try.func31, by rfl, by rfl⟩ ?_
  refine crash_t (M8.each 2 _ rfl) fun f9 H9 D9 S9 => ?_
  have M9 := M8.step (i := 2) rfl D9 S9
  simp only [List.set] at M9
  (repeat first | refine HReg.step ?_ | refine HCode.step ?_)
  refine HReq.mk ⟨by decide, by decide⟩ ?_
  (repeat first | refine HReg.step ?_ | refine HCode.step ?_)
  refine HLoad.one (v := ptrV g3) ((o7.upd (M9.base (i := 0) rfl) (Off.nil _)).rows.get (i := 3) rfl) ?_
  (repeat first | refine HReg.step ?_ | refine HCode.step ?_)
  refine HCall.mk ⟨Try.f31, Try.func31, by rfl, by rfl⟩ ?_
  refine crash_t (M9.each 3 _ rfl) fun f10 H10 D10 S10 => ?_
  have M10 := M9.step (i := 3) rfl D10 S10
  simp only [List.set] at M10
  (repeat first | refine HReg.step ?_ | refine HCode.step ?_)
  refine HReq.mk ⟨by decide, by decide⟩ ?_
  (repeat first | refine HReg.step ?_ | refine HCode.step ?_)
  refine HLoad.one (v := ptrV g1) ((o7.upd (M10.base (i := 0) rfl) (Off.nil _)).rows.get (i := 1) rfl) ?_
  (repeat first | refine HReg.step ?_ | refine HCode.step ?_)
  refine HCall.mk ⟨Try.f26, Try.func26, by rfl, by rfl⟩ ?_
  refine down_t (M10.each 1 _ rfl) ?_
  (repeat first | refine HReg.step ?_ | refine HCode.step ?_)
  rw [crash_off]
  (repeat first | refine HReg.step ?_ | refine HCode.step ?_)
  refine HReq.mk ⟨by decide, by decide⟩ ?_
  (repeat first | refine HReg.step ?_ | refine HCode.step ?_)
  refine HLoad.one (v := ptrV g2) ((o7.upd (M10.base (i := 0) rfl) (Off.nil _)).rows.get (i := 2) rfl) ?_
  (repeat first | refine HReg.step ?_ | refine HCode.step ?_)
  refine HCall.mk ⟨Try.f26, Try.func26, by rfl, by rfl⟩ ?_
  refine down_t (M10.each 2 _ rfl) ?_
  (repeat first | refine HReg.step ?_ | refine HCode.step ?_)
  rw [crash_off]
  (repeat first | refine HReg.step ?_ | refine HCode.step ?_)
  refine HReq.mk ⟨by decide, by decide⟩ ?_
  (repeat first | refine HReg.step ?_ | refine HCode.step ?_)
  refine HLoad.one (v := ptrV g3) ((o7.upd (M10.base (i := 0) rfl) (Off.nil _)).rows.get (i := 3) rfl) ?_
  (repeat first | refine HReg.step ?_ | refine HCode.step ?_)
  refine HCall.mk ⟨Try.f26, Try.func26, by rfl, by rfl⟩ ?_
  refine down_t (M10.each 3 _ rfl) ?_
  (repeat first | refine HReg.step ?_ | refine HCode.step ?_)
  rw [crash_off]
  have okL : (R.crash (L : Int)).Ok (opSum ops) := okR.crash _
  have okM : (R.crash (M : Int)).Ok (opSum ops) := okR.crash _
  have ok0' : (s3.crash 0).Ok (opSum ops) := ok3.crash _
  (repeat first | refine HReg.step ?_ | refine HCode.step ?_)
  refine HReq.mk ⟨by decide, by decide⟩ ?_
  (repeat first | refine HReg.step ?_ | refine HCode.step ?_)
  refine HLoad.one (v := ptrV g1) ((o7.upd (M10.base (i := 0) rfl) (Off.nil _)).rows.get (i := 1) rfl) ?_
  (repeat first | refine HReg.step ?_ | refine HCode.step ?_)
  refine HCall.mk ⟨Try.f30, Try.func30, by rfl, by rfl⟩ ?_
  refine many_shot (i := 1) (d := ⟨g1, r1', R.crash (L : Int), f8⟩) M10 rfl okL l5 fun x41 y41 c41 e41 ns41 fl41 G41 B41 N41 ub41 V41 nm41 g41s => ?_
  simp only [List.set] at N41
  have V40 := V40.upd0 ub41
  have o7 := o7.upd ub41 (Off.nil _)
  have o40 := o40.upd ub41 (Off.nil _)
  (repeat first | refine HReg.step ?_ | refine HCode.step ?_)
  refine HNew.mk fun b41s hb41s => ?_
  (repeat first | refine HReg.step ?_ | refine HCode.step ?_)
  refine store_shot (OwnRow.lit (upd_same _ _ _) rfl) rfl fun P41 o41 u41 => ?_
  have u41 : Upd [] G41 P41 := Upd.drop (Upd.new hb41s _) u41 (fun q hq => by rw [List.mem_singleton.1 hq]; exact hb41s)
  have N41 := N41.upd0 u41
  have w41 := N41.rest (i := 0) rfl
  have o41 := N41.keepO o41 (by decide) (by decide) (by decide)
  have V40 := V40.upd0 w41
  have V41 := V41.upd0 w41
  have o7 := o7.upd w41 (Off.nil _)
  have o40 := o40.upd w41 (Off.nil _)
  have N41 := N41.less
  have uB := uB.trans (ub41.trans w41)
  (repeat first | refine HReg.step ?_ | refine HCode.step ?_)
  refine HReq.mk ⟨by decide, by decide⟩ ?_
  (repeat first | refine HReg.step ?_ | refine HCode.step ?_)
  refine HLoad.one (v := ptrV g2) ((o7.upd (N41.base (i := 0) rfl) (Off.nil _)).rows.get (i := 2) rfl) ?_
  (repeat first | refine HReg.step ?_ | refine HCode.step ?_)
  refine HCall.mk ⟨Try.f30, Try.func30, by rfl, by rfl⟩ ?_
  refine many_shot (i := 2) (d := ⟨g2, r2', R.crash (M : Int), f9⟩) N41 rfl okM l5 fun x42 y42 c42 e42 ns42 fl42 G42 B42 N42 ub42 V42 nm42 g42s => ?_
  simp only [List.set] at N42
  have V40 := V40.upd0 ub42
  have V41 := V41.upd0 ub42
  have o7 := o7.upd ub42 (Off.nil _)
  have o40 := o40.upd ub42 (Off.nil _)
  have o41 := o41.upd ub42 (Off.nil _)
  (repeat first | refine HReg.step ?_ | refine HCode.step ?_)
  refine HNew.mk fun b42s hb42s => ?_
  (repeat first | refine HReg.step ?_ | refine HCode.step ?_)
  refine store_shot (OwnRow.lit (upd_same _ _ _) rfl) rfl fun P42 o42 u42 => ?_
  have u42 : Upd [] G42 P42 := Upd.drop (Upd.new hb42s _) u42 (fun q hq => by rw [List.mem_singleton.1 hq]; exact hb42s)
  have N42 := N42.upd0 u42
  have w42 := N42.rest (i := 0) rfl
  have o42 := N42.keepO o42 (by decide) (by decide) (by decide)
  have V40 := V40.upd0 w42
  have V41 := V41.upd0 w42
  have V42 := V42.upd0 w42
  have o7 := o7.upd w42 (Off.nil _)
  have o40 := o40.upd w42 (Off.nil _)
  have o41 := o41.upd w42 (Off.nil _)
  have N42 := N42.less
  have uB := uB.trans (ub42.trans w42)
  (repeat first | refine HReg.step ?_ | refine HCode.step ?_)
  refine HReq.mk ⟨by decide, by decide⟩ ?_
  (repeat first | refine HReg.step ?_ | refine HCode.step ?_)
  refine HLoad.one (v := ptrV g3) ((o7.upd (N42.base (i := 0) rfl) (Off.nil _)).rows.get (i := 3) rfl) ?_
  (repeat first | refine HReg.step ?_ | refine HCode.step ?_)
  refine HCall.mk ⟨Try.f30, Try.func30, by rfl, by rfl⟩ ?_
  refine many_shot (i := 3) (d := ⟨g3, r3', s3.crash 0, f10⟩) N42 rfl ok0' l5 fun x43 y43 c43 e43 ns43 fl43 G43 B43 N43 ub43 V43 nm43 g43s => ?_
  simp only [List.set] at N43
  have V40 := V40.upd0 ub43
  have V41 := V41.upd0 ub43
  have V42 := V42.upd0 ub43
  have o7 := o7.upd ub43 (Off.nil _)
  have o40 := o40.upd ub43 (Off.nil _)
  have o41 := o41.upd ub43 (Off.nil _)
  have o42 := o42.upd ub43 (Off.nil _)
  (repeat first | refine HReg.step ?_ | refine HCode.step ?_)
  refine HNew.mk fun b43s hb43s => ?_
  (repeat first | refine HReg.step ?_ | refine HCode.step ?_)
  refine store_shot (OwnRow.lit (upd_same _ _ _) rfl) rfl fun P43 o43 u43 => ?_
  have u43 : Upd [] G43 P43 := Upd.drop (Upd.new hb43s _) u43 (fun q hq => by rw [List.mem_singleton.1 hq]; exact hb43s)
  have N43 := N43.upd0 u43
  have w43 := N43.rest (i := 0) rfl
  have o43 := N43.keepO o43 (by decide) (by decide) (by decide)
  have V40 := V40.upd0 w43
  have V41 := V41.upd0 w43
  have V42 := V42.upd0 w43
  have V43 := V43.upd0 w43
  have o7 := o7.upd w43 (Off.nil _)
  have o40 := o40.upd w43 (Off.nil _)
  have o41 := o41.upd w43 (Off.nil _)
  have o42 := o42.upd w43 (Off.nil _)
  have N43 := N43.less
  have uB := uB.trans (ub43.trans w43)
  have hf1 : ∀ k, (R.crash (L : Int)).fs k = (R.fs k).map (crash1 (L : Int)) := fun k => crash_fs lvR.on _ k
  have hf2 : ∀ k, (R.crash (M : Int)).fs k = (R.fs k).map (crash1 (M : Int)) := fun k => crash_fs lvR.on _ k
  have hf3 : ∀ k, (s3.crash 0).fs k = (R.fs k).map (fun x => (x.1, x.1.length)) := fun k => by
    rw [crash_fs sy.live.on, sy.fs]
    have hm := nm40.mem k.data.toList
    rw [bs_data] at hm
    cases hx : R.fs k with
    | none => split <;> rfl
    | some x =>
      rw [if_pos (hm.2 (by rw [hx]; simp))]
      simp only [Option.map_some]
      rw [crash_synced]
  have hn1 := names_map nm41 nm40 hf1
  have hn2 := names_map nm42 nm40 hf2
  have hn3 := names_map nm43 nm40 hf3
  rw [hn1] at V41 o41
  rw [hn2] at V42 o42
  rw [hn3] at V43 o43
  rw [bytes_map nm40 hf1] at V41
  rw [bytes_map nm40 hf2] at V42
  rw [bytes_map nm40 hf3] at V43
  have hb3 : (ns40.map fun t => ((fun x : List UInt8 × Nat => (x.1, x.1.length)) ((R.fs (bs t)).getD ([], 0))).1) = ns40.map (bytesAt R) := rfl
  rw [hb3] at V43
  generalize hB7 : lessH P43 (dskB [⟨g0, r0', R, fl40⟩, ⟨g1, r1', (R.crash (L : Int)).upp, fl41⟩, ⟨g2, r2', (R.crash (M : Int)).upp, fl42⟩, ⟨g3, r3', (s3.crash 0).upp, fl43⟩]) = B7 at *
  have ub := N43.base (i := 0) rfl
  have p40 := o40.upd ub (Off.nil _)
  have p41 := o41.upd ub (Off.nil _)
  have p42 := o42.upd ub (Off.nil _)
  have p43 := o43.upd ub (Off.nil _)
  have U40 := V40.upd0 ub
  have U41 := V41.upd0 ub
  have U42 := V42.upd0 ub
  have U43 := V43.upd0 ub
  obtain ⟨q40, _, v40, s40, a40⟩ := U40.get
  obtain ⟨q41, _, v41, s41, a41⟩ := U41.get
  obtain ⟨q42, _, v42, s42, a42⟩ := U42.get
  (repeat first | refine HReg.step ?_ | refine HCode.step ?_)
  refine HLoad.one (v := .slice x41 ns40.length c41) (by exact p41.rows.get (i := 0) rfl) ?_
  (repeat first | refine HReg.step ?_ | refine HCode.step ?_)
  refine HLoad.one (v := .slice x40 ns40.length c40) (by exact p40.rows.get (i := 0) rfl) ?_
  (repeat first | refine HReg.step ?_ | refine HCode.step ?_)
  refine HCall.mk ⟨Try.f22, Try.func22, by rfl, by rfl⟩ ?_
  refine sameS_t q41 q40 rfl rfl (by omega) ?_
  (repeat first | refine HReg.step ?_ | refine HCode.step ?_)
  refine HLoad.one (v := .slice x42 ns40.length c42) (by exact p42.rows.get (i := 0) rfl) ?_
  (repeat first | refine HReg.step ?_ | refine HCode.step ?_)
  refine HLoad.one (v := .slice x40 ns40.length c40) (by exact p40.rows.get (i := 0) rfl) ?_
  (repeat first | refine HReg.step ?_ | refine HCode.step ?_)
  refine HCall.mk ⟨Try.f22, Try.func22, by rfl, by rfl⟩ ?_
  refine sameS_t q42 q40 rfl rfl (by omega) ?_
  (repeat first | refine HReg.step ?_ | refine HCode.step ?_)
  refine HLoadN_row p43.rows rfl ?_
  (repeat first | refine HReg.step ?_ | refine HCode.step ?_)
  refine HLoadN_row p40.rows rfl ?_
  (repeat first | refine HReg.step ?_ | refine HCode.step ?_)
  refine HCall.mk ⟨Try.f32, Try.func32, by rfl, by rfl⟩ ?_
  refine sameShot_t U43 U40 (by omega) (by rw [List.length_map]; omega) fun H50 u50 => ?_
  have p40 := p40.upd u50 (Off.nil _)
  have p41 := p41.upd u50 (Off.nil _)
  have p42 := p42.upd u50 (Off.nil _)
  have s40 := s40.upd (S := []) u50 (.inr (Off.nil _))
  have s41 := s41.upd (S := []) u50 (.inr (Off.nil _))
  have s42 := s42.upd (S := []) u50 (.inr (Off.nil _))
  have a40 := a40.mono fun v x h => h.upd0 u50
  have a41 := a41.mono fun v x h => h.upd0 u50
  have a42 := a42.mono fun v x h => h.upd0 u50
  ((repeat refine HReg.step ?_); first | (show HCode _ _ _ (Code.seq (Code.seq (Code.region _ _ _) (Code.block _ _)) _) _ _ _; refine hcutC (a := Code.seq (Code.region _ _ _) (Code.block _ _)) [6, 19, 20, 21, 22, 167, 168, 169, 170, 171, 172, 173, 174, 175, 176, 177, 178, 179, 180, 181, 182, 183, 184, 185, 186, 187, 188, 189, 190, 191, 192, 193, 194, 195, 196, 197, 198, 199, 200, 201, 202, 203, 204, 205, 206, 207, 208, 209, 210, 211, 212, 213, 214, 215, 216, 217, 218, 219, 220, 221, 222, 223, 224, 225, 226, 227, 228, 229, 230, 231, 232, 233, 234, 235, 236, 237, 238, 239, 240] [] (LdJ H50) rfl (by repeat' first | exact Resp.retD | exact Resp1.valuesK | refine Resp.blockD ?_ | refine Resp.thenD ?_ ?_ | refine Resp.hcode ?_) ?_ ?_) | (refine HCode.step ?_; (repeat refine HReg.step ?_); first | (show HCode _ _ _ (Code.seq (Code.seq (Code.region _ _ _) (Code.block _ _)) _) _ _ _; refine hcutC (a := Code.seq (Code.region _ _ _) (Code.block _ _)) [6, 19, 20, 21, 22, 167, 168, 169, 170, 171, 172, 173, 174, 175, 176, 177, 178, 179, 180, 181, 182, 183, 184, 185, 186, 187, 188, 189, 190, 191, 192, 193, 194, 195, 196, 197, 198, 199, 200, 201, 202, 203, 204, 205, 206, 207, 208, 209, 210, 211, 212, 213, 214, 215, 216, 217, 218, 219, 220, 221, 222, 223, 224, 225, 226, 227, 228, 229, 230, 231, 232, 233, 234, 235, 236, 237, 238, 239, 240] [] (LdJ H50) rfl (by repeat' first | exact Resp.retD | exact Resp1.valuesK | refine Resp.blockD ?_ | refine Resp.thenD ?_ ?_ | refine Resp.hcode ?_) ?_ ?_) | (refine HCode.step ?_; (repeat refine HReg.step ?_); first | (show HCode _ _ _ (Code.seq (Code.seq (Code.region _ _ _) (Code.block _ _)) _) _ _ _; refine hcutC (a := Code.seq (Code.region _ _ _) (Code.block _ _)) [6, 19, 20, 21, 22, 167, 168, 169, 170, 171, 172, 173, 174, 175, 176, 177, 178, 179, 180, 181, 182, 183, 184, 185, 186, 187, 188, 189, 190, 191, 192, 193, 194, 195, 196, 197, 198, 199, 200, 201, 202, 203, 204, 205, 206, 207, 208, 209, 210, 211, 212, 213, 214, 215, 216, 217, 218, 219, 220, 221, 222, 223, 224, 225, 226, 227, 228, 229, 230, 231, 232, 233, 234, 235, 236, 237, 238, 239, 240] [] (LdJ H50) rfl (by repeat' first | exact Resp.retD | exact Resp1.valuesK | refine Resp.blockD ?_ | refine Resp.thenD ?_ ?_ | refine Resp.hcode ?_) ?_ ?_) | (refine HCode.step ?_; (repeat refine HReg.step ?_); first | (show HCode _ _ _ (Code.seq (Code.seq (Code.region _ _ _) (Code.block _ _)) _) _ _ _; refine hcutC (a := Code.seq (Code.region _ _ _) (Code.block _ _)) [6, 19, 20, 21, 22, 167, 168, 169, 170, 171, 172, 173, 174, 175, 176, 177, 178, 179, 180, 181, 182, 183, 184, 185, 186, 187, 188, 189, 190, 191, 192, 193, 194, 195, 196, 197, 198, 199, 200, 201, 202, 203, 204, 205, 206, 207, 208, 209, 210, 211, 212, 213, 214, 215, 216, 217, 218, 219, 220, 221, 222, 223, 224, 225, 226, 227, 228, 229, 230, 231, 232, 233, 234, 235, 236, 237, 238, 239, 240] [] (LdJ H50) rfl (by repeat' first | exact Resp.retD | exact Resp1.valuesK | refine Resp.blockD ?_ | refine Resp.thenD ?_ ?_ | refine Resp.hcode ?_) ?_ ?_) | (refine HCode.step ?_; (repeat refine HReg.step ?_); first | (show HCode _ _ _ (Code.seq (Code.seq (Code.region _ _ _) (Code.block _ _)) _) _ _ _; refine hcutC (a := Code.seq (Code.region _ _ _) (Code.block _ _)) [6, 19, 20, 21, 22, 167, 168, 169, 170, 171, 172, 173, 174, 175, 176, 177, 178, 179, 180, 181, 182, 183, 184, 185, 186, 187, 188, 189, 190, 191, 192, 193, 194, 195, 196, 197, 198, 199, 200, 201, 202, 203, 204, 205, 206, 207, 208, 209, 210, 211, 212, 213, 214, 215, 216, 217, 218, 219, 220, 221, 222, 223, 224, 225, 226, 227, 228, 229, 230, 231, 232, 233, 234, 235, 236, 237, 238, 239, 240] [] (LdJ H50) rfl (by repeat' first | exact Resp.retD | exact Resp1.valuesK | refine Resp.blockD ?_ | refine Resp.thenD ?_ ?_ | refine Resp.hcode ?_) ?_ ?_) | (refine HCode.step ?_; (repeat refine HReg.step ?_); first | (show HCode _ _ _ (Code.seq (Code.seq (Code.region _ _ _) (Code.block _ _)) _) _ _ _; refine hcutC (a := Code.seq (Code.region _ _ _) (Code.block _ _)) [6, 19, 20, 21, 22, 167, 168, 169, 170, 171, 172, 173, 174, 175, 176, 177, 178, 179, 180, 181, 182, 183, 184, 185, 186, 187, 188, 189, 190, 191, 192, 193, 194, 195, 196, 197, 198, 199, 200, 201, 202, 203, 204, 205, 206, 207, 208, 209, 210, 211, 212, 213, 214, 215, 216, 217, 218, 219, 220, 221, 222, 223, 224, 225, 226, 227, 228, 229, 230, 231, 232, 233, 234, 235, 236, 237, 238, 239, 240] [] (LdJ H50) rfl (by repeat' first | exact Resp.retD | exact Resp1.valuesK | refine Resp.blockD ?_ | refine Resp.thenD ?_ ?_ | refine Resp.hcode ?_) ?_ ?_) | (refine HCode.step ?_; (repeat refine HReg.step ?_); first | (show HCode _ _ _ (Code.seq (Code.seq (Code.region _ _ _) (Code.block _ _)) _) _ _ _; refine hcutC (a := Code.seq (Code.region _ _ _) (Code.block _ _)) [6, 19, 20, 21, 22, 167, 168, 169, 170, 171, 172, 173, 174, 175, 176, 177, 178, 179, 180, 181, 182, 183, 184, 185, 186, 187, 188, 189, 190, 191, 192, 193, 194, 195, 196, 197, 198, 199, 200, 201, 202, 203, 204, 205, 206, 207, 208, 209, 210, 211, 212, 213, 214, 215, 216, 217, 218, 219, 220, 221, 222, 223, 224, 225, 226, 227, 228, 229, 230, 231, 232, 233, 234, 235, 236, 237, 238, 239, 240] [] (LdJ H50) rfl (by repeat' first | exact Resp.retD | exact Resp1.valuesK | refine Resp.blockD ?_ | refine Resp.thenD ?_ ?_ | refine Resp.hcode ?_) ?_ ?_) | (refine HCode.step ?_; (repeat refine HReg.step ?_); first | (show HCode _ _ _ (Code.seq (Code.seq (Code.region _ _ _) (Code.block _ _)) _) _ _ _; refine hcutC (a := Code.seq (Code.region _ _ _) (Code.block _ _)) [6, 19, 20, 21, 22, 167, 168, 169, 170, 171, 172, 173, 174, 175, 176, 177, 178, 179, 180, 181, 182, 183, 184, 185, 186, 187, 188, 189, 190, 191, 192, 193, 194, 195, 196, 197, 198, 199, 200, 201, 202, 203, 204, 205, 206, 207, 208, 209, 210, 211, 212, 213, 214, 215, 216, 217, 218, 219, 220, 221, 222, 223, 224, 225, 226, 227, 228, 229, 230, 231, 232, 233, 234, 235, 236, 237, 238, 239, 240] [] (LdJ H50) rfl (by repeat' first | exact Resp.retD | exact Resp1.valuesK | refine Resp.blockD ?_ | refine Resp.thenD ?_ ?_ | refine Resp.hcode ?_) ?_ ?_) | (refine HCode.step ?_; (repeat refine HReg.step ?_); first | (show HCode _ _ _ (Code.seq (Code.seq (Code.region _ _ _) (Code.block _ _)) _) _ _ _; refine hcutC (a := Code.seq (Code.region _ _ _) (Code.block _ _)) [6, 19, 20, 21, 22, 167, 168, 169, 170, 171, 172, 173, 174, 175, 176, 177, 178, 179, 180, 181, 182, 183, 184, 185, 186, 187, 188, 189, 190, 191, 192, 193, 194, 195, 196, 197, 198, 199, 200, 201, 202, 203, 204, 205, 206, 207, 208, 209, 210, 211, 212, 213, 214, 215, 216, 217, 218, 219, 220, 221, 222, 223, 224, 225, 226, 227, 228, 229, 230, 231, 232, 233, 234, 235, 236, 237, 238, 239, 240] [] (LdJ H50) rfl (by repeat' first | exact Resp.retD | exact Resp1.valuesK | refine Resp.blockD ?_ | refine Resp.thenD ?_ ?_ | refine Resp.hcode ?_) ?_ ?_) | (refine HCode.step ?_; (repeat refine HReg.step ?_); first | (show HCode _ _ _ (Code.seq (Code.seq (Code.region _ _ _) (Code.block _ _)) _) _ _ _; refine hcutC (a := Code.seq (Code.region _ _ _) (Code.block _ _)) [6, 19, 20, 21, 22, 167, 168, 169, 170, 171, 172, 173, 174, 175, 176, 177, 178, 179, 180, 181, 182, 183, 184, 185, 186, 187, 188, 189, 190, 191, 192, 193, 194, 195, 196, 197, 198, 199, 200, 201, 202, 203, 204, 205, 206, 207, 208, 209, 210, 211, 212, 213, 214, 215, 216, 217, 218, 219, 220, 221, 222, 223, 224, 225, 226, 227, 228, 229, 230, 231, 232, 233, 234, 235, 236, 237, 238, 239, 240] [] (LdJ H50) rfl (by repeat' first | exact Resp.retD | exact Resp1.valuesK | refine Resp.blockD ?_ | refine Resp.thenD ?_ ?_ | refine Resp.hcode ?_) ?_ ?_) | (refine HCode.step ?_; (repeat refine HReg.step ?_); first | (show HCode _ _ _ (Code.seq (Code.seq (Code.region _ _ _) (Code.block _ _)) _) _ _ _; refine hcutC (a := Code.seq (Code.region _ _ _) (Code.block _ _)) [6, 19, 20, 21, 22, 167, 168, 169, 170, 171, 172, 173, 174, 175, 176, 177, 178, 179, 180, 181, 182, 183, 184, 185, 186, 187, 188, 189, 190, 191, 192, 193, 194, 195, 196, 197, 198, 199, 200, 201, 202, 203, 204, 205, 206, 207, 208, 209, 210, 211, 212, 213, 214, 215, 216, 217, 218, 219, 220, 221, 222, 223, 224, 225, 226, 227, 228, 229, 230, 231, 232, 233, 234, 235, 236, 237, 238, 239, 240] [] (LdJ H50) rfl (by repeat' first | exact Resp.retD | exact Resp1.valuesK | refine Resp.blockD ?_ | refine Resp.thenD ?_ ?_ | refine Resp.hcode ?_) ?_ ?_) | (refine HCode.step ?_; (repeat refine HReg.step ?_); first | (show HCode _ _ _ (Code.seq (Code.seq (Code.region _ _ _) (Code.block _ _)) _) _ _ _; refine hcutC (a := Code.seq (Code.region _ _ _) (Code.block _ _)) [6, 19, 20, 21, 22, 167, 168, 169, 170, 171, 172, 173, 174, 175, 176, 177, 178, 179, 180, 181, 182, 183, 184, 185, 186, 187, 188, 189, 190, 191, 192, 193, 194, 195, 196, 197, 198, 199, 200, 201, 202, 203, 204, 205, 206, 207, 208, 209, 210, 211, 212, 213, 214, 215, 216, 217, 218, 219, 220, 221, 222, 223, 224, 225, 226, 227, 228, 229, 230, 231, 232, 233, 234, 235, 236, 237, 238, 239, 240] [] (LdJ H50) rfl (by repeat' first | exact Resp.retD | exact Resp1.valuesK | refine Resp.blockD ?_ | refine Resp.thenD ?_ ?_ | refine Resp.hcode ?_) ?_ ?_) | (refine HCode.step ?_; (repeat refine HReg.step ?_); first | (show HCode _ _ _ (Code.seq (Code.seq (Code.region _ _ _) (Code.block _ _)) _) _ _ _; refine hcutC (a := Code.seq (Code.region _ _ _) (Code.block _ _)) [6, 19, 20, 21, 22, 167, 168, 169, 170, 171, 172, 173, 174, 175, 176, 177, 178, 179, 180, 181, 182, 183, 184, 185, 186, 187, 188, 189, 190, 191, 192, 193, 194, 195, 196, 197, 198, 199, 200, 201, 202, 203, 204, 205, 206, 207, 208, 209, 210, 211, 212, 213, 214, 215, 216, 217, 218, 219, 220, 221, 222, 223, 224, 225, 226, 227, 228, 229, 230, 231, 232, 233, 234, 235, 236, 237, 238, 239, 240] [] (LdJ H50) rfl (by repeat' first | exact Resp.retD | exact Resp1.valuesK | refine Resp.blockD ?_ | refine Resp.thenD ?_ ?_ | refine Resp.hcode ?_) ?_ ?_) | (refine HCode.step ?_; (repeat refine HReg.step ?_); first | (show HCode _ _ _ (Code.seq (Code.seq (Code.region _ _ _) (Code.block _ _)) _) _ _ _; refine hcutC (a := Code.seq (Code.region _ _ _) (Code.block _ _)) [6, 19, 20, 21, 22, 167, 168, 169, 170, 171, 172, 173, 174, 175, 176, 177, 178, 179, 180, 181, 182, 183, 184, 185, 186, 187, 188, 189, 190, 191, 192, 193, 194, 195, 196, 197, 198, 199, 200, 201, 202, 203, 204, 205, 206, 207, 208, 209, 210, 211, 212, 213, 214, 215, 216, 217, 218, 219, 220, 221, 222, 223, 224, 225, 226, 227, 228, 229, 230, 231, 232, 233, 234, 235, 236, 237, 238, 239, 240] [] (LdJ H50) rfl (by repeat' first | exact Resp.retD | exact Resp1.valuesK | refine Resp.blockD ?_ | refine Resp.thenD ?_ ?_ | refine Resp.hcode ?_) ?_ ?_) | (refine HCode.step ?_; (repeat refine HReg.step ?_); first | (show HCode _ _ _ (Code.seq (Code.seq (Code.region _ _ _) (Code.block _ _)) _) _ _ _; refine hcutC (a := Code.seq (Code.region _ _ _) (Code.block _ _)) [6, 19, 20, 21, 22, 167, 168, 169, 170, 171, 172, 173, 174, 175, 176, 177, 178, 179, 180, 181, 182, 183, 184, 185, 186, 187, 188, 189, 190, 191, 192, 193, 194, 195, 196, 197, 198, 199, 200, 201, 202, 203, 204, 205, 206, 207, 208, 209, 210, 211, 212, 213, 214, 215, 216, 217, 218, 219, 220, 221, 222, 223, 224, 225, 226, 227, 228, 229, 230, 231, 232, 233, 234, 235, 236, 237, 238, 239, 240] [] (LdJ H50) rfl (by repeat' first | exact Resp.retD | exact Resp1.valuesK | refine Resp.blockD ?_ | refine Resp.thenD ?_ ?_ | refine Resp.hcode ?_) ?_ ?_) | (refine HCode.step ?_; (repeat refine HReg.step ?_); first | (show HCode _ _ _ (Code.seq (Code.seq (Code.region _ _ _) (Code.block _ _)) _) _ _ _; refine hcutC (a := Code.seq (Code.region _ _ _) (Code.block _ _)) [6, 19, 20, 21, 22, 167, 168, 169, 170, 171, 172, 173, 174, 175, 176, 177, 178, 179, 180, 181, 182, 183, 184, 185, 186, 187, 188, 189, 190, 191, 192, 193, 194, 195, 196, 197, 198, 199, 200, 201, 202, 203, 204, 205, 206, 207, 208, 209, 210, 211, 212, 213, 214, 215, 216, 217, 218, 219, 220, 221, 222, 223, 224, 225, 226, 227, 228, 229, 230, 231, 232, 233, 234, 235, 236, 237, 238, 239, 240] [] (LdJ H50) rfl (by repeat' first | exact Resp.retD | exact Resp1.valuesK | refine Resp.blockD ?_ | refine Resp.thenD ?_ ?_ | refine Resp.hcode ?_) ?_ ?_) | (refine HCode.step ?_; (repeat refine HReg.step ?_); first | (show HCode _ _ _ (Code.seq (Code.seq (Code.region _ _ _) (Code.block _ _)) _) _ _ _; refine hcutC (a := Code.seq (Code.region _ _ _) (Code.block _ _)) [6, 19, 20, 21, 22, 167, 168, 169, 170, 171, 172, 173, 174, 175, 176, 177, 178, 179, 180, 181, 182, 183, 184, 185, 186, 187, 188, 189, 190, 191, 192, 193, 194, 195, 196, 197, 198, 199, 200, 201, 202, 203, 204, 205, 206, 207, 208, 209, 210, 211, 212, 213, 214, 215, 216, 217, 218, 219, 220, 221, 222, 223, 224, 225, 226, 227, 228, 229, 230, 231, 232, 233, 234, 235, 236, 237, 238, 239, 240] [] (LdJ H50) rfl (by repeat' first | exact Resp.retD | exact Resp1.valuesK | refine Resp.blockD ?_ | refine Resp.thenD ?_ ?_ | refine Resp.hcode ?_) ?_ ?_) | (refine HCode.step ?_; (repeat refine HReg.step ?_); first | (show HCode _ _ _ (Code.seq (Code.seq (Code.region _ _ _) (Code.block _ _)) _) _ _ _; refine hcutC (a := Code.seq (Code.region _ _ _) (Code.block _ _)) [6, 19, 20, 21, 22, 167, 168, 169, 170, 171, 172, 173, 174, 175, 176, 177, 178, 179, 180, 181, 182, 183, 184, 185, 186, 187, 188, 189, 190, 191, 192, 193, 194, 195, 196, 197, 198, 199, 200, 201, 202, 203, 204, 205, 206, 207, 208, 209, 210, 211, 212, 213, 214, 215, 216, 217, 218, 219, 220, 221, 222, 223, 224, 225, 226, 227, 228, 229, 230, 231, 232, 233, 234, 235, 236, 237, 238, 239, 240] [] (LdJ H50) rfl (by repeat' first | exact Resp.retD | exact Resp1.valuesK | refine Resp.blockD ?_ | refine Resp.thenD ?_ ?_ | refine Resp.hcode ?_) ?_ ?_) | (refine HCode.step ?_; (repeat refine HReg.step ?_); first | (show HCode _ _ _ (Code.seq (Code.seq (Code.region _ _ _) (Code.block _ _)) _) _ _ _; refine hcutC (a := Code.seq (Code.region _ _ _) (Code.block _ _)) [6, 19, 20, 21, 22, 167, 168, 169, 170, 171, 172, 173, 174, 175, 176, 177, 178, 179, 180, 181, 182, 183, 184, 185, 186, 187, 188, 189, 190, 191, 192, 193, 194, 195, 196, 197, 198, 199, 200, 201, 202, 203, 204, 205, 206, 207, 208, 209, 210, 211, 212, 213, 214, 215, 216, 217, 218, 219, 220, 221, 222, 223, 224, 225, 226, 227, 228, 229, 230, 231, 232, 233, 234, 235, 236, 237, 238, 239, 240] [] (LdJ H50) rfl (by repeat' first | exact Resp.retD | exact Resp1.valuesK | refine Resp.blockD ?_ | refine Resp.thenD ?_ ?_ | refine Resp.hcode ?_) ?_ ?_) | (refine HCode.step ?_; (repeat refine HReg.step ?_); first | (show HCode _ _ _ (Code.seq (Code.seq (Code.region _ _ _) (Code.block _ _)) _) _ _ _; refine hcutC (a := Code.seq (Code.region _ _ _) (Code.block _ _)) [6, 19, 20, 21, 22, 167, 168, 169, 170, 171, 172, 173, 174, 175, 176, 177, 178, 179, 180, 181, 182, 183, 184, 185, 186, 187, 188, 189, 190, 191, 192, 193, 194, 195, 196, 197, 198, 199, 200, 201, 202, 203, 204, 205, 206, 207, 208, 209, 210, 211, 212, 213, 214, 215, 216, 217, 218, 219, 220, 221, 222, 223, 224, 225, 226, 227, 228, 229, 230, 231, 232, 233, 234, 235, 236, 237, 238, 239, 240] [] (LdJ H50) rfl (by repeat' first | exact Resp.retD | exact Resp1.valuesK | refine Resp.blockD ?_ | refine Resp.thenD ?_ ?_ | refine Resp.hcode ?_) ?_ ?_) | (refine HCode.step ?_; (repeat refine HReg.step ?_); (show HCode _ _ _ (Code.seq (Code.seq (Code.region _ _ _) (Code.block _ _)) _) _ _ _; refine hcutC (a := Code.seq (Code.region _ _ _) (Code.block _ _)) [6, 19, 20, 21, 22, 167, 168, 169, 170, 171, 172, 173, 174, 175, 176, 177, 178, 179, 180, 181, 182, 183, 184, 185, 186, 187, 188, 189, 190, 191, 192, 193, 194, 195, 196, 197, 198, 199, 200, 201, 202, 203, 204, 205, 206, 207, 208, 209, 210, 211, 212, 213, 214, 215, 216, 217, 218, 219, 220, 221, 222, 223, 224, 225, 226, 227, 228, 229, 230, 231, 232, 233, 234, 235, 236, 237, 238, 239, 240] [] (LdJ H50) rfl (by repeat' first | exact Resp.retD | exact Resp1.valuesK | refine Resp.blockD ?_ | refine Resp.thenD ?_ ?_ | refine Resp.hcode ?_) ?_ ?_))))))))))))))))))))))
  · (repeat first | refine HReg.step ?_ | refine HCode.step ?_)
    refine hloopC [6, 19, 20, 21, 22, 167, 168, 169, 170, 171, 172, 173, 174, 175, 176, 177, 178, 179, 180, 181, 182, 183, 184, 185, 186, 187, 188, 189, 190, 191, 192, 193, 194, 195, 196, 197, 198, 199, 200, 201, 202, 203, 204, 205, 206, 207, 208, 209, 210, 211, 212, 213, 214, 215, 216, 217, 218, 219, 220, 221, 222, 223, 224, 225, 226, 227, 228, 229, 230, 231, 232, 233, 234, 235, 236, 237, 238, 239, 240] [19] (SmInv ns40.length H50) rfl (by repeat' first | exact Resp.retD | exact Resp1.valuesK | refine Resp.blockD ?_ | refine Resp.thenD ?_ ?_ | refine Resp.hcode ?_) ?_ ?_
    · exact ⟨ns40.length, SmInv.mk ⟨0, rfl, rfl, rfl⟩⟩
    rintro m _ fe H51 ⟨i, rfl, hmi, hH⟩
    have hH := hH.symm
    subst hH
    have wi : wr .i64 ((i : Int) + 1) = ((i + 1 : Nat) : Int) := by rw [wr_i64 (by omega) (by omega)]; omega
    (repeat first | refine HReg.step ?_ | refine HCode.step ?_)
    refine HLoad.one (v := .slice x40 ns40.length c40) (by exact p40.rows.get (i := 0) rfl) ?_
    (repeat first | refine HReg.step ?_ | refine HCode.step ?_)
    refine hif (fun h1 => ?_) (fun h1 => ?_)
    · have h1 := ltB_true.1 h1
      obtain ⟨t, ht⟩ : ∃ t, ns40[i]? = some t := ⟨ns40[i]'(by omega), by simp⟩
      obtain ⟨⟨X, y⟩, hx⟩ : ∃ x, R.fs (bs t) = some x := Option.ne_none_iff_exists'.1 ((nm40.mem t).1 (List.mem_of_getElem? ht))
      obtain ⟨hX, hy⟩ := okR.le _ _ hx
      simp only at hX hy
      have law := cut_law hy (show L ≤ M by omega)
      have e0 : (ns40.map (bytesAt R))[i]? = some X := by rw [List.getElem?_map, ht]; simp only [Option.map_some, bytesAt, hx, Option.getD_some]
      have e1 : (ns40.map fun t => (crash1 (L : Int) ((R.fs (bs t)).getD ([], 0))).1)[i]? = some (crash1 (L : Int) (X, y)).1 := by rw [List.getElem?_map, ht]; simp only [Option.map_some, hx, Option.getD_some]
      have e2 : (ns40.map fun t => (crash1 (M : Int) ((R.fs (bs t)).getD ([], 0))).1)[i]? = some (crash1 (M : Int) (X, y)).1 := by rw [List.getElem?_map, ht]; simp only [Option.map_some, hx, Option.getD_some]
      generalize (crash1 (L : Int) (X, y)).1 = A at law e1
      generalize (crash1 (M : Int) (X, y)).1 = Z at law e2
      obtain ⟨z0, h40, aa0, cc0, rfl, rr0, ll0⟩ := a40.get e0
      obtain ⟨z1, h41, aa1, cc1, rfl, rr1, ll1⟩ := a41.get e1
      obtain ⟨z2, h42, aa2, cc2, rfl, rr2, ll2⟩ := a42.get e2
      obtain ⟨k0, j0, rfl, _⟩ := s40 i _ h40
      obtain ⟨k1, j1, rfl, _⟩ := s41 i _ h41
      obtain ⟨k2, j2, rfl, _⟩ := s42 i _ h42
      have lw := law.lw
      have le := law.le
      (repeat first | refine HReg.step ?_ | refine HCode.step ?_)
      refine HLoad.one (v := .slice (some ⟨k1, j1, none⟩) ns40.length e41) (by exact p41.rows.get (i := 1) rfl) ?_
      (repeat first | refine HReg.step ?_ | refine HCode.step ?_)
      refine HReq.mk ⟨by omega, by omega⟩ ?_
      (repeat first | refine HReg.step ?_ | refine HCode.step ?_)
      refine HLoad.one (by exact s41.get h41) ?_
      (repeat first | refine HReg.step ?_ | refine HCode.step ?_)
      refine HLoad.one (v := .slice (some ⟨k2, j2, none⟩) ns40.length e42) (by exact p42.rows.get (i := 1) rfl) ?_
      (repeat first | refine HReg.step ?_ | refine HCode.step ?_)
      refine HReq.mk ⟨by omega, by omega⟩ ?_
      (repeat first | refine HReg.step ?_ | refine HCode.step ?_)
      refine HLoad.one (by exact s42.get h42) ?_
      (repeat first | refine HReg.step ?_ | refine HCode.step ?_)
      refine HLoad.one (v := .slice (some ⟨k0, j0, none⟩) ns40.length e40) (by exact p40.rows.get (i := 1) rfl) ?_
      (repeat first | refine HReg.step ?_ | refine HCode.step ?_)
      refine HReq.mk ⟨by omega, by omega⟩ ?_
      (repeat first | refine HReg.step ?_ | refine HCode.step ?_)
      refine HLoad.one (by exact s40.get h40) ?_
      (repeat first | refine HReg.step ?_ | refine HCode.step ?_)
      refine HLoad.one (v := .slice (some ⟨k1, j1, none⟩) ns40.length e41) (by exact p41.rows.get (i := 1) rfl) ?_
      (repeat first | refine HReg.step ?_ | refine HCode.step ?_)
      refine HReq.mk ⟨by omega, by omega⟩ ?_
      (repeat first | refine HReg.step ?_ | refine HCode.step ?_)
      refine HLoad.one (by exact s41.get h41) ?_
      (repeat first | refine HReg.step ?_ | refine HCode.step ?_)
      refine HLoad.one (v := .slice (some ⟨k2, j2, none⟩) ns40.length e42) (by exact p42.rows.get (i := 1) rfl) ?_
      (repeat first | refine HReg.step ?_ | refine HCode.step ?_)
      refine HReq.mk ⟨by omega, by omega⟩ ?_
      (repeat first | refine HReg.step ?_ | refine HCode.step ?_)
      refine HLoad.one (by exact s42.get h42) ?_
      (repeat first | refine HReg.step ?_ | refine HCode.step ?_)
      refine HCall.mk ⟨Try.f20, Try.func20, by rfl, by rfl⟩ ?_
      refine begins_t rr1 rfl rr2 rfl ll2 ?_
      rw [decide_eq_true law.ab]
      (repeat first | refine HReg.step ?_ | refine HCode.step ?_)
      refine HLoad.one (v := .slice (some ⟨k2, j2, none⟩) ns40.length e42) (by exact p42.rows.get (i := 1) rfl) ?_
      (repeat first | refine HReg.step ?_ | refine HCode.step ?_)
      refine HReq.mk ⟨by omega, by omega⟩ ?_
      (repeat first | refine HReg.step ?_ | refine HCode.step ?_)
      refine HLoad.one (by exact s42.get h42) ?_
      (repeat first | refine HReg.step ?_ | refine HCode.step ?_)
      refine HLoad.one (v := .slice (some ⟨k0, j0, none⟩) ns40.length e40) (by exact p40.rows.get (i := 1) rfl) ?_
      (repeat first | refine HReg.step ?_ | refine HCode.step ?_)
      refine HReq.mk ⟨by omega, by omega⟩ ?_
      (repeat first | refine HReg.step ?_ | refine HCode.step ?_)
      refine HLoad.one (by exact s40.get h40) ?_
      (repeat first | refine HReg.step ?_ | refine HCode.step ?_)
      refine HCall.mk ⟨Try.f20, Try.func20, by rfl, by rfl⟩ ?_
      refine begins_t rr2 rfl rr0 rfl ll0 ?_
      rw [decide_eq_true law.bX]
      have w1 : wr .i64 ((Z.length : Int) - (A.length : Int)) = ((Z.length - A.length : Nat) : Int) := by rw [wr_i64 (by omega) (by omega)]; omega
      have w2 : wr .i64 ((M : Int) - (L : Int)) = ((M - L : Nat) : Int) := by rw [wr_i64 (by omega) (by omega)]; omega
      have d1 := law.d1
      (repeat first | refine HReg.step ?_ | refine HCode.step ?_)
      rw [w1, w2, show ltB ((M - L : Nat) : Int) ((Z.length - A.length : Nat) : Int) = false from ltB_false.2 (by omega)]
      (repeat first | refine HReg.step ?_ | refine HCode.step ?_)
      refine hif (fun h3 => ?_) (fun h3 => ?_)
      · have h3 := ltB_true.1 h3
        have d2 := law.d2 (by omega)
        (repeat first | refine HReg.step ?_ | refine HCode.step ?_)
        rw [w1, w2, d2, eqB_self]
        (repeat first | refine HReg.step ?_ | refine HCode.step ?_)
        rw [wi]
        exact ⟨m - 1, by omega, SmInv.mk ⟨i + 1, rfl, by omega, rfl⟩⟩
      · (repeat first | refine HReg.step ?_ | refine HCode.step ?_)
        rw [wi]
        exact ⟨m - 1, by omega, SmInv.mk ⟨i + 1, rfl, by omega, rfl⟩⟩
    · (repeat first | refine HReg.step ?_ | refine HCode.step ?_)
      exact LdJ.mk ⟨rfl, rfl⟩
  rintro _ fe3 H51 ⟨rfl, hH⟩
  have hH := hH.symm
  subst hH
  have N50 := N43.upd0 u50
  have okL' : (((R.crash (L : Int)).upp).crash 5).Ok (opSum ops) := okL.upp.crash _
  have hf5 : ∀ k, (((R.crash (L : Int)).upp).crash 5).fs k = (R.fs k).map (crash1 (L : Int)) := fun k => by
    rw [crash_fs (upp_live _).on]
    show ((R.crash (L : Int)).fs k).map _ = _
    rw [hf1]
    cases hx : R.fs k with
    | none => rfl
    | some x =>
      obtain ⟨x, y⟩ := x
      simp only [Option.map_some]
      rw [crash_again (okR.le _ _ hx).2]
  (repeat first | refine HReg.step ?_ | refine HCode.step ?_)
  refine HReq.mk ⟨by decide, by decide⟩ ?_
  (repeat first | refine HReg.step ?_ | refine HCode.step ?_)
  refine HLoad.one (v := ptrV g1) ((o7.upd (N50.base (i := 0) rfl) (Off.nil _)).rows.get (i := 1) rfl) ?_
  (repeat first | refine HReg.step ?_ | refine HCode.step ?_)
  refine HCall.mk ⟨Try.f31, Try.func31, by rfl, by rfl⟩ ?_
  refine crash_t (N50.each 1 _ rfl) fun f52 H52 D52 S52 => ?_
  have N52 := N50.step (i := 1) rfl D52 S52
  simp only [List.set] at N52
  (repeat first | refine HReg.step ?_ | refine HCode.step ?_)
  refine HReq.mk ⟨by decide, by decide⟩ ?_
  (repeat first | refine HReg.step ?_ | refine HCode.step ?_)
  refine HLoad.one (v := ptrV g1) ((o7.upd (N52.base (i := 0) rfl) (Off.nil _)).rows.get (i := 1) rfl) ?_
  (repeat first | refine HReg.step ?_ | refine HCode.step ?_)
  refine HCall.mk ⟨Try.f30, Try.func30, by rfl, by rfl⟩ ?_
  refine many_shot (i := 1) (d := ⟨g1, r1', ((R.crash (L : Int)).upp).crash 5, f52⟩) N52 rfl okL' l5 fun x53 y53 c53 e53 ns53 fl53 G53 B53 N53 ub53 V53 nm53 g53s => ?_
  simp only [List.set] at N53
  have V41 := V41.upd0 ub53
  have o41 := o41.upd ub53 (Off.nil _)
  (repeat first | refine HReg.step ?_ | refine HCode.step ?_)
  refine HNew.mk fun b53s hb53s => ?_
  (repeat first | refine HReg.step ?_ | refine HCode.step ?_)
  refine store_shot (OwnRow.lit (upd_same _ _ _) rfl) rfl fun P53 o53 u53 => ?_
  have u53 : Upd [] G53 P53 := Upd.drop (Upd.new hb53s _) u53 (fun q hq => by rw [List.mem_singleton.1 hq]; exact hb53s)
  have N53 := N53.upd0 u53
  have ue := N53.base (i := 0) rfl
  have V53 := V53.upd0 ue
  have V41 := V41.upd0 ue
  have o41 := o41.upd ue (Off.nil _)
  have hn5 := names_map nm53 nm40 hf5
  rw [hn5] at V53 o53
  rw [bytes_map nm40 hf5] at V53
  (repeat first | refine HReg.step ?_ | refine HCode.step ?_)
  refine HLoadN_row o53.rows (by rfl) ?_
  (repeat first | refine HReg.step ?_ | refine HCode.step ?_)
  refine HLoadN_row o41.rows rfl ?_
  (repeat first | refine HReg.step ?_ | refine HCode.step ?_)
  refine HCall.mk ⟨Try.f32, Try.func32, by rfl, by rfl⟩ ?_
  refine sameShot_t V53 V41 (by omega) (by rw [List.length_map]; omega) fun H60 u60 => ?_
  (repeat first | refine HReg.step ?_ | refine HCode.step ?_)
  exact hk H60 (uB.trans (ub53.trans (ue.trans u60)))
end
end Go.Proofs.Ytocejipjnklieaa
