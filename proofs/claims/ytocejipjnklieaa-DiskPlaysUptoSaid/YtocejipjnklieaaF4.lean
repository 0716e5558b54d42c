import Derived.Test.YtocejipjnklieaaF3
namespace Go.Proofs.Ytocejipjnklieaa
open Go Hv
set_option linter.unusedVariables false
set_option linter.unusedSimpArgs false
set_option maxRecDepth 10000
set_option maxHeartbeats 4000000
/-! The document's disk: Crash, counted. CUT2 -/
def RFl.cut (keep : Int) (f : RFl) : RFl := { f with bytes := (crash1 keep (f.bytes, f.synced)).1, c := (crash1 keep (f.bytes, f.synced)).2, synced := (crash1 keep (f.bytes, f.synced)).2 }
def crAt (keep : Int) (fs : List RFl) (i : Nat) : List RFl := (fs.take i).map (RFl.cut keep) ++ fs.drop i
theorem crAt_len (keep : Int) (fs : List RFl) (i : Nat) : (crAt keep fs i).length = fs.length := by
  unfold crAt
  rw [List.length_append, List.length_map, List.length_take, List.length_drop]; omega
theorem crAt_get {keep : Int} {fs : List RFl} {i : Nat} {f : RFl} (h : fs[i]? = some f) : (crAt keep fs i)[i]? = some f := by
  have hi := (List.getElem?_eq_some_iff.1 h).1
  unfold crAt
  rw [List.getElem?_append_right (by rw [List.length_map, List.length_take]; omega), List.length_map, List.length_take, List.getElem?_drop]
  have e : i + (i - min i fs.length) = i := by omega
  rw [e]; exact h
theorem crAt_set {keep : Int} {fs : List RFl} {i : Nat} {f : RFl} (h : fs[i]? = some f) : (crAt keep fs i).set i (f.cut keep) = crAt keep fs (i + 1) := by
  have hi := (List.getElem?_eq_some_iff.1 h).1
  unfold crAt
  have hl : ((fs.take i).map (RFl.cut keep)).length = i := by rw [List.length_map, List.length_take]; omega
  rw [List.set_append_right _ _ (by omega), hl, Nat.sub_self, List.take_add_one, h, List.map_append, List.append_assoc]
  congr 1
  have hd : fs.drop i = f :: fs.drop (i + 1) := by
    rw [List.drop_eq_getElem_cons hi]
    congr 1
    rw [List.getElem?_eq_getElem hi] at h
    exact Option.some.inj h
  rw [hd]
  rfl
theorem crAt_all (keep : Int) (fs : List RFl) : crAt keep fs fs.length = fs.map (RFl.cut keep) := by
  unfold crAt
  rw [List.take_length, List.drop_length, List.append_nil]
structure RcInv (H0 H1 : Heap) (g : Nat) (keep : Int) (fs : List RFl) (aF : Option Addr) (cF : Nat) (rf cl st : Int) (m : Nat) (vs : List Value) (H' : Heap) : Prop where
  ex : ∃ i : Nat, vs = [.int .i64 (i : Int)] ∧ m + i = fs.length ∧ RPh H1 H' g (crAt keep fs i) aF cF false rf cl st ∧ Upd (rblk g aF fs) H0 H'
structure RcJ (H0 H1 : Heap) (g : Nat) (keep : Int) (fs : List RFl) (aF : Option Addr) (cF : Nat) (rf cl st : Int) (vs : List Value) (H' : Heap) : Prop where
  ex : vs = [] ∧ RPh H1 H' g (fs.map (RFl.cut keep)) aF cF false rf cl st ∧ Upd (rblk g aF fs) H0 H'
structure RnJ (n : Nat) (H1 : Heap) (vs : List Value) (H' : Heap) : Prop where
  ex : vs = [.int .i64 (n : Int)] ∧ H' = H1
theorem store_rf {b : Nat} {H : Heap} {f : RFl} {xs : List Value} {K : Heap → Prop} (h : OwnRow H 96 1 (some ⟨b, 0, none⟩) 3 3 xs) (hl : xs.length = 3)
    (hk : ∀ H', OwnRow H' 96 1 (some ⟨b, 0, none⟩) 3 3 f.cells → Upd [b] H H' → K H') : storeN H b 0 0 K f.cells := by
  obtain ⟨y0, y1, y2, rfl⟩ : ∃ a b c, xs = [a, b, c] := by
    match xs, hl with
    | [a, b, c], _ => exact ⟨a, b, c, rfl⟩
  refine store_row h (v := .string (bs f.name)) rfl (i := 0) (by decide) (by rfl) fun H1 o1 u1 => ?_
  refine store_row o1 (v := .slice f.a f.bytes.length f.c) rfl (i := 1) (by decide) (by rfl) fun H2 o2 u2 => ?_
  refine store_row o2 (v := .int .i64 (f.synced : Int)) rfl (i := 2) (by decide) (by rfl) fun H3 o3 u3 => ?_
  exact hk H3 o3 ((u1.trans u2).trans u3)
section
variable {H1 H : Heap} {g : Nat} {s : St} {B : List Nat} {K : Value → Heap → Prop}
theorem rcrash_t {keep : Int} (R : RAt H1 H g s B) (hkl : -9223372036854775808 ≤ keep) (hkh : keep ≤ 9223372036854775807) (hb : ∀ k x, s.fs k = some x → x.1.length ≤ 4611686018427387904) (hc : s.cnt ≤ 1000)
    (hk : ∀ H', RAt H1 H' g (s.crash keep) B → Stq H H' B B → K (.tuple #[]) H') : HCalls Try.prog 50 [.pointer (some ⟨g, 0, none⟩), .int .i64 keep] H K := by
  obtain ⟨fs, aF, cF, cl, st, r, rfl⟩ := R
  refine hcalls (fn := Try.f50) [(8, [(0, 0), (1, 0), (2, 0), (3, 0), (4, 0), (5, 0), (6, 0), (7, 0), (8, 0), (9, 0), (10, 0), (11, 0), (12, 0)])] mixed Try.func50 rfl rfl (by decide +kernel) ?_
  (repeat first | refine HReg.step ?_ | refine HCode.step ?_)
  refine HLoad.one (v := .bool s.d.off) (by exact r.obj.rows.get (i := 1) rfl) ?_
  (repeat first | refine HReg.step ?_ | refine HCode.step ?_)
  refine hif (fun h1 => ?_) (fun h1 => ?_)
  · (repeat first | refine HReg.step ?_ | refine HCode.step ?_)
    have e : s.crash keep = s := by unfold St.crash; rw [if_pos h1]
    rw [e] at hk
    exact hk H ⟨fs, aF, cF, cl, st, r, rfl⟩ (Stq.refl _ _)
  have ph := r.ph
  rw [h1] at ph
  ((repeat refine HReg.step ?_); first | (show HCode _ _ _ (Code.seq (Code.seq (Code.region _ _ _) (Code.block _ _)) _) _ _ _; refine hcutC (a := Code.seq (Code.region _ _ _) (Code.block _ _)) [4, 5, 6, 11, 12, 13, 14, 15, 16, 17, 18, 19, 20, 21, 22, 23, 24, 25, 26, 27, 28, 29, 30, 31, 32, 33, 34, 35, 36, 37, 38, 39, 40, 41, 42, 43, 44, 45, 46, 47, 48, 49, 50, 51, 52, 53, 54, 55, 56, 57, 58, 59, 60] [] (RcJ H H1 g keep fs aF cF s.d.refuses cl st) rfl (by repeat' first | exact Resp.retD | exact Resp1.valuesK | refine Resp.blockD ?_ | refine Resp.thenD ?_ ?_ | refine Resp.hcode ?_) ?_ ?_) | (refine HCode.step ?_; (repeat refine HReg.step ?_); first | (show HCode _ _ _ (Code.seq (Code.seq (Code.region _ _ _) (Code.block _ _)) _) _ _ _; refine hcutC (a := Code.seq (Code.region _ _ _) (Code.block _ _)) [4, 5, 6, 11, 12, 13, 14, 15, 16, 17, 18, 19, 20, 21, 22, 23, 24, 25, 26, 27, 28, 29, 30, 31, 32, 33, 34, 35, 36, 37, 38, 39, 40, 41, 42, 43, 44, 45, 46, 47, 48, 49, 50, 51, 52, 53, 54, 55, 56, 57, 58, 59, 60] [] (RcJ H H1 g keep fs aF cF s.d.refuses cl st) rfl (by repeat' first | exact Resp.retD | exact Resp1.valuesK | refine Resp.blockD ?_ | refine Resp.thenD ?_ ?_ | refine Resp.hcode ?_) ?_ ?_) | (refine HCode.step ?_; (repeat refine HReg.step ?_); first | (show HCode _ _ _ (Code.seq (Code.seq (Code.region _ _ _) (Code.block _ _)) _) _ _ _; refine hcutC (a := Code.seq (Code.region _ _ _) (Code.block _ _)) [4, 5, 6, 11, 12, 13, 14, 15, 16, 17, 18, 19, 20, 21, 22, 23, 24, 25, 26, 27, 28, 29, 30, 31, 32, 33, 34, 35, 36, 37, 38, 39, 40, 41, 42, 43, 44, 45, 46, 47, 48, 49, 50, 51, 52, 53, 54, 55, 56, 57, 58, 59, 60] [] (RcJ H H1 g keep fs aF cF s.d.refuses cl st) rfl (by repeat' first | exact Resp.retD | exact Resp1.valuesK | refine Resp.blockD ?_ | refine Resp.thenD ?_ ?_ | refine Resp.hcode ?_) ?_ ?_) | (refine HCode.step ?_; (repeat refine HReg.step ?_); first | (show HCode _ _ _ (Code.seq (Code.seq (Code.region _ _ _) (Code.block _ _)) _) _ _ _; refine hcutC (a := Code.seq (Code.region _ _ _) (Code.block _ _)) [4, 5, 6, 11, 12, 13, 14, 15, 16, 17, 18, 19, 20, 21, 22, 23, 24, 25, 26, 27, 28, 29, 30, 31, 32, 33, 34, 35, 36, 37, 38, 39, 40, 41, 42, 43, 44, 45, 46, 47, 48, 49, 50, 51, 52, 53, 54, 55, 56, 57, 58, 59, 60] [] (RcJ H H1 g keep fs aF cF s.d.refuses cl st) rfl (by repeat' first | exact Resp.retD | exact Resp1.valuesK | refine Resp.blockD ?_ | refine Resp.thenD ?_ ?_ | refine Resp.hcode ?_) ?_ ?_) | (refine HCode.step ?_; (repeat refine HReg.step ?_); first | (show HCode _ _ _ (Code.seq (Code.seq (Code.region _ _ _) (Code.block _ _)) _) _ _ _; refine hcutC (a := Code.seq (Code.region _ _ _) (Code.block _ _)) [4, 5, 6, 11, 12, 13, 14, 15, 16, 17, 18, 19, 20, 21, 22, 23, 24, 25, 26, 27, 28, 29, 30, 31, 32, 33, 34, 35, 36, 37, 38, 39, 40, 41, 42, 43, 44, 45, 46, 47, 48, 49, 50, 51, 52, 53, 54, 55, 56, 57, 58, 59, 60] [] (RcJ H H1 g keep fs aF cF s.d.refuses cl st) rfl (by repeat' first | exact Resp.retD | exact Resp1.valuesK | refine Resp.blockD ?_ | refine Resp.thenD ?_ ?_ | refine Resp.hcode ?_) ?_ ?_) | (refine HCode.step ?_; (repeat refine HReg.step ?_); first | (show HCode _ _ _ (Code.seq (Code.seq (Code.region _ _ _) (Code.block _ _)) _) _ _ _; refine hcutC (a := Code.seq (Code.region _ _ _) (Code.block _ _)) [4, 5, 6, 11, 12, 13, 14, 15, 16, 17, 18, 19, 20, 21, 22, 23, 24, 25, 26, 27, 28, 29, 30, 31, 32, 33, 34, 35, 36, 37, 38, 39, 40, 41, 42, 43, 44, 45, 46, 47, 48, 49, 50, 51, 52, 53, 54, 55, 56, 57, 58, 59, 60] [] (RcJ H H1 g keep fs aF cF s.d.refuses cl st) rfl (by repeat' first | exact Resp.retD | exact Resp1.valuesK | refine Resp.blockD ?_ | refine Resp.thenD ?_ ?_ | refine Resp.hcode ?_) ?_ ?_) | (refine HCode.step ?_; (repeat refine HReg.step ?_); first | (show HCode _ _ _ (Code.seq (Code.seq (Code.region _ _ _) (Code.block _ _)) _) _ _ _; refine hcutC (a := Code.seq (Code.region _ _ _) (Code.block _ _)) [4, 5, 6, 11, 12, 13, 14, 15, 16, 17, 18, 19, 20, 21, 22, 23, 24, 25, 26, 27, 28, 29, 30, 31, 32, 33, 34, 35, 36, 37, 38, 39, 40, 41, 42, 43, 44, 45, 46, 47, 48, 49, 50, 51, 52, 53, 54, 55, 56, 57, 58, 59, 60] [] (RcJ H H1 g keep fs aF cF s.d.refuses cl st) rfl (by repeat' first | exact Resp.retD | exact Resp1.valuesK | refine Resp.blockD ?_ | refine Resp.thenD ?_ ?_ | refine Resp.hcode ?_) ?_ ?_) | (refine HCode.step ?_; (repeat refine HReg.step ?_); first | (show HCode _ _ _ (Code.seq (Code.seq (Code.region _ _ _) (Code.block _ _)) _) _ _ _; refine hcutC (a := Code.seq (Code.region _ _ _) (Code.block _ _)) [4, 5, 6, 11, 12, 13, 14, 15, 16, 17, 18, 19, 20, 21, 22, 23, 24, 25, 26, 27, 28, 29, 30, 31, 32, 33, 34, 35, 36, 37, 38, 39, 40, 41, 42, 43, 44, 45, 46, 47, 48, 49, 50, 51, 52, 53, 54, 55, 56, 57, 58, 59, 60] [] (RcJ H H1 g keep fs aF cF s.d.refuses cl st) rfl (by repeat' first | exact Resp.retD | exact Resp1.valuesK | refine Resp.blockD ?_ | refine Resp.thenD ?_ ?_ | refine Resp.hcode ?_) ?_ ?_) | (refine HCode.step ?_; (repeat refine HReg.step ?_); first | (show HCode _ _ _ (Code.seq (Code.seq (Code.region _ _ _) (Code.block _ _)) _) _ _ _; refine hcutC (a := Code.seq (Code.region _ _ _) (Code.block _ _)) [4, 5, 6, 11, 12, 13, 14, 15, 16, 17, 18, 19, 20, 21, 22, 23, 24, 25, 26, 27, 28, 29, 30, 31, 32, 33, 34, 35, 36, 37, 38, 39, 40, 41, 42, 43, 44, 45, 46, 47, 48, 49, 50, 51, 52, 53, 54, 55, 56, 57, 58, 59, 60] [] (RcJ H H1 g keep fs aF cF s.d.refuses cl st) rfl (by repeat' first | exact Resp.retD | exact Resp1.valuesK | refine Resp.blockD ?_ | refine Resp.thenD ?_ ?_ | refine Resp.hcode ?_) ?_ ?_) | (refine HCode.step ?_; (repeat refine HReg.step ?_); first | (show HCode _ _ _ (Code.seq (Code.seq (Code.region _ _ _) (Code.block _ _)) _) _ _ _; refine hcutC (a := Code.seq (Code.region _ _ _) (Code.block _ _)) [4, 5, 6, 11, 12, 13, 14, 15, 16, 17, 18, 19, 20, 21, 22, 23, 24, 25, 26, 27, 28, 29, 30, 31, 32, 33, 34, 35, 36, 37, 38, 39, 40, 41, 42, 43, 44, 45, 46, 47, 48, 49, 50, 51, 52, 53, 54, 55, 56, 57, 58, 59, 60] [] (RcJ H H1 g keep fs aF cF s.d.refuses cl st) rfl (by repeat' first | exact Resp.retD | exact Resp1.valuesK | refine Resp.blockD ?_ | refine Resp.thenD ?_ ?_ | refine Resp.hcode ?_) ?_ ?_) | (refine HCode.step ?_; (repeat refine HReg.step ?_); first | (show HCode _ _ _ (Code.seq (Code.seq (Code.region _ _ _) (Code.block _ _)) _) _ _ _; refine hcutC (a := Code.seq (Code.region _ _ _) (Code.block _ _)) [4, 5, 6, 11, 12, 13, 14, 15, 16, 17, 18, 19, 20, 21, 22, 23, 24, 25, 26, 27, 28, 29, 30, 31, 32, 33, 34, 35, 36, 37, 38, 39, 40, 41, 42, 43, 44, 45, 46, 47, 48, 49, 50, 51, 52, 53, 54, 55, 56, 57, 58, 59, 60] [] (RcJ H H1 g keep fs aF cF s.d.refuses cl st) rfl (by repeat' first | exact Resp.retD | exact Resp1.valuesK | refine Resp.blockD ?_ | refine Resp.thenD ?_ ?_ | refine Resp.hcode ?_) ?_ ?_) | (refine HCode.step ?_; (repeat refine HReg.step ?_); first | (show HCode _ _ _ (Code.seq (Code.seq (Code.region _ _ _) (Code.block _ _)) _) _ _ _; refine hcutC (a := Code.seq (Code.region _ _ _) (Code.block _ _)) [4, 5, 6, 11, 12, 13, 14, 15, 16, 17, 18, 19, 20, 21, 22, 23, 24, 25, 26, 27, 28, 29, 30, 31, 32, 33, 34, 35, 36, 37, 38, 39, 40, 41, 42, 43, 44, 45, 46, 47, 48, 49, 50, 51, 52, 53, 54, 55, 56, 57, 58, 59, 60] [] (RcJ H H1 g keep fs aF cF s.d.refuses cl st) rfl (by repeat' first | exact Resp.retD | exact Resp1.valuesK | refine Resp.blockD ?_ | refine Resp.thenD ?_ ?_ | refine Resp.hcode ?_) ?_ ?_) | (refine HCode.step ?_; (repeat refine HReg.step ?_); first | (show HCode _ _ _ (Code.seq (Code.seq (Code.region _ _ _) (Code.block _ _)) _) _ _ _; refine hcutC (a := Code.seq (Code.region _ _ _) (Code.block _ _)) [4, 5, 6, 11, 12, 13, 14, 15, 16, 17, 18, 19, 20, 21, 22, 23, 24, 25, 26, 27, 28, 29, 30, 31, 32, 33, 34, 35, 36, 37, 38, 39, 40, 41, 42, 43, 44, 45, 46, 47, 48, 49, 50, 51, 52, 53, 54, 55, 56, 57, 58, 59, 60] [] (RcJ H H1 g keep fs aF cF s.d.refuses cl st) rfl (by repeat' first | exact Resp.retD | exact Resp1.valuesK | refine Resp.blockD ?_ | refine Resp.thenD ?_ ?_ | refine Resp.hcode ?_) ?_ ?_) | (refine HCode.step ?_; (repeat refine HReg.step ?_); first | (show HCode _ _ _ (Code.seq (Code.seq (Code.region _ _ _) (Code.block _ _)) _) _ _ _; refine hcutC (a := Code.seq (Code.region _ _ _) (Code.block _ _)) [4, 5, 6, 11, 12, 13, 14, 15, 16, 17, 18, 19, 20, 21, 22, 23, 24, 25, 26, 27, 28, 29, 30, 31, 32, 33, 34, 35, 36, 37, 38, 39, 40, 41, 42, 43, 44, 45, 46, 47, 48, 49, 50, 51, 52, 53, 54, 55, 56, 57, 58, 59, 60] [] (RcJ H H1 g keep fs aF cF s.d.refuses cl st) rfl (by repeat' first | exact Resp.retD | exact Resp1.valuesK | refine Resp.blockD ?_ | refine Resp.thenD ?_ ?_ | refine Resp.hcode ?_) ?_ ?_) | (refine HCode.step ?_; (repeat refine HReg.step ?_); first | (show HCode _ _ _ (Code.seq (Code.seq (Code.region _ _ _) (Code.block _ _)) _) _ _ _; refine hcutC (a := Code.seq (Code.region _ _ _) (Code.block _ _)) [4, 5, 6, 11, 12, 13, 14, 15, 16, 17, 18, 19, 20, 21, 22, 23, 24, 25, 26, 27, 28, 29, 30, 31, 32, 33, 34, 35, 36, 37, 38, 39, 40, 41, 42, 43, 44, 45, 46, 47, 48, 49, 50, 51, 52, 53, 54, 55, 56, 57, 58, 59, 60] [] (RcJ H H1 g keep fs aF cF s.d.refuses cl st) rfl (by repeat' first | exact Resp.retD | exact Resp1.valuesK | refine Resp.blockD ?_ | refine Resp.thenD ?_ ?_ | refine Resp.hcode ?_) ?_ ?_) | (refine HCode.step ?_; (repeat refine HReg.step ?_); first | (show HCode _ _ _ (Code.seq (Code.seq (Code.region _ _ _) (Code.block _ _)) _) _ _ _; refine hcutC (a := Code.seq (Code.region _ _ _) (Code.block _ _)) [4, 5, 6, 11, 12, 13, 14, 15, 16, 17, 18, 19, 20, 21, 22, 23, 24, 25, 26, 27, 28, 29, 30, 31, 32, 33, 34, 35, 36, 37, 38, 39, 40, 41, 42, 43, 44, 45, 46, 47, 48, 49, 50, 51, 52, 53, 54, 55, 56, 57, 58, 59, 60] [] (RcJ H H1 g keep fs aF cF s.d.refuses cl st) rfl (by repeat' first | exact Resp.retD | exact Resp1.valuesK | refine Resp.blockD ?_ | refine Resp.thenD ?_ ?_ | refine Resp.hcode ?_) ?_ ?_) | (refine HCode.step ?_; (repeat refine HReg.step ?_); first | (show HCode _ _ _ (Code.seq (Code.seq (Code.region _ _ _) (Code.block _ _)) _) _ _ _; refine hcutC (a := Code.seq (Code.region _ _ _) (Code.block _ _)) [4, 5, 6, 11, 12, 13, 14, 15, 16, 17, 18, 19, 20, 21, 22, 23, 24, 25, 26, 27, 28, 29, 30, 31, 32, 33, 34, 35, 36, 37, 38, 39, 40, 41, 42, 43, 44, 45, 46, 47, 48, 49, 50, 51, 52, 53, 54, 55, 56, 57, 58, 59, 60] [] (RcJ H H1 g keep fs aF cF s.d.refuses cl st) rfl (by repeat' first | exact Resp.retD | exact Resp1.valuesK | refine Resp.blockD ?_ | refine Resp.thenD ?_ ?_ | refine Resp.hcode ?_) ?_ ?_) | (refine HCode.step ?_; (repeat refine HReg.step ?_); first | (show HCode _ _ _ (Code.seq (Code.seq (Code.region _ _ _) (Code.block _ _)) _) _ _ _; refine hcutC (a := Code.seq (Code.region _ _ _) (Code.block _ _)) [4, 5, 6, 11, 12, 13, 14, 15, 16, 17, 18, 19, 20, 21, 22, 23, 24, 25, 26, 27, 28, 29, 30, 31, 32, 33, 34, 35, 36, 37, 38, 39, 40, 41, 42, 43, 44, 45, 46, 47, 48, 49, 50, 51, 52, 53, 54, 55, 56, 57, 58, 59, 60] [] (RcJ H H1 g keep fs aF cF s.d.refuses cl st) rfl (by repeat' first | exact Resp.retD | exact Resp1.valuesK | refine Resp.blockD ?_ | refine Resp.thenD ?_ ?_ | refine Resp.hcode ?_) ?_ ?_) | (refine HCode.step ?_; (repeat refine HReg.step ?_); first | (show HCode _ _ _ (Code.seq (Code.seq (Code.region _ _ _) (Code.block _ _)) _) _ _ _; refine hcutC (a := Code.seq (Code.region _ _ _) (Code.block _ _)) [4, 5, 6, 11, 12, 13, 14, 15, 16, 17, 18, 19, 20, 21, 22, 23, 24, 25, 26, 27, 28, 29, 30, 31, 32, 33, 34, 35, 36, 37, 38, 39, 40, 41, 42, 43, 44, 45, 46, 47, 48, 49, 50, 51, 52, 53, 54, 55, 56, 57, 58, 59, 60] [] (RcJ H H1 g keep fs aF cF s.d.refuses cl st) rfl (by repeat' first | exact Resp.retD | exact Resp1.valuesK | refine Resp.blockD ?_ | refine Resp.thenD ?_ ?_ | refine Resp.hcode ?_) ?_ ?_) | (refine HCode.step ?_; (repeat refine HReg.step ?_); first | (show HCode _ _ _ (Code.seq (Code.seq (Code.region _ _ _) (Code.block _ _)) _) _ _ _; refine hcutC (a := Code.seq (Code.region _ _ _) (Code.block _ _)) [4, 5, 6, 11, 12, 13, 14, 15, 16, 17, 18, 19, 20, 21, 22, 23, 24, 25, 26, 27, 28, 29, 30, 31, 32, 33, 34, 35, 36, 37, 38, 39, 40, 41, 42, 43, 44, 45, 46, 47, 48, 49, 50, 51, 52, 53, 54, 55, 56, 57, 58, 59, 60] [] (RcJ H H1 g keep fs aF cF s.d.refuses cl st) rfl (by repeat' first | exact Resp.retD | exact Resp1.valuesK | refine Resp.blockD ?_ | refine Resp.thenD ?_ ?_ | refine Resp.hcode ?_) ?_ ?_) | (refine HCode.step ?_; (repeat refine HReg.step ?_); (show HCode _ _ _ (Code.seq (Code.seq (Code.region _ _ _) (Code.block _ _)) _) _ _ _; refine hcutC (a := Code.seq (Code.region _ _ _) (Code.block _ _)) [4, 5, 6, 11, 12, 13, 14, 15, 16, 17, 18, 19, 20, 21, 22, 23, 24, 25, 26, 27, 28, 29, 30, 31, 32, 33, 34, 35, 36, 37, 38, 39, 40, 41, 42, 43, 44, 45, 46, 47, 48, 49, 50, 51, 52, 53, 54, 55, 56, 57, 58, 59, 60] [] (RcJ H H1 g keep fs aF cF s.d.refuses cl st) rfl (by repeat' first | exact Resp.retD | exact Resp1.valuesK | refine Resp.blockD ?_ | refine Resp.thenD ?_ ?_ | refine Resp.hcode ?_) ?_ ?_))))))))))))))))))))))
  · (repeat first | refine HReg.step ?_ | refine HCode.step ?_)
    refine hloopC [4, 5, 6, 11, 12, 13, 14, 15, 16, 17, 18, 19, 20, 21, 22, 23, 24, 25, 26, 27, 28, 29, 30, 31, 32, 33, 34, 35, 36, 37, 38, 39, 40, 41, 42, 43, 44, 45, 46, 47, 48, 49, 50, 51, 52, 53, 54, 55, 56, 57, 58, 59, 60] [4] (RcInv H H1 g keep fs aF cF s.d.refuses cl st) rfl (by repeat' first | exact Resp.retD | exact Resp1.valuesK | refine Resp.blockD ?_ | refine Resp.thenD ?_ ?_ | refine Resp.hcode ?_) ?_ ?_
    · exact ⟨fs.length, RcInv.mk ⟨0, rfl, rfl, by unfold crAt; rw [List.take_zero, List.drop_zero]; exact ph, Upd.refl _ _⟩⟩
    rintro m _ fe H2 ⟨i, rfl, hmi, ph, uu⟩
    have hcl := crAt_len keep fs i
    have hcn := r.cnt
    have wi : wr .i64 ((i : Int) + 1) = ((i + 1 : Nat) : Int) := by rw [wr_i64 (by omega) (by omega)]; omega
    (repeat first | refine HReg.step ?_ | refine HCode.step ?_)
    refine HLoad.one (v := .slice aF fs.length cF) (by have := ph.obj.rows.get (i := 0) rfl; rw [hcl] at this; exact this) ?_
    (repeat first | refine HReg.step ?_ | refine HCode.step ?_)
    refine hif (fun h2 => ?_) (fun h2 => ?_)
    · have h2 := ltB_true.1 h2
      obtain ⟨f, hf⟩ : ∃ f, fs[i]? = some f := ⟨fs[i]'(by omega), by simp⟩
      have hfi := crAt_get (keep := keep) hf
      obtain ⟨bF, rfl⟩ := ph.row.addr (by omega)
      have hX := hb _ _ (r.get f (List.mem_of_getElem? hf))
      have hy := r.syn f (List.mem_of_getElem? hf)
      simp only at hX
      have ob := ph.obj.rows.get (i := 0) rfl
      rw [hcl] at ob
      (repeat first | refine HReg.step ?_ | refine HCode.step ?_)
      refine HLoad.one (v := .slice (some ⟨bF, 0, none⟩) fs.length cF) (by exact ob) ?_
      (repeat first | refine HReg.step ?_ | refine HCode.step ?_)
      refine HReq.mk ⟨by omega, by omega⟩ ?_
      (repeat first | refine HReg.step ?_ | refine HCode.step ?_)
      refine HLoadN_rf ph.row.rows hfi ?_
      (repeat first | refine HReg.step ?_ | refine HCode.step ?_)
      refine HNew.mk fun b5 hb5 => ?_
      (repeat first | refine HReg.step ?_ | refine HCode.step ?_)
      refine store_rf (f := f) (OwnRow.lit (upd_same _ _ _) rfl) rfl fun H3 o5 u5 => ?_
      have u5 : Upd [] H2 H3 := Upd.drop (Upd.new hb5 _) u5 (fun q hq => by rw [List.mem_singleton.1 hq]; exact hb5)
      have ph3 := ph.upd0 u5
      have ob := ph3.obj.rows.get (i := 0) rfl
      rw [hcl] at ob
      (repeat first | refine HReg.step ?_ | refine HCode.step ?_)
      refine HLoad.one (v := .slice f.a f.bytes.length f.c) (by exact o5.rows.get (i := 1) rfl) ?_
      have ws : wr .i64 ((f.bytes.length : Int) - (f.synced : Int)) = (f.bytes.length : Int) - (f.synced : Int) := wr_i64 (by omega) (by omega)
      obtain ⟨tl1, tl2⟩ := tail_le (keep := keep) hy
      obtain ⟨n, hn⟩ : ∃ n, n = f.synced + tailOf keep f.bytes.length f.synced := ⟨_, rfl⟩
      rw [← hn] at tl1 tl2
      ((repeat refine HReg.step ?_); first | (show HCode _ _ _ (Code.seq (Code.seq (Code.region _ _ _) (Code.cond _ _ _)) _) _ _ _; refine hcutC (a := Code.seq (Code.region _ _ _) (Code.cond _ _ _)) [6, 30, 31, 32, 33, 34, 35, 36, 37, 38, 39, 40] [6] (RnJ n H3) rfl (by repeat' first | exact Resp.retD | exact Resp1.valuesK | refine Resp.blockD ?_ | refine Resp.thenD ?_ ?_ | refine Resp.hcode ?_) ?_ ?_) | (refine HCode.step ?_; (repeat refine HReg.step ?_); first | (show HCode _ _ _ (Code.seq (Code.seq (Code.region _ _ _) (Code.cond _ _ _)) _) _ _ _; refine hcutC (a := Code.seq (Code.region _ _ _) (Code.cond _ _ _)) [6, 30, 31, 32, 33, 34, 35, 36, 37, 38, 39, 40] [6] (RnJ n H3) rfl (by repeat' first | exact Resp.retD | exact Resp1.valuesK | refine Resp.blockD ?_ | refine Resp.thenD ?_ ?_ | refine Resp.hcode ?_) ?_ ?_) | (refine HCode.step ?_; (repeat refine HReg.step ?_); first | (show HCode _ _ _ (Code.seq (Code.seq (Code.region _ _ _) (Code.cond _ _ _)) _) _ _ _; refine hcutC (a := Code.seq (Code.region _ _ _) (Code.cond _ _ _)) [6, 30, 31, 32, 33, 34, 35, 36, 37, 38, 39, 40] [6] (RnJ n H3) rfl (by repeat' first | exact Resp.retD | exact Resp1.valuesK | refine Resp.blockD ?_ | refine Resp.thenD ?_ ?_ | refine Resp.hcode ?_) ?_ ?_) | (refine HCode.step ?_; (repeat refine HReg.step ?_); first | (show HCode _ _ _ (Code.seq (Code.seq (Code.region _ _ _) (Code.cond _ _ _)) _) _ _ _; refine hcutC (a := Code.seq (Code.region _ _ _) (Code.cond _ _ _)) [6, 30, 31, 32, 33, 34, 35, 36, 37, 38, 39, 40] [6] (RnJ n H3) rfl (by repeat' first | exact Resp.retD | exact Resp1.valuesK | refine Resp.blockD ?_ | refine Resp.thenD ?_ ?_ | refine Resp.hcode ?_) ?_ ?_) | (refine HCode.step ?_; (repeat refine HReg.step ?_); first | (show HCode _ _ _ (Code.seq (Code.seq (Code.region _ _ _) (Code.cond _ _ _)) _) _ _ _; refine hcutC (a := Code.seq (Code.region _ _ _) (Code.cond _ _ _)) [6, 30, 31, 32, 33, 34, 35, 36, 37, 38, 39, 40] [6] (RnJ n H3) rfl (by repeat' first | exact Resp.retD | exact Resp1.valuesK | refine Resp.blockD ?_ | refine Resp.thenD ?_ ?_ | refine Resp.hcode ?_) ?_ ?_) | (refine HCode.step ?_; (repeat refine HReg.step ?_); first | (show HCode _ _ _ (Code.seq (Code.seq (Code.region _ _ _) (Code.cond _ _ _)) _) _ _ _; refine hcutC (a := Code.seq (Code.region _ _ _) (Code.cond _ _ _)) [6, 30, 31, 32, 33, 34, 35, 36, 37, 38, 39, 40] [6] (RnJ n H3) rfl (by repeat' first | exact Resp.retD | exact Resp1.valuesK | refine Resp.blockD ?_ | refine Resp.thenD ?_ ?_ | refine Resp.hcode ?_) ?_ ?_) | (refine HCode.step ?_; (repeat refine HReg.step ?_); first | (show HCode _ _ _ (Code.seq (Code.seq (Code.region _ _ _) (Code.cond _ _ _)) _) _ _ _; refine hcutC (a := Code.seq (Code.region _ _ _) (Code.cond _ _ _)) [6, 30, 31, 32, 33, 34, 35, 36, 37, 38, 39, 40] [6] (RnJ n H3) rfl (by repeat' first | exact Resp.retD | exact Resp1.valuesK | refine Resp.blockD ?_ | refine Resp.thenD ?_ ?_ | refine Resp.hcode ?_) ?_ ?_) | (refine HCode.step ?_; (repeat refine HReg.step ?_); first | (show HCode _ _ _ (Code.seq (Code.seq (Code.region _ _ _) (Code.cond _ _ _)) _) _ _ _; refine hcutC (a := Code.seq (Code.region _ _ _) (Code.cond _ _ _)) [6, 30, 31, 32, 33, 34, 35, 36, 37, 38, 39, 40] [6] (RnJ n H3) rfl (by repeat' first | exact Resp.retD | exact Resp1.valuesK | refine Resp.blockD ?_ | refine Resp.thenD ?_ ?_ | refine Resp.hcode ?_) ?_ ?_) | (refine HCode.step ?_; (repeat refine HReg.step ?_); first | (show HCode _ _ _ (Code.seq (Code.seq (Code.region _ _ _) (Code.cond _ _ _)) _) _ _ _; refine hcutC (a := Code.seq (Code.region _ _ _) (Code.cond _ _ _)) [6, 30, 31, 32, 33, 34, 35, 36, 37, 38, 39, 40] [6] (RnJ n H3) rfl (by repeat' first | exact Resp.retD | exact Resp1.valuesK | refine Resp.blockD ?_ | refine Resp.thenD ?_ ?_ | refine Resp.hcode ?_) ?_ ?_) | (refine HCode.step ?_; (repeat refine HReg.step ?_); first | (show HCode _ _ _ (Code.seq (Code.seq (Code.region _ _ _) (Code.cond _ _ _)) _) _ _ _; refine hcutC (a := Code.seq (Code.region _ _ _) (Code.cond _ _ _)) [6, 30, 31, 32, 33, 34, 35, 36, 37, 38, 39, 40] [6] (RnJ n H3) rfl (by repeat' first | exact Resp.retD | exact Resp1.valuesK | refine Resp.blockD ?_ | refine Resp.thenD ?_ ?_ | refine Resp.hcode ?_) ?_ ?_) | (refine HCode.step ?_; (repeat refine HReg.step ?_); first | (show HCode _ _ _ (Code.seq (Code.seq (Code.region _ _ _) (Code.cond _ _ _)) _) _ _ _; refine hcutC (a := Code.seq (Code.region _ _ _) (Code.cond _ _ _)) [6, 30, 31, 32, 33, 34, 35, 36, 37, 38, 39, 40] [6] (RnJ n H3) rfl (by repeat' first | exact Resp.retD | exact Resp1.valuesK | refine Resp.blockD ?_ | refine Resp.thenD ?_ ?_ | refine Resp.hcode ?_) ?_ ?_) | (refine HCode.step ?_; (repeat refine HReg.step ?_); first | (show HCode _ _ _ (Code.seq (Code.seq (Code.region _ _ _) (Code.cond _ _ _)) _) _ _ _; refine hcutC (a := Code.seq (Code.region _ _ _) (Code.cond _ _ _)) [6, 30, 31, 32, 33, 34, 35, 36, 37, 38, 39, 40] [6] (RnJ n H3) rfl (by repeat' first | exact Resp.retD | exact Resp1.valuesK | refine Resp.blockD ?_ | refine Resp.thenD ?_ ?_ | refine Resp.hcode ?_) ?_ ?_) | (refine HCode.step ?_; (repeat refine HReg.step ?_); first | (show HCode _ _ _ (Code.seq (Code.seq (Code.region _ _ _) (Code.cond _ _ _)) _) _ _ _; refine hcutC (a := Code.seq (Code.region _ _ _) (Code.cond _ _ _)) [6, 30, 31, 32, 33, 34, 35, 36, 37, 38, 39, 40] [6] (RnJ n H3) rfl (by repeat' first | exact Resp.retD | exact Resp1.valuesK | refine Resp.blockD ?_ | refine Resp.thenD ?_ ?_ | refine Resp.hcode ?_) ?_ ?_) | (refine HCode.step ?_; (repeat refine HReg.step ?_); first | (show HCode _ _ _ (Code.seq (Code.seq (Code.region _ _ _) (Code.cond _ _ _)) _) _ _ _; refine hcutC (a := Code.seq (Code.region _ _ _) (Code.cond _ _ _)) [6, 30, 31, 32, 33, 34, 35, 36, 37, 38, 39, 40] [6] (RnJ n H3) rfl (by repeat' first | exact Resp.retD | exact Resp1.valuesK | refine Resp.blockD ?_ | refine Resp.thenD ?_ ?_ | refine Resp.hcode ?_) ?_ ?_) | (refine HCode.step ?_; (repeat refine HReg.step ?_); first | (show HCode _ _ _ (Code.seq (Code.seq (Code.region _ _ _) (Code.cond _ _ _)) _) _ _ _; refine hcutC (a := Code.seq (Code.region _ _ _) (Code.cond _ _ _)) [6, 30, 31, 32, 33, 34, 35, 36, 37, 38, 39, 40] [6] (RnJ n H3) rfl (by repeat' first | exact Resp.retD | exact Resp1.valuesK | refine Resp.blockD ?_ | refine Resp.thenD ?_ ?_ | refine Resp.hcode ?_) ?_ ?_) | (refine HCode.step ?_; (repeat refine HReg.step ?_); first | (show HCode _ _ _ (Code.seq (Code.seq (Code.region _ _ _) (Code.cond _ _ _)) _) _ _ _; refine hcutC (a := Code.seq (Code.region _ _ _) (Code.cond _ _ _)) [6, 30, 31, 32, 33, 34, 35, 36, 37, 38, 39, 40] [6] (RnJ n H3) rfl (by repeat' first | exact Resp.retD | exact Resp1.valuesK | refine Resp.blockD ?_ | refine Resp.thenD ?_ ?_ | refine Resp.hcode ?_) ?_ ?_) | (refine HCode.step ?_; (repeat refine HReg.step ?_); first | (show HCode _ _ _ (Code.seq (Code.seq (Code.region _ _ _) (Code.cond _ _ _)) _) _ _ _; refine hcutC (a := Code.seq (Code.region _ _ _) (Code.cond _ _ _)) [6, 30, 31, 32, 33, 34, 35, 36, 37, 38, 39, 40] [6] (RnJ n H3) rfl (by repeat' first | exact Resp.retD | exact Resp1.valuesK | refine Resp.blockD ?_ | refine Resp.thenD ?_ ?_ | refine Resp.hcode ?_) ?_ ?_) | (refine HCode.step ?_; (repeat refine HReg.step ?_); first | (show HCode _ _ _ (Code.seq (Code.seq (Code.region _ _ _) (Code.cond _ _ _)) _) _ _ _; refine hcutC (a := Code.seq (Code.region _ _ _) (Code.cond _ _ _)) [6, 30, 31, 32, 33, 34, 35, 36, 37, 38, 39, 40] [6] (RnJ n H3) rfl (by repeat' first | exact Resp.retD | exact Resp1.valuesK | refine Resp.blockD ?_ | refine Resp.thenD ?_ ?_ | refine Resp.hcode ?_) ?_ ?_) | (refine HCode.step ?_; (repeat refine HReg.step ?_); first | (show HCode _ _ _ (Code.seq (Code.seq (Code.region _ _ _) (Code.cond _ _ _)) _) _ _ _; refine hcutC (a := Code.seq (Code.region _ _ _) (Code.cond _ _ _)) [6, 30, 31, 32, 33, 34, 35, 36, 37, 38, 39, 40] [6] (RnJ n H3) rfl (by repeat' first | exact Resp.retD | exact Resp1.valuesK | refine Resp.blockD ?_ | refine Resp.thenD ?_ ?_ | refine Resp.hcode ?_) ?_ ?_) | (refine HCode.step ?_; (repeat refine HReg.step ?_); first | (show HCode _ _ _ (Code.seq (Code.seq (Code.region _ _ _) (Code.cond _ _ _)) _) _ _ _; refine hcutC (a := Code.seq (Code.region _ _ _) (Code.cond _ _ _)) [6, 30, 31, 32, 33, 34, 35, 36, 37, 38, 39, 40] [6] (RnJ n H3) rfl (by repeat' first | exact Resp.retD | exact Resp1.valuesK | refine Resp.blockD ?_ | refine Resp.thenD ?_ ?_ | refine Resp.hcode ?_) ?_ ?_) | (refine HCode.step ?_; (repeat refine HReg.step ?_); (show HCode _ _ _ (Code.seq (Code.seq (Code.region _ _ _) (Code.cond _ _ _)) _) _ _ _; refine hcutC (a := Code.seq (Code.region _ _ _) (Code.cond _ _ _)) [6, 30, 31, 32, 33, 34, 35, 36, 37, 38, 39, 40] [6] (RnJ n H3) rfl (by repeat' first | exact Resp.retD | exact Resp1.valuesK | refine Resp.blockD ?_ | refine Resp.thenD ?_ ?_ | refine Resp.hcode ?_) ?_ ?_))))))))))))))))))))))
      · (repeat first | refine HReg.step ?_ | refine HCode.step ?_)
        refine HLoad.one (v := .int .i64 (f.synced : Int)) (by exact o5.rows.get (i := 2) rfl) ?_
        (repeat first | refine HReg.step ?_ | refine HCode.step ?_)
        rw [ws]
        (repeat first | refine HReg.step ?_ | refine HCode.step ?_)
        refine hif (fun h3 => ?_) (fun h3 => ?_)
        · have h3 := ltB_true.1 h3
          have wa : wr .i64 ((f.synced : Int) + max keep 0) = (n : Int) := by rw [wr_i64 (by omega) (by omega)]; omega
          (repeat first | refine HReg.step ?_ | refine HCode.step ?_)
          refine HLoad.one (v := .int .i64 (f.synced : Int)) (by exact o5.rows.get (i := 2) rfl) ?_
          (repeat first | refine HReg.step ?_ | refine HCode.step ?_)
          rw [ite_mx, ite_max, wa]
          exact RnJ.mk ⟨rfl, rfl⟩
        · have h3 := ltB_false.1 h3
          (repeat first | refine HReg.step ?_ | refine HCode.step ?_)
          have : f.bytes.length = n := by omega
          exact RnJ.mk ⟨by rw [this], rfl⟩
      rintro _ fe3 H4 ⟨rfl, hH⟩
      have hH := hH.symm
      subst hH
      have hcut : f.cut keep = ⟨f.name, f.a, n, f.bytes.take n, n⟩ := by unfold RFl.cut crash1; rw [hn]
      have hW := (ph3.byt f (List.mem_of_getElem? hfi)).cut tl1
      rw [Nat.mul_one, ← u8s_take] at hW
      (repeat first | refine HReg.step ?_ | refine HCode.step ?_)
      refine HLoad.one (v := .slice (some ⟨bF, 0, none⟩) fs.length cF) (by exact ob) ?_
      (repeat first | refine HReg.step ?_ | refine HCode.step ?_)
      refine HLoad.one (v := .slice f.a f.bytes.length f.c) (by exact o5.rows.get (i := 1) rfl) ?_
      (repeat first | refine HReg.step ?_ | refine HCode.step ?_)
      refine HReq.mk ⟨⟨by omega, by have := (ph3.byt f (List.mem_of_getElem? hfi)).le; omega⟩, ⟨by omega, by omega⟩⟩ ?_
      (repeat first | refine HReg.step ?_ | refine HCode.step ?_)
      refine HReq.mk ⟨by omega, by omega⟩ ?_
      (repeat first | refine HReg.step ?_ | refine HCode.step ?_)
      refine ph3.store (k := 1) (f' := ⟨f.name, f.a, n, f.bytes.take n, f.synced⟩) hfi rfl (by decide) (by unfold RFl.cells; simp only [List.set, List.length_take]; rw [Nat.min_eq_left tl1]; rfl) rfl (by rw [List.length_take, Nat.min_eq_left tl1]; exact hW) (by show 0 + i * 3 + 1 = i * 3 + 1; omega) fun H5 ph5 u6 => ?_
      have hm5 : (⟨f.name, f.a, n, f.bytes.take n, f.synced⟩ : RFl) ∈ (crAt keep fs i).set i ⟨f.name, f.a, n, f.bytes.take n, f.synced⟩ := List.mem_of_getElem? (i := i) (by rw [List.getElem?_set_self (by omega)])
      have w5 := ph5.byt _ hm5
      have ob5 := ph5.obj.rows.get (i := 0) rfl
      rw [List.length_set, hcl] at ob5
      (repeat first | refine HReg.step ?_ | refine HCode.step ?_)
      refine HLoad.one (v := .slice (some ⟨bF, 0, none⟩) fs.length cF) (by exact ob5) ?_
      (repeat first | refine HReg.step ?_ | refine HCode.step ?_)
      refine HReq.mk ⟨by omega, by omega⟩ ?_
      (repeat first | refine HReg.step ?_ | refine HCode.step ?_)
      refine ph5.store (k := 2) (f := ⟨f.name, f.a, n, f.bytes.take n, f.synced⟩) (f' := f.cut keep) (by rw [List.getElem?_set_self (by omega)]) (by rw [hcut]) (by decide) (by rw [hcut]; rfl) rfl (by rw [hcut]; exact w5) (by show 0 + i * 3 + 2 = i * 3 + 2; omega) fun H6 ph6 u7 => ?_
      rw [List.set_set, crAt_set hf] at ph6
      (repeat first | refine HReg.step ?_ | refine HCode.step ?_)
      rw [wi]
      have hbF : ∀ k ∈ [bF], k ∈ rblk g (some ⟨bF, 0, none⟩) fs := fun k hk => by rw [List.mem_singleton.1 hk]; exact mem_rblk.2 (.inr (.inl (by simp [blk])))
      exact ⟨m - 1, by omega, RcInv.mk ⟨i + 1, rfl, by omega, ph6, uu.trans ((u5.mono (fun k hk => by simp at hk)).trans ((u6.mono hbF).trans (u7.mono hbF)))⟩⟩
    · have h2 := ltB_false.1 h2
      (repeat first | refine HReg.step ?_ | refine HCode.step ?_)
      obtain rfl : i = fs.length := by omega
      rw [crAt_all] at ph
      exact RcJ.mk ⟨rfl, ph, uu⟩
  rintro _ fe1 H2 ⟨rfl, ph, uu⟩
  have e : s.crash keep = ⟨⟨true, false, s.d.refuses, s.d.calls, s.d.keep⟩, fun k => (s.fs k).map (crash1 keep), s.cnt⟩ := by unfold St.crash; rw [if_neg (by rw [h1]; decide)]
  have hlm : (fs.map (RFl.cut keep)).length = fs.length := List.length_map _
  have ob := ph.obj
  (repeat first | refine HReg.step ?_ | refine HCode.step ?_)
  refine store_row ob (v := .bool true) rfl (i := 1) (by decide) (by rfl) fun H3 o3 u3 => ?_
  (repeat first | refine HReg.step ?_ | refine HCode.step ?_)
  refine store_row o3 (v := .int .i64 (-1)) rfl (i := 3) (by decide) (by rfl) fun H4 o4 u4 => ?_
  have u := u3.trans u4
  have hg : ∀ b ∈ blk aF, b ∉ [g] := fun b hb hm => by
    rw [List.mem_singleton.1 hm] at hb
    obtain ⟨c, z, e⟩ := own_live ph.obj
    exact ph.row.notT (by decide) g hb _ _ e
  have hgb : ∀ f ∈ fs.map (RFl.cut keep), ∀ b ∈ f.bl, b ∉ [g] := fun f hf b hb hm => by
    rw [List.mem_singleton.1 hm] at hb
    obtain ⟨c, z, e⟩ := own_live ph.obj
    obtain ⟨c', z', e'⟩ := (ph.byt f hf).live g hb
    rw [e] at e'; cases e'
  have hbl : rblk g aF (fs.map (RFl.cut keep)) = rblk g aF fs := by
    unfold rblk
    rw [List.flatMap_map]
    rfl
  have R' : RIn H1 H4 g (s.crash keep) (fs.map (RFl.cut keep)) aF cF (-1) st := by
    rw [e]
    refine ⟨o4, ph.row.upd u (off_notin hg), fun f hf => (ph.byt f hf).upd u (off_notin (hgb f hf)), ph.ap, ph.new, Upd.drop ph.base u (fun b hb => by rw [List.mem_singleton.1 hb]; exact ph.new g (mem_rblk.2 (.inl rfl))), ?_, fun f hf => ?_, fun k x hx => ?_, fun f hf => ?_, by rw [hlm]; exact r.cnt, .inr ⟨rfl, rfl⟩, r.hi, r.rhi⟩
    · rw [List.map_map]; exact r.ri
    · obtain ⟨f0, hf0, rfl⟩ := List.mem_map.1 hf
      show (s.fs (bs f0.name)).map (crash1 keep) = _
      rw [r.get f0 hf0]; rfl
    · have hx : (s.fs k).map (crash1 keep) = some x := hx
      obtain ⟨y, hy, _⟩ := Option.map_eq_some_iff.1 hx
      obtain ⟨f0, hf0, hn⟩ := r.all k y hy
      exact ⟨f0.cut keep, List.mem_map_of_mem hf0, hn⟩
    · obtain ⟨f0, hf0, rfl⟩ := List.mem_map.1 hf
      have := (crash1_le keep (x := (f0.bytes, f0.synced)) (r.syn f0 hf0)).1
      show (crash1 keep (f0.bytes, f0.synced)).2 ≤ (crash1 keep (f0.bytes, f0.synced)).1.length
      omega
  (repeat first | refine HReg.step ?_ | refine HCode.step ?_)
  exact hk H4 ⟨_, aF, cF, -1, st, R', hbl.symm⟩ ⟨uu.trans (u.mono (fun k hk => by rw [List.mem_singleton.1 hk]; exact mem_rblk.2 (.inl rfl))), fun b hb => .inl hb⟩
end
end Go.Proofs.Ytocejipjnklieaa
