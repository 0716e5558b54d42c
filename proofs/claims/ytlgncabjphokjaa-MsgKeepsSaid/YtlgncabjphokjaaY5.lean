import Derived.Test.YtlgncabjphokjaaY4
namespace Go.Proofs.Ytlgncabjphokjaa
open Go Hv
set_option linter.unusedVariables false
set_option linter.unusedSimpArgs false
set_option maxRecDepth 10000
set_option maxHeartbeats 1000000
/-! MsgKeeps: lent (printed by mkY5.py). CUT2 -/
theorem Hv.OwnRow.flat {H : Heap} {e : TypeId} {size n cap : Nat} {a : Option Addr} {xs : List Value} (h : OwnRow H e size a n cap xs) : OwnRow H e 1 a (n * size) (cap * size) xs := by
  refine ⟨by rw [h.len, Nat.mul_one], ?_⟩
  rcases h.ok with ⟨h1, h2, h3⟩ | ⟨g, cur, ha, hg, h1, h2, h3⟩
  · exact .inl ⟨h1, by rw [h2, Nat.zero_mul], by rw [h3, Nat.zero_mul]⟩
  · exact .inr ⟨g, cur, ha, hg, by rw [h1, Nat.mul_one], Nat.mul_le_mul_right _ h2, h3⟩
theorem Hv.OwnRow.unflat {H : Heap} {e : TypeId} {size n cap : Nat} {a : Option Addr} {xs : List Value} (h : OwnRow H e 1 a (n * size) (cap * size) xs) (hn : n ≤ cap) (ha : a = none → cap = 0) : OwnRow H e size a n cap xs := by
  refine ⟨by rw [h.len, Nat.mul_one], ?_⟩
  rcases h.ok with ⟨h1, h2, h3⟩ | ⟨g, cur, ha', hg, h1, h2, h3⟩
  · have := ha h1
    exact .inl ⟨h1, by omega, this⟩
  · exact .inr ⟨g, cur, ha', hg, by rw [h1, Nat.mul_one], hn, h3⟩
theorem app_pairsZ {a b : Option Addr} {k cap m c : Nat} {xs ys : List (Txt × Txt)} {H0 H : Heap} {K : Value → Heap → Prop} (hm : Made H0 H 64 2 a k cap (pairsV xs)) (hy : RowAt H b (pairsV ys)) (hyl : ys.length = m) (hb : k + m ≤ 4398046511104)
    (hk : ∀ a' cap' H', Made H0 H' 64 2 a' (k + m) cap' (pairsV (xs ++ ys)) → K (.slice a' (k + m) cap') H') :
    HSem Try.prog (Builtin.append_ #[24, 24] 24 [.slice a k cap, .slice b m c].toArray) H K := by
  refine append_madeG (ie := Try.t64) (z := .agg #[.string ⟨#[]⟩, .string ⟨#[]⟩]) (xs := pairsV xs) (ys := pairsV ys) Try.underlying24 rfl rfl rfl (by decide) hm hy (by rw [pairsV_length, hyl]; rfl) (plain_pairs _) (by show (k + m) * 32 ≤ _; omega) (by omega) fun a' cap' H' m' => ?_
  rw [← pairsV_append] at m'
  exact hk a' cap' H' m'
theorem app_wantsZ {a b : Option Addr} {k cap m c : Nat} {xs ys : List (Txt × Nat)} {H0 H : Heap} {K : Value → Heap → Prop} (hm : Made H0 H 46 2 a k cap (wantsV xs)) (hy : RowAt H b (wantsV ys)) (hyl : ys.length = m) (hb : k + m ≤ 5864062014805)
    (hk : ∀ a' cap' H', Made H0 H' 46 2 a' (k + m) cap' (wantsV (xs ++ ys)) → K (.slice a' (k + m) cap') H') :
    HSem Try.prog (Builtin.append_ #[26, 26] 26 [.slice a k cap, .slice b m c].toArray) H K := by
  refine append_madeG (ie := Try.t46) (z := .agg #[.string ⟨#[]⟩, .int .u64 0]) (xs := wantsV xs) (ys := wantsV ys) Try.underlying26 rfl rfl rfl (by decide) hm hy (by rw [wantsV_length, hyl]; rfl) (plain_wants _) (by show (k + m) * 24 ≤ _; omega) (by omega) fun a' cap' H' m' => ?_
  rw [← wantsV_append] at m'
  exact hk a' cap' H' m'
theorem app_versZ {a b : Option Addr} {k cap m c : Nat} {xs ys : List VerA} {H0 H : Heap} {K : Value → Heap → Prop} (hm : Made H0 H 52 4 a k cap (versV xs)) (hy : RowAt H b (versV ys)) (hyl : ys.length = m) (hb : k + m ≤ 2199023255552)
    (hk : ∀ a' cap' H', Made H0 H' 52 4 a' (k + m) cap' (versV (xs ++ ys)) → K (.slice a' (k + m) cap') H') :
    HSem Try.prog (Builtin.append_ #[27, 27] 27 [.slice a k cap, .slice b m c].toArray) H K := by
  refine append_madeG (ie := Try.t52) (z := .agg #[.string ⟨#[]⟩, .int .u64 0, .string ⟨#[]⟩, .slice none 0 0]) (xs := versV xs) (ys := versV ys) Try.underlying27 rfl rfl rfl (by decide) hm hy (by rw [versV_length, hyl]; rfl) (plain_vers _) (by show (k + m) * 64 ≤ _; omega) (by omega) fun a' cap' H' m' => ?_
  rw [← versV_append] at m'
  exact hk a' cap' H' m'
theorem txts_take (l : List Txt) (j : Nat) : txts (l.take j) = (txts l).take j := List.map_take
structure NewR (H2 H : Heap) (e : TypeId) (size : Nat) (a : Option Addr) (n c : Nat) (xs : List Value) : Prop where
  own : OwnRow H e size a n c xs
  new : ∀ b ∈ blk a, H2 b = none
/-- The message that is being lent, in its box. -/
structure LnS (H2 : Heap) (b1 b2 : Nat) (y : MsgA) (H : Heap) : Prop where
  o1 : OwnRow H 29 1 (some ⟨b1, 0, none⟩) 8 8 y.cells
  o2 : OwnRow H 29 1 (some ⟨b2, 0, none⟩) 8 8 zeroA.cells
  u : Upd [b1] H2 H
  ne : b1 ≠ b2
section
variable {H2 HS H5 H6 : Heap} {b1 b2 : Nat} {y z : MsgA} {e : TypeId} {size n c : Nat} {a : Option Addr} {xs : List Value}
theorem LnS.go (s : LnS H2 b1 b2 y HS) (uu : Upd [] HS H5) (o6 : OwnRow H6 29 1 (some ⟨b1, 0, none⟩) 8 8 z.cells) (u6 : Upd [b1] H5 H6) : LnS H2 b1 b2 z H6 :=
  ⟨o6, (s.o2.upd uu (Off.nil _)).upd u6 (fun p hp hb => by cases hp; exact s.ne (List.mem_singleton.1 hb).symm), (s.u.trans (uu.mono (by simp))).trans u6, s.ne⟩
theorem LnS.old (s : LnS H2 b1 b2 y HS) (uu : Upd [] HS H5) (u6 : Upd [b1] H5 H6) (he : 29 ≠ e) (r : NewR H2 HS e size a n c xs) : NewR H2 H6 e size a n c xs :=
  ⟨(r.own.upd uu (Off.nil _)).upd u6 ((s.o1.upd uu (Off.nil _)).offT (r.own.upd uu (Off.nil _)) he), r.new⟩
theorem LnS.non (s : LnS H2 b1 b2 y HS) {b : Nat} (hb : HS b = none) : H2 b = none :=
  Upd.none s.u (fun h => by rw [List.mem_singleton.1 h] at hb; exact s.o1.there rfl hb) hb
theorem LnS.fresh (s : LnS H2 b1 b2 y HS) (uu : Upd [] HS H5) (u6 : Upd [b1] H5 H6) (he : 29 ≠ e) (m : Made HS H5 e size a n c xs) : NewR H2 H6 e size a n c xs :=
  ⟨m.own.upd u6 ((s.o1.upd uu (Off.nil _)).offT m.own he), fun b hb => by
    obtain ⟨p, hp, rfl⟩ := blk_of hb
    exact s.non (m.new p hp)⟩
theorem LnS.upd' {S : List Nat} (s : LnS H2 b1 b2 y H5) (u : Upd S H5 H6) (h1 : b1 ∈ S → ∀ c f, H5 b1 ≠ some (.cells c 29 f)) (h2 : b2 ∈ S → ∀ c f, H5 b2 ≠ some (.cells c 29 f)) (hS : ∀ b ∈ S, H2 b = none) : LnS H2 b1 b2 y H6 := by
  obtain ⟨c1, f1, e1⟩ := live_cells s.o1 b1 (by simp [blk])
  obtain ⟨c2, f2, e2⟩ := live_cells s.o2 b2 (by simp [blk])
  refine ⟨s.o1.upd u (fun p hp hb => by cases hp; exact h1 hb _ _ e1), s.o2.upd u (fun p hp hb => by cases hp; exact h2 hb _ _ e2), fun k hk hn => ?_, s.ne⟩
  have h := s.u k hk hn
  rw [u k (fun hb => hn (hS k hb)) (by rw [h]; exact hn), h]
theorem NewR.upd0 (r : NewR H2 H5 e size a n c xs) (u : Upd [] H5 H6) : NewR H2 H6 e size a n c xs := ⟨r.own.upd u (Off.nil _), r.new⟩
theorem LnS.upd0 (s : LnS H2 b1 b2 y H5) (u : Upd [] H5 H6) : LnS H2 b1 b2 y H6 := ⟨s.o1.upd u (Off.nil _), s.o2.upd u (Off.nil _), s.u.trans (u.mono (by simp)), s.ne⟩
end
structure LnJ1 (H2 : Heap) (b1 b2 : Nat) (x : MsgA) (vs : List Value) (H : Heap) : Prop where
  ex : ∃ ak ck, vs = [] ∧ LnS H2 b1 b2 { x with ak := ak, ck := ck } H ∧ NewR H2 H 9 1 ak (x.ks.length + 1) ck (txts (x.ks ++ [spareS]))
structure LnJ2 (H2 : Heap) (b1 b2 : Nat) (x : MsgA) (ak : Option Addr) (ck : Nat) (vs : List Value) (H : Heap) : Prop where
  ex : ∃ ap cp, vs = [] ∧ LnS H2 b1 b2 { x with ak := ak, ck := ck, ap := ap, cp := cp } H ∧ NewR H2 H 9 1 ak (x.ks.length + 1) ck (txts (x.ks ++ [spareS])) ∧ NewR H2 H 64 2 ap (x.ps.length + 1) cp (pairsV (x.ps ++ [(spareS, [])]))
structure LnJ3 (H2 : Heap) (b1 b2 : Nat) (x : MsgA) (ak : Option Addr) (ck : Nat) (ap : Option Addr) (cp : Nat) (vs : List Value) (H : Heap) : Prop where
  ex : ∃ aw cw, vs = [] ∧ LnS H2 b1 b2 { x with ak := ak, ck := ck, ap := ap, cp := cp, aw := aw, cw := cw } H ∧ NewR H2 H 9 1 ak (x.ks.length + 1) ck (txts (x.ks ++ [spareS])) ∧ NewR H2 H 64 2 ap (x.ps.length + 1) cp (pairsV (x.ps ++ [(spareS, [])])) ∧ NewR H2 H 46 2 aw (x.ws.length + 1) cw (wantsV (x.ws ++ [(spareS, 0)]))
structure LvI (HS H4 : Heap) (x : MsgA) (a3 : Option Addr) (c3 : Nat) (m : Nat) (vs : List Value) (H : Heap) : Prop where
  ex : ∃ (i : Nat) (ys : List VerA), vs = [.int .i64 (i : Int)] ∧ m + i = x.vs.length ∧ ys.length = i ∧ OwnRow H 52 4 a3 x.vs.length c3 (versV (ys ++ x.vs.drop i)) ∧ ys.map VerA.v = (x.vs.take i).map VerA.v ∧ (∀ y ∈ ys, NewR HS H 9 1 y.a (y.v.ks.length + 1) y.c (txts (y.v.ks ++ [spareS]))) ∧ Upd (blk a3) H4 H
section
variable {H : Heap} {K : Value → Heap → Prop}
theorem lent_t {x : MsgA} (hx : MsgIn H x) (hw : x.ws.length ≤ 5864062014634) (hv : x.vs.length ≤ 2199023255488)
    (hk : ∀ (y : MsgA) H', y.m = x.m → Spd H' y → MsgIn H' y → Upd [] H H' → K y.val H') : HCalls Try.prog 19 [x.val] H K := by
  refine hcalls (fn := Try.f19) [(1, [(0, 0), (1, 0), (2, 0), (3, 0), (4, 0), (5, 3), (6, 3), (7, 3), (8, 0), (9, 0), (10, 0)]), (1001, [(3, 0), (0, 1), (1, 1), (2, 0), (4, 0), (5, 3), (6, 3), (7, 3), (8, 0), (9, 0), (10, 0)]), (2001, [(2, 3)]), (2, [(0, 0), (1, 0), (2, 0), (3, 1), (4, 0), (5, 0), (6, 3), (7, 3), (8, 3), (9, 0), (10, 0), (11, 0)]), (1002, [(3, 0), (4, 0), (0, 1), (1, 1), (2, 0), (5, 0), (6, 3), (7, 3), (8, 3), (9, 0), (10, 0), (11, 0)]), (2002, [(2, 4)]), (3, [(0, 0), (1, 0), (2, 0), (3, 1), (4, 0), (5, 0), (6, 3), (7, 3), (8, 3), (9, 0), (10, 0), (11, 0)]), (1003, [(3, 0), (4, 0), (0, 1), (1, 1), (2, 0), (5, 0), (6, 3), (7, 3), (8, 3), (9, 0), (10, 0), (11, 0)]), (2003, [(2, 4)]), (8, [(2, 0), (3, 0), (4, 0), (5, 0), (6, 0), (7, 0), (8, 0), (9, 0), (0, 3), (1, 3), (10, 3), (11, 3), (12, 3), (13, 3), (14, 3), (15, 3), (16, 0), (17, 0), (18, 0), (19, 0)]), (1008, [(8, 0), (2, 1), (3, 1), (4, 1), (5, 1), (6, 1), (7, 0), (9, 0), (0, 3), (1, 3), (10, 3), (11, 3), (12, 3), (13, 3), (14, 3), (15, 3), (16, 0), (17, 0), (18, 0), (19, 0)]), (2008, [(7, 8)])] mixed Try.func19 rfl rfl (by decide +kernel) ?_
  have hnp := hx.np
  have hnk := hx.nk
  have hnvk := hx.nvk
  (repeat first | refine HReg.step ?_ | refine HCode.step ?_)
  refine HNew.mk fun b1 hb1 => ?_
  have u1 : Upd [] H (H.upd b1 (.cells x.cells.toArray 29)) := Upd.new hb1 _
  have o1 : OwnRow (H.upd b1 (.cells x.cells.toArray 29)) 29 1 (some ⟨b1, 0, none⟩) 8 8 x.cells := OwnRow.lit (upd_same _ _ _) rfl
  have hH' : H.upd b1 (.cells [Value.int .i64 x.kind, .int .i64 x.client, .int .u64 (x.req : Int), .int .u64 (x.id : Int), .slice x.ap x.ps.length x.cp, .slice x.ak x.ks.length x.ck, .slice x.aw x.ws.length x.cw, .slice x.av x.vs.length x.cv].toArray 29) = H.upd b1 (.cells x.cells.toArray 29) := rfl
  rw [hH']
  generalize hH1 : H.upd b1 (.cells x.cells.toArray 29) = H1 at u1 o1
  (repeat first | refine HReg.step ?_ | refine HCode.step ?_)
  refine HNew.mk fun b2 hb2 => ?_
  have u2 : Upd [] H1 (H1.upd b2 (.cells zeroA.cells.toArray 29)) := Upd.new hb2 _
  have o2 : OwnRow (H1.upd b2 (.cells zeroA.cells.toArray 29)) 29 1 (some ⟨b2, 0, none⟩) 8 8 zeroA.cells := OwnRow.lit (upd_same _ _ _) rfl
  have hH2' : H1.upd b2 (.cells [Value.int .i64 0, .int .i64 0, .int .u64 0, .int .u64 0, .slice none 0 0, .slice none 0 0, .slice none 0 0, .slice none 0 0].toArray 29) = H1.upd b2 (.cells zeroA.cells.toArray 29) := rfl
  rw [hH2']
  have ne : b1 ≠ b2 := fun e => by subst e; exact o1.there rfl hb2
  have n2 : H b2 = none := Upd.none (S := []) u1 (by simp) hb2
  have o1 := o1.upd u2 (Off.nil _)
  have u02 := u1.trans u2
  generalize hH2 : H1.upd b2 (.cells zeroA.cells.toArray 29) = H2 at u2 o1 o2 u02
  have s0 : LnS H2 b1 b2 x H2 := ⟨o1, o2, Upd.refl _ _, ne⟩
  have sxx : ∀ {y : MsgA} {HS}, LnS H2 b1 b2 y HS → MsgIn HS x ∧ Upd [] H HS := fun s => by
    have u := Upd.drop u02 s.u (fun q hq => by rw [List.mem_singleton.1 hq]; exact hb1)
    exact ⟨hx.upd0 u, u⟩
  clear u1 hb2 o1 o2 hH' hH2' hH1 hH2 u2
  ((repeat refine HReg.step ?_); first | (show HCode _ _ _ (Code.seq (Code.region _ _ _) _) _ _ _; refine hcutC (a := Code.region _ _ _) [5, 6, 7, 8, 9, 10, 11, 12, 13, 14] [] (LnJ1 H2 b1 b2 x) rfl (by repeat' first | exact Resp.retD | exact Resp1.valuesK | refine Resp.blockD ?_ | refine Resp.thenD ?_ ?_ | refine Resp.hcode ?_) ?_ ?_) | (refine HCode.step ?_; (repeat refine HReg.step ?_); first | (show HCode _ _ _ (Code.seq (Code.region _ _ _) _) _ _ _; refine hcutC (a := Code.region _ _ _) [5, 6, 7, 8, 9, 10, 11, 12, 13, 14] [] (LnJ1 H2 b1 b2 x) rfl (by repeat' first | exact Resp.retD | exact Resp1.valuesK | refine Resp.blockD ?_ | refine Resp.thenD ?_ ?_ | refine Resp.hcode ?_) ?_ ?_) | (refine HCode.step ?_; (repeat refine HReg.step ?_); first | (show HCode _ _ _ (Code.seq (Code.region _ _ _) _) _ _ _; refine hcutC (a := Code.region _ _ _) [5, 6, 7, 8, 9, 10, 11, 12, 13, 14] [] (LnJ1 H2 b1 b2 x) rfl (by repeat' first | exact Resp.retD | exact Resp1.valuesK | refine Resp.blockD ?_ | refine Resp.thenD ?_ ?_ | refine Resp.hcode ?_) ?_ ?_) | (refine HCode.step ?_; (repeat refine HReg.step ?_); first | (show HCode _ _ _ (Code.seq (Code.region _ _ _) _) _ _ _; refine hcutC (a := Code.region _ _ _) [5, 6, 7, 8, 9, 10, 11, 12, 13, 14] [] (LnJ1 H2 b1 b2 x) rfl (by repeat' first | exact Resp.retD | exact Resp1.valuesK | refine Resp.blockD ?_ | refine Resp.thenD ?_ ?_ | refine Resp.hcode ?_) ?_ ?_) | (refine HCode.step ?_; (repeat refine HReg.step ?_); first | (show HCode _ _ _ (Code.seq (Code.region _ _ _) _) _ _ _; refine hcutC (a := Code.region _ _ _) [5, 6, 7, 8, 9, 10, 11, 12, 13, 14] [] (LnJ1 H2 b1 b2 x) rfl (by repeat' first | exact Resp.retD | exact Resp1.valuesK | refine Resp.blockD ?_ | refine Resp.thenD ?_ ?_ | refine Resp.hcode ?_) ?_ ?_) | (refine HCode.step ?_; (repeat refine HReg.step ?_); first | (show HCode _ _ _ (Code.seq (Code.region _ _ _) _) _ _ _; refine hcutC (a := Code.region _ _ _) [5, 6, 7, 8, 9, 10, 11, 12, 13, 14] [] (LnJ1 H2 b1 b2 x) rfl (by repeat' first | exact Resp.retD | exact Resp1.valuesK | refine Resp.blockD ?_ | refine Resp.thenD ?_ ?_ | refine Resp.hcode ?_) ?_ ?_) | (refine HCode.step ?_; (repeat refine HReg.step ?_); first | (show HCode _ _ _ (Code.seq (Code.region _ _ _) _) _ _ _; refine hcutC (a := Code.region _ _ _) [5, 6, 7, 8, 9, 10, 11, 12, 13, 14] [] (LnJ1 H2 b1 b2 x) rfl (by repeat' first | exact Resp.retD | exact Resp1.valuesK | refine Resp.blockD ?_ | refine Resp.thenD ?_ ?_ | refine Resp.hcode ?_) ?_ ?_) | (refine HCode.step ?_; (repeat refine HReg.step ?_); first | (show HCode _ _ _ (Code.seq (Code.region _ _ _) _) _ _ _; refine hcutC (a := Code.region _ _ _) [5, 6, 7, 8, 9, 10, 11, 12, 13, 14] [] (LnJ1 H2 b1 b2 x) rfl (by repeat' first | exact Resp.retD | exact Resp1.valuesK | refine Resp.blockD ?_ | refine Resp.thenD ?_ ?_ | refine Resp.hcode ?_) ?_ ?_) | (refine HCode.step ?_; (repeat refine HReg.step ?_); first | (show HCode _ _ _ (Code.seq (Code.region _ _ _) _) _ _ _; refine hcutC (a := Code.region _ _ _) [5, 6, 7, 8, 9, 10, 11, 12, 13, 14] [] (LnJ1 H2 b1 b2 x) rfl (by repeat' first | exact Resp.retD | exact Resp1.valuesK | refine Resp.blockD ?_ | refine Resp.thenD ?_ ?_ | refine Resp.hcode ?_) ?_ ?_) | (refine HCode.step ?_; (repeat refine HReg.step ?_); first | (show HCode _ _ _ (Code.seq (Code.region _ _ _) _) _ _ _; refine hcutC (a := Code.region _ _ _) [5, 6, 7, 8, 9, 10, 11, 12, 13, 14] [] (LnJ1 H2 b1 b2 x) rfl (by repeat' first | exact Resp.retD | exact Resp1.valuesK | refine Resp.blockD ?_ | refine Resp.thenD ?_ ?_ | refine Resp.hcode ?_) ?_ ?_) | (refine HCode.step ?_; (repeat refine HReg.step ?_); first | (show HCode _ _ _ (Code.seq (Code.region _ _ _) _) _ _ _; refine hcutC (a := Code.region _ _ _) [5, 6, 7, 8, 9, 10, 11, 12, 13, 14] [] (LnJ1 H2 b1 b2 x) rfl (by repeat' first | exact Resp.retD | exact Resp1.valuesK | refine Resp.blockD ?_ | refine Resp.thenD ?_ ?_ | refine Resp.hcode ?_) ?_ ?_) | (refine HCode.step ?_; (repeat refine HReg.step ?_); first | (show HCode _ _ _ (Code.seq (Code.region _ _ _) _) _ _ _; refine hcutC (a := Code.region _ _ _) [5, 6, 7, 8, 9, 10, 11, 12, 13, 14] [] (LnJ1 H2 b1 b2 x) rfl (by repeat' first | exact Resp.retD | exact Resp1.valuesK | refine Resp.blockD ?_ | refine Resp.thenD ?_ ?_ | refine Resp.hcode ?_) ?_ ?_) | (refine HCode.step ?_; (repeat refine HReg.step ?_); first | (show HCode _ _ _ (Code.seq (Code.region _ _ _) _) _ _ _; refine hcutC (a := Code.region _ _ _) [5, 6, 7, 8, 9, 10, 11, 12, 13, 14] [] (LnJ1 H2 b1 b2 x) rfl (by repeat' first | exact Resp.retD | exact Resp1.valuesK | refine Resp.blockD ?_ | refine Resp.thenD ?_ ?_ | refine Resp.hcode ?_) ?_ ?_) | (refine HCode.step ?_; (repeat refine HReg.step ?_); first | (show HCode _ _ _ (Code.seq (Code.region _ _ _) _) _ _ _; refine hcutC (a := Code.region _ _ _) [5, 6, 7, 8, 9, 10, 11, 12, 13, 14] [] (LnJ1 H2 b1 b2 x) rfl (by repeat' first | exact Resp.retD | exact Resp1.valuesK | refine Resp.blockD ?_ | refine Resp.thenD ?_ ?_ | refine Resp.hcode ?_) ?_ ?_) | (refine HCode.step ?_; (repeat refine HReg.step ?_); first | (show HCode _ _ _ (Code.seq (Code.region _ _ _) _) _ _ _; refine hcutC (a := Code.region _ _ _) [5, 6, 7, 8, 9, 10, 11, 12, 13, 14] [] (LnJ1 H2 b1 b2 x) rfl (by repeat' first | exact Resp.retD | exact Resp1.valuesK | refine Resp.blockD ?_ | refine Resp.thenD ?_ ?_ | refine Resp.hcode ?_) ?_ ?_) | (refine HCode.step ?_; (repeat refine HReg.step ?_); first | (show HCode _ _ _ (Code.seq (Code.region _ _ _) _) _ _ _; refine hcutC (a := Code.region _ _ _) [5, 6, 7, 8, 9, 10, 11, 12, 13, 14] [] (LnJ1 H2 b1 b2 x) rfl (by repeat' first | exact Resp.retD | exact Resp1.valuesK | refine Resp.blockD ?_ | refine Resp.thenD ?_ ?_ | refine Resp.hcode ?_) ?_ ?_) | (refine HCode.step ?_; (repeat refine HReg.step ?_); first | (show HCode _ _ _ (Code.seq (Code.region _ _ _) _) _ _ _; refine hcutC (a := Code.region _ _ _) [5, 6, 7, 8, 9, 10, 11, 12, 13, 14] [] (LnJ1 H2 b1 b2 x) rfl (by repeat' first | exact Resp.retD | exact Resp1.valuesK | refine Resp.blockD ?_ | refine Resp.thenD ?_ ?_ | refine Resp.hcode ?_) ?_ ?_) | (refine HCode.step ?_; (repeat refine HReg.step ?_); first | (show HCode _ _ _ (Code.seq (Code.region _ _ _) _) _ _ _; refine hcutC (a := Code.region _ _ _) [5, 6, 7, 8, 9, 10, 11, 12, 13, 14] [] (LnJ1 H2 b1 b2 x) rfl (by repeat' first | exact Resp.retD | exact Resp1.valuesK | refine Resp.blockD ?_ | refine Resp.thenD ?_ ?_ | refine Resp.hcode ?_) ?_ ?_) | (refine HCode.step ?_; (repeat refine HReg.step ?_); first | (show HCode _ _ _ (Code.seq (Code.region _ _ _) _) _ _ _; refine hcutC (a := Code.region _ _ _) [5, 6, 7, 8, 9, 10, 11, 12, 13, 14] [] (LnJ1 H2 b1 b2 x) rfl (by repeat' first | exact Resp.retD | exact Resp1.valuesK | refine Resp.blockD ?_ | refine Resp.thenD ?_ ?_ | refine Resp.hcode ?_) ?_ ?_) | (refine HCode.step ?_; (repeat refine HReg.step ?_); first | (show HCode _ _ _ (Code.seq (Code.region _ _ _) _) _ _ _; refine hcutC (a := Code.region _ _ _) [5, 6, 7, 8, 9, 10, 11, 12, 13, 14] [] (LnJ1 H2 b1 b2 x) rfl (by repeat' first | exact Resp.retD | exact Resp1.valuesK | refine Resp.blockD ?_ | refine Resp.thenD ?_ ?_ | refine Resp.hcode ?_) ?_ ?_) | (refine HCode.step ?_; (repeat refine HReg.step ?_); (show HCode _ _ _ (Code.seq (Code.region _ _ _) _) _ _ _; refine hcutC (a := Code.region _ _ _) [5, 6, 7, 8, 9, 10, 11, 12, 13, 14] [] (LnJ1 H2 b1 b2 x) rfl (by repeat' first | exact Resp.retD | exact Resp1.valuesK | refine Resp.blockD ?_ | refine Resp.thenD ?_ ?_ | refine Resp.hcode ?_) ?_ ?_))))))))))))))))))))))
  · obtain ⟨sx, ux⟩ := sxx s0
    have s := s0
    (repeat first | refine HReg.step ?_ | refine HCode.step ?_)
    refine And.intro ?_ ?_
    · (repeat first | refine HReg.step ?_ | refine HCode.step ?_)
      refine HLoad.one (v := .slice x.ak x.ks.length x.ck) (by exact s.o1.rows.get (i := 5) rfl) ?_
      (repeat first | refine HReg.step ?_ | refine HCode.step ?_)
      refine app_textsZ (xs := []) (made_nil _ 9 1) sx.rk rfl (by omega) fun a3 c3 H3 m3 => ?_
      rw [List.nil_append, Nat.zero_add] at m3
      (repeat first | refine HReg.step ?_ | refine HCode.step ?_)
      rw [Nat.zero_add x.ks.length]
      refine HReq.mk (by decide) ?_
      (repeat first | refine HReg.step ?_ | refine HCode.step ?_)
      refine HNew.mk fun b4 hb4 => ?_
      have ub4 : Upd [] H3 (H3.upd b4 (.cells [Value.string ⟨#[115, 112, 97, 114, 101]⟩].toArray 9)) := Upd.new hb4 _
      have rb4 : RowAt (H3.upd b4 (.cells [Value.string ⟨#[115, 112, 97, 114, 101]⟩].toArray 9)) (some ⟨b4, 0, none⟩) (txts [spareS]) := RowAt.of_cells (upd_same _ _ _)
      generalize hGb4 : H3.upd b4 (.cells [Value.string ⟨#[115, 112, 97, 114, 101]⟩].toArray 9) = Gb4 at ub4 rb4
      (repeat first | refine HReg.step ?_ | refine HCode.step ?_)
      refine app_textsZ (m3.step ub4) rb4 rfl (by omega) fun a5 c5 H5 m5 => ?_
      have uw := m3.upd
      have uv := uw.trans ub4
      have uu := m5.upd
      (repeat first | refine HReg.step ?_ | refine HCode.step ?_)
      refine HLoad_four (v := .slice x.ak x.ks.length x.ck) (by exact (s.o1.upd uu (Off.nil _)).rows.get (i := 5) rfl) (by exact (s.o1.upd uv (Off.nil _)).rows.get (i := 5) rfl) (by exact (s.o1.upd uw (Off.nil _)).rows.get (i := 5) rfl) (by exact s.o1.rows.get (i := 5) rfl) ?_
      have hle5 := m5.own.le
      (repeat first | refine HReg.step ?_ | refine HCode.step ?_)
      refine HReq.mk ⟨by omega, by omega⟩ ?_
      (repeat first | refine HReg.step ?_ | refine HCode.step ?_)
      refine store_row (s.o1.upd uu (Off.nil _)) (v := .slice a5 x.ks.length c5) rfl (i := 5) (by decide) (by rfl) fun H6 o6 u6 => ?_
      (repeat first | refine HReg.step ?_ | refine HCode.step ?_)
      exact LnJ1.mk ⟨a5, c5, rfl, s.go uu o6 u6, s.fresh uu u6 (by decide) m5⟩
    · (repeat first | refine HReg.step ?_ | refine HCode.step ?_)
      refine HReq.mk (by decide) ?_
      (repeat first | refine HReg.step ?_ | refine HCode.step ?_)
      refine HNew.mk fun b4 hb4 => ?_
      have ub4 : Upd [] H2 (H2.upd b4 (.cells [Value.string ⟨#[115, 112, 97, 114, 101]⟩].toArray 9)) := Upd.new hb4 _
      have rb4 : RowAt (H2.upd b4 (.cells [Value.string ⟨#[115, 112, 97, 114, 101]⟩].toArray 9)) (some ⟨b4, 0, none⟩) (txts [spareS]) := RowAt.of_cells (upd_same _ _ _)
      generalize hGb4 : H2.upd b4 (.cells [Value.string ⟨#[115, 112, 97, 114, 101]⟩].toArray 9) = Gb4 at ub4 rb4
      (repeat first | refine HReg.step ?_ | refine HCode.step ?_)
      refine HLoad_two (v := .slice x.ak x.ks.length x.ck) (by exact (s.o1.upd ub4 (Off.nil _)).rows.get (i := 5) rfl) (by exact s.o1.rows.get (i := 5) rfl) ?_
      (repeat first | refine HReg.step ?_ | refine HCode.step ?_)
      refine app_textsZ (xs := []) (made_nil _ 9 1) (sx.upd0 ub4).rk rfl (by omega) fun a3 c3 H3 m3 => ?_
      rw [List.nil_append, Nat.zero_add] at m3
      (repeat first | refine HReg.step ?_ | refine HCode.step ?_)
      rw [Nat.zero_add x.ks.length]
      refine app_textsZ m3 (rb4.upd (S := []) m3.upd (.inr (Off.nil _))) rfl (by omega) fun a5 c5 H5 m5 => ?_
      have uw := ub4
      have uv := uw.trans m3.upd
      have uu := uw.trans m5.upd
      have m5 := m5.back ub4
      (repeat first | refine HReg.step ?_ | refine HCode.step ?_)
      refine HLoad_four (v := .slice x.ak x.ks.length x.ck) (by exact (s.o1.upd uu (Off.nil _)).rows.get (i := 5) rfl) (by exact (s.o1.upd uv (Off.nil _)).rows.get (i := 5) rfl) (by exact (s.o1.upd uw (Off.nil _)).rows.get (i := 5) rfl) (by exact s.o1.rows.get (i := 5) rfl) ?_
      have hle5 := m5.own.le
      (repeat first | refine HReg.step ?_ | refine HCode.step ?_)
      refine HReq.mk ⟨by omega, by omega⟩ ?_
      (repeat first | refine HReg.step ?_ | refine HCode.step ?_)
      refine store_row (s.o1.upd uu (Off.nil _)) (v := .slice a5 x.ks.length c5) rfl (i := 5) (by decide) (by rfl) fun H6 o6 u6 => ?_
      (repeat first | refine HReg.step ?_ | refine HCode.step ?_)
      exact LnJ1.mk ⟨a5, c5, rfl, s.go uu o6 u6, s.fresh uu u6 (by decide) m5⟩
  rintro _ fe H3 ⟨ak, ck, rfl, s3, k3⟩
  ((repeat refine HReg.step ?_); first | (show HCode _ _ _ (Code.seq (Code.region _ _ _) _) _ _ _; refine hcutC (a := Code.region _ _ _) [15, 16, 17, 18, 19, 20, 21, 22, 23, 24, 25] [] (LnJ2 H2 b1 b2 x ak ck) rfl (by repeat' first | exact Resp.retD | exact Resp1.valuesK | refine Resp.blockD ?_ | refine Resp.thenD ?_ ?_ | refine Resp.hcode ?_) ?_ ?_) | (refine HCode.step ?_; (repeat refine HReg.step ?_); first | (show HCode _ _ _ (Code.seq (Code.region _ _ _) _) _ _ _; refine hcutC (a := Code.region _ _ _) [15, 16, 17, 18, 19, 20, 21, 22, 23, 24, 25] [] (LnJ2 H2 b1 b2 x ak ck) rfl (by repeat' first | exact Resp.retD | exact Resp1.valuesK | refine Resp.blockD ?_ | refine Resp.thenD ?_ ?_ | refine Resp.hcode ?_) ?_ ?_) | (refine HCode.step ?_; (repeat refine HReg.step ?_); first | (show HCode _ _ _ (Code.seq (Code.region _ _ _) _) _ _ _; refine hcutC (a := Code.region _ _ _) [15, 16, 17, 18, 19, 20, 21, 22, 23, 24, 25] [] (LnJ2 H2 b1 b2 x ak ck) rfl (by repeat' first | exact Resp.retD | exact Resp1.valuesK | refine Resp.blockD ?_ | refine Resp.thenD ?_ ?_ | refine Resp.hcode ?_) ?_ ?_) | (refine HCode.step ?_; (repeat refine HReg.step ?_); first | (show HCode _ _ _ (Code.seq (Code.region _ _ _) _) _ _ _; refine hcutC (a := Code.region _ _ _) [15, 16, 17, 18, 19, 20, 21, 22, 23, 24, 25] [] (LnJ2 H2 b1 b2 x ak ck) rfl (by repeat' first | exact Resp.retD | exact Resp1.valuesK | refine Resp.blockD ?_ | refine Resp.thenD ?_ ?_ | refine Resp.hcode ?_) ?_ ?_) | (refine HCode.step ?_; (repeat refine HReg.step ?_); first | (show HCode _ _ _ (Code.seq (Code.region _ _ _) _) _ _ _; refine hcutC (a := Code.region _ _ _) [15, 16, 17, 18, 19, 20, 21, 22, 23, 24, 25] [] (LnJ2 H2 b1 b2 x ak ck) rfl (by repeat' first | exact Resp.retD | exact Resp1.valuesK | refine Resp.blockD ?_ | refine Resp.thenD ?_ ?_ | refine Resp.hcode ?_) ?_ ?_) | (refine HCode.step ?_; (repeat refine HReg.step ?_); first | (show HCode _ _ _ (Code.seq (Code.region _ _ _) _) _ _ _; refine hcutC (a := Code.region _ _ _) [15, 16, 17, 18, 19, 20, 21, 22, 23, 24, 25] [] (LnJ2 H2 b1 b2 x ak ck) rfl (by repeat' first | exact Resp.retD | exact Resp1.valuesK | refine Resp.blockD ?_ | refine Resp.thenD ?_ ?_ | refine Resp.hcode ?_) ?_ ?_) | (refine HCode.step ?_; (repeat refine HReg.step ?_); first | (show HCode _ _ _ (Code.seq (Code.region _ _ _) _) _ _ _; refine hcutC (a := Code.region _ _ _) [15, 16, 17, 18, 19, 20, 21, 22, 23, 24, 25] [] (LnJ2 H2 b1 b2 x ak ck) rfl (by repeat' first | exact Resp.retD | exact Resp1.valuesK | refine Resp.blockD ?_ | refine Resp.thenD ?_ ?_ | refine Resp.hcode ?_) ?_ ?_) | (refine HCode.step ?_; (repeat refine HReg.step ?_); first | (show HCode _ _ _ (Code.seq (Code.region _ _ _) _) _ _ _; refine hcutC (a := Code.region _ _ _) [15, 16, 17, 18, 19, 20, 21, 22, 23, 24, 25] [] (LnJ2 H2 b1 b2 x ak ck) rfl (by repeat' first | exact Resp.retD | exact Resp1.valuesK | refine Resp.blockD ?_ | refine Resp.thenD ?_ ?_ | refine Resp.hcode ?_) ?_ ?_) | (refine HCode.step ?_; (repeat refine HReg.step ?_); first | (show HCode _ _ _ (Code.seq (Code.region _ _ _) _) _ _ _; refine hcutC (a := Code.region _ _ _) [15, 16, 17, 18, 19, 20, 21, 22, 23, 24, 25] [] (LnJ2 H2 b1 b2 x ak ck) rfl (by repeat' first | exact Resp.retD | exact Resp1.valuesK | refine Resp.blockD ?_ | refine Resp.thenD ?_ ?_ | refine Resp.hcode ?_) ?_ ?_) | (refine HCode.step ?_; (repeat refine HReg.step ?_); first | (show HCode _ _ _ (Code.seq (Code.region _ _ _) _) _ _ _; refine hcutC (a := Code.region _ _ _) [15, 16, 17, 18, 19, 20, 21, 22, 23, 24, 25] [] (LnJ2 H2 b1 b2 x ak ck) rfl (by repeat' first | exact Resp.retD | exact Resp1.valuesK | refine Resp.blockD ?_ | refine Resp.thenD ?_ ?_ | refine Resp.hcode ?_) ?_ ?_) | (refine HCode.step ?_; (repeat refine HReg.step ?_); first | (show HCode _ _ _ (Code.seq (Code.region _ _ _) _) _ _ _; refine hcutC (a := Code.region _ _ _) [15, 16, 17, 18, 19, 20, 21, 22, 23, 24, 25] [] (LnJ2 H2 b1 b2 x ak ck) rfl (by repeat' first | exact Resp.retD | exact Resp1.valuesK | refine Resp.blockD ?_ | refine Resp.thenD ?_ ?_ | refine Resp.hcode ?_) ?_ ?_) | (refine HCode.step ?_; (repeat refine HReg.step ?_); first | (show HCode _ _ _ (Code.seq (Code.region _ _ _) _) _ _ _; refine hcutC (a := Code.region _ _ _) [15, 16, 17, 18, 19, 20, 21, 22, 23, 24, 25] [] (LnJ2 H2 b1 b2 x ak ck) rfl (by repeat' first | exact Resp.retD | exact Resp1.valuesK | refine Resp.blockD ?_ | refine Resp.thenD ?_ ?_ | refine Resp.hcode ?_) ?_ ?_) | (refine HCode.step ?_; (repeat refine HReg.step ?_); first | (show HCode _ _ _ (Code.seq (Code.region _ _ _) _) _ _ _; refine hcutC (a := Code.region _ _ _) [15, 16, 17, 18, 19, 20, 21, 22, 23, 24, 25] [] (LnJ2 H2 b1 b2 x ak ck) rfl (by repeat' first | exact Resp.retD | exact Resp1.valuesK | refine Resp.blockD ?_ | refine Resp.thenD ?_ ?_ | refine Resp.hcode ?_) ?_ ?_) | (refine HCode.step ?_; (repeat refine HReg.step ?_); first | (show HCode _ _ _ (Code.seq (Code.region _ _ _) _) _ _ _; refine hcutC (a := Code.region _ _ _) [15, 16, 17, 18, 19, 20, 21, 22, 23, 24, 25] [] (LnJ2 H2 b1 b2 x ak ck) rfl (by repeat' first | exact Resp.retD | exact Resp1.valuesK | refine Resp.blockD ?_ | refine Resp.thenD ?_ ?_ | refine Resp.hcode ?_) ?_ ?_) | (refine HCode.step ?_; (repeat refine HReg.step ?_); first | (show HCode _ _ _ (Code.seq (Code.region _ _ _) _) _ _ _; refine hcutC (a := Code.region _ _ _) [15, 16, 17, 18, 19, 20, 21, 22, 23, 24, 25] [] (LnJ2 H2 b1 b2 x ak ck) rfl (by repeat' first | exact Resp.retD | exact Resp1.valuesK | refine Resp.blockD ?_ | refine Resp.thenD ?_ ?_ | refine Resp.hcode ?_) ?_ ?_) | (refine HCode.step ?_; (repeat refine HReg.step ?_); first | (show HCode _ _ _ (Code.seq (Code.region _ _ _) _) _ _ _; refine hcutC (a := Code.region _ _ _) [15, 16, 17, 18, 19, 20, 21, 22, 23, 24, 25] [] (LnJ2 H2 b1 b2 x ak ck) rfl (by repeat' first | exact Resp.retD | exact Resp1.valuesK | refine Resp.blockD ?_ | refine Resp.thenD ?_ ?_ | refine Resp.hcode ?_) ?_ ?_) | (refine HCode.step ?_; (repeat refine HReg.step ?_); first | (show HCode _ _ _ (Code.seq (Code.region _ _ _) _) _ _ _; refine hcutC (a := Code.region _ _ _) [15, 16, 17, 18, 19, 20, 21, 22, 23, 24, 25] [] (LnJ2 H2 b1 b2 x ak ck) rfl (by repeat' first | exact Resp.retD | exact Resp1.valuesK | refine Resp.blockD ?_ | refine Resp.thenD ?_ ?_ | refine Resp.hcode ?_) ?_ ?_) | (refine HCode.step ?_; (repeat refine HReg.step ?_); first | (show HCode _ _ _ (Code.seq (Code.region _ _ _) _) _ _ _; refine hcutC (a := Code.region _ _ _) [15, 16, 17, 18, 19, 20, 21, 22, 23, 24, 25] [] (LnJ2 H2 b1 b2 x ak ck) rfl (by repeat' first | exact Resp.retD | exact Resp1.valuesK | refine Resp.blockD ?_ | refine Resp.thenD ?_ ?_ | refine Resp.hcode ?_) ?_ ?_) | (refine HCode.step ?_; (repeat refine HReg.step ?_); first | (show HCode _ _ _ (Code.seq (Code.region _ _ _) _) _ _ _; refine hcutC (a := Code.region _ _ _) [15, 16, 17, 18, 19, 20, 21, 22, 23, 24, 25] [] (LnJ2 H2 b1 b2 x ak ck) rfl (by repeat' first | exact Resp.retD | exact Resp1.valuesK | refine Resp.blockD ?_ | refine Resp.thenD ?_ ?_ | refine Resp.hcode ?_) ?_ ?_) | (refine HCode.step ?_; (repeat refine HReg.step ?_); first | (show HCode _ _ _ (Code.seq (Code.region _ _ _) _) _ _ _; refine hcutC (a := Code.region _ _ _) [15, 16, 17, 18, 19, 20, 21, 22, 23, 24, 25] [] (LnJ2 H2 b1 b2 x ak ck) rfl (by repeat' first | exact Resp.retD | exact Resp1.valuesK | refine Resp.blockD ?_ | refine Resp.thenD ?_ ?_ | refine Resp.hcode ?_) ?_ ?_) | (refine HCode.step ?_; (repeat refine HReg.step ?_); (show HCode _ _ _ (Code.seq (Code.region _ _ _) _) _ _ _; refine hcutC (a := Code.region _ _ _) [15, 16, 17, 18, 19, 20, 21, 22, 23, 24, 25] [] (LnJ2 H2 b1 b2 x ak ck) rfl (by repeat' first | exact Resp.retD | exact Resp1.valuesK | refine Resp.blockD ?_ | refine Resp.thenD ?_ ?_ | refine Resp.hcode ?_) ?_ ?_))))))))))))))))))))))
  · obtain ⟨sx, ux⟩ := sxx s3
    have s := s3
    (repeat first | refine HReg.step ?_ | refine HCode.step ?_)
    refine And.intro ?_ ?_
    · (repeat first | refine HReg.step ?_ | refine HCode.step ?_)
      refine HLoad.one (v := .slice x.ap x.ps.length x.cp) (by exact s.o1.rows.get (i := 4) rfl) ?_
      (repeat first | refine HReg.step ?_ | refine HCode.step ?_)
      refine app_pairsZ (xs := []) (made_nil _ 64 2) sx.rp rfl (by omega) fun a3 c3 H3 m3 => ?_
      rw [List.nil_append, Nat.zero_add] at m3
      (repeat first | refine HReg.step ?_ | refine HCode.step ?_)
      rw [Nat.zero_add x.ps.length]
      refine HReq.mk (by decide) ?_
      (repeat first | refine HReg.step ?_ | refine HCode.step ?_)
      refine HNew.mk fun b4 hb4 => ?_
      have ub4 : Upd [] H3 (H3.upd b4 (.cells [Value.string ⟨#[115, 112, 97, 114, 101]⟩, Value.string ⟨#[]⟩].toArray 64)) := Upd.new hb4 _
      have rb4 : RowAt (H3.upd b4 (.cells [Value.string ⟨#[115, 112, 97, 114, 101]⟩, Value.string ⟨#[]⟩].toArray 64)) (some ⟨b4, 0, none⟩) (pairsV [(spareS, [])]) := RowAt.of_cells (upd_same _ _ _)
      generalize hGb4 : H3.upd b4 (.cells [Value.string ⟨#[115, 112, 97, 114, 101]⟩, Value.string ⟨#[]⟩].toArray 64) = Gb4 at ub4 rb4
      (repeat first | refine HReg.step ?_ | refine HCode.step ?_)
      refine app_pairsZ (m3.step ub4) rb4 rfl (by omega) fun a5 c5 H5 m5 => ?_
      have uw := m3.upd
      have uv := uw.trans ub4
      have uu := m5.upd
      (repeat first | refine HReg.step ?_ | refine HCode.step ?_)
      refine HLoad_four (v := .slice x.ap x.ps.length x.cp) (by exact (s.o1.upd uu (Off.nil _)).rows.get (i := 4) rfl) (by exact (s.o1.upd uv (Off.nil _)).rows.get (i := 4) rfl) (by exact (s.o1.upd uw (Off.nil _)).rows.get (i := 4) rfl) (by exact s.o1.rows.get (i := 4) rfl) ?_
      have hle5 := m5.own.le
      (repeat first | refine HReg.step ?_ | refine HCode.step ?_)
      refine HReq.mk ⟨by omega, by omega⟩ ?_
      (repeat first | refine HReg.step ?_ | refine HCode.step ?_)
      refine store_row (s.o1.upd uu (Off.nil _)) (v := .slice a5 x.ps.length c5) rfl (i := 4) (by decide) (by rfl) fun H6 o6 u6 => ?_
      (repeat first | refine HReg.step ?_ | refine HCode.step ?_)
      exact LnJ2.mk ⟨a5, c5, rfl, s.go uu o6 u6, s.old uu u6 (by decide) k3, s.fresh uu u6 (by decide) m5⟩
    · (repeat first | refine HReg.step ?_ | refine HCode.step ?_)
      refine HReq.mk (by decide) ?_
      (repeat first | refine HReg.step ?_ | refine HCode.step ?_)
      refine HNew.mk fun b4 hb4 => ?_
      have ub4 : Upd [] H3 (H3.upd b4 (.cells [Value.string ⟨#[115, 112, 97, 114, 101]⟩, Value.string ⟨#[]⟩].toArray 64)) := Upd.new hb4 _
      have rb4 : RowAt (H3.upd b4 (.cells [Value.string ⟨#[115, 112, 97, 114, 101]⟩, Value.string ⟨#[]⟩].toArray 64)) (some ⟨b4, 0, none⟩) (pairsV [(spareS, [])]) := RowAt.of_cells (upd_same _ _ _)
      generalize hGb4 : H3.upd b4 (.cells [Value.string ⟨#[115, 112, 97, 114, 101]⟩, Value.string ⟨#[]⟩].toArray 64) = Gb4 at ub4 rb4
      (repeat first | refine HReg.step ?_ | refine HCode.step ?_)
      refine HLoad_two (v := .slice x.ap x.ps.length x.cp) (by exact (s.o1.upd ub4 (Off.nil _)).rows.get (i := 4) rfl) (by exact s.o1.rows.get (i := 4) rfl) ?_
      (repeat first | refine HReg.step ?_ | refine HCode.step ?_)
      refine app_pairsZ (xs := []) (made_nil _ 64 2) (sx.upd0 ub4).rp rfl (by omega) fun a3 c3 H3 m3 => ?_
      rw [List.nil_append, Nat.zero_add] at m3
      (repeat first | refine HReg.step ?_ | refine HCode.step ?_)
      rw [Nat.zero_add x.ps.length]
      refine app_pairsZ m3 (rb4.upd (S := []) m3.upd (.inr (Off.nil _))) rfl (by omega) fun a5 c5 H5 m5 => ?_
      have uw := ub4
      have uv := uw.trans m3.upd
      have uu := uw.trans m5.upd
      have m5 := m5.back ub4
      (repeat first | refine HReg.step ?_ | refine HCode.step ?_)
      refine HLoad_four (v := .slice x.ap x.ps.length x.cp) (by exact (s.o1.upd uu (Off.nil _)).rows.get (i := 4) rfl) (by exact (s.o1.upd uv (Off.nil _)).rows.get (i := 4) rfl) (by exact (s.o1.upd uw (Off.nil _)).rows.get (i := 4) rfl) (by exact s.o1.rows.get (i := 4) rfl) ?_
      have hle5 := m5.own.le
      (repeat first | refine HReg.step ?_ | refine HCode.step ?_)
      refine HReq.mk ⟨by omega, by omega⟩ ?_
      (repeat first | refine HReg.step ?_ | refine HCode.step ?_)
      refine store_row (s.o1.upd uu (Off.nil _)) (v := .slice a5 x.ps.length c5) rfl (i := 4) (by decide) (by rfl) fun H6 o6 u6 => ?_
      (repeat first | refine HReg.step ?_ | refine HCode.step ?_)
      exact LnJ2.mk ⟨a5, c5, rfl, s.go uu o6 u6, s.old uu u6 (by decide) k3, s.fresh uu u6 (by decide) m5⟩
  rintro _ fe2 H4 ⟨ap, cp, rfl, s4, k4, p4⟩
  clear s3 k3
  ((repeat refine HReg.step ?_); first | (show HCode _ _ _ (Code.seq (Code.region _ _ _) _) _ _ _; refine hcutC (a := Code.region _ _ _) [26, 27, 28, 29, 30, 31, 32, 33, 34, 35, 36] [] (LnJ3 H2 b1 b2 x ak ck ap cp) rfl (by repeat' first | exact Resp.retD | exact Resp1.valuesK | refine Resp.blockD ?_ | refine Resp.thenD ?_ ?_ | refine Resp.hcode ?_) ?_ ?_) | (refine HCode.step ?_; (repeat refine HReg.step ?_); first | (show HCode _ _ _ (Code.seq (Code.region _ _ _) _) _ _ _; refine hcutC (a := Code.region _ _ _) [26, 27, 28, 29, 30, 31, 32, 33, 34, 35, 36] [] (LnJ3 H2 b1 b2 x ak ck ap cp) rfl (by repeat' first | exact Resp.retD | exact Resp1.valuesK | refine Resp.blockD ?_ | refine Resp.thenD ?_ ?_ | refine Resp.hcode ?_) ?_ ?_) | (refine HCode.step ?_; (repeat refine HReg.step ?_); first | (show HCode _ _ _ (Code.seq (Code.region _ _ _) _) _ _ _; refine hcutC (a := Code.region _ _ _) [26, 27, 28, 29, 30, 31, 32, 33, 34, 35, 36] [] (LnJ3 H2 b1 b2 x ak ck ap cp) rfl (by repeat' first | exact Resp.retD | exact Resp1.valuesK | refine Resp.blockD ?_ | refine Resp.thenD ?_ ?_ | refine Resp.hcode ?_) ?_ ?_) | (refine HCode.step ?_; (repeat refine HReg.step ?_); first | (show HCode _ _ _ (Code.seq (Code.region _ _ _) _) _ _ _; refine hcutC (a := Code.region _ _ _) [26, 27, 28, 29, 30, 31, 32, 33, 34, 35, 36] [] (LnJ3 H2 b1 b2 x ak ck ap cp) rfl (by repeat' first | exact Resp.retD | exact Resp1.valuesK | refine Resp.blockD ?_ | refine Resp.thenD ?_ ?_ | refine Resp.hcode ?_) ?_ ?_) | (refine HCode.step ?_; (repeat refine HReg.step ?_); first | (show HCode _ _ _ (Code.seq (Code.region _ _ _) _) _ _ _; refine hcutC (a := Code.region _ _ _) [26, 27, 28, 29, 30, 31, 32, 33, 34, 35, 36] [] (LnJ3 H2 b1 b2 x ak ck ap cp) rfl (by repeat' first | exact Resp.retD | exact Resp1.valuesK | refine Resp.blockD ?_ | refine Resp.thenD ?_ ?_ | refine Resp.hcode ?_) ?_ ?_) | (refine HCode.step ?_; (repeat refine HReg.step ?_); first | (show HCode _ _ _ (Code.seq (Code.region _ _ _) _) _ _ _; refine hcutC (a := Code.region _ _ _) [26, 27, 28, 29, 30, 31, 32, 33, 34, 35, 36] [] (LnJ3 H2 b1 b2 x ak ck ap cp) rfl (by repeat' first | exact Resp.retD | exact Resp1.valuesK | refine Resp.blockD ?_ | refine Resp.thenD ?_ ?_ | refine Resp.hcode ?_) ?_ ?_) | (refine HCode.step ?_; (repeat refine HReg.step ?_); first | (show HCode _ _ _ (Code.seq (Code.region _ _ _) _) _ _ _; refine hcutC (a := Code.region _ _ _) [26, 27, 28, 29, 30, 31, 32, 33, 34, 35, 36] [] (LnJ3 H2 b1 b2 x ak ck ap cp) rfl (by repeat' first | exact Resp.retD | exact Resp1.valuesK | refine Resp.blockD ?_ | refine Resp.thenD ?_ ?_ | refine Resp.hcode ?_) ?_ ?_) | (refine HCode.step ?_; (repeat refine HReg.step ?_); first | (show HCode _ _ _ (Code.seq (Code.region _ _ _) _) _ _ _; refine hcutC (a := Code.region _ _ _) [26, 27, 28, 29, 30, 31, 32, 33, 34, 35, 36] [] (LnJ3 H2 b1 b2 x ak ck ap cp) rfl (by repeat' first | exact Resp.retD | exact Resp1.valuesK | refine Resp.blockD ?_ | refine Resp.thenD ?_ ?_ | refine Resp.hcode ?_) ?_ ?_) | (refine HCode.step ?_; (repeat refine HReg.step ?_); first | (show HCode _ _ _ (Code.seq (Code.region _ _ _) _) _ _ _; refine hcutC (a := Code.region _ _ _) [26, 27, 28, 29, 30, 31, 32, 33, 34, 35, 36] [] (LnJ3 H2 b1 b2 x ak ck ap cp) rfl (by repeat' first | exact Resp.retD | exact Resp1.valuesK | refine Resp.blockD ?_ | refine Resp.thenD ?_ ?_ | refine Resp.hcode ?_) ?_ ?_) | (refine HCode.step ?_; (repeat refine HReg.step ?_); first | (show HCode _ _ _ (Code.seq (Code.region _ _ _) _) _ _ _; refine hcutC (a := Code.region _ _ _) [26, 27, 28, 29, 30, 31, 32, 33, 34, 35, 36] [] (LnJ3 H2 b1 b2 x ak ck ap cp) rfl (by repeat' first | exact Resp.retD | exact Resp1.valuesK | refine Resp.blockD ?_ | refine Resp.thenD ?_ ?_ | refine Resp.hcode ?_) ?_ ?_) | (refine HCode.step ?_; (repeat refine HReg.step ?_); first | (show HCode _ _ _ (Code.seq (Code.region _ _ _) _) _ _ _; refine hcutC (a := Code.region _ _ _) [26, 27, 28, 29, 30, 31, 32, 33, 34, 35, 36] [] (LnJ3 H2 b1 b2 x ak ck ap cp) rfl (by repeat' first | exact Resp.retD | exact Resp1.valuesK | refine Resp.blockD ?_ | refine Resp.thenD ?_ ?_ | refine Resp.hcode ?_) ?_ ?_) | (refine HCode.step ?_; (repeat refine HReg.step ?_); first | (show HCode _ _ _ (Code.seq (Code.region _ _ _) _) _ _ _; refine hcutC (a := Code.region _ _ _) [26, 27, 28, 29, 30, 31, 32, 33, 34, 35, 36] [] (LnJ3 H2 b1 b2 x ak ck ap cp) rfl (by repeat' first | exact Resp.retD | exact Resp1.valuesK | refine Resp.blockD ?_ | refine Resp.thenD ?_ ?_ | refine Resp.hcode ?_) ?_ ?_) | (refine HCode.step ?_; (repeat refine HReg.step ?_); first | (show HCode _ _ _ (Code.seq (Code.region _ _ _) _) _ _ _; refine hcutC (a := Code.region _ _ _) [26, 27, 28, 29, 30, 31, 32, 33, 34, 35, 36] [] (LnJ3 H2 b1 b2 x ak ck ap cp) rfl (by repeat' first | exact Resp.retD | exact Resp1.valuesK | refine Resp.blockD ?_ | refine Resp.thenD ?_ ?_ | refine Resp.hcode ?_) ?_ ?_) | (refine HCode.step ?_; (repeat refine HReg.step ?_); first | (show HCode _ _ _ (Code.seq (Code.region _ _ _) _) _ _ _; refine hcutC (a := Code.region _ _ _) [26, 27, 28, 29, 30, 31, 32, 33, 34, 35, 36] [] (LnJ3 H2 b1 b2 x ak ck ap cp) rfl (by repeat' first | exact Resp.retD | exact Resp1.valuesK | refine Resp.blockD ?_ | refine Resp.thenD ?_ ?_ | refine Resp.hcode ?_) ?_ ?_) | (refine HCode.step ?_; (repeat refine HReg.step ?_); first | (show HCode _ _ _ (Code.seq (Code.region _ _ _) _) _ _ _; refine hcutC (a := Code.region _ _ _) [26, 27, 28, 29, 30, 31, 32, 33, 34, 35, 36] [] (LnJ3 H2 b1 b2 x ak ck ap cp) rfl (by repeat' first | exact Resp.retD | exact Resp1.valuesK | refine Resp.blockD ?_ | refine Resp.thenD ?_ ?_ | refine Resp.hcode ?_) ?_ ?_) | (refine HCode.step ?_; (repeat refine HReg.step ?_); first | (show HCode _ _ _ (Code.seq (Code.region _ _ _) _) _ _ _; refine hcutC (a := Code.region _ _ _) [26, 27, 28, 29, 30, 31, 32, 33, 34, 35, 36] [] (LnJ3 H2 b1 b2 x ak ck ap cp) rfl (by repeat' first | exact Resp.retD | exact Resp1.valuesK | refine Resp.blockD ?_ | refine Resp.thenD ?_ ?_ | refine Resp.hcode ?_) ?_ ?_) | (refine HCode.step ?_; (repeat refine HReg.step ?_); first | (show HCode _ _ _ (Code.seq (Code.region _ _ _) _) _ _ _; refine hcutC (a := Code.region _ _ _) [26, 27, 28, 29, 30, 31, 32, 33, 34, 35, 36] [] (LnJ3 H2 b1 b2 x ak ck ap cp) rfl (by repeat' first | exact Resp.retD | exact Resp1.valuesK | refine Resp.blockD ?_ | refine Resp.thenD ?_ ?_ | refine Resp.hcode ?_) ?_ ?_) | (refine HCode.step ?_; (repeat refine HReg.step ?_); first | (show HCode _ _ _ (Code.seq (Code.region _ _ _) _) _ _ _; refine hcutC (a := Code.region _ _ _) [26, 27, 28, 29, 30, 31, 32, 33, 34, 35, 36] [] (LnJ3 H2 b1 b2 x ak ck ap cp) rfl (by repeat' first | exact Resp.retD | exact Resp1.valuesK | refine Resp.blockD ?_ | refine Resp.thenD ?_ ?_ | refine Resp.hcode ?_) ?_ ?_) | (refine HCode.step ?_; (repeat refine HReg.step ?_); first | (show HCode _ _ _ (Code.seq (Code.region _ _ _) _) _ _ _; refine hcutC (a := Code.region _ _ _) [26, 27, 28, 29, 30, 31, 32, 33, 34, 35, 36] [] (LnJ3 H2 b1 b2 x ak ck ap cp) rfl (by repeat' first | exact Resp.retD | exact Resp1.valuesK | refine Resp.blockD ?_ | refine Resp.thenD ?_ ?_ | refine Resp.hcode ?_) ?_ ?_) | (refine HCode.step ?_; (repeat refine HReg.step ?_); first | (show HCode _ _ _ (Code.seq (Code.region _ _ _) _) _ _ _; refine hcutC (a := Code.region _ _ _) [26, 27, 28, 29, 30, 31, 32, 33, 34, 35, 36] [] (LnJ3 H2 b1 b2 x ak ck ap cp) rfl (by repeat' first | exact Resp.retD | exact Resp1.valuesK | refine Resp.blockD ?_ | refine Resp.thenD ?_ ?_ | refine Resp.hcode ?_) ?_ ?_) | (refine HCode.step ?_; (repeat refine HReg.step ?_); (show HCode _ _ _ (Code.seq (Code.region _ _ _) _) _ _ _; refine hcutC (a := Code.region _ _ _) [26, 27, 28, 29, 30, 31, 32, 33, 34, 35, 36] [] (LnJ3 H2 b1 b2 x ak ck ap cp) rfl (by repeat' first | exact Resp.retD | exact Resp1.valuesK | refine Resp.blockD ?_ | refine Resp.thenD ?_ ?_ | refine Resp.hcode ?_) ?_ ?_))))))))))))))))))))))
  · obtain ⟨sx, ux⟩ := sxx s4
    have s := s4
    (repeat first | refine HReg.step ?_ | refine HCode.step ?_)
    refine And.intro ?_ ?_
    · (repeat first | refine HReg.step ?_ | refine HCode.step ?_)
      refine HLoad.one (v := .slice x.aw x.ws.length x.cw) (by exact s.o1.rows.get (i := 6) rfl) ?_
      (repeat first | refine HReg.step ?_ | refine HCode.step ?_)
      refine app_wantsZ (xs := []) (made_nil _ 46 2) sx.rw rfl (by omega) fun a3 c3 H3 m3 => ?_
      rw [List.nil_append, Nat.zero_add] at m3
      (repeat first | refine HReg.step ?_ | refine HCode.step ?_)
      rw [Nat.zero_add x.ws.length]
      refine HReq.mk (by decide) ?_
      (repeat first | refine HReg.step ?_ | refine HCode.step ?_)
      refine HNew.mk fun b4 hb4 => ?_
      have ub4 : Upd [] H3 (H3.upd b4 (.cells [Value.string ⟨#[115, 112, 97, 114, 101]⟩, Value.int .u64 0].toArray 46)) := Upd.new hb4 _
      have rb4 : RowAt (H3.upd b4 (.cells [Value.string ⟨#[115, 112, 97, 114, 101]⟩, Value.int .u64 0].toArray 46)) (some ⟨b4, 0, none⟩) (wantsV [(spareS, 0)]) := RowAt.of_cells (upd_same _ _ _)
      generalize hGb4 : H3.upd b4 (.cells [Value.string ⟨#[115, 112, 97, 114, 101]⟩, Value.int .u64 0].toArray 46) = Gb4 at ub4 rb4
      (repeat first | refine HReg.step ?_ | refine HCode.step ?_)
      refine app_wantsZ (m3.step ub4) rb4 rfl (by omega) fun a5 c5 H5 m5 => ?_
      have uw := m3.upd
      have uv := uw.trans ub4
      have uu := m5.upd
      (repeat first | refine HReg.step ?_ | refine HCode.step ?_)
      refine HLoad_four (v := .slice x.aw x.ws.length x.cw) (by exact (s.o1.upd uu (Off.nil _)).rows.get (i := 6) rfl) (by exact (s.o1.upd uv (Off.nil _)).rows.get (i := 6) rfl) (by exact (s.o1.upd uw (Off.nil _)).rows.get (i := 6) rfl) (by exact s.o1.rows.get (i := 6) rfl) ?_
      have hle5 := m5.own.le
      (repeat first | refine HReg.step ?_ | refine HCode.step ?_)
      refine HReq.mk ⟨by omega, by omega⟩ ?_
      (repeat first | refine HReg.step ?_ | refine HCode.step ?_)
      refine store_row (s.o1.upd uu (Off.nil _)) (v := .slice a5 x.ws.length c5) rfl (i := 6) (by decide) (by rfl) fun H6 o6 u6 => ?_
      (repeat first | refine HReg.step ?_ | refine HCode.step ?_)
      exact LnJ3.mk ⟨a5, c5, rfl, s.go uu o6 u6, s.old uu u6 (by decide) k4, s.old uu u6 (by decide) p4, s.fresh uu u6 (by decide) m5⟩
    · (repeat first | refine HReg.step ?_ | refine HCode.step ?_)
      refine HReq.mk (by decide) ?_
      (repeat first | refine HReg.step ?_ | refine HCode.step ?_)
      refine HNew.mk fun b4 hb4 => ?_
      have ub4 : Upd [] H4 (H4.upd b4 (.cells [Value.string ⟨#[115, 112, 97, 114, 101]⟩, Value.int .u64 0].toArray 46)) := Upd.new hb4 _
      have rb4 : RowAt (H4.upd b4 (.cells [Value.string ⟨#[115, 112, 97, 114, 101]⟩, Value.int .u64 0].toArray 46)) (some ⟨b4, 0, none⟩) (wantsV [(spareS, 0)]) := RowAt.of_cells (upd_same _ _ _)
      generalize hGb4 : H4.upd b4 (.cells [Value.string ⟨#[115, 112, 97, 114, 101]⟩, Value.int .u64 0].toArray 46) = Gb4 at ub4 rb4
      (repeat first | refine HReg.step ?_ | refine HCode.step ?_)
      refine HLoad_two (v := .slice x.aw x.ws.length x.cw) (by exact (s.o1.upd ub4 (Off.nil _)).rows.get (i := 6) rfl) (by exact s.o1.rows.get (i := 6) rfl) ?_
      (repeat first | refine HReg.step ?_ | refine HCode.step ?_)
      refine app_wantsZ (xs := []) (made_nil _ 46 2) (sx.upd0 ub4).rw rfl (by omega) fun a3 c3 H3 m3 => ?_
      rw [List.nil_append, Nat.zero_add] at m3
      (repeat first | refine HReg.step ?_ | refine HCode.step ?_)
      rw [Nat.zero_add x.ws.length]
      refine app_wantsZ m3 (rb4.upd (S := []) m3.upd (.inr (Off.nil _))) rfl (by omega) fun a5 c5 H5 m5 => ?_
      have uw := ub4
      have uv := uw.trans m3.upd
      have uu := uw.trans m5.upd
      have m5 := m5.back ub4
      (repeat first | refine HReg.step ?_ | refine HCode.step ?_)
      refine HLoad_four (v := .slice x.aw x.ws.length x.cw) (by exact (s.o1.upd uu (Off.nil _)).rows.get (i := 6) rfl) (by exact (s.o1.upd uv (Off.nil _)).rows.get (i := 6) rfl) (by exact (s.o1.upd uw (Off.nil _)).rows.get (i := 6) rfl) (by exact s.o1.rows.get (i := 6) rfl) ?_
      have hle5 := m5.own.le
      (repeat first | refine HReg.step ?_ | refine HCode.step ?_)
      refine HReq.mk ⟨by omega, by omega⟩ ?_
      (repeat first | refine HReg.step ?_ | refine HCode.step ?_)
      refine store_row (s.o1.upd uu (Off.nil _)) (v := .slice a5 x.ws.length c5) rfl (i := 6) (by decide) (by rfl) fun H6 o6 u6 => ?_
      (repeat first | refine HReg.step ?_ | refine HCode.step ?_)
      exact LnJ3.mk ⟨a5, c5, rfl, s.go uu o6 u6, s.old uu u6 (by decide) k4, s.old uu u6 (by decide) p4, s.fresh uu u6 (by decide) m5⟩
  rintro _ fe3 H5 ⟨aw, cw, rfl, s5, k5, p5, w5⟩
  clear s4 k4 p4
  obtain ⟨sx5, u05⟩ := sxx s5
  (repeat first | refine HReg.step ?_ | refine HCode.step ?_)
  refine HLoad.one (v := .slice x.av x.vs.length x.cv) (by exact s5.o1.rows.get (i := 7) rfl) ?_
  (repeat first | refine HReg.step ?_ | refine HCode.step ?_)
  refine app_versZ (xs := []) (made_nil _ 52 4) sx5.rv rfl (by omega) fun a6 c6 H6 m6 => ?_
  rw [List.nil_append, Nat.zero_add] at m6
  rw [Nat.zero_add x.vs.length]
  have s6 := s5.upd0 m6.upd
  have k6 := k5.upd0 m6.upd
  have p6 := p5.upd0 m6.upd
  have w6 := w5.upd0 m6.upd
  have hle6 := m6.own.le
  (repeat first | refine HReg.step ?_ | refine HCode.step ?_)
  refine hloopC [4, 40, 41, 42, 43, 44, 45, 46, 47, 48, 49, 50, 51, 52, 53, 54, 55, 56, 57, 58, 59, 60, 61, 62, 63, 64] [4] (LvI H5 H6 x a6 c6) rfl (by repeat' first | exact Resp.retD | exact Resp1.valuesK | refine Resp.blockD ?_ | refine Resp.thenD ?_ ?_ | refine Resp.hcode ?_) ?_ ?_
  · exact ⟨x.vs.length, LvI.mk ⟨0, [], rfl, rfl, rfl, by simpa using m6.own, rfl, by simp, Upd.refl _ _⟩⟩
  rintro m _ fe4 H7 ⟨i, ys, rfl, hmi, hyl, o7, hym, hys, u7⟩
  have n5 : ∀ b ∈ blk a6, H5 b = none := fun b hb => by
    obtain ⟨p, hp, rfl⟩ := blk_of hb
    exact m6.new p hp
  have u57 : Upd [] H5 H7 := Upd.drop m6.upd u7 n5
  (repeat first | refine HReg.step ?_ | refine HCode.step ?_)
  refine hif (fun h1 => ?_) (fun h1 => ?_)
  · have h1 := ltB_true.1 h1
    have h1 : i < x.vs.length := by omega
    obtain ⟨v, hvi⟩ := get_len rfl h1
    have hvm := List.mem_of_getElem? hvi
    have hnk := hnvk v hvm
    have wi : wr .i64 ((i : Int) + 1) = ((i + 1 : Nat) : Int) := by rw [wr_i64 (by omega) (by omega)]; omega
    obtain ⟨g, rfl⟩ := m6.own.addr (by omega)
    have hgv : (ys ++ x.vs.drop i)[i]? = some v := by rw [List.getElem?_append_right (by omega), hyl, Nat.sub_self, List.getElem?_drop, Nat.add_zero, hvi]
    have hrv : RowAt H7 v.a (txts v.v.ks) := (sx5.vk v hvm).upd (S := []) u57 (.inr (Off.nil _))
    have rg : ∀ {H'}, Upd [] H7 H' → H'.cell? ⟨g, 0 + (i * 4 + 3), none⟩ = some (.slice v.a v.v.ks.length v.c) := fun u => (o7.upd u (Off.nil _)).rows.get (versV_get hgv 3 _ rfl)
    have stp : ∀ {H8 H9 : Heap} {a8 : Option Addr} {c8 : Nat}, Made H7 H8 9 1 a8 (v.v.ks.length + 1) c8 (txts (v.v.ks ++ [spareS])) → OwnRow H9 52 1 (some ⟨g, 0, none⟩) (x.vs.length * 4) (c6 * 4) ((versV (ys ++ x.vs.drop i)).set (i * 4 + 3) (.slice a8 v.v.ks.length c8)) → Upd [g] H8 H9 →
        ∃ m', m' < m ∧ LvI H5 H6 x (some ⟨g, 0, none⟩) c6 m' [.int .i64 ((i + 1 : Nat) : Int)] H9 := by
      intro H8 H9 a8 c8 m8 o9 u9
      have o8 := o7.upd m8.upd (Off.nil _)
      refine ⟨m - 1, by omega, LvI.mk ⟨i + 1, ys ++ [⟨v.v, a8, c8⟩], rfl, by omega, by simp [hyl], ?_, ?_, ?_, (u7.trans (m8.upd.mono (by simp))).trans u9⟩⟩
      · have e : (versV (ys ++ x.vs.drop i)).set (i * 4 + 3) (.slice a8 v.v.ks.length c8) = versV (ys ++ [⟨v.v, a8, c8⟩] ++ x.vs.drop (i + 1)) := by
          have hd : x.vs.drop i = v :: x.vs.drop (i + 1) := by
            rw [List.drop_eq_getElem_cons h1]
            have := List.getElem?_eq_getElem h1
            rw [hvi] at this
            rw [← Option.some.inj this]
          rw [hd, versV_append, versV_append, versV_append, List.append_assoc]
          have hl : (versV ys).length = i * 4 := by rw [versV_length, hyl]
          rw [List.set_append_right _ _ (by omega), hl, Nat.add_sub_cancel_left]
          rfl
        rw [← e]
        exact o9.unflat hle6 (fun h => by cases h)
      · rw [List.map_append, hym, List.take_add_one, hvi, List.map_append]; rfl
      · intro y hy
        rcases List.mem_append.1 hy with hy | hy
        · have k := (hys y hy).upd0 m8.upd
          exact ⟨k.own.upd u9 (o8.offT k.own (by decide)), k.new⟩
        · rw [List.mem_singleton.1 hy]
          refine ⟨m8.own.upd u9 (o8.offT m8.own (by decide)), fun b hb => ?_⟩
          obtain ⟨p, hp, rfl⟩ := blk_of hb
          exact Upd.none (S := []) u57 (by simp) (m8.new p hp)
    (repeat first | refine HReg.step ?_ | refine HCode.step ?_)
    refine And.intro ?_ ?_
    · (repeat first | refine HReg.step ?_ | refine HCode.step ?_)
      refine HReq.mk ⟨by omega, by omega⟩ ?_
      (repeat first | refine HReg.step ?_ | refine HCode.step ?_)
      refine HLoad.one (v := .slice v.a v.v.ks.length v.c) (by rw [Nat.add_assoc]; exact rg (Upd.refl _ _)) ?_
      (repeat first | refine HReg.step ?_ | refine HCode.step ?_)
      refine app_textsZ (xs := []) (made_nil _ 9 1) hrv rfl (by omega) fun a8 c8 H8 m8 => ?_
      rw [List.nil_append, Nat.zero_add] at m8
      (repeat first | refine HReg.step ?_ | refine HCode.step ?_)
      rw [Nat.zero_add v.v.ks.length]
      refine HReq.mk (by decide) ?_
      (repeat first | refine HReg.step ?_ | refine HCode.step ?_)
      refine HNew.mk fun b4 hb4 => ?_
      have ub4 : Upd [] H8 (H8.upd b4 (.cells [Value.string ⟨#[115, 112, 97, 114, 101]⟩].toArray 9)) := Upd.new hb4 _
      have rb4 : RowAt (H8.upd b4 (.cells [Value.string ⟨#[115, 112, 97, 114, 101]⟩].toArray 9)) (some ⟨b4, 0, none⟩) (txts [spareS]) := RowAt.of_cells (upd_same _ _ _)
      generalize hG4 : H8.upd b4 (.cells [Value.string ⟨#[115, 112, 97, 114, 101]⟩].toArray 9) = Gb4 at ub4 rb4
      (repeat first | refine HReg.step ?_ | refine HCode.step ?_)
      refine app_textsZ (m8.step ub4) rb4 rfl (by omega) fun a9 c9 H9 m9 => ?_
      have uw := m8.upd
      have uv := uw.trans ub4
      have uu := m9.upd
      (repeat first | refine HReg.step ?_ | refine HCode.step ?_)
      refine HReq.mk ⟨by omega, by omega⟩ ?_
      (repeat first | refine HReg.step ?_ | refine HCode.step ?_)
      refine HLoad_four (v := .slice v.a v.v.ks.length v.c) (by rw [Nat.add_assoc]; exact rg uu) (by rw [Nat.add_assoc]; exact rg uv) (by rw [Nat.add_assoc]; exact rg uw) (by rw [Nat.add_assoc]; exact rg (Upd.refl _ _)) ?_
      have hle9 := m9.own.le
      (repeat first | refine HReg.step ?_ | refine HCode.step ?_)
      refine HReq.mk ⟨by omega, by omega⟩ ?_
      (repeat first | refine HReg.step ?_ | refine HCode.step ?_)
      refine HReq.mk ⟨by omega, by omega⟩ ?_
      (repeat first | refine HReg.step ?_ | refine HCode.step ?_)
      refine store_row (o7.upd uu (Off.nil _)).flat (v := .slice a9 v.v.ks.length c9) rfl (i := i * 4 + 3) (by omega) (by show 0 + i * 4 + 3 = _; omega) fun HA oA uA => ?_
      (repeat first | refine HReg.step ?_ | refine HCode.step ?_)
      rw [wi]
      exact stp m9 oA uA
    · (repeat first | refine HReg.step ?_ | refine HCode.step ?_)
      refine HReq.mk (by decide) ?_
      (repeat first | refine HReg.step ?_ | refine HCode.step ?_)
      refine HNew.mk fun b4 hb4 => ?_
      have ub4 : Upd [] H7 (H7.upd b4 (.cells [Value.string ⟨#[115, 112, 97, 114, 101]⟩].toArray 9)) := Upd.new hb4 _
      have rb4 : RowAt (H7.upd b4 (.cells [Value.string ⟨#[115, 112, 97, 114, 101]⟩].toArray 9)) (some ⟨b4, 0, none⟩) (txts [spareS]) := RowAt.of_cells (upd_same _ _ _)
      generalize hG4 : H7.upd b4 (.cells [Value.string ⟨#[115, 112, 97, 114, 101]⟩].toArray 9) = Gb4 at ub4 rb4
      (repeat first | refine HReg.step ?_ | refine HCode.step ?_)
      refine HReq.mk ⟨by omega, by omega⟩ ?_
      (repeat first | refine HReg.step ?_ | refine HCode.step ?_)
      refine HLoad_two (v := .slice v.a v.v.ks.length v.c) (by rw [Nat.add_assoc]; exact rg ub4) (by rw [Nat.add_assoc]; exact rg (Upd.refl _ _)) ?_
      (repeat first | refine HReg.step ?_ | refine HCode.step ?_)
      refine app_textsZ (xs := []) (made_nil _ 9 1) (hrv.upd (S := []) ub4 (.inr (Off.nil _))) rfl (by omega) fun a8 c8 H8 m8 => ?_
      rw [List.nil_append, Nat.zero_add] at m8
      (repeat first | refine HReg.step ?_ | refine HCode.step ?_)
      rw [Nat.zero_add v.v.ks.length]
      refine app_textsZ m8 (rb4.upd (S := []) m8.upd (.inr (Off.nil _))) rfl (by omega) fun a9 c9 H9 m9 => ?_
      have uw := ub4
      have uv := uw.trans m8.upd
      have uu := uw.trans m9.upd
      have m9 := m9.back ub4
      (repeat first | refine HReg.step ?_ | refine HCode.step ?_)
      refine HReq.mk ⟨by omega, by omega⟩ ?_
      (repeat first | refine HReg.step ?_ | refine HCode.step ?_)
      refine HLoad_four (v := .slice v.a v.v.ks.length v.c) (by rw [Nat.add_assoc]; exact rg uu) (by rw [Nat.add_assoc]; exact rg uv) (by rw [Nat.add_assoc]; exact rg uw) (by rw [Nat.add_assoc]; exact rg (Upd.refl _ _)) ?_
      have hle9 := m9.own.le
      (repeat first | refine HReg.step ?_ | refine HCode.step ?_)
      refine HReq.mk ⟨by omega, by omega⟩ ?_
      (repeat first | refine HReg.step ?_ | refine HCode.step ?_)
      refine HReq.mk ⟨by omega, by omega⟩ ?_
      (repeat first | refine HReg.step ?_ | refine HCode.step ?_)
      refine store_row (o7.upd uu (Off.nil _)).flat (v := .slice a9 v.v.ks.length c9) rfl (i := i * 4 + 3) (by omega) (by show 0 + i * 4 + 3 = _; omega) fun HA oA uA => ?_
      (repeat first | refine HReg.step ?_ | refine HCode.step ?_)
      rw [wi]
      exact stp m9 oA uA
  · have h1 := ltB_false.1 h1
    have hi : i = x.vs.length := by omega
    subst hi
    rw [List.drop_length, List.append_nil] at o7
    rw [List.take_length] at hym
    have s7 : LnS H2 b1 b2 _ H7 := s6.upd' u7 (fun h => m6.own.notT (by decide) b1 h) (fun h => m6.own.notT (by decide) b2 h) (fun b hb => s5.non (n5 b hb))
    have keep : ∀ {e : TypeId} {size n c : Nat} {a : Option Addr} {xs : List Value}, 52 ≠ e → NewR H2 H6 e size a n c xs → NewR H2 H7 e size a n c xs := fun he r => ⟨r.own.upd u7 (m6.own.offT r.own he), r.new⟩
    have k7 := keep (by decide) k6
    have p7 := keep (by decide) p6
    have w7 := keep (by decide) w6
    have m7 : Made H5 H7 52 4 a6 x.vs.length c6 (versV ys) := ⟨o7, u57, fun p hp => n5 _ (by rw [hp]; simp [blk])⟩
    (repeat first | refine HReg.step ?_ | refine HCode.step ?_)
    refine HReq.mk (by decide) ?_
    (repeat first | refine HReg.step ?_ | refine HCode.step ?_)
    refine HNew.mk fun b8 hb8 => ?_
    have u8_ : Upd [] H7 (H7.upd b8 (.cells [Value.string ⟨#[115, 112, 97, 114, 101]⟩, Value.int .u64 0, Value.string ⟨#[]⟩, Value.slice none 0 0].toArray 52)) := Upd.new hb8 _
    have r8 : RowAt (H7.upd b8 (.cells [Value.string ⟨#[115, 112, 97, 114, 101]⟩, Value.int .u64 0, Value.string ⟨#[]⟩, Value.slice none 0 0].toArray 52)) (some ⟨b8, 0, none⟩) (versV [⟨⟨spareS, 0, [], []⟩, none, 0⟩]) := RowAt.of_cells (upd_same _ _ _)
    generalize hH8 : H7.upd b8 (.cells [Value.string ⟨#[115, 112, 97, 114, 101]⟩, Value.int .u64 0, Value.string ⟨#[]⟩, Value.slice none 0 0].toArray 52) = H8 at u8_ r8
    have o8 := o7.upd u8_ (Off.nil _)
    have s8 := s7.upd0 u8_
    (repeat first | refine HReg.step ?_ | refine HCode.step ?_)
    refine append_rows (ie := Try.t52) (z := .agg #[.string ⟨#[]⟩, .int .u64 0, .string ⟨#[]⟩, .slice none 0 0]) (xs := versV ys) (ys := versV [⟨⟨spareS, 0, [], []⟩, none, 0⟩]) Try.underlying27 rfl rfl rfl (by decide) o8 r8 rfl (plain_vers _) (by show (x.vs.length + 1) * 64 ≤ _; omega) (by omega) fun a9 c9 H9 o9 u9 f9 => ?_
    have hle9 := o9.le
    have s9 := s8.upd' u9 (fun h => o8.notT (by decide) b1 h) (fun h => o8.notT (by decide) b2 h) (fun b hb => s5.non (n5 b hb))
    (repeat first | refine HReg.step ?_ | refine HCode.step ?_)
    refine HReq.mk ⟨by omega, by omega⟩ ?_
    (repeat first | refine HReg.step ?_ | refine HCode.step ?_)
    refine store_row s9.o1 (v := .slice a9 x.vs.length c9) rfl (i := 7) (by decide) (by rfl) fun H10 o10 u10 => ?_
    have o10 : OwnRow H10 29 1 (some ⟨b1, 0, none⟩) 8 8 ({ x with ak := ak, ck := ck, ap := ap, cp := cp, aw := aw, cw := cw, vs := ys, av := a9, cv := c9 } : MsgA).cells := by
      rw [← hyl] at o10
      exact o10
    have s10 := s9.go (Upd.refl [] _) o10 u10
    (repeat first | refine HReg.step ?_ | refine HCode.step ?_)
    refine HLoadN_row o10.rows rfl ?_
    (repeat first | refine HReg.step ?_ | refine HCode.step ?_)
    refine store_msg (x := { x with ak := ak, ck := ck, ap := ap, cp := cp, aw := aw, cw := cw, vs := ys, av := a9, cv := c9 }) s10.o2 rfl fun H11 o11 u11 => ?_
    (repeat first | refine HReg.step ?_ | refine HCode.step ?_)
    refine HLoadN_row o11.rows rfl ?_
    have uH : Upd [] H H11 := by
      have h10 : Upd [] H H10 := Upd.drop u02 s10.u (fun q hq => by rw [List.mem_singleton.1 hq]; exact hb1)
      exact Upd.drop h10 u11 (fun q hq => by rw [List.mem_singleton.1 hq]; exact n2)
    have fin : ∀ {B : Heap} {e : TypeId} {size n c : Nat} {a : Option Addr} {xs : List Value}, 52 ≠ e → 29 ≠ e → NewR B H7 e size a n c xs → OwnRow H11 e size a n c xs := fun he he' r => by
      have r8 := r.own.upd u8_ (Off.nil _)
      have r9 := r8.upd u9 (o8.offT r8 he)
      have r10 := r9.upd u10 (s9.o1.offT r9 he')
      exact r10.upd u11 (s10.o2.offT r10 he')
    have fk := fin (by decide) (by decide) k7
    have fp := fin (by decide) (by decide) p7
    have fw := fin (by decide) (by decide) w7
    have fv : OwnRow H11 52 4 a9 (x.vs.length + 1) c9 (versV ys ++ versV [⟨⟨spareS, 0, [], []⟩, none, 0⟩]) := by
      have r10 := o9.upd u10 (s9.o1.offT o9 (by decide))
      exact r10.upd u11 (s10.o2.offT r10 (by decide))
    have fvk : ∀ y ∈ ys, OwnRow H11 9 1 y.a (y.v.ks.length + 1) y.c (txts (y.v.ks ++ [spareS])) := fun y hy => fin (by decide) (by decide) (hys y hy)
    rw [← versV_append] at fv
    refine hk _ H11 ?_ ⟨fp.rows, fk.rows, fw.rows, fv.rows, fun v hv => ⟨(fvk v hv).rows, (fvk v hv).le⟩, fp.le, fk.le, fw.le, ?_⟩ ⟨?_, ?_, ?_, ?_, fun v hv => ?_, hnp, hnk, hx.nw, ?_, fun v hv => ?_⟩ uH
    · show Msg.mk _ _ _ _ _ _ _ (ys.map VerA.v) = _
      rw [hym]; rfl
    · show ys.length + 1 ≤ c9
      rw [hyl]; exact fv.le
    · have := fp.rows.take (x.ps.length * 2)
      rw [pairsV_take, List.take_append_of_le_length (Nat.le_refl _), List.take_of_length_le (Nat.le_refl _)] at this
      exact this
    · have := fk.rows.take x.ks.length
      rw [← txts_take, List.take_append_of_le_length (Nat.le_refl _), List.take_of_length_le (Nat.le_refl _)] at this
      exact this
    · have := fw.rows.take (x.ws.length * 2)
      rw [wantsV_append, List.take_append_of_le_length (by rw [wantsV_length]; exact Nat.le_refl _), List.take_of_length_le (by rw [wantsV_length]; exact Nat.le_refl _)] at this
      exact this
    · have := fv.rows.take (ys.length * 4)
      rw [versV_append, List.take_append_of_le_length (by rw [versV_length]; exact Nat.le_refl _), List.take_of_length_le (by rw [versV_length]; exact Nat.le_refl _)] at this
      exact this
    · have := (fvk v hv).rows.take v.v.ks.length
      rw [← txts_take, List.take_append_of_le_length (Nat.le_refl _), List.take_of_length_le (Nat.le_refl _)] at this
      exact this
    · show ys.length ≤ _
      rw [hyl]; exact hx.nv
    · have h1 : v.v ∈ ys.map VerA.v := List.mem_map_of_mem hv
      rw [hym] at h1
      obtain ⟨w, hw, e⟩ := List.mem_map.1 h1
      rw [← e]; exact hnvk w hw
end
end Go.Proofs.Ytlgncabjphokjaa
