import Derived.Test.YtefmplilhbbiaaaN17
namespace Go.Proofs.Ytefmplilhbbiaaa
open Go Hv
set_option linter.unusedVariables false
set_option maxRecDepth 10000
set_option maxHeartbeats 8000000
theorem alv_len : ∀ (k : Nat) (bs : List Opr) (gs : List Bool), (alv k bs gs).length ≤ bs.length
  | k, [], gs => by simp [alv]
  | k, _ :: _, [] => by simp [alv]
  | k, x :: bs, g :: gs => by
    have := alv_len (k + 1) bs gs
    cases g
    · show (alv (k + 1) bs gs).length + 1 ≤ bs.length + 1; omega
    · show (alv (k + 1) bs gs).length ≤ bs.length + 1; omega
structure BkSt (H1 H : Heap) (g : Nat) (bo go : Option Addr) (bc gc : Nat) (bk : List Opr) (gone : List Bool) : Prop where
  ex : ∃ (a : Option Addr) (n cap : Nat) (fs : List Fr), NetAt 61 33 H1 H g 3 2 (bk.length : Int) a n cap fs ∧ n = (alv 0 bk gone).length ∧ OwnRow H 52 5 bo bk.length bc (orow bk) ∧ OwnRow H 4 1 go bk.length gc (bools gone) ∧ gone.length = bk.length ∧ All2 FrBook fs (alv 0 bk gone) ∧ All2 (Sle 5 H) (fs.map Fr.v) ((alv 0 bk gone).map fun x => x.2.ys) ∧
    (∀ b ∈ bk, Sle 5 H (.slice b.ab b.nb b.cb) b.ys ∧ b.ys.length ≤ 140737488351232) ∧ (∀ p, bo = some p → H1 p.block = none) ∧ (∀ p, go = some p → H1 p.block = none)
structure BkInv (ns : Nat) (H1 : Heap) (g : Nat) (m : Nat) (vs : List Value) (H' : Heap) : Prop where
  ex : ∃ (i : Nat) (bo go : Option Addr) (bc gc : Nat) (bk : List Opr) (gone : List Bool), vs = [.slice bo bk.length bc, .slice go bk.length gc, .int .i64 ((alv 0 bk gone).length : Int), .int .i64 (i : Int)] ∧ m + i = ns ∧ bk.length ≤ i ∧ BkSt H1 H' g bo go bc gc bk gone
structure FtJ (H0 : Heap) (vs : List Value) (H' : Heap) : Prop where
  ex : ∃ fr to : Int, vs = [.int .i64 fr, .int .i64 to] ∧ can 3 2 fr to ∧ H0 = H'
theorem net_row {T F e : TypeId} {H1 H H' : Heap} {g : Nat} {P C L : Int} {a b : Option Addr} {n cap size m c : Nat} {fs : List Fr} {xs : List Value} (N : NetAt T F H1 H g P C L a n cap fs) (r : OwnRow H e size b m c xs) (h1 : e ≠ T) (h2 : e ≠ F) (hf : ∀ p, b = some p → H1 p.block = none) (u : Upd (blk b) H H') : NetAt T F H1 H' g P C L a n cap fs :=
  N.upd u (fun hb => r.offT N.obj h1 _ rfl hb) (r.offT N.row h2) fun x hx => by
    obtain ⟨p, hp, rfl⟩ := blk_of hx
    exact hf p hp
theorem sle_row {e : TypeId} {H H' : Heap} {b : Option Addr} {m c size : Nat} {xs : List Value} {v : Value} {l : List UInt8} (s : Sle 5 H v l) (r : OwnRow H e size b m c xs) (h : e ≠ 5) (u : Upd (blk b) H H') : Sle 5 H' v l := s.upd u fun x hx hx' => by
  obtain ⟨c, f, hc⟩ := s.live hx
  exact r.notT h x hx' c f hc
theorem all_row {e : TypeId} {H H' : Heap} {b : Option Addr} {m c size : Nat} {xs vs : List Value} {ls : List (List UInt8)} (s : All2 (Sle 5 H) vs ls) (r : OwnRow H e size b m c xs) (h : e ≠ 5) (u : Upd (blk b) H H') : All2 (Sle 5 H') vs ls := s.mono fun v l x => sle_row x r h u
structure PlcJ (n : Nat) (H0 : Heap) (vs : List Value) (H' : Heap) : Prop where
  ex : ∃ p : Nat, vs = [.int .i64 (p : Int)] ∧ (0 < n → p < n) ∧ H0 = H'
structure AtInv (p : Nat) (bk : List Opr) (gone : List Bool) (H0 : Heap) (m : Nat) (vs : List Value) (H' : Heap) : Prop where
  ex : ∃ k : Nat, vs = [.int .i64 (atOf p (alv 0 (bk.take k) (gone.take k))), .int .i64 ((alv 0 (bk.take k) (gone.take k)).length : Int), .int .i64 (k : Int)] ∧ m + k = bk.length ∧ H0 = H'
theorem map_erase {α β : Type} (f : α → β) : ∀ (l : List α) (i : Nat), (l.map f).eraseIdx i = (l.eraseIdx i).map f
  | [], i => rfl
  | x :: l, 0 => rfl
  | x :: l, i + 1 => by show f x :: (l.map f).eraseIdx i = f x :: (l.eraseIdx i).map f; rw [map_erase f l i]
theorem bools_set (l : List Bool) (i : Nat) (b : Bool) : bools (l.set i b) = (bools l).set i (.bool b) := by simp [bools]
theorem bk_kill {H1 H' H'' : Heap} {g p q : Nat} {bo go : Option Addr} {bc gc n cap : Nat} {a : Option Addr} {bk : List Opr} {gone : List Bool} {fs : List Fr} {b : Opr} (N : NetAt 61 33 H1 H' g 3 2 (bk.length : Int) a (n - 1) cap (fs.eraseIdx p)) (hn : n = (alv 0 bk gone).length) (rb : OwnRow H' 52 5 bo bk.length bc (orow bk)) (rg : OwnRow H' 4 1 go bk.length gc (bools gone)) (lg : gone.length = bk.length) (FB : All2 FrBook fs (alv 0 bk gone)) (SB : All2 (Sle 5 H') (fs.map Fr.v) ((alv 0 bk gone).map fun x => x.2.ys)) (OB : ∀ b ∈ bk, Sle 5 H' (.slice b.ab b.nb b.cb) b.ys ∧ b.ys.length ≤ 140737488351232) (fbo : ∀ p, bo = some p → H1 p.block = none) (fgo : ∀ p, go = some p → H1 p.block = none) (hx : (alv 0 bk gone)[p]? = some (q, b)) (rg' : OwnRow H'' 4 1 go bk.length gc ((bools gone).set q (.bool true))) (u : Upd (blk go) H' H'') :
    BkSt H1 H'' g bo go bc gc bk (gone.set q true) ∧ (alv 0 bk (gone.set q true)).length = n - 1 ∧ NetAt 61 33 H1 H'' g 3 2 (bk.length : Int) a (n - 1) cap (fs.eraseIdx p) := by
  obtain ⟨j, hj, h2, h3, h4⟩ := alv_kill hx
  have hjq : j = q := by omega
  subst hjq
  have hp := (List.getElem?_eq_some_iff.1 hx).1
  have Nz := net_row N rg (by decide) (by decide) fgo u
  have hl : (alv 0 bk (gone.set j true)).length = n - 1 := by rw [h4, List.length_eraseIdx_of_lt hp, hn]
  refine ⟨BkSt.mk ⟨a, n - 1, cap, fs.eraseIdx p, Nz, hl.symm, rb.upd u (rg.offT rb (by decide)), by rw [bools_set]; exact rg', by simp [lg], ?_, ?_, fun b hb => ⟨sle_row (OB b hb).1 rg (by decide) u, (OB b hb).2⟩, fbo, fgo⟩, hl, Nz⟩
  · rw [h4]; exact all2_erase FB p
  · rw [h4, ← map_erase, ← map_erase]
    exact all2_erase (all_row SB rg (by decide) u) p
structure EndInv (H1 : Heap) (g : Nat) (bo go : Option Addr) (bc gc : Nat) (bk : List Opr) (gone : List Bool) (m : Nat) (vs : List Value) (H' : Heap) : Prop where
  ex : ∃ (k : Nat) (a : Option Addr) (n cap : Nat) (fs : List Fr), vs = [.int .i64 (k : Int)] ∧ m + k = bk.length ∧ NetAt 61 33 H1 H' g 3 2 (bk.length : Int) a n cap fs ∧ n = (alv k (bk.drop k) (gone.drop k)).length ∧ OwnRow H' 52 5 bo bk.length bc (orow bk) ∧ OwnRow H' 4 1 go bk.length gc (bools gone) ∧ All2 FrBook fs (alv k (bk.drop k) (gone.drop k)) ∧ All2 (Sle 5 H') (fs.map Fr.v) ((alv k (bk.drop k) (gone.drop k)).map fun x => x.2.ys) ∧ (∀ b ∈ bk, Sle 5 H' (.slice b.ab b.nb b.cb) b.ys ∧ b.ys.length ≤ 140737488351232)
theorem netBooks_t {sa : Option Addr} {ns cs : Nat} {ops : List Opr} {H : Heap} (h1 : RowAt H sa (orow ops)) (l1 : ops.length = ns) (b1 : ns ≤ 2513169434843) (hok : ∀ o ∈ ops, OprOk H o) :
    HCalls Try.prog 6 [.slice sa ns cs] H (fun v H' => v = .bool true ∧ Upd [] H H') := by
  refine hcalls (fn := Try.f6) [(46, [(0, 0), (1, 0), (2, 0), (3, 0), (4, 0), (5, 0), (6, 0), (7, 0), (8, 0), (9, 0), (10, 0), (11, 0), (12, 0), (13, 0), (14, 0), (15, 0), (16, 0), (17, 0), (18, 0), (19, 0), (20, 0), (21, 0), (22, 0), (23, 0), (24, 0), (25, 0), (26, 0), (27, 0), (28, 0), (29, 0), (30, 0), (31, 0), (32, 0), (33, 0), (34, 0), (35, 0), (36, 0), (37, 0), (38, 0), (39, 0), (40, 0), (41, 0), (42, 0), (43, 0), (44, 0), (45, 0), (46, 0)]), (66, [(0, 0), (1, 0), (2, 0), (3, 0), (4, 0), (5, 0), (6, 0), (7, 0), (8, 0), (9, 0), (10, 0), (11, 0), (12, 0), (13, 0), (14, 0), (15, 0), (16, 0), (17, 0), (18, 0), (19, 0)])] mixed Try.func6 rfl rfl (by decide +kernel) ?_
  (repeat first | refine HReg.step ?_ | refine HCode.step ?_)
  refine HCall.mk ⟨Try.f7, Try.func7, by rfl, by rfl⟩ ?_
  refine alive_t fun H1 u1 => ?_
  have hok1 : ∀ o ∈ ops, OprOk H1 o := fun o ho => ⟨(hok o ho).1.upd u1 (.inr (Off.nil _)), (hok o ho).2⟩
  have h11 := h1.upd u1 (.inr (Off.nil _))
  (repeat first | refine HReg.step ?_ | refine HCode.step ?_)
  refine HCall.mk ⟨Try.f8, Try.func8, by rfl, by rfl⟩ ?_
  refine new_t (fun _ g H2 N2 u2 => ?_) (fun h => absurd ⟨by decide, by decide, by decide, by decide⟩ h)
  (repeat first | refine HReg.step ?_ | refine HCode.step ?_)
  refine hif (fun h => absurd rfl (not_eqB_true.1 h)) (fun _ => ?_)
  (repeat first | refine HReg.step ?_ | refine HCode.step ?_)
  refine hloopC [2, 5, 6, 7, 8, 9, 10, 11, 12, 13, 14, 15, 16, 17, 18, 19, 20, 21, 22, 23, 39, 40, 41, 42, 43, 44, 45, 46, 47, 48, 49, 50, 51, 52, 53, 54, 55, 56, 57, 58, 59, 60, 61, 62, 63, 64, 65, 66, 67, 68, 69, 70, 71, 72, 73, 74, 75, 76, 77, 78, 79, 80, 81, 82, 83, 84, 85, 86, 87, 88, 89, 90, 91, 92, 93, 94, 95, 96, 97, 98, 99, 100, 101, 102, 103, 104, 105, 106, 107, 108, 109, 110, 111, 112, 113, 114, 115, 116, 117, 118, 119, 120, 121, 122, 123, 124, 125, 126, 127, 128, 129, 130, 131, 132, 133, 134, 135, 136, 137, 138, 139, 140, 141, 142, 143, 144, 145, 146, 147, 148, 149, 150, 151, 152, 153, 154, 155, 156, 157, 158, 159, 160, 161, 162, 163, 164, 165, 166, 167, 168, 169, 170, 171, 172, 173, 174, 175, 176, 177, 178, 179, 180, 181, 182, 183, 184, 185, 186, 187, 188, 189, 190, 191, 192, 193, 194, 195, 196, 197, 198, 199, 200, 201, 202, 203, 204, 205, 206, 207, 208, 209, 210, 211, 212, 213, 214, 215, 216, 217, 218, 219, 220, 221, 222, 223, 224, 225, 226, 227, 228, 229, 230, 231, 232, 233, 234, 235, 236, 237, 238, 239, 240, 241] [5, 6, 7, 8] (BkInv ns H1 g) rfl (by repeat' first | exact Resp.retD | exact Resp1.valuesK | refine Resp.blockD ?_ | refine Resp.thenD ?_ ?_ | refine Resp.hcode ?_) ?_ ?_
  · exact ⟨ns, BkInv.mk ⟨0, none, none, 0, 0, [], [], rfl, rfl, Nat.le_refl _, BkSt.mk ⟨none, 0, 0, [], N2, rfl, OwnRow.nil _ _ _, OwnRow.nil _ _ _, rfl, trivial, trivial, fun b hb => by simp at hb, fun p hp => (by cases hp), fun p hp => (by cases hp)⟩⟩⟩
  rintro m vs f H4 ⟨i, bo, go, bc, gc, bk, gone, rfl, hmi, hbi, ⟨a, n, cap, fs, N, hn, rb, rg, lg, FB, SB, OB, fbo, fgo⟩⟩
  have hal := alv_len 0 bk gone
  have hln := N.len
  have z00 : eqB 0 0 = true := eqB_true.2 rfl
  have z21 : eqB 210 0 = false := eqB_false.2 (by decide)
  have zm1 : ltB (-1) 0 = true := ltB_true.2 (by decide)
  (repeat first | refine HReg.step ?_ | refine HCode.step ?_)
  refine hif (fun h => ?_) (fun h => ?_)
  · have h := ltB_true.1 h
    obtain ⟨o, ho⟩ : ∃ o, ops[i]? = some o := ⟨ops[i]'(by omega), by simp⟩
    obtain ⟨hy, hyl, hyb⟩ := hok1 o (List.mem_of_getElem? ho)
    obtain ⟨bs_, off, rfl⟩ : ∃ b off, sa = some ⟨b, off, none⟩ := by
      obtain ⟨b, off, hh, _⟩ := h11 _ _ (orow_get (k := 0) ho rfl)
      exact ⟨b, off, hh⟩
    have r4 := h11.upd N.base (.inr (Off.nil _))
    have hwi : wr .i64 ((i : Int) + 1) = ((i + 1 : Nat) : Int) := by rw [wr_i64 (by omega) (by omega)]; omega
    (repeat first | refine HReg.step ?_ | refine HCode.step ?_)
    refine HReq.mk ⟨by omega, by omega⟩ ?_
    (repeat first | refine HReg.step ?_ | refine HCode.step ?_)
    refine HLoadN.mk ⟨ocells o, fun Hx hx j v hv => ?_, rfl, ?_⟩
    · rw [List.mem_singleton.1 hx]
      exact or_get r4 ho hv
    (repeat first | refine HReg.step ?_ | refine HCode.step ?_)
    refine HNew.mk fun b9 hb9 => ?_
    have u9 : Upd [] H4 (H4.upd b9 (.cells [Value.int .i64 0, .int .i64 0, .int .i64 0, .int .i64 0, .slice none 0 0].toArray 52)) := Upd.new hb9 _
    have o9 : OwnRow (H4.upd b9 (.cells [Value.int .i64 0, .int .i64 0, .int .i64 0, .int .i64 0, .slice none 0 0].toArray 52)) 52 1 (some ⟨b9, 0, none⟩) 5 5 [Value.int .i64 0, .int .i64 0, .int .i64 0, .int .i64 0, .slice none 0 0] := OwnRow.lit (upd_same _ _ _) rfl
    (repeat first | refine HReg.step ?_ | refine HCode.step ?_)
    refine storeN_own (i := 0) (ocells o) o9 rfl (plain_ocells o) fun H5 p9 v9 => ?_
    have q9 : OwnRow H5 52 1 (some ⟨b9, 0, none⟩) 5 5 (ocells o) := p9
    have u45 : Upd [] H4 H5 := Upd.drop u9 v9 fun z hz => by rw [List.mem_singleton.1 hz]; exact hb9
    have N5 := N.upd0 u45
    have rb5 := rb.upd u45 (Off.nil _)
    have rg5 := rg.upd u45 (Off.nil _)
    have SB5 := all_upd SB u45
    have OB5 : ∀ b ∈ bk, Sle 5 H5 (.slice b.ab b.nb b.cb) b.ys ∧ b.ys.length ≤ 140737488351232 := fun b hb => ⟨(OB b hb).1.upd u45 (by simp), (OB b hb).2⟩
    (repeat first | refine HReg.step ?_ | refine HCode.step ?_)
    refine HLoad.one (v := .int .i64 o.A) (by exact q9.rows.get (i := 2) rfl) ?_
    obtain ⟨P0, hP0, hP1⟩ := and_mask o.A 65535 (by decide)
    have hP0 : bitsS .and .i64 o.A 65535 = (P0 : Int) := hP0
    repeat refine HReg.step ?_
    refine hcutC [10, 52, 53, 54, 55, 56] [10] (PlcJ (alv 0 bk gone).length H5) rfl (by repeat' first | exact Resp.retD | exact Resp1.valuesK | refine Resp.blockD ?_ | refine Resp.thenD ?_ ?_ | refine Resp.hcode ?_) ?_ ?_
    · (repeat first | refine HReg.step ?_ | refine HCode.step ?_)
      rw [hP0]
      refine hif (fun h2 => ?_) (fun h2 => ?_)
      · have h2 := ltB_true.1 h2
        (repeat first | refine HReg.step ?_ | refine HCode.step ?_)
        refine HReq.mk (by omega) ?_
        (repeat first | refine HReg.step ?_ | refine HCode.step ?_)
        have hr : (P0 : Int).tmod ((alv 0 bk gone).length : Int) = ((P0 % (alv 0 bk gone).length : Nat) : Int) := rfl
        rw [hr]
        exact PlcJ.mk ⟨_, rfl, fun hh => Nat.mod_lt _ hh, rfl⟩
      · have h2 := ltB_false.1 h2
        (repeat first | refine HReg.step ?_ | refine HCode.step ?_)
        exact PlcJ.mk ⟨P0, rfl, fun hh => by omega, rfl⟩
    rintro _ f6 _ ⟨p, rfl, hp, rfl⟩
    (repeat first | refine HReg.step ?_ | refine HCode.step ?_)
    refine hloopC [11, 12, 13, 57, 58, 59, 60, 61, 62, 63, 64, 65, 66, 67, 68, 69, 70, 71, 72, 73] [11, 12, 13] (AtInv p bk gone H5) rfl (by repeat' first | exact Resp.retD | exact Resp1.valuesK | refine Resp.blockD ?_ | refine Resp.thenD ?_ ?_ | refine Resp.hcode ?_) ?_ ?_
    · exact ⟨bk.length, AtInv.mk ⟨0, rfl, rfl, rfl⟩⟩
    rintro m7 vs7 f7 _ ⟨k, rfl, hmk, rfl⟩
    (repeat first | refine HReg.step ?_ | refine HCode.step ?_)
    refine hif (fun h2 => ?_) (fun h2 => ?_)
    · have h2 := ltB_true.1 h2
      obtain ⟨b, hb⟩ : ∃ o, bk[k]? = some o := ⟨bk[k]'(by omega), by simp⟩
      obtain ⟨gn, hg⟩ : ∃ o, gone[k]? = some o := ⟨gone[k]'(by omega), by simp⟩
      obtain ⟨gg, rfl⟩ := rg5.addr (by omega)
      have htk := alv_take hb hg
      have hwk : wr .i64 ((k : Int) + 1) = ((k + 1 : Nat) : Int) := by rw [wr_i64 (by omega) (by omega)]; omega
      have hlk := alv_len 0 (bk.take k) (gone.take k)
      rw [List.length_take] at hlk
      (repeat first | refine HReg.step ?_ | refine HCode.step ?_)
      refine HReq.mk ⟨by omega, by omega⟩ ?_
      (repeat first | refine HReg.step ?_ | refine HCode.step ?_)
      refine HLoad.one (v := .bool gn) (by exact rg5.rows.get (bools_get hg)) ?_
      cases gn
      · (repeat first | refine HReg.step ?_ | refine HCode.step ?_)
        refine hif (fun h3 => ?_) (fun h3 => ?_)
        · have h3 := eqB_true.1 h3
          (repeat first | refine HReg.step ?_ | refine HCode.step ?_)
          have hws : wr .i64 (((alv 0 (bk.take k) (gone.take k)).length : Int) + 1) = (((alv 0 (bk.take (k + 1)) (gone.take (k + 1))).length : Nat) : Int) := by
            rw [htk, List.length_append, wr_i64 (by omega) (by omega)]; rfl
          have hat : (k : Int) = atOf p (alv 0 (bk.take (k + 1)) (gone.take (k + 1))) := by
            rw [htk]
            show (k : Int) = atOf p (alv 0 (bk.take k) (gone.take k) ++ [(k, b)])
            rw [atOf_snoc, if_pos (by omega)]
          rw [hws, hwk]
          refine Exists.intro (m7 - 1) ?_
          refine And.intro (by omega) ?_
          exact AtInv.mk ⟨k + 1, by rw [← hat], by omega, rfl⟩
        · have h3 := eqB_false.1 h3
          (repeat first | refine HReg.step ?_ | refine HCode.step ?_)
          have hws : wr .i64 (((alv 0 (bk.take k) (gone.take k)).length : Int) + 1) = (((alv 0 (bk.take (k + 1)) (gone.take (k + 1))).length : Nat) : Int) := by
            rw [htk, List.length_append, wr_i64 (by omega) (by omega)]; rfl
          have hat : atOf p (alv 0 (bk.take k) (gone.take k)) = atOf p (alv 0 (bk.take (k + 1)) (gone.take (k + 1))) := by
            rw [htk]
            show _ = atOf p (alv 0 (bk.take k) (gone.take k) ++ [(k, b)])
            rw [atOf_snoc, if_neg (by omega)]
          rw [hws, hwk]
          refine Exists.intro (m7 - 1) ?_
          refine And.intro (by omega) ?_
          exact AtInv.mk ⟨k + 1, by rw [← hat], by omega, rfl⟩
      · (repeat first | refine HReg.step ?_ | refine HCode.step ?_)
        rw [hwk]
        refine Exists.intro (m7 - 1) ?_
        refine And.intro (by omega) ?_
        refine AtInv.mk ⟨k + 1, ?_, by omega, rfl⟩
        rw [htk]; simp
    have h2 := ltB_false.1 h2
    have hk : k = bk.length := by omega
    subst hk
    rw [List.take_length, List.take_of_length_le (by omega : gone.length ≤ bk.length)]
    clear h2 hmk
    have bk_same : ∀ {Hx : Heap}, Upd [] H5 Hx → BkSt H1 Hx g bo go bc gc bk gone := fun {Hx} u => BkSt.mk ⟨a, n, cap, fs, N5.upd0 u, hn, rb5.upd u (Off.nil _), rg5.upd u (Off.nil _), lg, FB, all_upd SB5 u, fun b hb => ⟨(OB5 b hb).1.upd u (by simp), (OB5 b hb).2⟩, fbo, fgo⟩
    have hleft0 : (n : Int) = ((alv 0 bk gone).length : Int) := by rw [hn]
    (repeat first | refine HReg.step ?_ | refine HCode.step ?_)
    refine HLoad.one (v := .int .i64 o.kind) (by exact q9.rows.get (i := 0) rfl) ?_
    (repeat first | refine HReg.step ?_ | refine HCode.step ?_)
    refine hif (fun e1 => ?_) (fun e1 => ?_)
    · obtain ⟨A1, hA1, hA1'⟩ := and_mask o.A 1 (by decide)
      have hA1 : bitsS .and .i64 o.A 1 = (A1 : Int) := hA1
      obtain ⟨A2, hA2, hA2'⟩ := and_mask o.A 2 (by decide)
      have hA2 : bitsS .and .i64 o.A 2 = (A2 : Int) := hA2
      obtain ⟨B1, hB1, hB1'⟩ := and_mask o.B 65535 (by decide)
      have hB1 : bitsS .and .i64 o.B 65535 = (B1 : Int) := hB1
      have hfr : wr .i64 (-1 - (A1 : Int)) = -1 - (A1 : Int) := wr_i64 (by omega) (by omega)
      have htt : (B1 : Int).tmod 3 = ((B1 % 3 : Nat) : Int) := rfl
      have htl : B1 % 3 < 3 := Nat.mod_lt _ (by decide)
      (repeat first | refine HReg.step ?_ | refine HCode.step ?_)
      refine HLoad.one (v := .int .i64 o.A) (by exact q9.rows.get (i := 2) rfl) ?_
      (repeat first | refine HReg.step ?_ | refine HCode.step ?_)
      rw [hA1, hfr]
      refine HLoad.one (v := .int .i64 o.B) (by exact q9.rows.get (i := 3) rfl) ?_
      (repeat first | refine HReg.step ?_ | refine HCode.step ?_)
      rw [hB1]
      refine HReq.mk (by decide) ?_
      repeat refine HReg.step ?_
      refine hcutC [14, 15, 16, 86, 87, 88, 89, 90, 91, 92] [14, 15] (FtJ H5) rfl (by repeat' first | exact Resp.retD | exact Resp1.valuesK | refine Resp.blockD ?_ | refine Resp.thenD ?_ ?_ | refine Resp.hcode ?_) ?_ ?_
      · (repeat first | refine HReg.step ?_ | refine HCode.step ?_)
        refine HLoad.one (v := .int .i64 o.A) (by exact q9.rows.get (i := 2) rfl) ?_
        (repeat first | refine HReg.step ?_ | refine HCode.step ?_)
        rw [htt]
        refine hif (fun h3 => ?_) (fun h3 => ?_)
        · (repeat first | refine HReg.step ?_ | refine HCode.step ?_)
          exact FtJ.mk ⟨_, _, rfl, .inl ⟨by omega, by omega, by omega, by omega⟩, rfl⟩
        · (repeat first | refine HReg.step ?_ | refine HCode.step ?_)
          exact FtJ.mk ⟨_, _, rfl, .inr ⟨by omega, by omega, by omega, by omega⟩, rfl⟩
      rintro _ f8 _ ⟨fr, to, rfl, hcan, rfl⟩
      (repeat first | refine HReg.step ?_ | refine HCode.step ?_)
      refine HLoad.one (v := .slice o.ab o.nb o.cb) (by exact q9.rows.get (i := 4) rfl) ?_
      (repeat first | refine HReg.step ?_ | refine HCode.step ?_)
      refine HCall.mk ⟨Try.f10, Try.func10, by rfl, by rfl⟩ ?_
      refine own_t (hy.upd N5.base (.inr (Off.nil _))) hyl (by omega) fun a8 c8 H8 m8 => ?_
      have N8 := N5.upd0 m8.upd
      (repeat first | refine HReg.step ?_ | refine HCode.step ?_)
      refine HCall.mk ⟨Try.f9, Try.func9, by rfl, by rfl⟩ ?_
      refine send_t N8 ⟨by decide, by decide⟩ ⟨by omega, by omega⟩ (by omega) (isSl_of SB5) m8.own.rows (N8.obj.offT m8.own (by decide)) hyl (by omega) (fun _ H9 l9 => ?_) (fun h => absurd hcan h)
      obtain ⟨v9, a9, cap9, N9, s9, w9, u9, f9⟩ := l9
      have SB8 := all_upd SB5 m8.upd
      have SB9 := all_net SB8 N8 (by decide) (by decide) u9
      have q98 := (q9.upd m8.upd (Off.nil _)).upd u9 (net_off N8 (q9.upd m8.upd (Off.nil _)) (by decide) (by decide))
      have rb9 := (rb5.upd m8.upd (Off.nil _)).upd u9 (net_off N8 (rb5.upd m8.upd (Off.nil _)) (by decide) (by decide))
      have rg9 := (rg5.upd m8.upd (Off.nil _)).upd u9 (net_off N8 (rg5.upd m8.upd (Off.nil _)) (by decide) (by decide))
      have OB9 : ∀ b ∈ bk, Sle 5 H9 (.slice b.ab b.nb b.cb) b.ys := fun b hb => sle_net ((OB5 b hb).1.upd m8.upd (by simp)) N8 (by decide) (by decide) u9
      have hwl : wr .i64 ((bk.length : Int) + 1) = (bk.length : Int) + 1 := wr_i64 (by omega) (by omega)
      (repeat first | refine HReg.step ?_ | refine HCode.step ?_)
      refine hif (fun h => absurd rfl (not_eqB_true.1 h)) (fun _ => ?_)
      (repeat first | refine HReg.step ?_ | refine HCode.step ?_)
      refine hif (fun h => absurd hwl.symm (not_eqB_true.1 h)) (fun _ => ?_)
      (repeat first | refine HReg.step ?_ | refine HCode.step ?_)
      refine HLoad.one (v := .slice o.ab o.nb o.cb) (by exact q98.rows.get (i := 4) rfl) ?_
      (repeat first | refine HReg.step ?_ | refine HCode.step ?_)
      refine HCall.mk ⟨Try.f10, Try.func10, by rfl, by rfl⟩ ?_
      refine own_t (hy.upd N9.base (.inr (Off.nil _))) hyl (by omega) fun a11 c11 H11 m11 => ?_
      (repeat first | refine HReg.step ?_ | refine HCode.step ?_)
      refine HReq.mk (by decide) ?_
      (repeat first | refine HReg.step ?_ | refine HCode.step ?_)
      refine HNew.mk fun b12 hb12 => ?_
      have u12 : Upd [] H11 (H11.upd b12 (.cells (ocells ⟨0, 0, fr, to, a11, o.nb, c11, o.ys⟩).toArray 52)) := Upd.new hb12 _
      have u912 := m11.upd.trans u12
      have rb12 := rb9.upd u912 (Off.nil _)
      (repeat first | refine HReg.step ?_ | refine HCode.step ?_)
      refine append_rows (ie := Try.t52) (z := .agg #[.int .i64 0, .int .i64 0, .int .i64 0, .int .i64 0, .slice none 0 0]) (xs := orow bk) (ys := ocells ⟨0, 0, fr, to, a11, o.nb, c11, o.ys⟩) Try.underlying45 rfl rfl rfl (by decide) rb12 (RowAt.of_cells (upd_same _ _ _)) rfl (plain_ocells _) ?_ (by omega) fun a13 c13 H13 r13 u13 f13 => ?_
      · show (bk.length + 1) * 56 ≤ _; omega
      have N13 := net_row (N9.upd0 u912) rb12 (by decide) (by decide) fbo u13
      have SB13 := all_row (all_upd SB9 u912) rb12 (by decide) u13
      have s13 := sle_row (s9.upd u912 (by simp)) rb12 (by decide) u13
      have OB13 : ∀ b ∈ bk, Sle 5 H13 (.slice b.ab b.nb b.cb) b.ys := fun b hb => sle_row ((OB9 b hb).upd u912 (by simp)) rb12 (by decide) u13
      have t13 : Sle 5 H13 (.slice a11 o.nb c11) o.ys := sle_row ((m11.sle hyl).upd u12 (by simp)) rb12 (by decide) u13
      have rg13 := (rg9.upd u912 (Off.nil _)).upd u13 (rb12.offT (rg9.upd u912 (Off.nil _)) (by decide))
      have fbo13 : ∀ p, a13 = some p → H1 p.block = none := fun p hp => by
        rcases f13 p hp with h | h
        · exact fbo p h
        · exact Upd.none (S := []) (N9.upd0 u912).base (by simp) h
      (repeat first | refine HReg.step ?_ | refine HCode.step ?_)
      refine HReq.mk (by decide) ?_
      (repeat first | refine HReg.step ?_ | refine HCode.step ?_)
      refine HNew.mk fun b14 hb14 => ?_
      have u14 : Upd [] H13 (H13.upd b14 (.cells [Value.bool false].toArray 4)) := Upd.new hb14 _
      have rg14 := rg13.upd u14 (Off.nil _)
      (repeat first | refine HReg.step ?_ | refine HCode.step ?_)
      refine append_rows (ie := Try.t4) (z := .bool false) (xs := bools gone) (ys := [.bool false]) Try.underlying58 rfl rfl rfl (by decide) rg14 (RowAt.of_cells (upd_same _ _ _)) rfl (fun v hv => by rw [List.mem_singleton.1 hv]; rfl) ?_ (by omega) fun a15 c15 H15 r15 u15 f15 => ?_
      · show (bk.length + 1) * 1 ≤ _; omega
      have Nz := net_row (N13.upd0 u14) rg14 (by decide) (by decide) fgo u15
      have SBz := all_row (all_upd SB13 u14) rg14 (by decide) u15
      have sz := sle_row (s13.upd u14 (by simp)) rg14 (by decide) u15
      have OBz : ∀ b ∈ bk, Sle 5 H15 (.slice b.ab b.nb b.cb) b.ys := fun b hb => sle_row ((OB13 b hb).upd u14 (by simp)) rg14 (by decide) u15
      have tz := sle_row (t13.upd u14 (by simp)) rg14 (by decide) u15
      have rbz := (r13.upd u14 (Off.nil _)).upd u15 (rg14.offT (r13.upd u14 (Off.nil _)) (by decide))
      have fgoz : ∀ p, a15 = some p → H1 p.block = none := fun p hp => by
        rcases f15 p hp with h | h
        · exact fgo p h
        · exact Upd.none (S := []) (N13.upd0 u14).base (by simp) h
      have hsn : alv 0 (bk ++ [⟨0, 0, fr, to, a11, o.nb, c11, o.ys⟩]) (gone ++ [false]) = alv 0 bk gone ++ [(bk.length, ⟨0, 0, fr, to, a11, o.nb, c11, o.ys⟩)] := by
        have := alv_snoc (bs := bk) (gs := gone) 0 ⟨0, 0, fr, to, a11, o.nb, c11, o.ys⟩ false lg.symm
        rw [Nat.zero_add] at this; exact this
      have hsl : (alv 0 (bk ++ [⟨0, 0, fr, to, a11, o.nb, c11, o.ys⟩]) (gone ++ [false])).length = (alv 0 bk gone).length + 1 := by rw [hsn]; simp
      have hwf : wr .i64 (((alv 0 bk gone).length : Int) + 1) = (((alv 0 (bk ++ [⟨0, 0, fr, to, a11, o.nb, c11, o.ys⟩]) (gone ++ [false])).length : Nat) : Int) := by rw [hsl, wr_i64 (by omega) (by omega)]; omega
      have hleft : ((n + 1 : Nat) : Int) = wr .i64 (((alv 0 bk gone).length : Int) + 1) := by rw [hwf, hsl, hn]
      (repeat first | refine HReg.step ?_ | refine HCode.step ?_)
      refine HCall.mk ⟨Try.f11, Try.func11, by rfl, by rfl⟩ ?_
      refine len_t Nz ?_
      (repeat first | refine HReg.step ?_ | refine HCode.step ?_)
      refine hif (fun h => absurd hleft (not_eqB_true.1 h)) (fun _ => ?_)
      (repeat first | refine HReg.step ?_ | refine HCode.step ?_)
      rw [hwi]
      refine Exists.intro (m - 1) ?_
      refine And.intro (by omega) ?_
      rw [hwf]
      have hbl : (bk ++ [(⟨0, 0, fr, to, a11, o.nb, c11, o.ys⟩ : Opr)]).length = bk.length + 1 := by simp
      have eB : OwnRow H15 52 5 a13 (bk.length + 1) c13 (orow (bk ++ [⟨0, 0, fr, to, a11, o.nb, c11, o.ys⟩])) := by rw [orow_append]; exact rbz
      have eG : OwnRow H15 4 1 a15 (bk.length + 1) c15 (bools (gone ++ [false])) := by
        have : bools (gone ++ [false]) = bools gone ++ [.bool false] := by simp [bools]
        rw [this]; exact r15
      have eN : NetAt 61 33 H1 H15 g 3 2 ((bk.length + 1 : Nat) : Int) a9 (n + 1) cap9 (fs ++ [⟨(bk.length : Int) + 1, fr, to, v9⟩]) := by push_cast; exact Nz
      refine BkInv.mk ⟨i + 1, a13, a15, c13, c15, bk ++ [⟨0, 0, fr, to, a11, o.nb, c11, o.ys⟩], gone ++ [false], by rw [hbl], by omega, by rw [hbl]; omega, BkSt.mk ⟨a9, n + 1, cap9, fs ++ [⟨(bk.length : Int) + 1, fr, to, v9⟩], by rw [hbl]; exact eN, by rw [hsl, hn], by rw [hbl]; exact eB, by rw [hbl]; exact eG, by simp [lg], ?_, ?_, ?_, fbo13, fgoz⟩⟩
      · rw [hsn]; exact FB.append ⟨⟨rfl, rfl, rfl⟩, trivial⟩
      · rw [hsn, List.map_append, List.map_append]; exact SBz.append ⟨sz, trivial⟩
      · intro b hb
        rcases List.mem_append.1 hb with h | h
        · exact ⟨OBz b h, (OB b h).2⟩
        · rw [List.mem_singleton.1 h]; exact ⟨tz, by show o.ys.length ≤ _; omega⟩
    (repeat first | refine HReg.step ?_ | refine HCode.step ?_)
    refine hif (fun e2 => ?_) (fun e2 => ?_)
    · (repeat first | refine HReg.step ?_ | refine HCode.step ?_)
      refine hif (fun _ => ?_) (fun e3 => absurd (e2.symm.trans e3) (by decide))
      (repeat first | refine HReg.step ?_ | refine HCode.step ?_)
      refine HLoad.one (v := .int .i64 o.kind) (by exact q9.rows.get (i := 0) rfl) ?_
      (repeat first | refine HReg.step ?_ | refine HCode.step ?_)
      refine hif (fun e3 => absurd ((eqB_true.1 e3).symm.trans (eqB_true.1 e2)) (by decide)) (fun e3 => ?_)
      (repeat first | refine HReg.step ?_ | refine HCode.step ?_)
      refine HCall.mk ⟨Try.f12, Try.func12, by rfl, by rfl⟩ ?_
      refine deliver_t N5 (isSl_of SB5) (by omega) (fun p' f H8 hpp hf N8 u8 => ?_) (fun hno H8 u8 => ?_)
      · have hpp : p' = p := by omega
        subst hpp
        obtain ⟨⟨q, b⟩, hx⟩ : ∃ x, (alv 0 bk gone)[p']? = some x := by
          have := (List.getElem?_eq_some_iff.1 hf).1
          exact ⟨(alv 0 bk gone)[p']'(by omega), by simp⟩
        obtain ⟨j, hj, hjb, hjg, _⟩ := alv_kill hx
        have hjq : j = q := by omega
        subst hjq
        have hjl := (List.getElem?_eq_some_iff.1 hjb).1
        obtain ⟨gg, rfl⟩ := rg5.addr (by omega)
        obtain ⟨gb, rfl⟩ := rb5.addr (by omega)
        obtain ⟨f1, f2, f3⟩ := All2.geti FB hf hx
        have rb8 := rb5.upd u8 (net_off N5 rb5 (by decide) (by decide))
        have rg8 := rg5.upd u8 (net_off N5 rg5 (by decide) (by decide))
        have SB8 := all_net SB5 N5 (by decide) (by decide) u8
        have OB8 : ∀ b ∈ bk, Sle 5 H8 (.slice b.ab b.nb b.cb) b.ys ∧ b.ys.length ≤ 140737488351232 := fun b hb => ⟨sle_net (OB5 b hb).1 N5 (by decide) (by decide) u8, (OB5 b hb).2⟩
        obtain ⟨c4, c5, hfv, o6⟩ : Sle 5 H8 f.v b.ys := All2.geti SB8 (i := p') (by rw [List.getElem?_map, hf]; rfl) (by rw [List.getElem?_map, hx]; rfl)
        rw [atOf_some hx]
        have hq0 : ltB ((j : Nat) : Int) 0 = false := ltB_false.2 (by omega)
        (repeat first | refine HReg.step ?_ | refine HCode.step ?_)
        refine HNew.mk fun b9 hb9 => ?_
        have u9 : Upd [] H8 (H8.upd b9 (.cells zfr.toArray 33)) := Upd.new hb9 _
        have o9 : OwnRow (H8.upd b9 (.cells zfr.toArray 33)) 33 1 (some ⟨b9, 0, none⟩) 4 4 zfr := OwnRow.lit (upd_same _ _ _) rfl
        (repeat first | refine HReg.step ?_ | refine HCode.step ?_)
        refine storeN_own (i := 0) (fcells f) o9 rfl (plain_fcells (f := f) ⟨c4, _, c5, hfv⟩) fun H10 o10 u10 => ?_
        have o10' : OwnRow H10 33 1 (some ⟨b9, 0, none⟩) 4 4 (fcells f) := o10
        have u810 : Upd [] H8 H10 := Upd.drop u9 u10 fun z hz => by rw [List.mem_singleton.1 hz]; exact hb9
        (repeat first | refine HReg.step ?_ | refine HCode.step ?_)
        refine hif (fun h => absurd h (by rw [show ltB (((j, b) : Nat × Opr).1 : Int) 0 = false from hq0, z00]; decide)) (fun _ => ?_)
        (repeat first | refine HReg.step ?_ | refine HCode.step ?_)
        refine hif (fun _ => ?_) (fun h => absurd h (by rw [z00]; decide))
        (repeat first | refine HReg.step ?_ | refine HCode.step ?_)
        refine HLoad.one (v := .int .i64 f.num) (by exact o10'.rows.get (i := 0) rfl) ?_
        have hwj : wr .i64 ((j : Int) + 1) = (j : Int) + 1 := wr_i64 (by omega) (by omega)
        (repeat first | refine HReg.step ?_ | refine HCode.step ?_)
        refine hif (fun h => absurd (f1.trans hwj.symm) (not_eqB_true.1 h)) (fun _ => ?_)
        (repeat first | refine HReg.step ?_ | refine HCode.step ?_)
        refine HLoad.one (v := .int .i64 f.frm) (by exact o10'.rows.get (i := 1) rfl) ?_
        (repeat first | refine HReg.step ?_ | refine HCode.step ?_)
        refine HReq.mk ⟨by omega, by omega⟩ ?_
        (repeat first | refine HReg.step ?_ | refine HCode.step ?_)
        refine HLoad.one (v := .int .i64 b.A) (by exact or_get (rb8.rows.upd u810 (.inr (Off.nil _))) hjb rfl) ?_
        (repeat first | refine HReg.step ?_ | refine HCode.step ?_)
        refine hif (fun h => absurd f2 (not_eqB_true.1 h)) (fun _ => ?_)
        (repeat first | refine HReg.step ?_ | refine HCode.step ?_)
        refine HLoad.one (v := .int .i64 f.to) (by exact o10'.rows.get (i := 2) rfl) ?_
        (repeat first | refine HReg.step ?_ | refine HCode.step ?_)
        refine HReq.mk ⟨by omega, by omega⟩ ?_
        (repeat first | refine HReg.step ?_ | refine HCode.step ?_)
        refine HLoad.one (v := .int .i64 b.B) (by exact or_get (rb8.rows.upd u810 (.inr (Off.nil _))) hjb rfl) ?_
        (repeat first | refine HReg.step ?_ | refine HCode.step ?_)
        refine hif (fun h => absurd f3 (not_eqB_true.1 h)) (fun _ => ?_)
        (repeat first | refine HReg.step ?_ | refine HCode.step ?_)
        refine HLoad.one (v := f.v) (by exact o10'.rows.get (i := 3) rfl) ?_
        rw [hfv]
        (repeat first | refine HReg.step ?_ | refine HCode.step ?_)
        refine HReq.mk ⟨by omega, by omega⟩ ?_
        (repeat first | refine HReg.step ?_ | refine HCode.step ?_)
        refine HLoad.one (v := .slice b.ab b.nb b.cb) (by exact or_get (rb8.rows.upd u810 (.inr (Off.nil _))) hjb rfl) ?_
        (repeat first | refine HReg.step ?_ | refine HCode.step ?_)
        obtain ⟨cb1, cb2, hbv, ob⟩ := (OB8 b (List.mem_of_getElem? hjb)).1
        obtain ⟨hb1, hb2, hb3⟩ : b.ab = cb1 ∧ b.nb = b.ys.length ∧ b.cb = cb2 := by
          injection hbv with e1 e2 e3; exact ⟨e1, e2, e3⟩
        refine HCall.mk ⟨Try.f16, Try.func16, by rfl, by rfl⟩ ?_
        refine same_eq (o6.rows.upd u810 (.inr (Off.nil _))) rfl (by rw [hb1]; exact ob.rows.upd u810 (.inr (Off.nil _))) hb2.symm rfl ?_
        (repeat first | refine HReg.step ?_ | refine HCode.step ?_)
        refine hif (fun _ => ?_) (fun h => absurd h (by rw [show ltB (((j, b) : Nat × Opr).1 : Int) 0 = false from hq0]; decide))
        (repeat first | refine HReg.step ?_ | refine HCode.step ?_)
        refine HReq.mk ⟨by omega, by omega⟩ ?_
        (repeat first | refine HReg.step ?_ | refine HCode.step ?_)
        refine store_row (rg8.upd u810 (Off.nil _)) (v := .bool true) rfl (i := j) (by omega) (by show 0 + j + 0 = j; omega) fun H11 rg11 u11 => ?_
        obtain ⟨B9, hl9, N9⟩ := bk_kill (N8.upd0 u810) hn (rb8.upd u810 (Off.nil _)) (rg8.upd u810 (Off.nil _)) lg FB (all_upd SB8 u810) (fun b hb => ⟨(OB8 b hb).1.upd u810 (by simp), (OB8 b hb).2⟩) fbo fgo hx rg11 u11
        have hwf : wr .i64 (((alv 0 bk gone).length : Int) - 1) = (((alv 0 bk (gone.set j true)).length : Nat) : Int) := by
          have := (List.getElem?_eq_some_iff.1 hx).1
          rw [hl9, wr_i64 (by omega) (by omega)]; omega
        have hleft : ((n - 1 : Nat) : Int) = wr .i64 (((alv 0 bk gone).length : Int) - 1) := by rw [hwf, hl9]
        (repeat first | refine HReg.step ?_ | refine HCode.step ?_)
        refine HCall.mk ⟨Try.f11, Try.func11, by rfl, by rfl⟩ ?_
        refine len_t N9 ?_
        (repeat first | refine HReg.step ?_ | refine HCode.step ?_)
        refine hif (fun h => absurd hleft (not_eqB_true.1 h)) (fun _ => ?_)
        (repeat first | refine HReg.step ?_ | refine HCode.step ?_)
        rw [hwi]
        refine Exists.intro (m - 1) ?_
        refine And.intro (by omega) ?_
        rw [hwf]
        exact BkInv.mk ⟨i + 1, some ⟨gb, 0, none⟩, some ⟨gg, 0, none⟩, bc, gc, bk, gone.set j true, rfl, by omega, by omega, B9⟩
      · have hnp : n ≤ p := by omega
        rw [atOf_none (by omega)]
        (repeat first | refine HReg.step ?_ | refine HCode.step ?_)
        refine HNew.mk fun b9 hb9 => ?_
        have u9 : Upd [] H8 (H8.upd b9 (.cells zfr.toArray 33)) := Upd.new hb9 _
        have o9 : OwnRow (H8.upd b9 (.cells zfr.toArray 33)) 33 1 (some ⟨b9, 0, none⟩) 4 4 zfr := OwnRow.lit (upd_same _ _ _) rfl
        (repeat first | refine HReg.step ?_ | refine HCode.step ?_)
        refine storeN_own (i := 0) zfr o9 rfl (fun v hv => by simp only [zfr, List.mem_cons, List.not_mem_nil, or_false] at hv; rcases hv with rfl | rfl | rfl | rfl <;> rfl) fun H10 o10 u10 => ?_
        have u810 : Upd [] H5 H10 := u8.trans (Upd.drop u9 u10 fun z hz => by rw [List.mem_singleton.1 hz]; exact hb9)
        (repeat first | refine HReg.step ?_ | refine HCode.step ?_)
        refine hif (fun h => absurd h (by rw [z21, zm1]; decide)) (fun _ => ?_)
        (repeat first | refine HReg.step ?_ | refine HCode.step ?_)
        refine hif (fun h => absurd h (by rw [z21]; decide)) (fun _ => ?_)
        (repeat first | refine HReg.step ?_ | refine HCode.step ?_)
        refine hif (fun h => absurd h (by rw [zm1]; decide)) (fun _ => ?_)
        (repeat first | refine HReg.step ?_ | refine HCode.step ?_)
        refine HCall.mk ⟨Try.f11, Try.func11, by rfl, by rfl⟩ ?_
        refine len_t (N5.upd0 u810) ?_
        (repeat first | refine HReg.step ?_ | refine HCode.step ?_)
        refine hif (fun h => absurd hleft0 (not_eqB_true.1 h)) (fun _ => ?_)
        (repeat first | refine HReg.step ?_ | refine HCode.step ?_)
        rw [hwi]
        refine Exists.intro (m - 1) ?_
        refine And.intro (by omega) ?_
        exact BkInv.mk ⟨i + 1, bo, go, bc, gc, bk, gone, rfl, by omega, by omega, bk_same u810⟩
    (repeat first | refine HReg.step ?_ | refine HCode.step ?_)
    refine hif (fun e3 => ?_) (fun e3 => ?_)
    · (repeat first | refine HReg.step ?_ | refine HCode.step ?_)
      refine HLoad.one (v := .int .i64 o.kind) (by exact q9.rows.get (i := 0) rfl) ?_
      (repeat first | refine HReg.step ?_ | refine HCode.step ?_)
      refine hif (fun _ => ?_) (fun e4 => absurd (e3.symm.trans e4) (by decide))
      (repeat first | refine HReg.step ?_ | refine HCode.step ?_)
      refine HCall.mk ⟨Try.f13, Try.func13, by rfl, by rfl⟩ ?_
      refine lose_t N5 (isSl_of SB5) (by omega) (fun p' f H8 hpp hf N8 u8 => ?_) (fun hno H8 u8 => ?_)
      · have hpp : p' = p := by omega
        subst hpp
        obtain ⟨⟨q, b⟩, hx⟩ : ∃ x, (alv 0 bk gone)[p']? = some x := by
          have := (List.getElem?_eq_some_iff.1 hf).1
          exact ⟨(alv 0 bk gone)[p']'(by omega), by simp⟩
        obtain ⟨j, hj, hjb, hjg, _⟩ := alv_kill hx
        have hjq : j = q := by omega
        subst hjq
        have hjl := (List.getElem?_eq_some_iff.1 hjb).1
        obtain ⟨gg, rfl⟩ := rg5.addr (by omega)
        have rb8 := rb5.upd u8 (net_off N5 rb5 (by decide) (by decide))
        have rg8 := rg5.upd u8 (net_off N5 rg5 (by decide) (by decide))
        have SB8 := all_net SB5 N5 (by decide) (by decide) u8
        have OB8 : ∀ b ∈ bk, Sle 5 H8 (.slice b.ab b.nb b.cb) b.ys ∧ b.ys.length ≤ 140737488351232 := fun b hb => ⟨sle_net (OB5 b hb).1 N5 (by decide) (by decide) u8, (OB5 b hb).2⟩
        rw [atOf_some hx]
        have hq0 : ltB ((j : Nat) : Int) 0 = false := ltB_false.2 (by omega)
        (repeat first | refine HReg.step ?_ | refine HCode.step ?_)
        refine hif (fun h => absurd h (by rw [show ltB (((j, b) : Nat × Opr).1 : Int) 0 = false from hq0, z00]; decide)) (fun _ => ?_)
        (repeat first | refine HReg.step ?_ | refine HCode.step ?_)
        refine hif (fun _ => ?_) (fun h => absurd h (by rw [show ltB (((j, b) : Nat × Opr).1 : Int) 0 = false from hq0]; decide))
        (repeat first | refine HReg.step ?_ | refine HCode.step ?_)
        refine HReq.mk ⟨by omega, by omega⟩ ?_
        (repeat first | refine HReg.step ?_ | refine HCode.step ?_)
        refine store_row rg8 (v := .bool true) rfl (i := j) (by omega) (by show 0 + j + 0 = j; omega) fun H9 rg9 u9 => ?_
        obtain ⟨B9, hl9, N9⟩ := bk_kill N8 hn rb8 rg8 lg FB SB8 OB8 fbo fgo hx rg9 u9
        have hwf : wr .i64 (((alv 0 bk gone).length : Int) - 1) = (((alv 0 bk (gone.set j true)).length : Nat) : Int) := by
          have := (List.getElem?_eq_some_iff.1 hx).1
          rw [hl9, wr_i64 (by omega) (by omega)]; omega
        have hleft : ((n - 1 : Nat) : Int) = wr .i64 (((alv 0 bk gone).length : Int) - 1) := by rw [hwf, hl9]
        (repeat first | refine HReg.step ?_ | refine HCode.step ?_)
        refine HCall.mk ⟨Try.f11, Try.func11, by rfl, by rfl⟩ ?_
        refine len_t N9 ?_
        (repeat first | refine HReg.step ?_ | refine HCode.step ?_)
        refine hif (fun h => absurd hleft (not_eqB_true.1 h)) (fun _ => ?_)
        (repeat first | refine HReg.step ?_ | refine HCode.step ?_)
        rw [hwi]
        refine Exists.intro (m - 1) ?_
        refine And.intro (by omega) ?_
        rw [hwf]
        exact BkInv.mk ⟨i + 1, bo, some ⟨gg, 0, none⟩, bc, gc, bk, gone.set j true, rfl, by omega, by omega, B9⟩
      · have hnp : n ≤ p := by omega
        rw [atOf_none (by omega)]
        (repeat first | refine HReg.step ?_ | refine HCode.step ?_)
        refine hif (fun h => absurd h (by rw [z21, zm1]; decide)) (fun _ => ?_)
        (repeat first | refine HReg.step ?_ | refine HCode.step ?_)
        refine hif (fun h => absurd h (by rw [zm1]; decide)) (fun _ => ?_)
        (repeat first | refine HReg.step ?_ | refine HCode.step ?_)
        refine HCall.mk ⟨Try.f11, Try.func11, by rfl, by rfl⟩ ?_
        refine len_t (N5.upd0 u8) ?_
        (repeat first | refine HReg.step ?_ | refine HCode.step ?_)
        refine hif (fun h => absurd hleft0 (not_eqB_true.1 h)) (fun _ => ?_)
        (repeat first | refine HReg.step ?_ | refine HCode.step ?_)
        rw [hwi]
        refine Exists.intro (m - 1) ?_
        refine And.intro (by omega) ?_
        exact BkInv.mk ⟨i + 1, bo, go, bc, gc, bk, gone, rfl, by omega, by omega, bk_same u8⟩
    (repeat first | refine HReg.step ?_ | refine HCode.step ?_)
    refine hif (fun e4 => ?_) (fun e4 => ?_)
    · (repeat first | refine HReg.step ?_ | refine HCode.step ?_)
      refine HCall.mk ⟨Try.f14, Try.func14, by rfl, by rfl⟩ ?_
      refine twin_t N5 SB5 (fun l hl => ?_) ⟨by omega, by omega⟩ (by omega) (fun p' f l H8 hpp hf hl l8 => ?_) (fun hno => ?_)
      · obtain ⟨y, hy, rfl⟩ := List.mem_map.1 hl
        obtain ⟨py, hpy⟩ := List.getElem?_of_mem hy
        obtain ⟨j, hj, hjb, hjg, _⟩ := alv_kill (q := y.1) (b := y.2) hpy
        have := (OB5 y.2 (List.mem_of_getElem? hjb)).2
        omega
      · have hpp : p' = p := by omega
        subst hpp
        obtain ⟨⟨q, b⟩, hx⟩ : ∃ x, (alv 0 bk gone)[p']? = some x := by
          have := (List.getElem?_eq_some_iff.1 hf).1
          exact ⟨(alv 0 bk gone)[p']'(by omega), by simp⟩
        obtain ⟨j, hj, hjb, hjg, _⟩ := alv_kill hx
        have hjq : j = q := by omega
        subst hjq
        have hjl := (List.getElem?_eq_some_iff.1 hjb).1
        obtain ⟨gb, rfl⟩ := rb5.addr (by omega)
        have hlb : l = b.ys := by
          rw [List.getElem?_map, hx] at hl
          cases hl; rfl
        subst hlb
        obtain ⟨f1, f2, f3⟩ := All2.geti FB hf hx
        obtain ⟨v9, a9, cap9, N9, s9, w9, u9, f9⟩ := l8
        rw [atOf_some hx]
        have hq0 : ltB ((j : Nat) : Int) 0 = false := ltB_false.2 (by omega)
        have hwl : wr .i64 ((bk.length : Int) + 1) = (bk.length : Int) + 1 := wr_i64 (by omega) (by omega)
        have rb9 := rb5.upd u9 (net_off N5 rb5 (by decide) (by decide))
        have rg9 := rg5.upd u9 (net_off N5 rg5 (by decide) (by decide))
        have SB9 := all_net SB5 N5 (by decide) (by decide) u9
        have OB9 : ∀ b ∈ bk, Sle 5 H8 (.slice b.ab b.nb b.cb) b.ys := fun b hb => sle_net (OB5 b hb).1 N5 (by decide) (by decide) u9
        (repeat first | refine HReg.step ?_ | refine HCode.step ?_)
        refine hif (fun h => absurd h (by rw [show ltB (((j, b) : Nat × Opr).1 : Int) 0 = false from hq0, z00]; decide)) (fun _ => ?_)
        (repeat first | refine HReg.step ?_ | refine HCode.step ?_)
        refine hif (fun _ => ?_) (fun h => absurd h (by rw [z00]; decide))
        (repeat first | refine HReg.step ?_ | refine HCode.step ?_)
        refine hif (fun h => absurd hwl.symm (not_eqB_true.1 h)) (fun _ => ?_)
        (repeat first | refine HReg.step ?_ | refine HCode.step ?_)
        refine hif (fun _ => ?_) (fun h => absurd h (by rw [show ltB (((j, b) : Nat × Opr).1 : Int) 0 = false from hq0]; decide))
        (repeat first | refine HReg.step ?_ | refine HCode.step ?_)
        refine HReq.mk ⟨by omega, by omega⟩ ?_
        (repeat first | refine HReg.step ?_ | refine HCode.step ?_)
        refine HLoadN.mk ⟨ocells b, fun Hx hx j' v hv => ?_, rfl, ?_⟩
        · rw [List.mem_singleton.1 hx]
          exact or_get rb9.rows hjb hv
        (repeat first | refine HReg.step ?_ | refine HCode.step ?_)
        refine HReq.mk (by decide) ?_
        (repeat first | refine HReg.step ?_ | refine HCode.step ?_)
        refine HNew.mk fun b12 hb12 => ?_
        have u12 : Upd [] H8 (H8.upd b12 (.cells (ocells b).toArray 52)) := Upd.new hb12 _
        have rb12 := rb9.upd u12 (Off.nil _)
        (repeat first | refine HReg.step ?_ | refine HCode.step ?_)
        refine append_rows (ie := Try.t52) (z := .agg #[.int .i64 0, .int .i64 0, .int .i64 0, .int .i64 0, .slice none 0 0]) (xs := orow bk) (ys := ocells b) Try.underlying45 rfl rfl rfl (by decide) rb12 (RowAt.of_cells (upd_same _ _ _)) rfl (plain_ocells _) ?_ (by omega) fun a13 c13 H13 r13 u13 f13 => ?_
        · show (bk.length + 1) * 56 ≤ _; omega
        have N13 := net_row (N9.upd0 u12) rb12 (by decide) (by decide) fbo u13
        have SB13 := all_row (all_upd SB9 u12) rb12 (by decide) u13
        have s13 := sle_row (s9.upd u12 (by simp)) rb12 (by decide) u13
        have OB13 : ∀ b ∈ bk, Sle 5 H13 (.slice b.ab b.nb b.cb) b.ys := fun b hb => sle_row ((OB9 b hb).upd u12 (by simp)) rb12 (by decide) u13
        have rg13 := (rg9.upd u12 (Off.nil _)).upd u13 (rb12.offT (rg9.upd u12 (Off.nil _)) (by decide))
        have fbo13 : ∀ p, a13 = some p → H1 p.block = none := fun p hp => by
          rcases f13 p hp with h | h
          · exact fbo p h
          · exact Upd.none (S := []) (N9.upd0 u12).base (by simp) h
        (repeat first | refine HReg.step ?_ | refine HCode.step ?_)
        refine HReq.mk (by decide) ?_
        (repeat first | refine HReg.step ?_ | refine HCode.step ?_)
        refine HNew.mk fun b14 hb14 => ?_
        have u14 : Upd [] H13 (H13.upd b14 (.cells [Value.bool false].toArray 4)) := Upd.new hb14 _
        have rg14 := rg13.upd u14 (Off.nil _)
        (repeat first | refine HReg.step ?_ | refine HCode.step ?_)
        refine append_rows (ie := Try.t4) (z := .bool false) (xs := bools gone) (ys := [.bool false]) Try.underlying58 rfl rfl rfl (by decide) rg14 (RowAt.of_cells (upd_same _ _ _)) rfl (fun v hv => by rw [List.mem_singleton.1 hv]; rfl) ?_ (by omega) fun a15 c15 H15 r15 u15 f15 => ?_
        · show (bk.length + 1) * 1 ≤ _; omega
        have Nz := net_row (N13.upd0 u14) rg14 (by decide) (by decide) fgo u15
        have SBz := all_row (all_upd SB13 u14) rg14 (by decide) u15
        have sz := sle_row (s13.upd u14 (by simp)) rg14 (by decide) u15
        have OBz : ∀ b ∈ bk, Sle 5 H15 (.slice b.ab b.nb b.cb) b.ys := fun b hb => sle_row ((OB13 b hb).upd u14 (by simp)) rg14 (by decide) u15
        have rbz := (r13.upd u14 (Off.nil _)).upd u15 (rg14.offT (r13.upd u14 (Off.nil _)) (by decide))
        have fgoz : ∀ p, a15 = some p → H1 p.block = none := fun p hp => by
          rcases f15 p hp with h | h
          · exact fgo p h
          · exact Upd.none (S := []) (N13.upd0 u14).base (by simp) h
        have hsn : alv 0 (bk ++ [b]) (gone ++ [false]) = alv 0 bk gone ++ [(bk.length, b)] := by
          have := alv_snoc (bs := bk) (gs := gone) 0 b false lg.symm
          rw [Nat.zero_add] at this; exact this
        have hsl : (alv 0 (bk ++ [b]) (gone ++ [false])).length = (alv 0 bk gone).length + 1 := by rw [hsn]; simp
        have hwf : wr .i64 (((alv 0 bk gone).length : Int) + 1) = (((alv 0 (bk ++ [b]) (gone ++ [false])).length : Nat) : Int) := by rw [hsl, wr_i64 (by omega) (by omega)]; omega
        have hleft : ((n + 1 : Nat) : Int) = wr .i64 (((alv 0 bk gone).length : Int) + 1) := by rw [hwf, hsl, hn]
        (repeat first | refine HReg.step ?_ | refine HCode.step ?_)
        refine HCall.mk ⟨Try.f11, Try.func11, by rfl, by rfl⟩ ?_
        refine len_t Nz ?_
        (repeat first | refine HReg.step ?_ | refine HCode.step ?_)
        refine hif (fun h => absurd hleft (not_eqB_true.1 h)) (fun _ => ?_)
        (repeat first | refine HReg.step ?_ | refine HCode.step ?_)
        rw [hwi]
        refine Exists.intro (m - 1) ?_
        refine And.intro (by omega) ?_
        rw [hwf]
        have hbl : (bk ++ [b]).length = bk.length + 1 := by simp
        have eB : OwnRow H15 52 5 a13 (bk.length + 1) c13 (orow (bk ++ [b])) := by rw [orow_append]; exact rbz
        have eG : OwnRow H15 4 1 a15 (bk.length + 1) c15 (bools (gone ++ [false])) := by
          have : bools (gone ++ [false]) = bools gone ++ [.bool false] := by simp [bools]
          rw [this]; exact r15
        have eN : NetAt 61 33 H1 H15 g 3 2 ((bk.length + 1 : Nat) : Int) a9 (n + 1) cap9 (fs ++ [⟨(bk.length : Int) + 1, f.frm, f.to, v9⟩]) := by push_cast; exact Nz
        refine BkInv.mk ⟨i + 1, a13, a15, c13, c15, bk ++ [b], gone ++ [false], by rw [hbl], by omega, by rw [hbl]; omega, BkSt.mk ⟨a9, n + 1, cap9, fs ++ [⟨(bk.length : Int) + 1, f.frm, f.to, v9⟩], by rw [hbl]; exact eN, by rw [hsl, hn], by rw [hbl]; exact eB, by rw [hbl]; exact eG, by simp [lg], ?_, ?_, ?_, fbo13, fgoz⟩⟩
        · rw [hsn]; exact FB.append ⟨⟨rfl, f2, f3⟩, trivial⟩
        · rw [hsn, List.map_append, List.map_append]; exact SBz.append ⟨sz, trivial⟩
        · intro b' hb
          rcases List.mem_append.1 hb with h | h
          · exact ⟨OBz b' h, (OB b' h).2⟩
          · rw [List.mem_singleton.1 h]; exact ⟨OBz b (List.mem_of_getElem? hjb), (OB b (List.mem_of_getElem? hjb)).2⟩
      · have hnp : n ≤ p := by omega
        rw [atOf_none (by omega)]
        (repeat first | refine HReg.step ?_ | refine HCode.step ?_)
        refine hif (fun h => absurd h (by rw [z21, zm1]; decide)) (fun _ => ?_)
        (repeat first | refine HReg.step ?_ | refine HCode.step ?_)
        refine hif (fun h => absurd h (by rw [z21]; decide)) (fun _ => ?_)
        (repeat first | refine HReg.step ?_ | refine HCode.step ?_)
        refine hif (fun h => absurd h (by rw [zm1]; decide)) (fun _ => ?_)
        (repeat first | refine HReg.step ?_ | refine HCode.step ?_)
        refine HCall.mk ⟨Try.f11, Try.func11, by rfl, by rfl⟩ ?_
        refine len_t (N5.upd0 (Upd.refl _ _)) ?_
        (repeat first | refine HReg.step ?_ | refine HCode.step ?_)
        refine hif (fun h => absurd hleft0 (not_eqB_true.1 h)) (fun _ => ?_)
        (repeat first | refine HReg.step ?_ | refine HCode.step ?_)
        rw [hwi]
        refine Exists.intro (m - 1) ?_
        refine And.intro (by omega) ?_
        exact BkInv.mk ⟨i + 1, bo, go, bc, gc, bk, gone, rfl, by omega, by omega, bk_same (Upd.refl _ _)⟩
    (repeat first | refine HReg.step ?_ | refine HCode.step ?_)
    refine HCall.mk ⟨Try.f11, Try.func11, by rfl, by rfl⟩ ?_
    refine len_t (N5.upd0 (Upd.refl _ _)) ?_
    (repeat first | refine HReg.step ?_ | refine HCode.step ?_)
    refine hif (fun h => absurd hleft0 (not_eqB_true.1 h)) (fun _ => ?_)
    (repeat first | refine HReg.step ?_ | refine HCode.step ?_)
    rw [hwi]
    refine Exists.intro (m - 1) ?_
    refine And.intro (by omega) ?_
    exact BkInv.mk ⟨i + 1, bo, go, bc, gc, bk, gone, rfl, by omega, by omega, bk_same (Upd.refl _ _)⟩
  · have h := ltB_false.1 h
    have hin : bk.length ≤ ns := by omega
    clear hok1 hmi
    (repeat first | refine HReg.step ?_ | refine HCode.step ?_)
    refine hloopC [2, 24, 25, 26, 242, 243, 244, 245, 246, 247, 248, 249, 250, 251, 252, 253, 254, 255, 256, 257, 258, 259, 260, 261, 262, 263, 264, 265, 266, 267, 268, 269, 270, 271, 272, 273, 274, 275, 276, 277] [24] (EndInv H1 g bo go bc gc bk gone) rfl (by repeat' first | exact Resp.retD | exact Resp1.valuesK | refine Resp.blockD ?_ | refine Resp.thenD ?_ ?_ | refine Resp.hcode ?_) ?_ ?_
    · exact ⟨bk.length, EndInv.mk ⟨0, a, n, cap, fs, rfl, rfl, N, hn, rb, rg, FB, SB, OB⟩⟩
    clear N hn rb rg FB SB OB hln hal
    rintro m vs f H5 ⟨k, a, n, cap, fs, rfl, hmk, N, hn, rb, rg, FB, SB, OB⟩
    have hln := N.len
    have hal := alv_len k (bk.drop k) (gone.drop k)
    rw [List.length_drop] at hal
    (repeat first | refine HReg.step ?_ | refine HCode.step ?_)
    refine hif (fun h2 => ?_) (fun h2 => ?_)
    · have h2 := ltB_true.1 h2
      obtain ⟨b, hb⟩ : ∃ o, bk[k]? = some o := ⟨bk[k]'(by omega), by simp⟩
      obtain ⟨gn, hg⟩ : ∃ o, gone[k]? = some o := ⟨gone[k]'(by omega), by simp⟩
      obtain ⟨gg, rfl⟩ := rg.addr (by omega)
      obtain ⟨gb, rfl⟩ := rb.addr (by omega)
      have hdk := alv_drop hb hg
      have hwk : wr .i64 ((k : Int) + 1) = ((k + 1 : Nat) : Int) := by rw [wr_i64 (by omega) (by omega)]; omega
      (repeat first | refine HReg.step ?_ | refine HCode.step ?_)
      refine HReq.mk ⟨by omega, by omega⟩ ?_
      (repeat first | refine HReg.step ?_ | refine HCode.step ?_)
      refine HLoad.one (v := .bool gn) (by exact rg.rows.get (bools_get hg)) ?_
      cases gn
      · have hdk : alv k (bk.drop k) (gone.drop k) = (k, b) :: alv (k + 1) (bk.drop (k + 1)) (gone.drop (k + 1)) := hdk
        have hdl : (alv k (bk.drop k) (gone.drop k)).length = (alv (k + 1) (bk.drop (k + 1)) (gone.drop (k + 1))).length + 1 := by rw [hdk]; rfl
        (repeat first | refine HReg.step ?_ | refine HCode.step ?_)
        refine HCall.mk ⟨Try.f12, Try.func12, by rfl, by rfl⟩ ?_
        refine deliver_t N (isSl_of SB) (by omega) (fun p' f H8 hpp hf N8 u8 => ?_) (fun hno => absurd ⟨by omega, by omega⟩ hno)
        have hpp : p' = 0 := by omega
        subst hpp
        have hx : (alv k (bk.drop k) (gone.drop k))[0]? = some (k, b) := by rw [hdk]; rfl
        obtain ⟨f1, f2, f3⟩ := All2.geti FB hf hx
        have rb8 := rb.upd u8 (net_off N rb (by decide) (by decide))
        have rg8 := rg.upd u8 (net_off N rg (by decide) (by decide))
        have SB8 := all_net SB N (by decide) (by decide) u8
        have OB8 : ∀ b ∈ bk, Sle 5 H8 (.slice b.ab b.nb b.cb) b.ys ∧ b.ys.length ≤ 140737488351232 := fun b hb => ⟨sle_net (OB b hb).1 N (by decide) (by decide) u8, (OB b hb).2⟩
        obtain ⟨c4, c5, hfv, o6⟩ : Sle 5 H8 f.v b.ys := All2.geti SB8 (i := 0) (by rw [List.getElem?_map, hf]; rfl) (by rw [List.getElem?_map, hx]; rfl)
        (repeat first | refine HReg.step ?_ | refine HCode.step ?_)
        refine HNew.mk fun b9 hb9 => ?_
        have u9 : Upd [] H8 (H8.upd b9 (.cells zfr.toArray 33)) := Upd.new hb9 _
        have o9 : OwnRow (H8.upd b9 (.cells zfr.toArray 33)) 33 1 (some ⟨b9, 0, none⟩) 4 4 zfr := OwnRow.lit (upd_same _ _ _) rfl
        (repeat first | refine HReg.step ?_ | refine HCode.step ?_)
        refine storeN_own (i := 0) (fcells f) o9 rfl (plain_fcells (f := f) ⟨c4, _, c5, hfv⟩) fun H10 o10 u10 => ?_
        have o10' : OwnRow H10 33 1 (some ⟨b9, 0, none⟩) 4 4 (fcells f) := o10
        have u810 : Upd [] H8 H10 := Upd.drop u9 u10 fun z hz => by rw [List.mem_singleton.1 hz]; exact hb9
        (repeat first | refine HReg.step ?_ | refine HCode.step ?_)
        refine hif (fun h => absurd rfl (not_eqB_true.1 h)) (fun _ => ?_)
        (repeat first | refine HReg.step ?_ | refine HCode.step ?_)
        refine HLoad.one (v := .int .i64 f.num) (by exact o10'.rows.get (i := 0) rfl) ?_
        have hwj : wr .i64 ((k : Int) + 1) = (k : Int) + 1 := wr_i64 (by omega) (by omega)
        (repeat first | refine HReg.step ?_ | refine HCode.step ?_)
        refine hif (fun h => absurd (f1.trans hwj.symm) (not_eqB_true.1 h)) (fun _ => ?_)
        (repeat first | refine HReg.step ?_ | refine HCode.step ?_)
        refine HLoad.one (v := f.v) (by exact o10'.rows.get (i := 3) rfl) ?_
        rw [hfv]
        (repeat first | refine HReg.step ?_ | refine HCode.step ?_)
        refine HReq.mk ⟨by omega, by omega⟩ ?_
        (repeat first | refine HReg.step ?_ | refine HCode.step ?_)
        refine HLoad.one (v := .slice b.ab b.nb b.cb) (by exact or_get (rb8.rows.upd u810 (.inr (Off.nil _))) hb rfl) ?_
        (repeat first | refine HReg.step ?_ | refine HCode.step ?_)
        obtain ⟨cb1, cb2, hbv, ob⟩ := (OB8 b (List.mem_of_getElem? hb)).1
        obtain ⟨hb1, hb2, hb3⟩ : b.ab = cb1 ∧ b.nb = b.ys.length ∧ b.cb = cb2 := by
          injection hbv with e1 e2 e3; exact ⟨e1, e2, e3⟩
        refine HCall.mk ⟨Try.f16, Try.func16, by rfl, by rfl⟩ ?_
        refine same_eq (o6.rows.upd u810 (.inr (Off.nil _))) rfl (by rw [hb1]; exact ob.rows.upd u810 (.inr (Off.nil _))) hb2.symm rfl ?_
        (repeat first | refine HReg.step ?_ | refine HCode.step ?_)
        rw [hwk]
        refine Exists.intro (m - 1) ?_
        refine And.intro (by omega) ?_
        refine EndInv.mk ⟨k + 1, a, n - 1, cap, fs.eraseIdx 0, rfl, by omega, N8.upd0 u810, by omega, rb8.upd u810 (Off.nil _), rg8.upd u810 (Off.nil _), ?_, ?_, fun b hb => ⟨(OB8 b hb).1.upd u810 (by simp), (OB8 b hb).2⟩⟩
        · have := all2_erase FB 0
          rw [hdk] at this; exact this
        · have := all2_erase (all_upd SB8 u810) 0
          rw [hdk, map_erase, map_erase] at this; exact this
      · have hdk : alv k (bk.drop k) (gone.drop k) = alv (k + 1) (bk.drop (k + 1)) (gone.drop (k + 1)) := hdk
        rw [hdk] at hn FB SB
        (repeat first | refine HReg.step ?_ | refine HCode.step ?_)
        rw [hwk]
        refine Exists.intro (m - 1) ?_
        refine And.intro (by omega) ?_
        exact EndInv.mk ⟨k + 1, a, n, cap, fs, rfl, by omega, N, hn, rb, rg, FB, SB, OB⟩
    have h2 := ltB_false.1 h2
    rw [alv_end (by omega)] at hn FB SB
    have hn0 : n = 0 := hn
    subst hn0
    (repeat first | refine HReg.step ?_ | refine HCode.step ?_)
    refine HCall.mk ⟨Try.f11, Try.func11, by rfl, by rfl⟩ ?_
    refine len_t N ?_
    (repeat first | refine HReg.step ?_ | refine HCode.step ?_)
    refine hif (fun _ => ?_) (fun h => absurd rfl (eqB_false.1 h))
    (repeat first | refine HReg.step ?_ | refine HCode.step ?_)
    refine HCall.mk ⟨Try.f15, Try.func15, by rfl, by rfl⟩ ?_
    refine flight_t (ls := []) N SB (by simp) (by omega) fun x cx out H' r1 s1 G1 f1 => ?_
    (repeat first | refine HReg.step ?_ | refine HCode.step ?_)
    exact ⟨by rw [show eqB ((0 : Nat) : Int) 0 = true from eqB_true.2 rfl]; rfl, (u1.trans N.base).trans G1.upd⟩
end Go.Proofs.Ytefmplilhbbiaaa
