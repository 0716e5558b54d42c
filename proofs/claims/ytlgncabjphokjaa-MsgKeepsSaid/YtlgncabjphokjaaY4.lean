import Derived.Test.YtlgncabjphokjaaY3
namespace Go.Proofs.Ytlgncabjphokjaa
open Go Hv
set_option linter.unusedVariables false
set_option linter.unusedSimpArgs false
set_option maxRecDepth 10000
set_option maxHeartbeats 1000000
/-! MsgKeeps: marked. CUT2 -/
def mkB (i : Nat) : Value := .int .u8 (((100 + i) % 256 : Nat) : Int)
def mkT (i : Nat) : Value := .string (bs (markT i))
theorem mkB_int {i : Nat} (h : i ≤ 1048576) : wr .u8 (wr .i64 (100 + (i : Int))) = (((100 + i) % 256 : Nat) : Int) := by
  have h2 : wr .i64 (100 + (i : Int)) = ((100 + i : Nat) : Int) := by rw [wr_i64 (by omega) (by omega)]; omega
  rw [h2, wr8]
structure Two (H1 : Heap) (a : Option Addr) (n c : Nat) (V : List Value) (b : Option Addr) (n' d : Nat) (X : List Value) (lj lx : List (List Value)) (H : Heap) : Prop where
  G : Grv 5 H1 H V lj
  G' : Grv 9 H1 H X lx
  o : OwnRow H 30 1 a n c V
  o' : OwnRow H 25 1 b n' d X
structure KbInv (H1 : Heap) (a : Option Addr) (n c : Nat) (V : List Value) (b : Option Addr) (n' d : Nat) (X : List Value) (ns : List Nat) (lx : List (List Value)) (m : Nat) (vs : List Value) (H' : Heap) : Prop where
  ex : ∃ (i : Nat) (lj : List (List Value)), vs = [.int .i64 (i : Int)] ∧ m + i = n ∧ Two H1 a n c V b n' d X lj lx H' ∧ MarkedV mkB i ns lj
structure KcInv (H1 : Heap) (a : Option Addr) (n c : Nat) (V : List Value) (b : Option Addr) (n' d : Nat) (X : List Value) (i : Nat) (l : List Value) (lj : List (List Value)) (lx : List (List Value)) (m : Nat) (vs : List Value) (H' : Heap) : Prop where
  ex : ∃ j : Nat, vs = [.int .i64 (j : Int)] ∧ m + j = l.length ∧ Two H1 a n c V b n' d X (lj.set i (List.replicate j (mkB i) ++ l.drop j)) lx H'
structure KdInv (H1 : Heap) (a : Option Addr) (n c : Nat) (V : List Value) (b : Option Addr) (n' d : Nat) (X : List Value) (ns : List Nat) (lj : List (List Value)) (m : Nat) (vs : List Value) (H' : Heap) : Prop where
  ex : ∃ (i : Nat) (lx : List (List Value)), vs = [.int .i64 (i : Int)] ∧ m + i = n' ∧ Two H1 a n c V b n' d X lj lx H' ∧ MarkedV mkT i ns lx
structure KeInv (H1 : Heap) (a : Option Addr) (n c : Nat) (V : List Value) (b : Option Addr) (n' d : Nat) (X : List Value) (i : Nat) (l : List Value) (lj : List (List Value)) (lx : List (List Value)) (m : Nat) (vs : List Value) (H' : Heap) : Prop where
  ex : ∃ j : Nat, vs = [.int .i64 (j : Int)] ∧ m + j = l.length ∧ Two H1 a n c V b n' d X lj (lx.set i (List.replicate j (mkT i) ++ l.drop j)) H'
structure KfInv (H1 : Heap) (a : Option Addr) (n c : Nat) (V : List Value) (ns : List Nat) (b : Option Addr) (n' d : Nat) (X : List Value) (lx : List (List Value)) (m : Nat) (vs : List Value) (H' : Heap) : Prop where
  ex : ∃ (i : Nat) (aL : Option Addr) (cL : Nat) (Y : List Value) (lY : List (List Value)), vs = [.slice aL i cL, .int .i64 (i : Int)] ∧ m + i = n ∧ MSv mkB 5 30 H1 a n c V ns i 0 aL cL Y lY H' ∧ Grv 9 H1 H' X lx ∧ OwnRow H' 25 1 b n' d X ∧ ∀ k, i ≤ k → Y[k]? = V[k]?
structure KgInv (H1 : Heap) (a : Option Addr) (n c : Nat) (V : List Value) (ns : List Nat) (b : Option Addr) (n' d : Nat) (X : List Value) (lx : List (List Value)) (i : Nat) (aL : Option Addr) (cL : Nat) (L0 : List Value) (m : Nat) (vs : List Value) (H' : Heap) : Prop where
  ex : ∃ (t : Nat) (y : Value) (Y : List Value) (lY : List (List Value)), vs = [y, .int .i64 (t : Int)] ∧ m + t = 40 ∧ Y[i]? = some y ∧ MSv mkB 5 30 H1 a n c V ns i t aL cL Y lY H' ∧ Grv 9 H1 H' X lx ∧ OwnRow H' 25 1 b n' d X ∧ Y.take i = L0 ∧ ∀ k, i < k → Y[k]? = V[k]?
structure KhInv (H1 : Heap) (a : Option Addr) (n c : Nat) (V : List Value) (ns : List Nat) (aM : Option Addr) (cM : Nat) (Z : List Value) (lZ : List (List Value)) (b : Option Addr) (n' d : Nat) (X : List Value) (ns' : List Nat) (m : Nat) (vs : List Value) (H' : Heap) : Prop where
  ex : ∃ (i : Nat) (aL : Option Addr) (cL : Nat) (Y : List Value) (lY : List (List Value)), vs = [.slice aL i cL, .int .i64 (i : Int)] ∧ m + i = n' ∧ MSv mkB 5 30 H1 a n c V ns n 0 aM cM Z lZ H' ∧ MSv mkT 9 25 H1 b n' d X ns' i 0 aL cL Y lY H' ∧ ∀ k, i ≤ k → Y[k]? = X[k]?
structure KiInv (H1 : Heap) (a : Option Addr) (n c : Nat) (V : List Value) (ns : List Nat) (aM : Option Addr) (cM : Nat) (Z : List Value) (lZ : List (List Value)) (b : Option Addr) (n' d : Nat) (X : List Value) (ns' : List Nat) (i : Nat) (aL : Option Addr) (cL : Nat) (L0 : List Value) (m : Nat) (vs : List Value) (H' : Heap) : Prop where
  ex : ∃ (t : Nat) (y : Value) (Y : List Value) (lY : List (List Value)), vs = [y, .int .i64 (t : Int)] ∧ m + t = 40 ∧ Y[i]? = some y ∧ MSv mkB 5 30 H1 a n c V ns n 0 aM cM Z lZ H' ∧ MSv mkT 9 25 H1 b n' d X ns' i t aL cL Y lY H' ∧ Y.take i = L0 ∧ ∀ k, i < k → Y[k]? = X[k]?
structure KjInv (H : Heap) (n : Nat) (m : Nat) (vs : List Value) (H' : Heap) : Prop where
  ex : ∃ i : Nat, vs = [.int .i64 (i : Int)] ∧ m + i = n ∧ H' = H
structure KkInv (H : Heap) (n : Nat) (m : Nat) (vs : List Value) (H' : Heap) : Prop where
  ex : ∃ i : Nat, vs = [.int .i64 (i : Int)] ∧ m + i = n ∧ Upd [] H H'
theorem get_len {α : Type} {l : List α} {i n : Nat} (hl : l.length = n) (h : i < n) : ∃ x, l[i]? = some x := ⟨l[i]'(by omega), by simp⟩
theorem rep_get {x : Value} {n i : Nat} (h : i < n) : (List.replicate n x)[i]? = some x := by rw [List.getElem?_replicate, if_pos h]
theorem marked_t {H1 H : Heap} {a b : Option Addr} {n c n' d : Nat} {V X : List Value} {ls lx : List (List Value)} {K : Value → Heap → Prop} (T0 : Two H1 a n c V b n' d X ls lx H) (hn : n ≤ 1024) (hn' : n' ≤ 1024) (hl : ∀ m ∈ ls.map List.length, m ≤ 1099511627776) (hl' : ∀ m ∈ lx.map List.length, m ≤ 1099511627776)
    (hk : ∀ H', Upd [] H1 H' → K (.bool true) H') : HCalls Try.prog 22 [.slice a n c, .slice b n' d] H K := by
  refine hcalls (fn := Try.f22) [(16, [(5, 0), (6, 0), (0, 1), (1, 1), (2, 1), (3, 1), (4, 1), (7, 0), (8, 0)]), (49, [(7, 0), (8, 0), (0, 1), (1, 1), (2, 1), (3, 1), (4, 1), (5, 1), (6, 1), (9, 0), (10, 0), (11, 0), (12, 0), (13, 0), (14, 0), (15, 0), (16, 0), (17, 0), (18, 0), (26, 0), (27, 0), (19, 1), (20, 1), (21, 1), (22, 1), (23, 1), (24, 1), (25, 1), (28, 0), (29, 0), (30, 0)])] mixed Try.func22 rfl rfl (by decide +kernel) ?_
  have hV : V.length = n := by have := T0.o.len; omega
  have hX : X.length = n' := by have := T0.o'.len; omega
  have hls : ls.length = n := by rw [← hV]; exact T0.G.len.symm
  have hlx : lx.length = n' := by rw [← hX]; exact T0.G'.len.symm
  have M0 : MarkedV mkB 0 (ls.map List.length) ls := ⟨by simp, fun k l hk => ⟨by simp [hk], fun h => by omega⟩⟩
  have M0' : MarkedV mkT 0 (lx.map List.length) lx := ⟨by simp, fun k l hk => ⟨by simp [hk], fun h => by omega⟩⟩
  have hns : (ls.map List.length).length = n := by rw [List.length_map]; exact hls
  have hns' : (lx.map List.length).length = n' := by rw [List.length_map]; exact hlx
  generalize ls.map List.length = ns at hl M0 hns
  generalize lx.map List.length = ns' at hl' M0' hns'
  (repeat first | refine HReg.step ?_ | refine HCode.step ?_)
  refine hloopC [7, 8, 21, 22, 23, 24, 25, 26, 27, 28, 29, 30, 31, 32, 33, 34, 35, 36, 37, 38, 39, 40, 41, 42, 43, 44] [7] (KbInv H1 a n c V b n' d X ns lx) rfl (by repeat' first | exact Resp.retD | exact Resp1.valuesK | refine Resp.blockD ?_ | refine Resp.thenD ?_ ?_ | refine Resp.hcode ?_) ?_ ?_
  · exact ⟨n, KbInv.mk ⟨0, ls, rfl, rfl, T0, M0⟩⟩
  clear M0 T0
  rintro q _ fe2 H3 ⟨j, lj, rfl, hqj, T3, M3⟩
  have hlj : lj.length = n := by rw [M3.1]; exact hns
  (repeat first | refine HReg.step ?_ | refine HCode.step ?_)
  refine hif (fun h2 => ?_) (fun h2 => ?_)
  · have h2 := ltB_true.1 h2
    have w2 : wr .i64 ((j : Int) + 1) = ((j + 1 : Nat) : Int) := by rw [wr_i64 (by omega) (by omega)]; omega
    obtain ⟨l, hli⟩ := get_len hlj (by omega : j < n)
    have hlB := M3.len hl hli
    obtain ⟨v, hv, av, cv, rfl, ov⟩ := T3.G.get hli
    obtain ⟨ga, rfl⟩ := T3.o.addr (by omega)
    (repeat first | refine HReg.step ?_ | refine HCode.step ?_)
    refine hloopC [8, 27, 28, 29, 30, 31, 32, 33, 34, 35, 36, 37, 38, 39, 40, 41, 42, 43, 44] [8] (KcInv H1 (some ⟨ga, 0, none⟩) n c V b n' d X j l lj lx) rfl (by repeat' first | exact Resp.retD | exact Resp1.valuesK | refine Resp.blockD ?_ | refine Resp.thenD ?_ ?_ | refine Resp.hcode ?_) ?_ ?_
    · refine ⟨l.length, KcInv.mk ⟨0, rfl, rfl, ?_⟩⟩
      have e : List.replicate 0 (mkB j) ++ l.drop 0 = l := by simp
      rw [e, set_selfV hli]; exact T3
    rintro p _ fe3 H4 ⟨k, rfl, hpk, T4⟩
    (repeat first | refine HReg.step ?_ | refine HCode.step ?_)
    refine HReq.mk ⟨by omega, by omega⟩ ?_
    (repeat first | refine HReg.step ?_ | refine HCode.step ?_)
    refine HLoad.one (v := .slice av l.length cv) (by exact T4.o.rows.get hv) ?_
    (repeat first | refine HReg.step ?_ | refine HCode.step ?_)
    refine hif (fun h3 => ?_) (fun h3 => ?_)
    · have h3 := ltB_true.1 h3
      obtain ⟨gv, rfl⟩ := ov.addr (by omega)
      have w3 : wr .i64 ((k : Int) + 1) = ((k + 1 : Nat) : Int) := by rw [wr_i64 (by omega) (by omega)]; omega
      (repeat first | refine HReg.step ?_ | refine HCode.step ?_)
      refine HReq.mk ⟨by omega, by omega⟩ ?_
      (repeat first | refine HReg.step ?_ | refine HCode.step ?_)
      refine HLoad.one (v := .slice (some ⟨gv, 0, none⟩) l.length cv) (by exact T4.o.rows.get hv) ?_
      (repeat first | refine HReg.step ?_ | refine HCode.step ?_)
      refine HReq.mk ⟨by omega, by omega⟩ ?_
      (repeat first | refine HReg.step ?_ | refine HCode.step ?_)
      rw [mkB_int (by omega)]
      obtain ⟨l4, hl4, a4, c4, e4, ov4⟩ := T4.G.val hv
      have hl4' := get_setV (y := List.replicate k (mkB j) ++ l.drop k) hli
      obtain rfl : l4 = List.replicate k (mkB j) ++ l.drop k := by rw [hl4'] at hl4; exact (Option.some.inj hl4).symm
      have hlen4 : (List.replicate k (mkB j) ++ l.drop k).length = l.length := by rw [List.length_append, List.length_replicate, List.length_drop]; omega
      refine T4.G.store (i := j) (k := k) (x := mkB j) hv hl4' rfl (by omega) (by show 0 + k + 0 = k; omega) fun H5 G5 u5 => ?_
      (repeat first | refine HReg.step ?_ | refine HCode.step ?_)
      rw [set_setV, set_repV (by omega)] at G5
      rw [w3]
      refine Exists.intro (p - 1) ?_
      refine And.intro (by omega) ?_
      obtain ⟨rfl, _, rfl⟩ := Value.slice.inj e4
      have tb : ∀ {e : TypeId}, e ≠ 5 → ∀ x ∈ [gv], ∀ c f, H4 x ≠ some (.cells c e f) := fun he => ov4.notT (Ne.symm he)
      refine KcInv.mk ⟨k + 1, rfl, by omega, G5, T4.G'.step u5 (tb (by decide)) (fun x hx => T4.G.new _ (List.mem_of_getElem? hv) x (by rw [vblk_slice]; exact hx)), T4.o.upd u5 (ov4.offT T4.o (by decide)), T4.o'.upd u5 (ov4.offT T4.o' (by decide))⟩
    · have h3 := ltB_false.1 h3
      have hkl : k = l.length := by omega
      subst hkl
      rw [List.drop_length, List.append_nil] at T4
      (repeat first | refine HReg.step ?_ | refine HCode.step ?_)
      rw [w2]
      refine Exists.intro (q - 1) ?_
      refine And.intro (by omega) ?_
      exact KbInv.mk ⟨j + 1, _, rfl, by omega, T4, M3.step hli⟩
  have h2 := ltB_false.1 h2
  have hjn : j = n := by omega
  subst hjn
  (repeat first | refine HReg.step ?_ | refine HCode.step ?_)
  refine hloopC [9, 10, 45, 46, 47, 48, 49, 50, 51, 52, 53, 54, 55, 56, 57, 58, 59, 60, 61, 62, 63, 64, 65, 66, 67] [9] (KdInv H1 a j c V b n' d X ns' lj) rfl (by repeat' first | exact Resp.retD | exact Resp1.valuesK | refine Resp.blockD ?_ | refine Resp.thenD ?_ ?_ | refine Resp.hcode ?_) ?_ ?_
  · exact ⟨n', KdInv.mk ⟨0, lx, rfl, rfl, T3, M0'⟩⟩
  clear T3 M0'
  rintro q _ fe4 H4 ⟨i, ly, rfl, hqi, T4, M4⟩
  have hly : ly.length = n' := by rw [M4.1]; exact hns'
  (repeat first | refine HReg.step ?_ | refine HCode.step ?_)
  refine hif (fun h3 => ?_) (fun h3 => ?_)
  · have h3 := ltB_true.1 h3
    have w2 : wr .i64 ((i : Int) + 1) = ((i + 1 : Nat) : Int) := by rw [wr_i64 (by omega) (by omega)]; omega
    obtain ⟨l, hli⟩ := get_len hly (by omega : i < n')
    have hlB := M4.len hl' hli
    obtain ⟨v, hv, av, cv, rfl, ov⟩ := T4.G'.get hli
    obtain ⟨gb, rfl⟩ := T4.o'.addr (by omega)
    (repeat first | refine HReg.step ?_ | refine HCode.step ?_)
    refine hloopC [10, 51, 52, 53, 54, 55, 56, 57, 58, 59, 60, 61, 62, 63, 64, 65, 66, 67] [10] (KeInv H1 a j c V (some ⟨gb, 0, none⟩) n' d X i l lj ly) rfl (by repeat' first | exact Resp.retD | exact Resp1.valuesK | refine Resp.blockD ?_ | refine Resp.thenD ?_ ?_ | refine Resp.hcode ?_) ?_ ?_
    · refine ⟨l.length, KeInv.mk ⟨0, rfl, rfl, ?_⟩⟩
      have e : List.replicate 0 (mkT i) ++ l.drop 0 = l := by simp
      rw [e, set_selfV hli]; exact T4
    rintro p _ fe5 H5 ⟨k, rfl, hpk, T5⟩
    (repeat first | refine HReg.step ?_ | refine HCode.step ?_)
    refine HReq.mk ⟨by omega, by omega⟩ ?_
    (repeat first | refine HReg.step ?_ | refine HCode.step ?_)
    refine HLoad.one (v := .slice av l.length cv) (by exact T5.o'.rows.get hv) ?_
    (repeat first | refine HReg.step ?_ | refine HCode.step ?_)
    refine hif (fun h4 => ?_) (fun h4 => ?_)
    · have h4 := ltB_true.1 h4
      obtain ⟨gv, rfl⟩ := ov.addr (by omega)
      have w3 : wr .i64 ((k : Int) + 1) = ((k + 1 : Nat) : Int) := by rw [wr_i64 (by omega) (by omega)]; omega
      (repeat first | refine HReg.step ?_ | refine HCode.step ?_)
      refine HCall.mk ⟨Try.f41, Try.func41, by rfl, by rfl⟩ ?_
      refine mark_t fun H6 u6 => ?_
      (repeat first | refine HReg.step ?_ | refine HCode.step ?_)
      refine HReq.mk ⟨by omega, by omega⟩ ?_
      (repeat first | refine HReg.step ?_ | refine HCode.step ?_)
      refine HLoad_two (v := .slice (some ⟨gv, 0, none⟩) l.length cv) (by exact (T5.o'.upd u6 (Off.nil _)).rows.get hv) (by exact T5.o'.rows.get hv) ?_
      (repeat first | refine HReg.step ?_ | refine HCode.step ?_)
      refine HReq.mk ⟨by omega, by omega⟩ ?_
      (repeat first | refine HReg.step ?_ | refine HCode.step ?_)
      have T6 : Two H1 a j c V (some ⟨gb, 0, none⟩) n' d X lj (ly.set i (List.replicate k (mkT i) ++ l.drop k)) H6 := ⟨T5.G.step0 u6, T5.G'.step0 u6, T5.o.upd u6 (Off.nil _), T5.o'.upd u6 (Off.nil _)⟩
      obtain ⟨l4, hl4, a4, c4, e4, ov4⟩ := T6.G'.val hv
      have hl4' := get_setV (y := List.replicate k (mkT i) ++ l.drop k) hli
      obtain rfl : l4 = List.replicate k (mkT i) ++ l.drop k := by rw [hl4'] at hl4; exact (Option.some.inj hl4).symm
      have hlen4 : (List.replicate k (mkT i) ++ l.drop k).length = l.length := by rw [List.length_append, List.length_replicate, List.length_drop]; omega
      refine T6.G'.store (i := i) (k := k) (x := mkT i) hv hl4' rfl (by omega) (by show 0 + k + 0 = k; omega) fun H7 G7 u7 => ?_
      (repeat first | refine HReg.step ?_ | refine HCode.step ?_)
      rw [set_setV, set_repV (by omega)] at G7
      rw [w3]
      refine Exists.intro (p - 1) ?_
      refine And.intro (by omega) ?_
      obtain ⟨rfl, _, rfl⟩ := Value.slice.inj e4
      have tb : ∀ {e : TypeId}, e ≠ 9 → ∀ x ∈ [gv], ∀ c f, H6 x ≠ some (.cells c e f) := fun he => ov4.notT (Ne.symm he)
      refine KeInv.mk ⟨k + 1, rfl, by omega, T6.G.step u7 (tb (by decide)) (fun x hx => T6.G'.new _ (List.mem_of_getElem? hv) x (by rw [vblk_slice]; exact hx)), G7, T6.o.upd u7 (ov4.offT T6.o (by decide)), T6.o'.upd u7 (ov4.offT T6.o' (by decide))⟩
    · have h4 := ltB_false.1 h4
      have hkl : k = l.length := by omega
      subst hkl
      rw [List.drop_length, List.append_nil] at T5
      (repeat first | refine HReg.step ?_ | refine HCode.step ?_)
      rw [w2]
      refine Exists.intro (q - 1) ?_
      refine And.intro (by omega) ?_
      exact KdInv.mk ⟨i + 1, _, rfl, by omega, T5, M4.step hli⟩
  have h3 := ltB_false.1 h3
  have hin : i = n' := by omega
  subst hin
  have sB : MSv mkB 5 30 H1 a j c V ns 0 0 none 0 V lj H4 := MSv.start T4.G M3 (by omega) T4.o
  (repeat first | refine HReg.step ?_ | refine HCode.step ?_)
  refine hloopC [5, 11, 12, 13, 68, 69, 70, 71, 72, 73, 74, 75, 76, 77, 78, 79, 80, 81, 82, 83, 84, 85, 86, 87, 88, 89, 90, 91] [5, 11] (KfInv H1 a j c V ns b i d X ly) rfl (by repeat' first | exact Resp.retD | exact Resp1.valuesK | refine Resp.blockD ?_ | refine Resp.thenD ?_ ?_ | refine Resp.hcode ?_) ?_ ?_
  · exact ⟨j, KfInv.mk ⟨0, none, 0, V, lj, rfl, rfl, sB, T4.G', T4.o', fun _ _ => rfl⟩⟩
  clear sB T4
  rintro q _ fe5 H5 ⟨k, aL, cL, Y, lY, rfl, hqk, s5, G5, o5', tl5⟩
  have hY : Y.length = j := by have := s5.G.len; rw [this, s5.C.1]; exact hns
  (repeat first | refine HReg.step ?_ | refine HCode.step ?_)
  refine hif (fun h4 => ?_) (fun h4 => ?_)
  · have h4 := ltB_true.1 h4
    have h4 : k < j := by omega
    obtain ⟨y0, hy0⟩ := get_len hY h4
    have hv0 : V[k]? = some y0 := by rw [← tl5 k (Nat.le_refl _)]; exact hy0
    obtain ⟨ga, rfl⟩ := s5.o.addr (by omega)
    have w3 : wr .i64 ((k : Int) + 1) = ((k + 1 : Nat) : Int) := by rw [wr_i64 (by omega) (by omega)]; omega
    obtain ⟨m0, hm0⟩ := get_len hns h4
    have hm0B := hl m0 (List.mem_of_getElem? hm0)
    (repeat first | refine HReg.step ?_ | refine HCode.step ?_)
    refine HReq.mk ⟨by omega, by omega⟩ ?_
    (repeat first | refine HReg.step ?_ | refine HCode.step ?_)
    refine HLoad.one (v := y0) (by exact s5.o.rows.get hv0) ?_
    (repeat first | refine HReg.step ?_ | refine HCode.step ?_)
    refine hloopC [12, 13, 78, 79, 80, 81, 82, 83, 84, 85, 86, 87] [12, 13] (KgInv H1 (some ⟨ga, 0, none⟩) j c V ns b i d X ly k aL cL (Y.take k)) rfl (by repeat' first | exact Resp.retD | exact Resp1.valuesK | refine Resp.blockD ?_ | refine Resp.thenD ?_ ?_ | refine Resp.hcode ?_) ?_ ?_
    · exact ⟨40, KgInv.mk ⟨0, y0, Y, lY, rfl, rfl, hy0, s5, G5, o5', rfl, fun x hx => tl5 x (by omega)⟩⟩
    clear s5 G5 o5' tl5
    rintro p _ fe6 H6 ⟨t, y, Y6, lY6, rfl, hpt, hy6, s6, G6, o6', tk6, tl6⟩
    obtain ⟨lv, hlv, a6, c6, rfl, o6⟩ := s6.G.val hy6
    obtain ⟨m0', hm0', hcont⟩ := s6.C.2 k lv hlv
    obtain rfl : m0 = m0' := by rw [hm0] at hm0'; exact Option.some.inj hm0'
    rw [if_neg (by omega), if_pos rfl] at hcont
    subst hcont
    rw [List.length_replicate] at o6 hy6 ⊢
    (repeat first | refine HReg.step ?_ | refine HCode.step ?_)
    refine hif (fun h5 => ?_) (fun h5 => ?_)
    · have h5 := ltB_true.1 h5
      have w4 : wr .i64 ((t : Int) + 1) = ((t + 1 : Nat) : Int) := by rw [wr_i64 (by omega) (by omega)]; omega
      (repeat first | refine HReg.step ?_ | refine HCode.step ?_)
      rw [mkB_int (by omega)]
      refine HReq.mk (by decide) ?_
      (repeat first | refine HReg.step ?_ | refine HCode.step ?_)
      refine HNew.mk fun b7 hb7 => ?_
      have u7 : Upd [] H6 (H6.upd b7 (.cells [mkB k].toArray 5)) := Upd.new hb7 _
      have r7 : RowAt (H6.upd b7 (.cells [mkB k].toArray 5)) (some ⟨b7, 0, none⟩) [mkB k] := RowAt.of_cells (upd_same _ _ _)
      have hx7 : H6.upd b7 (.cells [Value.int .u8 (((100 + k) % 256 : Nat) : Int)].toArray 5) = H6.upd b7 (.cells [mkB k].toArray 5) := rfl
      rw [hx7]
      generalize hH7 : H6.upd b7 (.cells [mkB k].toArray 5) = H7 at u7 r7
      have o7 := o6.upd u7 (Off.nil _)
      have s7 := s6.step0 u7
      have G7 := G6.step0 u7
      have o7' := o6'.upd u7 (Off.nil _)
      (repeat first | refine HReg.step ?_ | refine HCode.step ?_)
      refine append_rows' (ie := Try.t5) (z := .int .u8 0) (ys := [mkB k]) (xs := List.replicate (m0 + t) (mkB k)) Try.underlying30 rfl rfl rfl (by decide) o7 r7 rfl (fun v hv => by rw [List.mem_singleton.1 hv]; rfl) (by show (m0 + t + 1) * 1 ≤ _; omega) (by omega) fun a8 c8 H8 o8 u8' f8 q1 => ?_
      have s8 := s7.push (by decide) hm0 hy6 o7 o8 u8' f8 q1
      have n7 : ∀ x ∈ blk a6, H1 x = none := fun x hx => s7.G.new _ (List.mem_of_getElem? hy6) x (by rw [vblk_slice]; exact hx)
      (repeat first | refine HReg.step ?_ | refine HCode.step ?_)
      rw [w4]
      refine Exists.intro (p - 1) ?_
      refine And.intro (by omega) ?_
      refine KgInv.mk ⟨t + 1, _, _, _, rfl, by omega, get_setV hy6, s8, G7.step u8' (o7.notT (by decide)) n7, o7'.upd u8' (o7.offT o7' (by decide)), ?_, fun x hx => ?_⟩
      · rw [take_setV]; exact tk6
      · rw [List.getElem?_set, if_neg (by omega)]; exact tl6 x hx
    · have h5 := ltB_false.1 h5
      have ht40 : t = 40 := by omega
      subst ht40
      (repeat first | refine HReg.step ?_ | refine HCode.step ?_)
      refine HReq.mk (by decide) ?_
      (repeat first | refine HReg.step ?_ | refine HCode.step ?_)
      refine HNew.mk fun b7 hb7 => ?_
      have u7 : Upd [] H6 (H6.upd b7 (.cells [Value.slice a6 (m0 + 40) c6].toArray 30)) := Upd.new hb7 _
      have r7 : RowAt (H6.upd b7 (.cells [Value.slice a6 (m0 + 40) c6].toArray 30)) (some ⟨b7, 0, none⟩) [Value.slice a6 (m0 + 40) c6] := RowAt.of_cells (upd_same _ _ _)
      generalize hH7 : H6.upd b7 (.cells [Value.slice a6 (m0 + 40) c6].toArray 30) = H7 at u7 r7
      have s7 := s6.step0 u7
      have G7 := G6.step0 u7
      have o7' := o6'.upd u7 (Off.nil _)
      (repeat first | refine HReg.step ?_ | refine HCode.step ?_)
      refine append_rows (ie := Try.t30) (z := .slice none 0 0) (xs := Y6.take k) (ys := [Value.slice a6 (m0 + 40) c6]) Try.underlying49 rfl rfl rfl (by decide) s7.L r7 rfl ?_ ?_ (by omega) fun a8 c8 H8 o8 u8' f8 => ?_
      · intro v hv; rw [List.mem_singleton.1 hv]; rfl
      · show (k + 1) * 24 ≤ _; omega
      have s8 := s7.next (by decide) hy6 o8 u8' f8
      (repeat first | refine HReg.step ?_ | refine HCode.step ?_)
      rw [w3]
      refine Exists.intro (q - 1) ?_
      refine And.intro (by omega) ?_
      exact KfInv.mk ⟨k + 1, a8, c8, Y6, lY6, rfl, by omega, s8, G7.step u8' (s7.L.notT (by decide)) s7.Ln, o7'.upd u8' (s7.L.offT o7' (by decide)), fun x hx => tl6 x (by omega)⟩
  have h4 := ltB_false.1 h4
  have hkj : k = j := by omega
  subst hkj
  have sT : MSv mkT 9 25 H1 b i d X ns' 0 0 none 0 X ly H5 := MSv.start G5 M4 (by omega) o5'
  (repeat first | refine HReg.step ?_ | refine HCode.step ?_)
  refine hloopC [6, 14, 15, 16, 92, 93, 94, 95, 96, 97, 98, 99, 100, 101, 102, 103, 104, 105, 106, 107, 108, 109, 110, 111, 112, 113, 114] [6, 14] (KhInv H1 a k c V ns aL cL Y lY b i d X ns') rfl (by repeat' first | exact Resp.retD | exact Resp1.valuesK | refine Resp.blockD ?_ | refine Resp.thenD ?_ ?_ | refine Resp.hcode ?_) ?_ ?_
  · exact ⟨i, KhInv.mk ⟨0, none, 0, X, ly, rfl, rfl, s5, sT, fun _ _ => rfl⟩⟩
  clear sT s5 G5 o5'
  rintro q2 _ fe7 H6 ⟨r, aM, cM, Z, lZ, rfl, hqr, s6, t6, tl6⟩
  have hZ : Z.length = i := by have := t6.G.len; rw [this, t6.C.1]; exact hns'
  (repeat first | refine HReg.step ?_ | refine HCode.step ?_)
  refine hif (fun h5 => ?_) (fun h5 => ?_)
  · have h5 := ltB_true.1 h5
    have h5 : r < i := by omega
    obtain ⟨y0, hy0⟩ := get_len hZ h5
    have hv0 : X[r]? = some y0 := by rw [← tl6 r (Nat.le_refl _)]; exact hy0
    obtain ⟨gb, rfl⟩ := t6.o.addr (by omega)
    have w3 : wr .i64 ((r : Int) + 1) = ((r + 1 : Nat) : Int) := by rw [wr_i64 (by omega) (by omega)]; omega
    obtain ⟨m0, hm0⟩ := get_len hns' h5
    have hm0B := hl' m0 (List.mem_of_getElem? hm0)
    (repeat first | refine HReg.step ?_ | refine HCode.step ?_)
    refine HReq.mk ⟨by omega, by omega⟩ ?_
    (repeat first | refine HReg.step ?_ | refine HCode.step ?_)
    refine HLoad.one (v := y0) (by exact t6.o.rows.get hv0) ?_
    (repeat first | refine HReg.step ?_ | refine HCode.step ?_)
    refine hloopC [15, 16, 102, 103, 104, 105, 106, 107, 108, 109, 110] [15, 16] (KiInv H1 a k c V ns aL cL Y lY (some ⟨gb, 0, none⟩) i d X ns' r aM cM (Z.take r)) rfl (by repeat' first | exact Resp.retD | exact Resp1.valuesK | refine Resp.blockD ?_ | refine Resp.thenD ?_ ?_ | refine Resp.hcode ?_) ?_ ?_
    · exact ⟨40, KiInv.mk ⟨0, y0, Z, lZ, rfl, rfl, hy0, s6, t6, rfl, fun x hx => tl6 x (by omega)⟩⟩
    clear s6 t6 tl6
    rintro p _ fe8 H7 ⟨t, y, Y7, lY7, rfl, hpt, hy7, s7, t7, tk7, tl7⟩
    obtain ⟨lv, hlv, a7, c7, rfl, o7⟩ := t7.G.val hy7
    obtain ⟨m0', hm0', hcont⟩ := t7.C.2 r lv hlv
    obtain rfl : m0 = m0' := by rw [hm0] at hm0'; exact Option.some.inj hm0'
    rw [if_neg (by omega), if_pos rfl] at hcont
    subst hcont
    rw [List.length_replicate] at o7 hy7 ⊢
    (repeat first | refine HReg.step ?_ | refine HCode.step ?_)
    refine hif (fun h6 => ?_) (fun h6 => ?_)
    · have h6 := ltB_true.1 h6
      have w4 : wr .i64 ((t : Int) + 1) = ((t + 1 : Nat) : Int) := by rw [wr_i64 (by omega) (by omega)]; omega
      (repeat first | refine HReg.step ?_ | refine HCode.step ?_)
      refine HCall.mk ⟨Try.f41, Try.func41, by rfl, by rfl⟩ ?_
      refine mark_t fun H8 u8_ => ?_
      (repeat first | refine HReg.step ?_ | refine HCode.step ?_)
      refine HReq.mk (by decide) ?_
      (repeat first | refine HReg.step ?_ | refine HCode.step ?_)
      refine HNew.mk fun b7 hb7 => ?_
      have u9 : Upd [] H7 (H8.upd b7 (.cells [mkT r].toArray 9)) := u8_.trans (Upd.new hb7 _)
      have r9 : RowAt (H8.upd b7 (.cells [mkT r].toArray 9)) (some ⟨b7, 0, none⟩) [mkT r] := RowAt.of_cells (upd_same _ _ _)
      have hx9 : H8.upd b7 (.cells [Value.string (bs (markT r))].toArray 9) = H8.upd b7 (.cells [mkT r].toArray 9) := rfl
      rw [hx9]
      generalize hH9 : H8.upd b7 (.cells [mkT r].toArray 9) = H9 at u9 r9
      have o9 := o7.upd u9 (Off.nil _)
      have s9 := s7.step0 u9
      have t9 := t7.step0 u9
      (repeat first | refine HReg.step ?_ | refine HCode.step ?_)
      refine append_rows' (ie := Try.t9) (z := .string ⟨#[]⟩) (ys := [mkT r]) (xs := List.replicate (m0 + t) (mkT r)) Try.underlying25 rfl rfl rfl (by decide) o9 r9 rfl (fun v hv => by rw [List.mem_singleton.1 hv]; rfl) (by show (m0 + t + 1) * 16 ≤ _; omega) (by omega) fun a8 c8 H8 o8 u8' f8 q1 => ?_
      have t8 := t9.push (by decide) hm0 hy7 o9 o8 u8' f8 q1
      have n9 : ∀ x ∈ blk a7, H1 x = none := fun x hx => t9.G.new _ (List.mem_of_getElem? hy7) x (by rw [vblk_slice]; exact hx)
      (repeat first | refine HReg.step ?_ | refine HCode.step ?_)
      rw [w4]
      refine Exists.intro (p - 1) ?_
      refine And.intro (by omega) ?_
      refine KiInv.mk ⟨t + 1, _, _, _, rfl, by omega, get_setV hy7, s9.off u8' (fun x hx => ⟨o9.notT (by decide) x hx, o9.notT (by decide) x hx⟩) n9, t8, ?_, fun x hx => ?_⟩
      · rw [take_setV]; exact tk7
      · rw [List.getElem?_set, if_neg (by omega)]; exact tl7 x hx
    · have h6 := ltB_false.1 h6
      have ht40 : t = 40 := by omega
      subst ht40
      (repeat first | refine HReg.step ?_ | refine HCode.step ?_)
      refine HReq.mk (by decide) ?_
      (repeat first | refine HReg.step ?_ | refine HCode.step ?_)
      refine HNew.mk fun b7 hb7 => ?_
      have u8_ : Upd [] H7 (H7.upd b7 (.cells [Value.slice a7 (m0 + 40) c7].toArray 25)) := Upd.new hb7 _
      have r8 : RowAt (H7.upd b7 (.cells [Value.slice a7 (m0 + 40) c7].toArray 25)) (some ⟨b7, 0, none⟩) [Value.slice a7 (m0 + 40) c7] := RowAt.of_cells (upd_same _ _ _)
      generalize hH8 : H7.upd b7 (.cells [Value.slice a7 (m0 + 40) c7].toArray 25) = H8 at u8_ r8
      have s8 := s7.step0 u8_
      have t8 := t7.step0 u8_
      (repeat first | refine HReg.step ?_ | refine HCode.step ?_)
      refine append_rows (ie := Try.t25) (z := .slice none 0 0) (xs := Y7.take r) (ys := [Value.slice a7 (m0 + 40) c7]) Try.underlying50 rfl rfl rfl (by decide) t8.L r8 rfl ?_ ?_ (by omega) fun a9 c9 H9 o9 u9 f9 => ?_
      · intro v hv; rw [List.mem_singleton.1 hv]; rfl
      · show (r + 1) * 24 ≤ _; omega
      have t9 := t8.next (by decide) hy7 o9 u9 f9
      (repeat first | refine HReg.step ?_ | refine HCode.step ?_)
      rw [w3]
      refine Exists.intro (q2 - 1) ?_
      refine And.intro (by omega) ?_
      exact KhInv.mk ⟨r + 1, a9, c9, Y7, lY7, rfl, by omega, s8.off u9 (fun x hx => ⟨t8.L.notT (by decide) x hx, t8.L.notT (by decide) x hx⟩) t8.Ln, t9, fun x hx => tl7 x (by omega)⟩
  have h5 := ltB_false.1 h5
  have hri : r = i := by omega
  subst hri
  have hYt : Y.take k = Y := List.take_of_length_le (by omega)
  have hZt : Z.take r = Z := List.take_of_length_le (by omega)
  have L6 := s6.L
  have L6' := t6.L
  rw [hYt] at L6
  rw [hZt] at L6'
  (repeat first | refine HReg.step ?_ | refine HCode.step ?_)
  refine hloopC [4, 17, 18, 115, 116, 117, 118, 119, 120, 121, 122, 123, 124, 125, 126, 127, 128, 129, 130, 131, 132, 133, 134, 135, 136, 137, 138, 139, 140, 141, 142, 143, 144, 145, 146, 147, 148, 149, 150, 151, 152, 153, 154, 155, 156, 157, 158, 159, 160, 161, 162] [17] (KjInv H6 k) rfl (by repeat' first | exact Resp.retD | exact Resp1.valuesK | refine Resp.blockD ?_ | refine Resp.thenD ?_ ?_ | refine Resp.hcode ?_) ?_ ?_
  · exact ⟨k, KjInv.mk ⟨0, rfl, rfl, rfl⟩⟩
  rintro q3 _ fe9 H7 ⟨i, rfl, hqi, rfl⟩
  (repeat first | refine HReg.step ?_ | refine HCode.step ?_)
  refine hif (fun h6 => ?_) (fun h6 => ?_)
  · have h6 := ltB_true.1 h6
    have h6 : i < k := by omega
    obtain ⟨v, hv⟩ := get_len hV h6
    obtain ⟨m0, a7, c7, av, cv, hm0, hy7, o7, rfl, rv⟩ := s6.read hv h6
    have hm0B := hl m0 (List.mem_of_getElem? hm0)
    have w3 : wr .i64 ((i : Int) + 1) = ((i + 1 : Nat) : Int) := by rw [wr_i64 (by omega) (by omega)]; omega
    obtain ⟨ga, rfl⟩ := s6.o.addr (by omega)
    obtain ⟨gl, rfl⟩ := L6.addr (by omega)
    obtain ⟨gy, rfl⟩ := o7.addr (by omega)
    (repeat first | refine HReg.step ?_ | refine HCode.step ?_)
    refine hloopC [4, 18, 121, 122, 123, 124, 125, 126, 127, 128, 129, 130, 131, 132, 133, 134, 135, 136, 137, 138, 139, 140, 141, 142, 143, 144, 145, 146, 147, 148, 149, 150, 151, 152, 153, 154, 155, 156, 157, 158, 159, 160, 161, 162] [18] (KjInv H7 (m0 + 40)) rfl (by repeat' first | exact Resp.retD | exact Resp1.valuesK | refine Resp.blockD ?_ | refine Resp.thenD ?_ ?_ | refine Resp.hcode ?_) ?_ ?_
    · exact ⟨m0 + 40, KjInv.mk ⟨0, rfl, rfl, rfl⟩⟩
    rintro q4 _ fe10 H8 ⟨z, rfl, hqz, rfl⟩
    (repeat first | refine HReg.step ?_ | refine HCode.step ?_)
    refine HReq.mk ⟨by omega, by omega⟩ ?_
    (repeat first | refine HReg.step ?_ | refine HCode.step ?_)
    refine HLoad.one (v := .slice (some ⟨gy, 0, none⟩) (m0 + 40) c7) (by exact L6.rows.get hy7) ?_
    (repeat first | refine HReg.step ?_ | refine HCode.step ?_)
    refine hif (fun h7 => ?_) (fun h7 => ?_)
    · have h7 := ltB_true.1 h7
      have w4 : wr .i64 ((z : Int) + 1) = ((z + 1 : Nat) : Int) := by rw [wr_i64 (by omega) (by omega)]; omega
      have hx1 : (List.replicate (m0 + 40) (mkB i))[z]? = some (mkB i) := rep_get (by omega)
      (repeat first | refine HReg.step ?_ | refine HCode.step ?_)
      refine HReq.mk ⟨by omega, by omega⟩ ?_
      (repeat first | refine HReg.step ?_ | refine HCode.step ?_)
      refine HLoad.one (v := .slice (some ⟨gy, 0, none⟩) (m0 + 40) c7) (by exact L6.rows.get hy7) ?_
      (repeat first | refine HReg.step ?_ | refine HCode.step ?_)
      refine HReq.mk ⟨by omega, by omega⟩ ?_
      (repeat first | refine HReg.step ?_ | refine HCode.step ?_)
      refine HLoad.one (v := mkB i) (by exact o7.rows.get hx1) ?_
      (repeat first | refine HReg.step ?_ | refine HCode.step ?_)
      rw [mkB_int (by omega), eqB_self]
      (repeat first | refine HReg.step ?_ | refine HCode.step ?_)
      refine HReq.mk ⟨by omega, by omega⟩ ?_
      (repeat first | refine HReg.step ?_ | refine HCode.step ?_)
      refine HLoad.one (v := .slice av m0 cv) (by exact s6.o.rows.get hv) ?_
      (repeat first | refine HReg.step ?_ | refine HCode.step ?_)
      refine hif (fun h8 => ?_) (fun h8 => ?_)
      · have h8 := ltB_true.1 h8
        (repeat first | refine HReg.step ?_ | refine HCode.step ?_)
        refine HReq.mk ⟨by omega, by omega⟩ ?_
        (repeat first | refine HReg.step ?_ | refine HCode.step ?_)
        refine HLoad.one (v := .slice av m0 cv) (by exact s6.o.rows.get hv) ?_
        have hx2 : (List.replicate m0 (mkB i))[z]? = some (mkB i) := rep_get (by omega)
        obtain ⟨gv, go, rfl, _⟩ := rv z _ hx2
        (repeat first | refine HReg.step ?_ | refine HCode.step ?_)
        refine HReq.mk ⟨by omega, by omega⟩ ?_
        (repeat first | refine HReg.step ?_ | refine HCode.step ?_)
        refine HLoad.one (v := mkB i) (by exact rv.get hx2) ?_
        (repeat first | refine HReg.step ?_ | refine HCode.step ?_)
        rw [mkB_int (by omega), eqB_self]
        (repeat first | refine HReg.step ?_ | refine HCode.step ?_)
        rw [w4]
        exact ⟨q4 - 1, by omega, KjInv.mk ⟨z + 1, rfl, by omega, rfl⟩⟩
      · (repeat first | refine HReg.step ?_ | refine HCode.step ?_)
        rw [w4]
        exact ⟨q4 - 1, by omega, KjInv.mk ⟨z + 1, rfl, by omega, rfl⟩⟩
    · have h7 := ltB_false.1 h7
      (repeat first | refine HReg.step ?_ | refine HCode.step ?_)
      rw [w3]
      exact ⟨q3 - 1, by omega, KjInv.mk ⟨i + 1, rfl, by omega, rfl⟩⟩
  (repeat first | refine HReg.step ?_ | refine HCode.step ?_)
  refine hloopC [4, 19, 20, 163, 164, 165, 166, 167, 168, 169, 170, 171, 172, 173, 174, 175, 176, 177, 178, 179, 180, 181, 182, 183, 184, 185, 186, 187, 188, 189, 190, 191, 192, 193, 194, 195, 196, 197, 198, 199, 200, 201, 202, 203, 204, 205, 206, 207, 208] [19] (KkInv H7 r) rfl (by repeat' first | exact Resp.retD | exact Resp1.valuesK | refine Resp.blockD ?_ | refine Resp.thenD ?_ ?_ | refine Resp.hcode ?_) ?_ ?_
  · exact ⟨r, KkInv.mk ⟨0, rfl, rfl, Upd.refl _ _⟩⟩
  rintro q5 _ fe11 H8 ⟨z, rfl, hqz, u8_⟩
  (repeat first | refine HReg.step ?_ | refine HCode.step ?_)
  refine hif (fun h7 => ?_) (fun h7 => ?_)
  · have h7 := ltB_true.1 h7
    have h7 : z < r := by omega
    obtain ⟨v, hv⟩ := get_len hX h7
    obtain ⟨m0, a7, c7, av, cv, hm0, hy7, o7, rfl, rv⟩ := t6.read hv h7
    have hm0B := hl' m0 (List.mem_of_getElem? hm0)
    have w3 : wr .i64 ((z : Int) + 1) = ((z + 1 : Nat) : Int) := by rw [wr_i64 (by omega) (by omega)]; omega
    obtain ⟨gb, rfl⟩ := t6.o.addr (by omega)
    obtain ⟨gl, rfl⟩ := L6'.addr (by omega)
    obtain ⟨gy, rfl⟩ := o7.addr (by omega)
    have rX : ∀ {H'}, Upd [] H7 H' → RowAt H' (some ⟨gb, 0, none⟩) X := fun u => t6.o.rows.upd (S := []) u (.inr (Off.nil _))
    have rL : ∀ {H'}, Upd [] H7 H' → RowAt H' (some ⟨gl, 0, none⟩) Z := fun u => L6'.rows.upd (S := []) u (.inr (Off.nil _))
    have r7 : ∀ {H'}, Upd [] H7 H' → RowAt H' (some ⟨gy, 0, none⟩) (List.replicate (m0 + 40) (mkT z)) := fun u => o7.rows.upd (S := []) u (.inr (Off.nil _))
    have rv7 : ∀ {H'}, Upd [] H7 H' → RowAt H' av (List.replicate m0 (mkT z)) := fun u => rv.upd (S := []) u (.inr (Off.nil _))
    (repeat first | refine HReg.step ?_ | refine HCode.step ?_)
    refine hloopC [4, 20, 169, 170, 171, 172, 173, 174, 175, 176, 177, 178, 179, 180, 181, 182, 183, 184, 185, 186, 187, 188, 189, 190, 191, 192, 193, 194, 195, 196, 197, 198, 199, 200, 201, 202, 203, 204, 205, 206, 207, 208] [20] (KkInv H7 (m0 + 40)) rfl (by repeat' first | exact Resp.retD | exact Resp1.valuesK | refine Resp.blockD ?_ | refine Resp.thenD ?_ ?_ | refine Resp.hcode ?_) ?_ ?_
    · exact ⟨m0 + 40, KkInv.mk ⟨0, rfl, rfl, u8_⟩⟩
    rintro q6 _ fe12 H9 ⟨w, rfl, hqw, u9⟩
    (repeat first | refine HReg.step ?_ | refine HCode.step ?_)
    refine HReq.mk ⟨by omega, by omega⟩ ?_
    (repeat first | refine HReg.step ?_ | refine HCode.step ?_)
    refine HLoad.one (v := .slice (some ⟨gy, 0, none⟩) (m0 + 40) c7) (by exact (rL u9).get hy7) ?_
    (repeat first | refine HReg.step ?_ | refine HCode.step ?_)
    refine hif (fun h8 => ?_) (fun h8 => ?_)
    · have h8 := ltB_true.1 h8
      have w4 : wr .i64 ((w : Int) + 1) = ((w + 1 : Nat) : Int) := by rw [wr_i64 (by omega) (by omega)]; omega
      have hx1 : (List.replicate (m0 + 40) (mkT z))[w]? = some (mkT z) := rep_get (by omega)
      have hse : seqB (bs (markT z)) (bs (markT z)) = true := by rw [seqB_bs, decide_eq_true rfl]
      (repeat first | refine HReg.step ?_ | refine HCode.step ?_)
      refine HCall.mk ⟨Try.f41, Try.func41, by rfl, by rfl⟩ ?_
      refine mark_t fun H10 u10 => ?_
      have u10' := u9.trans u10
      (repeat first | refine HReg.step ?_ | refine HCode.step ?_)
      refine HReq.mk ⟨by omega, by omega⟩ ?_
      (repeat first | refine HReg.step ?_ | refine HCode.step ?_)
      refine HLoad_two (v := .slice (some ⟨gy, 0, none⟩) (m0 + 40) c7) (by exact (rL u10').get hy7) (by exact (rL u9).get hy7) ?_
      (repeat first | refine HReg.step ?_ | refine HCode.step ?_)
      refine HReq.mk ⟨by omega, by omega⟩ ?_
      (repeat first | refine HReg.step ?_ | refine HCode.step ?_)
      refine HLoad_two (v := mkT z) (by exact (r7 u10').get hx1) (by exact (r7 u9).get hx1) ?_
      (repeat first | refine HReg.step ?_ | refine HCode.step ?_)
      rw [hse]
      (repeat first | refine HReg.step ?_ | refine HCode.step ?_)
      refine HReq.mk ⟨by omega, by omega⟩ ?_
      (repeat first | refine HReg.step ?_ | refine HCode.step ?_)
      refine HLoad.one (v := .slice av m0 cv) (by exact (rX u10').get hv) ?_
      (repeat first | refine HReg.step ?_ | refine HCode.step ?_)
      refine hif (fun h9 => ?_) (fun h9 => ?_)
      · have h9 := ltB_true.1 h9
        have hx2 : (List.replicate m0 (mkT z))[w]? = some (mkT z) := rep_get (by omega)
        (repeat first | refine HReg.step ?_ | refine HCode.step ?_)
        refine HCall.mk ⟨Try.f41, Try.func41, by rfl, by rfl⟩ ?_
        refine mark_t fun H11 u11 => ?_
        have u11' := u10'.trans u11
        obtain ⟨gv, go, rfl, _⟩ := rv w _ hx2
        (repeat first | refine HReg.step ?_ | refine HCode.step ?_)
        refine HReq.mk ⟨by omega, by omega⟩ ?_
        (repeat first | refine HReg.step ?_ | refine HCode.step ?_)
        refine HLoad_two (v := .slice (some ⟨gv, go, none⟩) m0 cv) (by exact (rX u11').get hv) (by exact (rX u10').get hv) ?_
        (repeat first | refine HReg.step ?_ | refine HCode.step ?_)
        refine HReq.mk ⟨by omega, by omega⟩ ?_
        (repeat first | refine HReg.step ?_ | refine HCode.step ?_)
        refine HLoad_two (v := mkT z) (by exact (rv7 u11').get hx2) (by exact (rv7 u10').get hx2) ?_
        (repeat first | refine HReg.step ?_ | refine HCode.step ?_)
        rw [hse]
        (repeat first | refine HReg.step ?_ | refine HCode.step ?_)
        rw [w4]
        exact ⟨q6 - 1, by omega, KkInv.mk ⟨w + 1, rfl, by omega, u11'⟩⟩
      · (repeat first | refine HReg.step ?_ | refine HCode.step ?_)
        rw [w4]
        exact ⟨q6 - 1, by omega, KkInv.mk ⟨w + 1, rfl, by omega, u10'⟩⟩
    · have h8 := ltB_false.1 h8
      (repeat first | refine HReg.step ?_ | refine HCode.step ?_)
      rw [w3]
      exact ⟨q5 - 1, by omega, KkInv.mk ⟨z + 1, rfl, by omega, u9⟩⟩
  · (repeat first | refine HReg.step ?_ | refine HCode.step ?_)
    exact hk _ (s6.G.upd.trans u8_)
end Go.Proofs.Ytlgncabjphokjaa
