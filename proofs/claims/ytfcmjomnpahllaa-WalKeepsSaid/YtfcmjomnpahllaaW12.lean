import Derived.Test.YtfcmjomnpahllaaW11
namespace Go.Proofs.Ytfcmjomnpahllaa
open Go Hv
set_option linter.unusedVariables false
set_option linter.unusedSimpArgs false
set_option maxRecDepth 10000
set_option maxHeartbeats 4000000
/-! WalKeeps: scripts, what the walk knows. CUT2 -/
structure OpW where
  kind : Int
  q : PRec
  n : Int
  k : Int
  nm : ByteArray
  ab : Option Addr
  nb : Nat
  cb : Nat
def OpW.cells (o : OpW) : List Value := [.int .i64 o.kind, .int .i64 o.q.r.kind, .int .u64 (o.q.r.id : Int), .slice o.q.ap o.q.r.ps.length o.q.cp, .slice o.q.ak o.q.r.ks.length o.q.ck, .int .i64 o.n, .int .i64 o.k, .string o.nm, .slice o.ab o.nb o.cb]
def opsV : List OpW → List Value
  | [] => []
  | o :: os => o.cells ++ opsV os
theorem opsV_split : ∀ {os : List OpW} {idx : Nat} {v : Value}, (opsV os)[idx]? = some v → ∃ i k o, idx = i * 9 + k ∧ os[i]? = some o ∧ (OpW.cells o)[k]? = some v
  | [], idx, v, h => by simp [opsV] at h
  | o :: os, idx, v, h => by
    have h : (o.cells ++ opsV os)[idx]? = some v := h
    have hl : o.cells.length = 9 := rfl
    by_cases hi : idx < 9
    · rw [List.getElem?_append_left (by omega)] at h
      exact ⟨0, idx, o, by omega, rfl, h⟩
    · rw [List.getElem?_append_right (by omega), hl] at h
      obtain ⟨i, k, o', h1, h2, h3⟩ := opsV_split h
      exact ⟨i + 1, k, o', by omega, by simpa using h2, h3⟩
theorem opsV_get : ∀ {os : List OpW} {i : Nat} {o : OpW}, os[i]? = some o → ∀ (k : Nat) v, (OpW.cells o)[k]? = some v → (opsV os)[i * 9 + k]? = some v
  | [], i, o, h => by simp at h
  | p :: os, 0, o, h => fun k v hk => by
    simp at h; subst h
    have : k < (OpW.cells p).length := (List.getElem?_eq_some_iff.1 hk).1
    show (OpW.cells p ++ opsV os)[0 * 9 + k]? = _
    rw [Nat.zero_mul, Nat.zero_add, List.getElem?_append_left this]; exact hk
  | p :: os, i + 1, o, h => fun k v hk => by
    have ih := opsV_get (os := os) (i := i) (o := o) (by simpa using h) k v hk
    have e : (OpW.cells p).length = 9 := rfl
    show (OpW.cells p ++ opsV os)[(i + 1) * 9 + k]? = _
    rw [List.getElem?_append_right (by rw [e]; omega), e]
    have e2 : (i + 1) * 9 + k - 9 = i * 9 + k := by omega
    rw [e2]; exact ih
theorem HLoadN_opw {H : Heap} {b off i : Nat} {os : List OpW} {o : OpW} {K : List Value → Prop} (h : RowAt H (some ⟨b, off, none⟩) (opsV os)) (ho : os[i]? = some o) (hk : K o.cells) : HLoadN [H] b (off + i * 9) 9 K :=
  ⟨o.cells, fun H' hH j v hv => by
    rw [List.mem_singleton.1 hH, Nat.add_assoc]
    exact h.get (opsV_get ho j v hv), rfl, hk⟩
structure OpOk (H : Heap) (o : OpW) : Prop where
  rc : RecIn H o.q.r o.q.ap o.q.ak
  id : o.q.r.id < 18446744073709551616
  n1 : -9223372036854775808 ≤ o.n
  n2 : o.n ≤ 9223372036854775807
  k1 : -9223372036854775808 ≤ o.k
  k2 : o.k ≤ 9223372036854775807
theorem OpOk.upd0 {H H' : Heap} {o : OpW} (h : OpOk H o) (u : Upd [] H H') : OpOk H' o := ⟨h.rc.upd0 u, h.id, h.n1, h.n2, h.k1, h.k2⟩
/-- A script in memory. -/
structure Ops (H : Heap) (a : Option Addr) (os : List OpW) : Prop where
  row : RowAt H a (opsV os)
  each : ∀ o ∈ os, OpOk H o
theorem Ops.upd0 {H H' : Heap} {a : Option Addr} {os : List OpW} (h : Ops H a os) (u : Upd [] H H') : Ops H' a os := ⟨h.row.upd (S := []) u (.inr (Off.nil _)), fun o ho => (h.each o ho).upd0 u⟩
/-- A heap without the disk, the log and the row of what was told. -/
theorem less_drop {S B : List Nat} {L L' : Heap} (u : Upd S L L') (h : ∀ b ∈ S, b ∈ B) : Upd [] (lessH L B) (lessH L' B) :=
  Upd.drop (Upd.refl _ _) (less0 u) fun b hb => lessH_none (h b hb)
theorem less_move {L L' : Heap} {a a' : Option Addr} {p : Nat} (u : Upd (blk a) L L') (hf : ∀ q, a' = some q → a = some q ∨ L q.block = none) : Upd [] (lessH L (p :: blk a)) (lessH L' (p :: blk a')) := fun k _ h => by
  obtain ⟨h1, h2⟩ := less_ne h
  have h3 : k ∉ p :: blk a' := fun hk => by
    rcases List.mem_cons.1 hk with e | hk
    · exact h1 (by rw [e]; exact List.mem_cons_self)
    · obtain ⟨q, hq, rfl⟩ := blk_of hk
      rcases hf q hq with e | e
      · exact h1 (List.mem_cons_of_mem _ (by rw [e]; simp [blk]))
      · exact h2 e
  rw [lessH_of h1, lessH_of h3, u k (fun hk => h1 (List.mem_cons_of_mem _ hk)) h2]
def zeroO (k : Int) : OpW := ⟨k, ⟨⟨0, 0, [], []⟩, none, 0, none, 0⟩, 0, 0, ⟨#[]⟩, none, 0, 0⟩
theorem store_opw {H : Heap} {b : Nat} {o : OpW} {xs : List Value} {K : Heap → Prop} (h : OwnRow H 57 1 (some ⟨b, 0, none⟩) 9 9 xs) (hl : xs.length = 9)
    (hk : ∀ H', OwnRow H' 57 1 (some ⟨b, 0, none⟩) 9 9 o.cells → Upd [b] H H' → K H') : storeN H b 0 0 K o.cells := by
  obtain ⟨x0, x1, x2, x3, x4, x5, x6, x7, x8, rfl⟩ : ∃ a b c d e f g h i, xs = [a, b, c, d, e, f, g, h, i] := by
    match xs, hl with
    | [a, b, c, d, e, f, g, h, i], _ => exact ⟨a, b, c, d, e, f, g, h, i, rfl⟩
  refine store_row h (v := .int .i64 o.kind) rfl (i := 0) (by decide) (by rfl) fun H1 o1 u1 => ?_
  refine store_row o1 (v := .int .i64 o.q.r.kind) rfl (i := 1) (by decide) (by rfl) fun H2 o2 u2 => ?_
  refine store_row o2 (v := .int .u64 (o.q.r.id : Int)) rfl (i := 2) (by decide) (by rfl) fun H3 o3 u3 => ?_
  refine store_row o3 (v := .slice o.q.ap o.q.r.ps.length o.q.cp) rfl (i := 3) (by decide) (by rfl) fun H4 o4 u4 => ?_
  refine store_row o4 (v := .slice o.q.ak o.q.r.ks.length o.q.ck) rfl (i := 4) (by decide) (by rfl) fun H5 o5 u5 => ?_
  refine store_row o5 (v := .int .i64 o.n) rfl (i := 5) (by decide) (by rfl) fun H6 o6 u6 => ?_
  refine store_row o6 (v := .int .i64 o.k) rfl (i := 6) (by decide) (by rfl) fun H7 o7 u7 => ?_
  refine store_row o7 (v := .string o.nm) rfl (i := 7) (by decide) (by rfl) fun H8 o8 u8_ => ?_
  refine store_row o8 (v := .slice o.ab o.nb o.cb) rfl (i := 8) (by decide) (by rfl) fun H9 o9 u9 => ?_
  exact hk H9 o9 ((((((((u1.trans u2).trans u3).trans u4).trans u5).trans u6).trans u7).trans u8_).trans u9)
structure OpJ (H4 : Heap) (b : Nat) (vs : List Value) (H : Heap) : Prop where
  ex : ∃ o : OpW, vs = [] ∧ OwnRow H 57 1 (some ⟨b, 0, none⟩) 9 9 o.cells ∧ OpOk H4 o ∧ Upd [] H4 H
structure SumInv (H0 : Heap) (A : List Rec) (m : Nat) (vs : List Value) (H : Heap) : Prop where
  ex : ∃ j : Nat, vs = [.int .i64 ((frG (A.take j)).length : Int), .int .i64 (j : Int)] ∧ m + j = A.length ∧ Upd [] H0 H
structure NowInv (H0 L0 : Heap) (g r : Nat) (s : St) (fl : List Fl) (x : Nat) (qs : List PRec) (m : Nat) (vs : List Value) (H : Heap) : Prop where
  ex : ∃ (j : Nat) (aN : Option Addr) (cN : Nat) (ns : List TRec), vs = [.slice aN ns.length cN, .int .i64 (j : Int)] ∧ m + j = qs.length ∧ ns.length = j ∧ DiskAt eH H g r s fl ∧ OwnRow (offD H g r fl) 59 5 aN ns.length cN (toldV ns) ∧
    (∀ b ∈ blk aN, L0 b = none) ∧ Upd [] L0 (offD H g r fl) ∧ (∀ t ∈ ns, RecIn (lessH (offD H g r fl) (x :: blk aN)) t.q.r t.q.ap t.q.ak) ∧ ns.map (fun t => t.q.r) = (qs.map PRec.r).take j
theorem plain_told (ts : List TRec) : ∀ v ∈ toldV ts, Value.plain v = true := by
  induction ts with
  | nil => intro v hv; simp [toldV] at hv
  | cons t ts ih =>
    intro v hv
    rcases List.mem_append.1 hv with hv | hv
    · have hv : v ∈ [Value.int .i64 t.q.r.kind, .int .u64 (t.q.r.id : Int), .slice t.q.ap t.q.r.ps.length t.q.cp, .slice t.q.ak t.q.r.ks.length t.q.ck, .bool t.d] := hv
      simp only [List.mem_cons, List.not_mem_nil, or_false] at hv
      rcases hv with rfl | rfl | rfl | rfl | rfl <;> rfl
    · exact ih v hv
theorem HLoadN_opr {H : Heap} {b : Nat} {o : OpW} {K : List Value → Prop} (h : RowAt H (some ⟨b, 0, none⟩) o.cells) (hk : K o.q.cells) : HLoadN [H] b (0 + 1) 4 K :=
  ⟨o.q.cells, fun H' hH j v hv => by
    rw [List.mem_singleton.1 hH]
    have hj : j < 4 := (List.getElem?_eq_some_iff.1 hv).1
    have e : o.cells[1 + j]? = some v := by
      match j, hj, hv with
      | 0, _, hv => exact hv
      | 1, _, hv => exact hv
      | 2, _, hv => exact hv
      | 3, _, hv => exact hv
    have := h.get e
    rw [Nat.add_assoc]; exact this, rfl, hk⟩
structure AppJ (H6 : Heap) (g r : Nat) (fl : List Fl) (p : Nat) (aT : Option Addr) (b : Nat) (vs : List Value) (H : Heap) : Prop where
  ex : ∃ (y : Rec) (ap : Option Addr) (cp : Nat) (ak : Option Addr) (ck : Nat), vs = [] ∧ Good y ∧ OwnRow H 28 1 (some ⟨b, 0, none⟩) 4 4 (rcells y ap cp ak ck) ∧ Upd [] H6 H ∧ RecIn (lessH (offD H g r fl) (p :: blk aT)) y ap ak
/-- What the walk knows. -/
structure KS (L0 : Heap) (g r p : Nat) (aT : Option Addr) (cT : Nat) (ts : List TRec) (D : List Rec) (U : Option Rec) (i : Nat) (H : Heap) : Prop where
  ex : ∃ d v t k fl, DiskAt eH H g r (one d lgN v) fl ∧ Val v (frG D ++ t) ∧ Tail U t ∧ (d.off = false → U = none ∧ k = (frG D).length) ∧
    LogAt (offD H g r fl) p g lgN k ∧ OwnRow (offD H g r fl) 59 5 aT ts.length cT (toldV ts) ∧ Upd [] L0 (offD H g r fl) ∧
    (∀ t ∈ ts, RecIn (lessH (offD H g r fl) (p :: blk aT)) t.q.r t.q.ap t.q.ak)
  good : ∀ x ∈ D, Good x
  np : L0 p = none
  nt : ∀ b ∈ blk aT, L0 b = none
  ap : p ∉ blk aT
  told : ts.map (fun t => t.q.r) = D ++ U.toList
  done : ∀ (j : Nat) (t : TRec), D.length ≤ j → ts[j]? = some t → t.d = false
  len : ts.length ≤ i
theorem KS.upd0 {L0 : Heap} {g r p : Nat} {aT : Option Addr} {cT : Nat} {ts : List TRec} {D : List Rec} {U : Option Rec} {i : Nat} {H H' : Heap} (h : KS L0 g r p aT cT ts D U i H) (u : Upd [] H H') : KS L0 g r p aT cT ts D U i H' := by
  obtain ⟨d, v, t, k, fl, h1, h2, h3, h4, h5, h6, h7, h8⟩ := h.ex
  have u' := less0 (B := dblk g r fl) u
  exact ⟨⟨d, v, t, k, fl, h1.upd0 u, h2, h3, h4, h5.upd0 u', h6.upd u' (Off.nil _), h7.trans u', fun t ht => (h8 t ht).upd0 (less0 u')⟩, h.good, h.np, h.nt, h.ap, h.told, h.done, h.len⟩
structure KpInv (L0 : Heap) (g r n : Nat) (m : Nat) (vs : List Value) (H : Heap) : Prop where
  ex : ∃ (p : Nat) (aT : Option Addr) (cT : Nat) (ts : List TRec) (D : List Rec) (U : Option Rec) (i sq : Nat), vs = [.pointer (some ⟨p, 0, none⟩), .slice aT ts.length cT, .int .i64 (sq : Int), .int .i64 (i : Int)] ∧ m + i = n + 401 ∧ i ≤ 400 ∧ i ≤ n + 1 ∧ sq ≤ i ∧ KS L0 g r p aT cT ts D U i H
section
variable {H : Heap} {K : Value → Heap → Prop}
theorem walKeeps_t {a : Option Addr} {n c : Nat} {os : List OpW} (hs : Ops H a os) (hn : os.length = n) (hnl : n ≤ 4000000000000000000)
    (hk : ∀ H', Upd [] H H' → K (.bool true) H') : HCalls Try.prog 5 [.slice a n c] H K := by
  subst hn
  refine hcalls (fn := Try.f5) [] mixed Try.func5 rfl rfl (by decide +kernel) ?_
  (repeat first | refine HReg.step ?_ | refine HCode.step ?_)
  refine HCall.mk ⟨Try.f7, Try.func7, by rfl, by rfl⟩ ?_
  refine alive_t fun H1 u1 => ?_
  (repeat first | refine HReg.step ?_ | refine HCode.step ?_)
  refine HCall.mk ⟨Try.f8, Try.func8, by rfl, by rfl⟩ ?_
  refine wnew_t fun g r H2 D2 u2 => ?_
  rw [one_zero lgN] at D2
  have w02 := u1.trans u2
  obtain ⟨L0, hL0⟩ : ∃ L, L = offD H2 g r [] := ⟨_, rfl⟩
  rw [← hL0] at w02
  have hs0 : Ops L0 a os := hs.upd0 w02
  (repeat first | refine HReg.step ?_ | refine HCode.step ?_)
  refine HCall.mk ⟨Try.f13, Try.func13, by rfl, by rfl⟩ ?_
  refine open_w (n := lgN) D2 (by rw [one_readF rfl rfl]; exact Nat.zero_le _) (one_open_none rfl rfl) fun p a3 c3 qs3 fl3 H3 hq3 D3 u3 lg3 np3 R3 => ?_
  (repeat first | refine HReg.step ?_ | refine HCode.step ?_)
  rw [eqB_self 0]
  (repeat first | refine HReg.step ?_ | refine HCode.step ?_)
  refine hloopC [2, 5, 8, 9, 10, 11, 12, 13, 14, 15, 16, 17, 18, 19, 20, 21, 22, 23, 24, 25, 26, 27, 28, 45, 46, 47, 48, 49, 50, 51, 52, 53, 54, 55, 56, 57, 58, 59, 60, 61, 62, 63, 64, 65, 66, 67, 68, 69, 70, 71, 72, 73, 74, 75, 76, 77, 78, 79, 80, 81, 82, 83, 84, 85, 86, 87, 88, 89, 90, 91, 92, 93, 94, 95, 96, 97, 98, 99, 100, 101, 102, 103, 104, 105, 106, 107, 108, 109, 110, 111, 112, 113, 114, 115, 116, 117, 118, 119, 120, 121, 122, 123, 124, 125, 126, 127, 128, 129, 130, 131, 132, 133, 134, 135, 136, 137, 138, 139, 140, 141, 142, 143, 144, 145, 146, 147, 148, 149, 150, 151, 152, 153, 154, 155, 156, 157, 158, 159, 160, 161, 162, 163, 164, 165, 166, 167, 168, 169, 170, 171, 172, 173, 174, 175, 176, 177, 178, 179, 180, 181, 182, 183, 184, 185, 186, 187, 188, 189, 190, 191, 192, 193, 194, 195, 196, 197, 198, 199, 200, 201, 202, 203, 204, 205, 206, 207, 208, 209, 210, 211, 212, 213, 214, 215, 216, 217, 218, 219, 220, 221, 222, 223, 224, 225, 226, 227, 228, 229, 230, 231, 232, 233, 234, 235, 236, 237, 238] [5, 8, 9, 10] (KpInv L0 g r os.length) rfl (by repeat' first | exact Resp.retD | exact Resp1.valuesK | refine Resp.blockD ?_ | refine Resp.thenD ?_ ?_ | refine Resp.hcode ?_) ?_ ?_
  · refine ⟨os.length + 401, KpInv.mk ⟨p, none, 0, [], [], none, 0, 0, rfl, by omega, by omega, by omega, Nat.le_refl _, ⟨⟨_, none, [], 0, fl3, D3, .inl ⟨rfl, rfl⟩, rfl, fun _ => ⟨rfl, rfl⟩, lg3, OwnRow.nil _ _ _, by rw [hL0]; exact u3, fun t ht => by simp at ht⟩, by simp, by rw [hL0]; exact np3, fun b hb => by simp [blk] at hb, by simp [blk], rfl, fun j t _ h => by simp at h, Nat.le_refl _⟩⟩⟩
  rintro m _ fe H4 ⟨p, aT, cT, ts, D, U, i, sq, rfl, hmi, hi4, hin, hsq, ks⟩
  (repeat first | refine HReg.step ?_ | refine HCode.step ?_)
  by_cases hi : os.length < i
  · rw [show ltB ((os.length : Nat) : Int) ((i : Nat) : Int) = true from ltB_true.2 (by omega)]
    (repeat first | refine HReg.step ?_ | refine HCode.step ?_)
    obtain ⟨d, v, t, k, fl, _, _, _, _, _, _, hu, _⟩ := ks.ex
    exact hk H4 ((w02.trans hu).trans (offD_up H4))
  rw [show ltB ((os.length : Nat) : Int) ((i : Nat) : Int) = false from ltB_false.2 (by omega)]
  (repeat first | refine HReg.step ?_ | refine HCode.step ?_)
  by_cases hi4' : i = 400
  · subst hi4'
    rw [show ltB ((400 : Nat) : Int) 400 = false from ltB_false.2 (by omega)]
    (repeat first | refine HReg.step ?_ | refine HCode.step ?_)
    obtain ⟨d, v, t, k, fl, _, _, _, _, _, _, hu, _⟩ := ks.ex
    exact hk H4 ((w02.trans hu).trans (offD_up H4))
  rw [show ltB ((i : Nat) : Int) 400 = true from ltB_true.2 (by omega)]
  (repeat first | refine HReg.step ?_ | refine HCode.step ?_)
  refine HNew.mk fun b5 hb5 => ?_
  have o5 : OwnRow (H4.upd b5 (.cells (zeroO 0).cells.toArray 57)) 57 1 (some ⟨b5, 0, none⟩) 9 9 (zeroO 0).cells := OwnRow.lit (upd_same _ _ _) rfl
  have u5 : Upd [] H4 (H4.upd b5 (.cells (zeroO 0).cells.toArray 57)) := Upd.new hb5 _
  (repeat first | refine HReg.step ?_ | refine HCode.step ?_)
  refine store_opw (o := zeroO 5) o5 rfl fun H5 o5 u5' => ?_
  have u45 : Upd [] H4 H5 := Upd.drop u5 u5' (fun b hb => by rw [List.mem_singleton.1 hb]; exact hb5)
  have ks5 := ks.upd0 u45
  have hs4 : Ops H4 a os := by
    obtain ⟨d, v, t, k, fl, _, _, _, _, _, _, hu, _⟩ := ks.ex
    exact (hs0.upd0 hu).upd0 (offD_up H4)
  ((repeat refine HReg.step ?_); first | (show HCode _ _ _ (Code.seq (Code.seq (Code.region _ _ _) (Code.cond _ _ _)) _) _ _ _; refine hcutC (a := Code.seq (Code.region _ _ _) (Code.cond _ _ _)) [56, 57, 58, 59, 60, 61, 62, 63] [] (OpJ H4 b5) rfl (by repeat' first | exact Resp.retD | exact Resp1.valuesK | refine Resp.blockD ?_ | refine Resp.thenD ?_ ?_ | refine Resp.hcode ?_) ?_ ?_) | (refine HCode.step ?_; (repeat refine HReg.step ?_); first | (show HCode _ _ _ (Code.seq (Code.seq (Code.region _ _ _) (Code.cond _ _ _)) _) _ _ _; refine hcutC (a := Code.seq (Code.region _ _ _) (Code.cond _ _ _)) [56, 57, 58, 59, 60, 61, 62, 63] [] (OpJ H4 b5) rfl (by repeat' first | exact Resp.retD | exact Resp1.valuesK | refine Resp.blockD ?_ | refine Resp.thenD ?_ ?_ | refine Resp.hcode ?_) ?_ ?_) | (refine HCode.step ?_; (repeat refine HReg.step ?_); first | (show HCode _ _ _ (Code.seq (Code.seq (Code.region _ _ _) (Code.cond _ _ _)) _) _ _ _; refine hcutC (a := Code.seq (Code.region _ _ _) (Code.cond _ _ _)) [56, 57, 58, 59, 60, 61, 62, 63] [] (OpJ H4 b5) rfl (by repeat' first | exact Resp.retD | exact Resp1.valuesK | refine Resp.blockD ?_ | refine Resp.thenD ?_ ?_ | refine Resp.hcode ?_) ?_ ?_) | (refine HCode.step ?_; (repeat refine HReg.step ?_); first | (show HCode _ _ _ (Code.seq (Code.seq (Code.region _ _ _) (Code.cond _ _ _)) _) _ _ _; refine hcutC (a := Code.seq (Code.region _ _ _) (Code.cond _ _ _)) [56, 57, 58, 59, 60, 61, 62, 63] [] (OpJ H4 b5) rfl (by repeat' first | exact Resp.retD | exact Resp1.valuesK | refine Resp.blockD ?_ | refine Resp.thenD ?_ ?_ | refine Resp.hcode ?_) ?_ ?_) | (refine HCode.step ?_; (repeat refine HReg.step ?_); first | (show HCode _ _ _ (Code.seq (Code.seq (Code.region _ _ _) (Code.cond _ _ _)) _) _ _ _; refine hcutC (a := Code.seq (Code.region _ _ _) (Code.cond _ _ _)) [56, 57, 58, 59, 60, 61, 62, 63] [] (OpJ H4 b5) rfl (by repeat' first | exact Resp.retD | exact Resp1.valuesK | refine Resp.blockD ?_ | refine Resp.thenD ?_ ?_ | refine Resp.hcode ?_) ?_ ?_) | (refine HCode.step ?_; (repeat refine HReg.step ?_); first | (show HCode _ _ _ (Code.seq (Code.seq (Code.region _ _ _) (Code.cond _ _ _)) _) _ _ _; refine hcutC (a := Code.seq (Code.region _ _ _) (Code.cond _ _ _)) [56, 57, 58, 59, 60, 61, 62, 63] [] (OpJ H4 b5) rfl (by repeat' first | exact Resp.retD | exact Resp1.valuesK | refine Resp.blockD ?_ | refine Resp.thenD ?_ ?_ | refine Resp.hcode ?_) ?_ ?_) | (refine HCode.step ?_; (repeat refine HReg.step ?_); first | (show HCode _ _ _ (Code.seq (Code.seq (Code.region _ _ _) (Code.cond _ _ _)) _) _ _ _; refine hcutC (a := Code.seq (Code.region _ _ _) (Code.cond _ _ _)) [56, 57, 58, 59, 60, 61, 62, 63] [] (OpJ H4 b5) rfl (by repeat' first | exact Resp.retD | exact Resp1.valuesK | refine Resp.blockD ?_ | refine Resp.thenD ?_ ?_ | refine Resp.hcode ?_) ?_ ?_) | (refine HCode.step ?_; (repeat refine HReg.step ?_); first | (show HCode _ _ _ (Code.seq (Code.seq (Code.region _ _ _) (Code.cond _ _ _)) _) _ _ _; refine hcutC (a := Code.seq (Code.region _ _ _) (Code.cond _ _ _)) [56, 57, 58, 59, 60, 61, 62, 63] [] (OpJ H4 b5) rfl (by repeat' first | exact Resp.retD | exact Resp1.valuesK | refine Resp.blockD ?_ | refine Resp.thenD ?_ ?_ | refine Resp.hcode ?_) ?_ ?_) | (refine HCode.step ?_; (repeat refine HReg.step ?_); first | (show HCode _ _ _ (Code.seq (Code.seq (Code.region _ _ _) (Code.cond _ _ _)) _) _ _ _; refine hcutC (a := Code.seq (Code.region _ _ _) (Code.cond _ _ _)) [56, 57, 58, 59, 60, 61, 62, 63] [] (OpJ H4 b5) rfl (by repeat' first | exact Resp.retD | exact Resp1.valuesK | refine Resp.blockD ?_ | refine Resp.thenD ?_ ?_ | refine Resp.hcode ?_) ?_ ?_) | (refine HCode.step ?_; (repeat refine HReg.step ?_); first | (show HCode _ _ _ (Code.seq (Code.seq (Code.region _ _ _) (Code.cond _ _ _)) _) _ _ _; refine hcutC (a := Code.seq (Code.region _ _ _) (Code.cond _ _ _)) [56, 57, 58, 59, 60, 61, 62, 63] [] (OpJ H4 b5) rfl (by repeat' first | exact Resp.retD | exact Resp1.valuesK | refine Resp.blockD ?_ | refine Resp.thenD ?_ ?_ | refine Resp.hcode ?_) ?_ ?_) | (refine HCode.step ?_; (repeat refine HReg.step ?_); first | (show HCode _ _ _ (Code.seq (Code.seq (Code.region _ _ _) (Code.cond _ _ _)) _) _ _ _; refine hcutC (a := Code.seq (Code.region _ _ _) (Code.cond _ _ _)) [56, 57, 58, 59, 60, 61, 62, 63] [] (OpJ H4 b5) rfl (by repeat' first | exact Resp.retD | exact Resp1.valuesK | refine Resp.blockD ?_ | refine Resp.thenD ?_ ?_ | refine Resp.hcode ?_) ?_ ?_) | (refine HCode.step ?_; (repeat refine HReg.step ?_); first | (show HCode _ _ _ (Code.seq (Code.seq (Code.region _ _ _) (Code.cond _ _ _)) _) _ _ _; refine hcutC (a := Code.seq (Code.region _ _ _) (Code.cond _ _ _)) [56, 57, 58, 59, 60, 61, 62, 63] [] (OpJ H4 b5) rfl (by repeat' first | exact Resp.retD | exact Resp1.valuesK | refine Resp.blockD ?_ | refine Resp.thenD ?_ ?_ | refine Resp.hcode ?_) ?_ ?_) | (refine HCode.step ?_; (repeat refine HReg.step ?_); first | (show HCode _ _ _ (Code.seq (Code.seq (Code.region _ _ _) (Code.cond _ _ _)) _) _ _ _; refine hcutC (a := Code.seq (Code.region _ _ _) (Code.cond _ _ _)) [56, 57, 58, 59, 60, 61, 62, 63] [] (OpJ H4 b5) rfl (by repeat' first | exact Resp.retD | exact Resp1.valuesK | refine Resp.blockD ?_ | refine Resp.thenD ?_ ?_ | refine Resp.hcode ?_) ?_ ?_) | (refine HCode.step ?_; (repeat refine HReg.step ?_); first | (show HCode _ _ _ (Code.seq (Code.seq (Code.region _ _ _) (Code.cond _ _ _)) _) _ _ _; refine hcutC (a := Code.seq (Code.region _ _ _) (Code.cond _ _ _)) [56, 57, 58, 59, 60, 61, 62, 63] [] (OpJ H4 b5) rfl (by repeat' first | exact Resp.retD | exact Resp1.valuesK | refine Resp.blockD ?_ | refine Resp.thenD ?_ ?_ | refine Resp.hcode ?_) ?_ ?_) | (refine HCode.step ?_; (repeat refine HReg.step ?_); first | (show HCode _ _ _ (Code.seq (Code.seq (Code.region _ _ _) (Code.cond _ _ _)) _) _ _ _; refine hcutC (a := Code.seq (Code.region _ _ _) (Code.cond _ _ _)) [56, 57, 58, 59, 60, 61, 62, 63] [] (OpJ H4 b5) rfl (by repeat' first | exact Resp.retD | exact Resp1.valuesK | refine Resp.blockD ?_ | refine Resp.thenD ?_ ?_ | refine Resp.hcode ?_) ?_ ?_) | (refine HCode.step ?_; (repeat refine HReg.step ?_); first | (show HCode _ _ _ (Code.seq (Code.seq (Code.region _ _ _) (Code.cond _ _ _)) _) _ _ _; refine hcutC (a := Code.seq (Code.region _ _ _) (Code.cond _ _ _)) [56, 57, 58, 59, 60, 61, 62, 63] [] (OpJ H4 b5) rfl (by repeat' first | exact Resp.retD | exact Resp1.valuesK | refine Resp.blockD ?_ | refine Resp.thenD ?_ ?_ | refine Resp.hcode ?_) ?_ ?_) | (refine HCode.step ?_; (repeat refine HReg.step ?_); first | (show HCode _ _ _ (Code.seq (Code.seq (Code.region _ _ _) (Code.cond _ _ _)) _) _ _ _; refine hcutC (a := Code.seq (Code.region _ _ _) (Code.cond _ _ _)) [56, 57, 58, 59, 60, 61, 62, 63] [] (OpJ H4 b5) rfl (by repeat' first | exact Resp.retD | exact Resp1.valuesK | refine Resp.blockD ?_ | refine Resp.thenD ?_ ?_ | refine Resp.hcode ?_) ?_ ?_) | (refine HCode.step ?_; (repeat refine HReg.step ?_); first | (show HCode _ _ _ (Code.seq (Code.seq (Code.region _ _ _) (Code.cond _ _ _)) _) _ _ _; refine hcutC (a := Code.seq (Code.region _ _ _) (Code.cond _ _ _)) [56, 57, 58, 59, 60, 61, 62, 63] [] (OpJ H4 b5) rfl (by repeat' first | exact Resp.retD | exact Resp1.valuesK | refine Resp.blockD ?_ | refine Resp.thenD ?_ ?_ | refine Resp.hcode ?_) ?_ ?_) | (refine HCode.step ?_; (repeat refine HReg.step ?_); first | (show HCode _ _ _ (Code.seq (Code.seq (Code.region _ _ _) (Code.cond _ _ _)) _) _ _ _; refine hcutC (a := Code.seq (Code.region _ _ _) (Code.cond _ _ _)) [56, 57, 58, 59, 60, 61, 62, 63] [] (OpJ H4 b5) rfl (by repeat' first | exact Resp.retD | exact Resp1.valuesK | refine Resp.blockD ?_ | refine Resp.thenD ?_ ?_ | refine Resp.hcode ?_) ?_ ?_) | (refine HCode.step ?_; (repeat refine HReg.step ?_); first | (show HCode _ _ _ (Code.seq (Code.seq (Code.region _ _ _) (Code.cond _ _ _)) _) _ _ _; refine hcutC (a := Code.seq (Code.region _ _ _) (Code.cond _ _ _)) [56, 57, 58, 59, 60, 61, 62, 63] [] (OpJ H4 b5) rfl (by repeat' first | exact Resp.retD | exact Resp1.valuesK | refine Resp.blockD ?_ | refine Resp.thenD ?_ ?_ | refine Resp.hcode ?_) ?_ ?_) | (refine HCode.step ?_; (repeat refine HReg.step ?_); (show HCode _ _ _ (Code.seq (Code.seq (Code.region _ _ _) (Code.cond _ _ _)) _) _ _ _; refine hcutC (a := Code.seq (Code.region _ _ _) (Code.cond _ _ _)) [56, 57, 58, 59, 60, 61, 62, 63] [] (OpJ H4 b5) rfl (by repeat' first | exact Resp.retD | exact Resp1.valuesK | refine Resp.blockD ?_ | refine Resp.thenD ?_ ?_ | refine Resp.hcode ?_) ?_ ?_))))))))))))))))))))))
  · (repeat first | refine HReg.step ?_ | refine HCode.step ?_)
    by_cases hlt : i < os.length
    · rw [show ltB ((i : Nat) : Int) ((os.length : Nat) : Int) = true from ltB_true.2 (by omega)]
      obtain ⟨o, ho⟩ : ∃ o, os[i]? = some o := ⟨os[i]'hlt, by simp⟩
      have hs5 := hs4.upd0 u45
      obtain ⟨ba, bo, rfl, _⟩ := hs5.row _ _ (opsV_get ho 0 _ rfl)
      (repeat first | refine HReg.step ?_ | refine HCode.step ?_)
      refine HReq.mk ⟨by omega, by omega⟩ ?_
      (repeat first | refine HReg.step ?_ | refine HCode.step ?_)
      refine HLoadN_opw hs5.row (by simpa using ho) ?_
      (repeat first | refine HReg.step ?_ | refine HCode.step ?_)
      refine store_opw (o := o) o5 rfl fun H6 o6 u6 => ?_
      (repeat first | refine HReg.step ?_ | refine HCode.step ?_)
      exact OpJ.mk ⟨o, rfl, o6, hs4.each o (List.mem_of_getElem? ho), Upd.drop u45 u6 (fun b hb => by rw [List.mem_singleton.1 hb]; exact hb5)⟩
    · rw [show ltB ((i : Nat) : Int) ((os.length : Nat) : Int) = false from ltB_false.2 (by omega)]
      (repeat first | refine HReg.step ?_ | refine HCode.step ?_)
      exact OpJ.mk ⟨zeroO 5, rfl, o5, ⟨⟨RowAt.nil _ _, RowAt.nil _ _, Nat.zero_le _, Nat.zero_le _⟩, by decide, by decide, by decide, by decide, by decide⟩, u45⟩
  rintro _ fe6 H6 ⟨o, rfl, o6, ho4, u46⟩
  have ks6 := ks.upd0 u46
  have ho6 := ho4.upd0 u46
  obtain ⟨d, v, t, k, fl, hD, hv, ht, hoff, hlg, hrow, hu, hrc⟩ := ks6.ex
  have keep : ∀ d' fl' H', DiskAt eH H' g r (one d' lgN v) fl' → Upd [] (offD H6 g r fl) (offD H' g r fl') → (d'.off = false → d.off = false) → KS L0 g r p aT cT ts D U (i + 1) H' := fun d' fl' H' D' u ho =>
    ⟨⟨d', v, t, k, fl', D', hv, ht, fun h => hoff (ho h), hlg.upd0 u, hrow.upd u (Off.nil _), hu.trans u, fun t ht => (hrc t ht).upd0 (less0 u)⟩, ks6.good, ks6.np, ks6.nt, ks6.ap, ks6.told, ks6.done, Nat.le_succ_of_le ks6.len⟩
  have fin : ∀ (p' : Nat) (aT' : Option Addr) (cT' : Nat) (ts' : List TRec) (D' : List Rec) (U' : Option Rec) (sq' : Nat) (H' : Heap), sq' ≤ i + 1 → KS L0 g r p' aT' cT' ts' D' U' (i + 1) H' →
      ∃ m', m' < m ∧ KpInv L0 g r os.length m' [.pointer (some ⟨p', 0, none⟩), .slice aT' ts'.length cT', .int .i64 (sq' : Int), .int .i64 ((i : Int) + 1)] H' := fun p' aT' cT' ts' D' U' sq' H' h1 h2 =>
    ⟨m - 1, by omega, KpInv.mk ⟨p', aT', cT', ts', D', U', i + 1, sq', rfl, by omega, by omega, by omega, h1, h2⟩⟩
  (repeat first | refine HReg.step ?_ | refine HCode.step ?_)
  refine HLoad.one (v := .int .i64 o.kind) (by exact o6.rows.get (i := 0) rfl) ?_
  (repeat first | refine HReg.step ?_ | refine HCode.step ?_)
  by_cases k1 : o.kind = 1
  · rw [k1, eqB_self 1]
    (repeat first | refine HReg.step ?_ | refine HCode.step ?_)
    refine HLoadN_opr o6.rows ?_
    (repeat first | refine HReg.step ?_ | refine HCode.step ?_)
    refine HCall.mk ⟨Try.f10, Try.func10, by rfl, by rfl⟩ ?_
    refine own_t ho6.rc fun p7 d7 k7 c7 H7 O7 u7 => ?_
    (repeat first | refine HReg.step ?_ | refine HCode.step ?_)
    refine HNew.mk fun b8 hb8 => ?_
    have o8 : OwnRow (H7.upd b8 (.cells zeroR.toArray 28)) 28 1 (some ⟨b8, 0, none⟩) 4 4 zeroR := OwnRow.lit (upd_same _ _ _) rfl
    (repeat first | refine HReg.step ?_ | refine HCode.step ?_)
    refine store_rec (x := o.q.r) (ap := p7) (cp := d7) (ak := k7) (ck := c7) o8 rfl fun H8 o8 u8' => ?_
    have u78 : Upd [] H7 H8 := Upd.drop (Upd.new hb8 _) u8' (fun b hb => by rw [List.mem_singleton.1 hb]; exact hb8)
    (repeat first | refine HReg.step ?_ | refine HCode.step ?_)
    refine HLoadN_row o8.rows rfl ?_
    (repeat first | refine HReg.step ?_ | refine HCode.step ?_)
    refine HCall.mk ⟨Try.f10, Try.func10, by rfl, by rfl⟩ ?_
    refine own_t (O7.recIn.upd0 u78) fun p9 d9 k9 c9 H9 O9 u9 => ?_
    (repeat first | refine HReg.step ?_ | refine HCode.step ?_)
    refine HCall.mk ⟨Try.f9, Try.func9, by rfl, by rfl⟩ ?_
    refine build_t O9.recIn fun aB cB H10 m10 => ?_
    have u710 := u78.trans (u9.trans m10.upd)
    have u610 := u7.trans u710
    have o10 := o8.upd (u9.trans m10.upd) (Off.nil _)
    have pl6 : offD H6 g r fl p ≠ none := hlg.row.there rfl
    have f1 : ∀ b, H6 b = none → b ∉ p :: blk aT := fun b hb hm => by
      rcases List.mem_cons.1 hm with e | hm
      · rw [e] at hb; exact (off_live hD pl6).2 hb
      · obtain ⟨pp, hpp, rfl⟩ := blk_of hm
        exact (off_live hD (hrow.there hpp)).2 hb
    have i10 : RecIn (lessH (offD H10 g r fl) (p :: blk aT)) o.q.r p7 k7 := RecIn.upd0 (H := lessH (offD H7 g r fl) (p :: blk aT)) ⟨((O7.p.less fun b hb => hD.fresh (O7.pn b hb)).less fun b hb => f1 b (O7.pn b hb)).rows, ((O7.k.less fun b hb => hD.fresh (O7.kn b hb)).less fun b hb => f1 b (O7.kn b hb)).rows, O7.np, O7.nk⟩ (less0 (less0 u710))
    ((repeat refine HReg.step ?_); first | (show HCode _ _ _ (Code.seq (Code.seq (Code.region _ _ _) (Code.cond _ _ _)) _) _ _ _; refine hcutC (a := Code.seq (Code.region _ _ _) (Code.cond _ _ _)) [77, 78, 79, 80, 81, 82, 83, 84, 85, 86] [] (AppJ H6 g r fl p aT b8) rfl (by repeat' first | exact Resp.retD | exact Resp1.valuesK | refine Resp.blockD ?_ | refine Resp.thenD ?_ ?_ | refine Resp.hcode ?_) ?_ ?_) | (refine HCode.step ?_; (repeat refine HReg.step ?_); first | (show HCode _ _ _ (Code.seq (Code.seq (Code.region _ _ _) (Code.cond _ _ _)) _) _ _ _; refine hcutC (a := Code.seq (Code.region _ _ _) (Code.cond _ _ _)) [77, 78, 79, 80, 81, 82, 83, 84, 85, 86] [] (AppJ H6 g r fl p aT b8) rfl (by repeat' first | exact Resp.retD | exact Resp1.valuesK | refine Resp.blockD ?_ | refine Resp.thenD ?_ ?_ | refine Resp.hcode ?_) ?_ ?_) | (refine HCode.step ?_; (repeat refine HReg.step ?_); first | (show HCode _ _ _ (Code.seq (Code.seq (Code.region _ _ _) (Code.cond _ _ _)) _) _ _ _; refine hcutC (a := Code.seq (Code.region _ _ _) (Code.cond _ _ _)) [77, 78, 79, 80, 81, 82, 83, 84, 85, 86] [] (AppJ H6 g r fl p aT b8) rfl (by repeat' first | exact Resp.retD | exact Resp1.valuesK | refine Resp.blockD ?_ | refine Resp.thenD ?_ ?_ | refine Resp.hcode ?_) ?_ ?_) | (refine HCode.step ?_; (repeat refine HReg.step ?_); first | (show HCode _ _ _ (Code.seq (Code.seq (Code.region _ _ _) (Code.cond _ _ _)) _) _ _ _; refine hcutC (a := Code.seq (Code.region _ _ _) (Code.cond _ _ _)) [77, 78, 79, 80, 81, 82, 83, 84, 85, 86] [] (AppJ H6 g r fl p aT b8) rfl (by repeat' first | exact Resp.retD | exact Resp1.valuesK | refine Resp.blockD ?_ | refine Resp.thenD ?_ ?_ | refine Resp.hcode ?_) ?_ ?_) | (refine HCode.step ?_; (repeat refine HReg.step ?_); first | (show HCode _ _ _ (Code.seq (Code.seq (Code.region _ _ _) (Code.cond _ _ _)) _) _ _ _; refine hcutC (a := Code.seq (Code.region _ _ _) (Code.cond _ _ _)) [77, 78, 79, 80, 81, 82, 83, 84, 85, 86] [] (AppJ H6 g r fl p aT b8) rfl (by repeat' first | exact Resp.retD | exact Resp1.valuesK | refine Resp.blockD ?_ | refine Resp.thenD ?_ ?_ | refine Resp.hcode ?_) ?_ ?_) | (refine HCode.step ?_; (repeat refine HReg.step ?_); first | (show HCode _ _ _ (Code.seq (Code.seq (Code.region _ _ _) (Code.cond _ _ _)) _) _ _ _; refine hcutC (a := Code.seq (Code.region _ _ _) (Code.cond _ _ _)) [77, 78, 79, 80, 81, 82, 83, 84, 85, 86] [] (AppJ H6 g r fl p aT b8) rfl (by repeat' first | exact Resp.retD | exact Resp1.valuesK | refine Resp.blockD ?_ | refine Resp.thenD ?_ ?_ | refine Resp.hcode ?_) ?_ ?_) | (refine HCode.step ?_; (repeat refine HReg.step ?_); first | (show HCode _ _ _ (Code.seq (Code.seq (Code.region _ _ _) (Code.cond _ _ _)) _) _ _ _; refine hcutC (a := Code.seq (Code.region _ _ _) (Code.cond _ _ _)) [77, 78, 79, 80, 81, 82, 83, 84, 85, 86] [] (AppJ H6 g r fl p aT b8) rfl (by repeat' first | exact Resp.retD | exact Resp1.valuesK | refine Resp.blockD ?_ | refine Resp.thenD ?_ ?_ | refine Resp.hcode ?_) ?_ ?_) | (refine HCode.step ?_; (repeat refine HReg.step ?_); first | (show HCode _ _ _ (Code.seq (Code.seq (Code.region _ _ _) (Code.cond _ _ _)) _) _ _ _; refine hcutC (a := Code.seq (Code.region _ _ _) (Code.cond _ _ _)) [77, 78, 79, 80, 81, 82, 83, 84, 85, 86] [] (AppJ H6 g r fl p aT b8) rfl (by repeat' first | exact Resp.retD | exact Resp1.valuesK | refine Resp.blockD ?_ | refine Resp.thenD ?_ ?_ | refine Resp.hcode ?_) ?_ ?_) | (refine HCode.step ?_; (repeat refine HReg.step ?_); first | (show HCode _ _ _ (Code.seq (Code.seq (Code.region _ _ _) (Code.cond _ _ _)) _) _ _ _; refine hcutC (a := Code.seq (Code.region _ _ _) (Code.cond _ _ _)) [77, 78, 79, 80, 81, 82, 83, 84, 85, 86] [] (AppJ H6 g r fl p aT b8) rfl (by repeat' first | exact Resp.retD | exact Resp1.valuesK | refine Resp.blockD ?_ | refine Resp.thenD ?_ ?_ | refine Resp.hcode ?_) ?_ ?_) | (refine HCode.step ?_; (repeat refine HReg.step ?_); first | (show HCode _ _ _ (Code.seq (Code.seq (Code.region _ _ _) (Code.cond _ _ _)) _) _ _ _; refine hcutC (a := Code.seq (Code.region _ _ _) (Code.cond _ _ _)) [77, 78, 79, 80, 81, 82, 83, 84, 85, 86] [] (AppJ H6 g r fl p aT b8) rfl (by repeat' first | exact Resp.retD | exact Resp1.valuesK | refine Resp.blockD ?_ | refine Resp.thenD ?_ ?_ | refine Resp.hcode ?_) ?_ ?_) | (refine HCode.step ?_; (repeat refine HReg.step ?_); first | (show HCode _ _ _ (Code.seq (Code.seq (Code.region _ _ _) (Code.cond _ _ _)) _) _ _ _; refine hcutC (a := Code.seq (Code.region _ _ _) (Code.cond _ _ _)) [77, 78, 79, 80, 81, 82, 83, 84, 85, 86] [] (AppJ H6 g r fl p aT b8) rfl (by repeat' first | exact Resp.retD | exact Resp1.valuesK | refine Resp.blockD ?_ | refine Resp.thenD ?_ ?_ | refine Resp.hcode ?_) ?_ ?_) | (refine HCode.step ?_; (repeat refine HReg.step ?_); first | (show HCode _ _ _ (Code.seq (Code.seq (Code.region _ _ _) (Code.cond _ _ _)) _) _ _ _; refine hcutC (a := Code.seq (Code.region _ _ _) (Code.cond _ _ _)) [77, 78, 79, 80, 81, 82, 83, 84, 85, 86] [] (AppJ H6 g r fl p aT b8) rfl (by repeat' first | exact Resp.retD | exact Resp1.valuesK | refine Resp.blockD ?_ | refine Resp.thenD ?_ ?_ | refine Resp.hcode ?_) ?_ ?_) | (refine HCode.step ?_; (repeat refine HReg.step ?_); first | (show HCode _ _ _ (Code.seq (Code.seq (Code.region _ _ _) (Code.cond _ _ _)) _) _ _ _; refine hcutC (a := Code.seq (Code.region _ _ _) (Code.cond _ _ _)) [77, 78, 79, 80, 81, 82, 83, 84, 85, 86] [] (AppJ H6 g r fl p aT b8) rfl (by repeat' first | exact Resp.retD | exact Resp1.valuesK | refine Resp.blockD ?_ | refine Resp.thenD ?_ ?_ | refine Resp.hcode ?_) ?_ ?_) | (refine HCode.step ?_; (repeat refine HReg.step ?_); first | (show HCode _ _ _ (Code.seq (Code.seq (Code.region _ _ _) (Code.cond _ _ _)) _) _ _ _; refine hcutC (a := Code.seq (Code.region _ _ _) (Code.cond _ _ _)) [77, 78, 79, 80, 81, 82, 83, 84, 85, 86] [] (AppJ H6 g r fl p aT b8) rfl (by repeat' first | exact Resp.retD | exact Resp1.valuesK | refine Resp.blockD ?_ | refine Resp.thenD ?_ ?_ | refine Resp.hcode ?_) ?_ ?_) | (refine HCode.step ?_; (repeat refine HReg.step ?_); first | (show HCode _ _ _ (Code.seq (Code.seq (Code.region _ _ _) (Code.cond _ _ _)) _) _ _ _; refine hcutC (a := Code.seq (Code.region _ _ _) (Code.cond _ _ _)) [77, 78, 79, 80, 81, 82, 83, 84, 85, 86] [] (AppJ H6 g r fl p aT b8) rfl (by repeat' first | exact Resp.retD | exact Resp1.valuesK | refine Resp.blockD ?_ | refine Resp.thenD ?_ ?_ | refine Resp.hcode ?_) ?_ ?_) | (refine HCode.step ?_; (repeat refine HReg.step ?_); first | (show HCode _ _ _ (Code.seq (Code.seq (Code.region _ _ _) (Code.cond _ _ _)) _) _ _ _; refine hcutC (a := Code.seq (Code.region _ _ _) (Code.cond _ _ _)) [77, 78, 79, 80, 81, 82, 83, 84, 85, 86] [] (AppJ H6 g r fl p aT b8) rfl (by repeat' first | exact Resp.retD | exact Resp1.valuesK | refine Resp.blockD ?_ | refine Resp.thenD ?_ ?_ | refine Resp.hcode ?_) ?_ ?_) | (refine HCode.step ?_; (repeat refine HReg.step ?_); first | (show HCode _ _ _ (Code.seq (Code.seq (Code.region _ _ _) (Code.cond _ _ _)) _) _ _ _; refine hcutC (a := Code.seq (Code.region _ _ _) (Code.cond _ _ _)) [77, 78, 79, 80, 81, 82, 83, 84, 85, 86] [] (AppJ H6 g r fl p aT b8) rfl (by repeat' first | exact Resp.retD | exact Resp1.valuesK | refine Resp.blockD ?_ | refine Resp.thenD ?_ ?_ | refine Resp.hcode ?_) ?_ ?_) | (refine HCode.step ?_; (repeat refine HReg.step ?_); first | (show HCode _ _ _ (Code.seq (Code.seq (Code.region _ _ _) (Code.cond _ _ _)) _) _ _ _; refine hcutC (a := Code.seq (Code.region _ _ _) (Code.cond _ _ _)) [77, 78, 79, 80, 81, 82, 83, 84, 85, 86] [] (AppJ H6 g r fl p aT b8) rfl (by repeat' first | exact Resp.retD | exact Resp1.valuesK | refine Resp.blockD ?_ | refine Resp.thenD ?_ ?_ | refine Resp.hcode ?_) ?_ ?_) | (refine HCode.step ?_; (repeat refine HReg.step ?_); first | (show HCode _ _ _ (Code.seq (Code.seq (Code.region _ _ _) (Code.cond _ _ _)) _) _ _ _; refine hcutC (a := Code.seq (Code.region _ _ _) (Code.cond _ _ _)) [77, 78, 79, 80, 81, 82, 83, 84, 85, 86] [] (AppJ H6 g r fl p aT b8) rfl (by repeat' first | exact Resp.retD | exact Resp1.valuesK | refine Resp.blockD ?_ | refine Resp.thenD ?_ ?_ | refine Resp.hcode ?_) ?_ ?_) | (refine HCode.step ?_; (repeat refine HReg.step ?_); first | (show HCode _ _ _ (Code.seq (Code.seq (Code.region _ _ _) (Code.cond _ _ _)) _) _ _ _; refine hcutC (a := Code.seq (Code.region _ _ _) (Code.cond _ _ _)) [77, 78, 79, 80, 81, 82, 83, 84, 85, 86] [] (AppJ H6 g r fl p aT b8) rfl (by repeat' first | exact Resp.retD | exact Resp1.valuesK | refine Resp.blockD ?_ | refine Resp.thenD ?_ ?_ | refine Resp.hcode ?_) ?_ ?_) | (refine HCode.step ?_; (repeat refine HReg.step ?_); (show HCode _ _ _ (Code.seq (Code.seq (Code.region _ _ _) (Code.cond _ _ _)) _) _ _ _; refine hcutC (a := Code.seq (Code.region _ _ _) (Code.cond _ _ _)) [77, 78, 79, 80, 81, 82, 83, 84, 85, 86] [] (AppJ H6 g r fl p aT b8) rfl (by repeat' first | exact Resp.retD | exact Resp1.valuesK | refine Resp.blockD ?_ | refine Resp.thenD ?_ ?_ | refine Resp.hcode ?_) ?_ ?_))))))))))))))))))))))
    · have com : ∀ H11, Upd [] H10 H11 → ∀ (K : Heap → Prop), (∀ H12, AppJ H6 g r fl p aT b8 [] H12 → K H12) → storeN H11 b8 0 0 K (rcells (commitR (i + 1)) none 0 none 0) := fun H11 u11 K hK => by
        refine store_rec (o10.upd u11 (Off.nil _)) rfl fun H12 o12 u12 => hK H12 (AppJ.mk ⟨commitR (i + 1), none, 0, none, 0, rfl, commit_good (by omega) (by omega), o12, ?_, ⟨RowAt.nil _ _, RowAt.nil _ _, Nat.zero_le _, Nat.zero_le _⟩⟩)
        exact Upd.drop (u610.trans u11) u12 (fun b hb => by rw [List.mem_singleton.1 hb]; exact Upd.none (S := []) u7 (by simp) hb8)
      (repeat first | refine HReg.step ?_ | refine HCode.step ?_)
      by_cases he : (buildR o.q.r).2 = 0
      · rw [he, eqB_self 0]
        (repeat first | refine HReg.step ?_ | refine HCode.step ?_)
        refine HReq.mk (by decide) ?_
        (repeat first | refine HReg.step ?_ | refine HCode.step ?_)
        refine hif (fun h3 => ?_) (fun h3 => ?_)
        · (repeat first | refine HReg.step ?_ | refine HCode.step ?_)
          rw [wr_i64 (by omega) (by omega)]
          refine HCall.mk ⟨Try.f12, Try.func12, by rfl, by rfl⟩ ?_
          refine commit_t (q := i + 1) (by omega) fun H11 u11 => ?_
          (repeat first | refine HReg.step ?_ | refine HCode.step ?_)
          refine com H11 u11 _ fun H12 J => ?_
          (repeat first | refine HReg.step ?_ | refine HCode.step ?_)
          exact J
        · (repeat first | refine HReg.step ?_ | refine HCode.step ?_)
          exact AppJ.mk ⟨o.q.r, p7, d7, k7, c7, rfl, good_build ho6.id he, o10, u610, i10⟩
      · rw [show eqB (buildR o.q.r).2 0 = false from eqB_false.2 he]
        (repeat first | refine HReg.step ?_ | refine HCode.step ?_)
        rw [wr_i64 (by omega) (by omega)]
        refine HCall.mk ⟨Try.f12, Try.func12, by rfl, by rfl⟩ ?_
        refine commit_t (q := i + 1) (by omega) fun H11 u11 => ?_
        (repeat first | refine HReg.step ?_ | refine HCode.step ?_)
        refine com H11 u11 _ fun H12 J => ?_
        (repeat first | refine HReg.step ?_ | refine HCode.step ?_)
        exact J
    rintro _ fe10 H11 ⟨y, ap, cp, ak, ck, rfl, hgy, o11, u611, i11⟩
    have v11 := less0 (B := dblk g r fl) u611
    have D11 := hD.upd0 u611
    have nb8 : H6 b8 = none := Upd.none (S := []) u7 (by simp) hb8
    (repeat first | refine HReg.step ?_ | refine HCode.step ?_)
    refine HCall.mk ⟨Try.f19, Try.func19, by rfl, by rfl⟩ ?_
    refine down_t D11 ?_
    rw [wr_i64 (n := (sq : Int) + 1) (by omega) (by omega), show ((sq : Int) + 1) = ((sq + 1 : Nat) : Int) by omega]
    by_cases hof : d.off = true
    · rw [show (one d lgN v).d.off = true from hof]
      (repeat first | refine HReg.step ?_ | refine HCode.step ?_)
      rw [wr_i64 (by omega) (by omega)]
      exact fin p aT cT ts D U (sq + 1) H11 (by omega) (keep d fl H11 D11 v11 (fun h => h))
    have hof : d.off = false := by simpa using hof
    rw [show (one d lgN v).d.off = false from hof]
    obtain ⟨rfl, hk'⟩ := hoff hof
    have ht0 : t = [] := ht
    subst ht0
    rw [List.append_nil] at hv
    have hts : ts.length ≤ 400 := Nat.le_trans ks6.len (by omega)
    have hDl := frG_len ks6.good
    have hDt : ts.length = D.length := by have := congrArg List.length ks6.told; simpa using this
    have hyl : (frameR (pay y)).length ≤ 1048584 := by have := hgy.len; rw [frame_len]; omega
    have hyp := frame_pos (pay y)
    (repeat first | refine HReg.step ?_ | refine HCode.step ?_)
    refine HLoadN_row o11.rows rfl ?_
    (repeat first | refine HReg.step ?_ | refine HCode.step ?_)
    refine HCall.mk ⟨Try.f10, Try.func10, by rfl, by rfl⟩ ?_
    refine own_t ((i11.upd0 (less_upd _ _)).upd0 (offD_up H11)) fun p12 d12 k12 c12 H12 O12 u12 => ?_
    have D12 := D11.upd0 u12
    have i12 : RecIn (offD H12 g r fl) y p12 k12 := ⟨(O12.p.less fun b hb => D11.fresh (O12.pn b hb)).rows, (O12.k.less fun b hb => D11.fresh (O12.kn b hb)).rows, O12.np, O12.nk⟩
    have v12 := v11.trans (less0 (B := dblk g r fl) u12)
    obtain ⟨e, k', d', v', hw, hres⟩ := append_any (k := k) lgN_ok hof hv hgy
    (repeat first | refine HReg.step ?_ | refine HCode.step ?_)
    refine HCall.mk ⟨Try.f17, Try.func17, by rfl, by rfl⟩ ?_
    refine appendL_w (x := y) D12 (hlg.upd0 v12) i12 (fun a b h => by
      obtain ⟨d1, h1, _⟩ := one_call_val (d := d) (n := lgN) hv
      rw [h1, one_fs] at h
      rcases hv with ⟨rfl, _⟩ | rfl
      · cases h
      · cases h; omega) (by omega) hw fun fl13 H13 D13 u13 lg13 => ?_
    have row13 := (hrow.upd v12 (Off.nil _)).upd u13 (off_notin fun b hb hb' => by
      have e : b = p := by simpa using hb'
      rw [e] at hb; exact ks6.ap hb)
    have base13 := Upd.drop (hu.trans v12) u13 (fun b hb => by rw [List.mem_singleton.1 hb]; exact ks6.np)
    have recs13 : ∀ t ∈ ts, RecIn (lessH (offD H13 g r fl13) (p :: blk aT)) t.q.r t.q.ap t.q.ak := fun t ht => ((hrc t ht).upd0 (less0 v12)).upd0 (less_drop u13 (fun b hb => by rw [List.mem_singleton.1 hb]; exact List.mem_cons_self))
    have i13 : RecIn (lessH (offD H13 g r fl13) (p :: blk aT)) y ap ak := (i11.upd0 (less0 (less0 u12))).upd0 (less_drop u13 (fun b hb => by rw [List.mem_singleton.1 hb]; exact List.mem_cons_self))
    have o13 : OwnRow (offD H13 g r fl13) 28 1 (some ⟨b8, 0, none⟩) 4 4 (rcells y ap cp ak ck) := (((o11.upd u12 (Off.nil _)).less fun b hb => by
      have e : b = b8 := by simpa [blk] using hb
      rw [e]; exact hD.fresh nb8)).upd u13 (off_notin fun b hb hb' => by
        have e : b = b8 := by simpa [blk] using hb
        have e2 : b = p := by simpa using hb'
        rw [e] at e2
        exact f1 b8 nb8 (by rw [e2]; exact List.mem_cons_self))
    rcases hres with ⟨rfl, rfl, hv', ho'⟩ | ⟨rfl, rfl, rfl, ho'⟩ | ⟨rfl, rfl, ho', j, hv'⟩
    · (repeat first | refine HReg.step ?_ | refine HCode.step ?_)
      rw [eqB_self 0]
      (repeat first | refine HReg.step ?_ | refine HCode.step ?_)
      refine HLoadN_row (ownrow_up o13).rows rfl ?_
      (repeat first | refine HReg.step ?_ | refine HCode.step ?_)
      refine HReq.mk (by decide) ?_
      (repeat first | refine HReg.step ?_ | refine HCode.step ?_)
      refine HNew.mk fun b14 hb14 => ?_
      have u14 : Upd [] H13 (H13.upd b14 (.cells (toldV [TRec.mk ⟨y, ap, cp, ak, ck⟩ true]).toArray 59)) := Upd.new hb14 _
      have r14 : RowAt (H13.upd b14 (.cells (toldV [TRec.mk ⟨y, ap, cp, ak, ck⟩ true]).toArray 59)) (some ⟨b14, 0, none⟩) (toldV [TRec.mk ⟨y, ap, cp, ak, ck⟩ true]) := RowAt.of_cells (upd_same _ _ _)
      have hH' : H13.upd b14 (.cells [Value.int .i64 y.kind, .int .u64 (y.id : Int), .slice ap y.ps.length cp, .slice ak y.ks.length ck, .bool true].toArray 59) = H13.upd b14 (.cells (toldV [TRec.mk ⟨y, ap, cp, ak, ck⟩ true]).toArray 59) := rfl
      rw [hH']
      generalize hH14 : H13.upd b14 (.cells (toldV [TRec.mk ⟨y, ap, cp, ak, ck⟩ true]).toArray 59) = H14 at u14 r14
      have v14 := less0 (B := dblk g r fl13) u14
      have D14 := D13.upd0 u14
      (repeat first | refine HReg.step ?_ | refine HCode.step ?_)
      refine append_rows (ie := Try.t59) (z := .agg #[.int .i64 0, .int .u64 0, .slice none 0 0, .slice none 0 0, .bool false]) (xs := toldV ts) (ys := toldV [TRec.mk ⟨y, ap, cp, ak, ck⟩ true]) Try.underlying55 rfl rfl rfl (by decide) ((ownrow_up row13).upd u14 (Off.nil _)) r14 rfl (plain_told _) (by show (ts.length + 1) * 72 ≤ _; omega) (by omega) fun a15 c15 H15 o15 u15 f15 => ?_
      rw [← toldV_append] at o15
      have hlen : (ts ++ [TRec.mk ⟨y, ap, cp, ak, ck⟩ true]).length = ts.length + 1 := by simp
      have offN : ∀ b ∈ blk aT, b ∉ dblk g r fl13 := fun b hb => by
        obtain ⟨pp, hpp, rfl⟩ := blk_of hb
        exact (off_live D13 (row13.there hpp)).1
      have v15 := less0 (B := dblk g r fl13) u15
      have D15 := D14.upd u15 offN (fun b hb => rfl)
      have base15 := Upd.drop (base13.trans v14) v15 ks6.nt
      have o15' : OwnRow (offD H15 g r fl13) 59 5 a15 (ts ++ [TRec.mk ⟨y, ap, cp, ak, ck⟩ true]).length c15 (toldV (ts ++ [TRec.mk ⟨y, ap, cp, ak, ck⟩ true])) := by
        rw [hlen]
        exact o15.less fun b hb => by
          obtain ⟨pp, hpp, rfl⟩ := blk_of hb
          rcases f15 pp hpp with h | h
          · exact offN _ (by rw [h]; simp [blk])
          · exact D14.fresh h
      have nt15 : ∀ b ∈ blk a15, L0 b = none := fun b hb => by
        obtain ⟨pp, hpp, rfl⟩ := blk_of hb
        rcases f15 pp hpp with h | h
        · exact ks6.nt _ (by rw [h]; simp [blk])
        · exact Upd.none (S := []) (base13.trans v14) (by simp) (less_nn h)
      have lg14 := lg13.upd0 v14
      have ap15 : p ∉ blk a15 := fun hb => by
        obtain ⟨pp, hpp, e⟩ := blk_of hb
        rcases f15 pp hpp with h | h
        · exact ks6.ap (by rw [h, ← e]; simp [blk])
        · rw [e] at h; exact (off_live D14 (lg14.row.there rfl)).2 h
      have lg15 := LogAt.mk (lg14.row.upd v15 (off_notin fun b hb hb' => by
        have e : b = p := by simpa [blk] using hb
        rw [e] at hb'; exact ks6.ap hb'))
      have mv : Upd [] (lessH (offD H14 g r fl13) (p :: blk aT)) (lessH (offD H15 g r fl13) (p :: blk a15)) := less_move (p := p) (a := aT) (a' := a15) v15 (fun pp hpp => (f15 pp hpp).imp id (fun h => less_nn h))
      have recs15 : ∀ t ∈ ts ++ [TRec.mk ⟨y, ap, cp, ak, ck⟩ true], RecIn (lessH (offD H15 g r fl13) (p :: blk a15)) t.q.r t.q.ap t.q.ak := fun t ht => by
        rcases List.mem_append.1 ht with h | h
        · exact ((recs13 t h).upd0 (less0 v14)).upd0 mv
        · rw [List.mem_singleton.1 h]; exact (i13.upd0 (less0 v14)).upd0 mv
      have told15 : (ts ++ [TRec.mk ⟨y, ap, cp, ak, ck⟩ true]).map (fun t => t.q.r) = D ++ [y] := by
        rw [List.map_append, ks6.told]; simp
      have tl15 : ts.length = D.length := by have := congrArg List.length ks6.told; simpa using this
      have hk2 : k + (frameR (pay y)).length = (frG (D ++ [y])).length := by rw [hk', frG_append, frG_one, List.length_append]
      obtain ⟨d1, hc1, _, _, hof1⟩ := one_call_val (d := d') (n := lgN) hv'
      obtain ⟨e16, l16, hrd, hcs⟩ : ∃ e l, (one d' lgN v').readF lgN = (e, l) ∧ (e = 62 ∨ (e = 0 ∧ l.length = k + (frameR (pay y)).length)) := by
        unfold St.readF
        rw [hc1]
        by_cases h : d1.off = true
        · exact ⟨62, [], by rw [if_pos (show (one d1 lgN v').d.off = true from h)], .inl rfl⟩
        · rw [if_neg (show ¬ (one d1 lgN v').d.off = true from h), one_fs]
          rcases hv' with ⟨_, h0⟩ | rfl
          · exfalso
            have := congrArg List.length h0
            rw [List.length_append, List.length_nil] at this
            omega
          · exact ⟨0, _, rfl, .inr ⟨rfl, by rw [List.length_append, hk']⟩⟩
      have fin16 : ∀ fl16 H16, DiskAt eH H16 g r (one d1 lgN v') fl16 → Upd [] (offD H15 g r fl13) (offD H16 g r fl16) → KS L0 g r p a15 c15 (ts ++ [TRec.mk ⟨y, ap, cp, ak, ck⟩ true]) (D ++ [y]) none (i + 1) H16 := fun fl16 H16 D16 u16 => by
        refine ⟨⟨d1, v', [], _, fl16, D16, by rw [List.append_nil, frG_append, frG_one]; exact hv', rfl, fun _ => ⟨rfl, hk2⟩, lg15.upd0 u16, o15'.upd u16 (Off.nil _), base15.trans u16, fun t ht => (recs15 t ht).upd0 (less0 u16)⟩, fun x hx => ?_, ks6.np, nt15, ap15, by rw [told15]; exact (List.append_nil _).symm, fun j t hj hjt => ?_, by rw [hlen]; have := ks6.len; omega⟩
        · rcases List.mem_append.1 hx with h | h
          · exact ks6.good x h
          · rw [List.mem_singleton.1 h]; exact hgy
        · have h1 := (List.getElem?_eq_some_iff.1 hjt).1
          simp at h1 hj
          omega
      (repeat first | refine HReg.step ?_ | refine HCode.step ?_)
      refine HCall.mk ⟨Try.f14, Try.func14, by rfl, by rfl⟩ ?_
      refine size_w (n := lgN) D15 hrd hc1 fun fl16 H16 D16 u16 => ?_
      rcases hcs with rfl | ⟨rfl, hl⟩
      · (repeat first | refine HReg.step ?_ | refine HCode.step ?_)
        rw [show eqB (62 : Int) 0 = false from eqB_false.2 (by decide)]
        (repeat first | refine HReg.step ?_ | refine HCode.step ?_)
        rw [wr_i64 (by omega) (by omega)]
        have rr := fin p a15 c15 _ (D ++ [y]) none (sq + 1) H16 (by omega) (fin16 fl16 H16 D16 u16)
        rw [hlen] at rr
        exact rr
      · (repeat first | refine HReg.step ?_ | refine HCode.step ?_)
        rw [eqB_self 0]
        (repeat first | refine HReg.step ?_ | refine HCode.step ?_)
        refine HCall.mk ⟨Try.f16, Try.func16, by rfl, by rfl⟩ ?_
        refine sizeL_t (lg15.upd0 u16) ?_
        rw [hl]
        (repeat first | refine HReg.step ?_ | refine HCode.step ?_)
        rw [eqB_self (((k + (frameR (pay y)).length : Nat)) : Int)]
        (repeat first | refine HReg.step ?_ | refine HCode.step ?_)
        rw [wr_i64 (by omega) (by omega)]
        have rr := fin p a15 c15 _ (D ++ [y]) none (sq + 1) H16 (by omega) (fin16 fl16 H16 D16 u16)
        rw [hlen] at rr
        exact rr
    · (repeat first | refine HReg.step ?_ | refine HCode.step ?_)
      rw [show eqB (60 : Int) 0 = false from eqB_false.2 (by decide)]
      (repeat first | refine HReg.step ?_ | refine HCode.step ?_)
      rw [show eqB (60 : Int) 62 = false from eqB_false.2 (by decide)]
      (repeat first | refine HReg.step ?_ | refine HCode.step ?_)
      rw [eqB_self 60]
      (repeat first | refine HReg.step ?_ | refine HCode.step ?_)
      rw [wr_i64 (by omega) (by omega)]
      exact fin p aT cT ts D none (sq + 1) H13 (by omega) ⟨⟨d', v', [], k', fl13, D13, by rw [List.append_nil]; exact hv, rfl, fun _ => ⟨rfl, hk'⟩, lg13, row13, base13, recs13⟩, ks6.good, ks6.np, ks6.nt, ks6.ap, ks6.told, ks6.done, Nat.le_succ_of_le ks6.len⟩
    · (repeat first | refine HReg.step ?_ | refine HCode.step ?_)
      rw [show eqB (62 : Int) 0 = false from eqB_false.2 (by decide)]
      (repeat first | refine HReg.step ?_ | refine HCode.step ?_)
      rw [eqB_self 62]
      (repeat first | refine HReg.step ?_ | refine HCode.step ?_)
      refine HLoadN_row (ownrow_up o13).rows rfl ?_
      (repeat first | refine HReg.step ?_ | refine HCode.step ?_)
      refine HReq.mk (by decide) ?_
      (repeat first | refine HReg.step ?_ | refine HCode.step ?_)
      refine HNew.mk fun b14 hb14 => ?_
      have u14 : Upd [] H13 (H13.upd b14 (.cells (toldV [TRec.mk ⟨y, ap, cp, ak, ck⟩ false]).toArray 59)) := Upd.new hb14 _
      have r14 : RowAt (H13.upd b14 (.cells (toldV [TRec.mk ⟨y, ap, cp, ak, ck⟩ false]).toArray 59)) (some ⟨b14, 0, none⟩) (toldV [TRec.mk ⟨y, ap, cp, ak, ck⟩ false]) := RowAt.of_cells (upd_same _ _ _)
      have hH' : H13.upd b14 (.cells [Value.int .i64 y.kind, .int .u64 (y.id : Int), .slice ap y.ps.length cp, .slice ak y.ks.length ck, .bool false].toArray 59) = H13.upd b14 (.cells (toldV [TRec.mk ⟨y, ap, cp, ak, ck⟩ false]).toArray 59) := rfl
      rw [hH']
      generalize hH14 : H13.upd b14 (.cells (toldV [TRec.mk ⟨y, ap, cp, ak, ck⟩ false]).toArray 59) = H14 at u14 r14
      have v14 := less0 (B := dblk g r fl13) u14
      have D14 := D13.upd0 u14
      (repeat first | refine HReg.step ?_ | refine HCode.step ?_)
      refine append_rows (ie := Try.t59) (z := .agg #[.int .i64 0, .int .u64 0, .slice none 0 0, .slice none 0 0, .bool false]) (xs := toldV ts) (ys := toldV [TRec.mk ⟨y, ap, cp, ak, ck⟩ false]) Try.underlying55 rfl rfl rfl (by decide) ((ownrow_up row13).upd u14 (Off.nil _)) r14 rfl (plain_told _) (by show (ts.length + 1) * 72 ≤ _; omega) (by omega) fun a15 c15 H15 o15 u15 f15 => ?_
      rw [← toldV_append] at o15
      have hlen : (ts ++ [TRec.mk ⟨y, ap, cp, ak, ck⟩ false]).length = ts.length + 1 := by simp
      have offN : ∀ b ∈ blk aT, b ∉ dblk g r fl13 := fun b hb => by
        obtain ⟨pp, hpp, rfl⟩ := blk_of hb
        exact (off_live D13 (row13.there hpp)).1
      have v15 := less0 (B := dblk g r fl13) u15
      have D15 := D14.upd u15 offN (fun b hb => rfl)
      have base15 := Upd.drop (base13.trans v14) v15 ks6.nt
      have o15' : OwnRow (offD H15 g r fl13) 59 5 a15 (ts ++ [TRec.mk ⟨y, ap, cp, ak, ck⟩ false]).length c15 (toldV (ts ++ [TRec.mk ⟨y, ap, cp, ak, ck⟩ false])) := by
        rw [hlen]
        exact o15.less fun b hb => by
          obtain ⟨pp, hpp, rfl⟩ := blk_of hb
          rcases f15 pp hpp with h | h
          · exact offN _ (by rw [h]; simp [blk])
          · exact D14.fresh h
      have nt15 : ∀ b ∈ blk a15, L0 b = none := fun b hb => by
        obtain ⟨pp, hpp, rfl⟩ := blk_of hb
        rcases f15 pp hpp with h | h
        · exact ks6.nt _ (by rw [h]; simp [blk])
        · exact Upd.none (S := []) (base13.trans v14) (by simp) (less_nn h)
      have lg14 := lg13.upd0 v14
      have ap15 : p ∉ blk a15 := fun hb => by
        obtain ⟨pp, hpp, e⟩ := blk_of hb
        rcases f15 pp hpp with h | h
        · exact ks6.ap (by rw [h, ← e]; simp [blk])
        · rw [e] at h; exact (off_live D14 (lg14.row.there rfl)).2 h
      have lg15 := LogAt.mk (lg14.row.upd v15 (off_notin fun b hb hb' => by
        have e : b = p := by simpa [blk] using hb
        rw [e] at hb'; exact ks6.ap hb'))
      have mv : Upd [] (lessH (offD H14 g r fl13) (p :: blk aT)) (lessH (offD H15 g r fl13) (p :: blk a15)) := less_move (p := p) (a := aT) (a' := a15) v15 (fun pp hpp => (f15 pp hpp).imp id (fun h => less_nn h))
      have recs15 : ∀ t ∈ ts ++ [TRec.mk ⟨y, ap, cp, ak, ck⟩ false], RecIn (lessH (offD H15 g r fl13) (p :: blk a15)) t.q.r t.q.ap t.q.ak := fun t ht => by
        rcases List.mem_append.1 ht with h | h
        · exact ((recs13 t h).upd0 (less0 v14)).upd0 mv
        · rw [List.mem_singleton.1 h]; exact (i13.upd0 (less0 v14)).upd0 mv
      have told15 : (ts ++ [TRec.mk ⟨y, ap, cp, ak, ck⟩ false]).map (fun t => t.q.r) = D ++ [y] := by
        rw [List.map_append, ks6.told]; simp
      have tl15 : ts.length = D.length := by have := congrArg List.length ks6.told; simpa using this
      (repeat first | refine HReg.step ?_ | refine HCode.step ?_)
      rw [wr_i64 (by omega) (by omega)]
      have kf : KS L0 g r p a15 c15 (ts ++ [TRec.mk ⟨y, ap, cp, ak, ck⟩ false]) D (some y) (i + 1) H15 := by
        refine ⟨⟨d', v', _, k', fl13, D15, hv', ⟨hgy, j, rfl⟩, (fun h => by rw [ho'] at h; cases h), lg15, o15', base15, recs15⟩, ks6.good, ks6.np, nt15, ap15, told15, fun j t hj hjt => ?_, by rw [hlen]; have := ks6.len; omega⟩
        rw [List.getElem?_append_right (by omega)] at hjt
        have h0 : j - ts.length = 0 := by
          have := (List.getElem?_eq_some_iff.1 hjt).1
          simp at this; omega
        rw [h0] at hjt
        cases hjt; rfl
      have rr := fin p a15 c15 _ D (some y) (sq + 1) H15 (by omega) kf
      rw [hlen] at rr
      exact rr
  rw [show eqB o.kind 1 = false from eqB_false.2 k1]
  (repeat first | refine HReg.step ?_ | refine HCode.step ?_)
  by_cases k2 : o.kind = 2
  · rw [k2, eqB_self 2]
    (repeat first | refine HReg.step ?_ | refine HCode.step ?_)
    refine HLoad.one (v := .int .i64 o.n) (by exact o6.rows.get (i := 5) rfl) ?_
    (repeat first | refine HReg.step ?_ | refine HCode.step ?_)
    refine HCall.mk ⟨Try.f20, Try.func20, by rfl, by rfl⟩ ?_
    obtain ⟨d7, hd7, ho7⟩ : ∃ d', (one d lgN v).crash o.n = one d' lgN v ∧ (d'.off = false → d.off = false) := by
      by_cases ho : d.off = true
      · exact ⟨d, one_crash_off ho _, fun h => h⟩
      · exact ⟨_, by rw [one_crash (by simpa using ho), hv.crash], fun h => by cases h⟩
    refine crash_w hD hd7 fun fl7 H7 D7 u7 => ?_
    (repeat first | refine HReg.step ?_ | refine HCode.step ?_)
    rw [wr_i64 (by omega) (by omega)]
    exact fin _ _ _ _ _ _ _ H7 (by omega) (keep _ _ _ D7 u7 ho7)
  rw [show eqB o.kind 2 = false from eqB_false.2 k2]
  (repeat first | refine HReg.step ?_ | refine HCode.step ?_)
  by_cases k3 : o.kind = 3
  · rw [k3, eqB_self 3]
    (repeat first | refine HReg.step ?_ | refine HCode.step ?_)
    refine HLoad.one (v := .int .i64 o.n) (by exact o6.rows.get (i := 5) rfl) ?_
    (repeat first | refine HReg.step ?_ | refine HCode.step ?_)
    refine HLoad.one (v := .int .i64 o.k) (by exact o6.rows.get (i := 6) rfl) ?_
    (repeat first | refine HReg.step ?_ | refine HCode.step ?_)
    refine HCall.mk ⟨Try.f21, Try.func21, by rfl, by rfl⟩ ?_
    refine arm_w (s' := one { d with armed := decide (0 ≤ o.n), calls := o.n, keep := o.k } lgN v) hD ho6.n1 ho6.n2 rfl fun H7 D7 u7 => ?_
    (repeat first | refine HReg.step ?_ | refine HCode.step ?_)
    rw [wr_i64 (by omega) (by omega)]
    exact fin _ _ _ _ _ _ _ H7 (by omega) (keep _ _ _ D7 u7 (fun h => h))
  rw [show eqB o.kind 3 = false from eqB_false.2 k3]
  (repeat first | refine HReg.step ?_ | refine HCode.step ?_)
  by_cases k4 : o.kind = 4
  · rw [k4, eqB_self 4]
    (repeat first | refine HReg.step ?_ | refine HCode.step ?_)
    refine HLoad.one (v := .int .i64 o.n) (by exact o6.rows.get (i := 5) rfl) ?_
    (repeat first | refine HReg.step ?_ | refine HCode.step ?_)
    refine HCall.mk ⟨Try.f22, Try.func22, by rfl, by rfl⟩ ?_
    refine full_w (s' := one { d with refuses := max o.n 0 } lgN v) hD ho6.n2 rfl fun H7 D7 u7 => ?_
    (repeat first | refine HReg.step ?_ | refine HCode.step ?_)
    rw [wr_i64 (by omega) (by omega)]
    exact fin _ _ _ _ _ _ _ H7 (by omega) (keep _ _ _ D7 u7 (fun h => h))
  rw [show eqB o.kind 4 = false from eqB_false.2 k4]
  (repeat first | refine HReg.step ?_ | refine HCode.step ?_)
  by_cases k5 : o.kind = 5
  rotate_left
  · rw [show eqB o.kind 5 = false from eqB_false.2 k5]
    (repeat first | refine HReg.step ?_ | refine HCode.step ?_)
    rw [wr_i64 (by omega) (by omega)]
    exact fin _ _ _ _ _ _ _ H6 (by omega) (keep _ _ _ hD (Upd.refl _ _) (fun h => h))
  rw [k5, eqB_self 5]
  have htl : ts.length = D.length + U.toList.length := by have := congrArg List.length ks6.told; simpa using this
  have hul : U.toList.length ≤ 1 := by cases U <;> simp
  have hts : ts.length ≤ 400 := Nat.le_trans ks6.len (by omega)
  have hDl := frG_len ks6.good
  have htlen : t.length ≤ 1048584 := by
    cases U with
    | none => rw [show t = [] from ht]; exact Nat.zero_le _
    | some u =>
      obtain ⟨hgu, j, rfl⟩ : Good u ∧ ∃ j, t = (frameR (pay u)).take j := ht
      rw [List.length_take, frame_len]
      have := hgu.len; omega
  (repeat first | refine HReg.step ?_ | refine HCode.step ?_)
  refine HCall.mk ⟨Try.f23, Try.func23, by rfl, by rfl⟩ ?_
  refine up_w (s' := one { d with off := false, armed := false } lgN v) hD rfl fun H7 D7 u7 => ?_
  obtain ⟨A, v', hop, hv', hA, hgA⟩ := open_any (d := { d with off := false, armed := false }) (n := lgN) rfl rfl ks6.good hv ht
  have hAl : D.length ≤ A.length ∧ A.length ≤ ts.length := by
    rcases hA with h | ⟨u, hu', h⟩
    · rw [h, htl]; omega
    · rw [h, htl, hu']; simp
  (repeat first | refine HReg.step ?_ | refine HCode.step ?_)
  refine HCall.mk ⟨Try.f13, Try.func13, by rfl, by rfl⟩ ?_
  refine open_w (n := lgN) D7 (by
    rw [one_readF rfl rfl]
    rcases hv with ⟨rfl, h0⟩ | rfl
    · exact Nat.zero_le _
    · show (frG D ++ t).length ≤ _
      rw [List.length_append]; omega) hop fun x a8 c8 qs fl8 H8 hq8 D8 u8_ lg8 np8 R8 => ?_
  have hql : qs.length = A.length := by have := congrArg List.length hq8; simpa using this.symm
  have v68 := u7.trans u8_
  have oT8 := hrow.upd v68 (Off.nil _)
  have hT8 : Tolds H8 aT ts := ⟨(ownrow_up oT8).rows, fun t ht => (((hrc t ht).upd0 (less0 v68)).upd0 (less_upd _ _)).upd0 (offD_up H8)⟩
  have hR8 := R8.up
  have hAf : (frG A).length ≤ 500000000 := by
    have := frG_len hgA
    have : A.length * 1048584 ≤ 400 * 1048584 := Nat.mul_le_mul_right _ (by omega)
    omega
  (repeat first | refine HReg.step ?_ | refine HCode.step ?_)
  rw [eqB_self 0]
  (repeat first | refine HReg.step ?_ | refine HCode.step ?_)
  refine HCall.mk ⟨Try.f24, Try.func24, by rfl, by rfl⟩ ?_
  refine right_t hR8 hT8 rfl rfl (by omega) (by omega) (fun j q t' hq ht' => ?_) (fun j t' hj ht' => ks6.done j t' (by omega) ht') fun H9 u9 => ?_
  · have h1 : A[j]? = some q.r := by rw [hq8, List.getElem?_map, hq]; rfl
    have h2 : (D ++ U.toList)[j]? = some t'.q.r := by rw [← ks6.told, List.getElem?_map, ht']; rfl
    have h3 : (D ++ U.toList)[j]? = A[j]? := by
      rcases hA with h | ⟨u, hu', h⟩
      · rw [h, List.getElem?_append_left (by
          have := (List.getElem?_eq_some_iff.1 h1).1
          rw [h] at this; exact this)]
      · rw [h, hu']; rfl
    rw [h1, h2] at h3
    exact (Option.some.inj h3).symm
  have D9 := D8.upd0 u9
  have v9 := less0 (B := dblk g r fl8) u9
  (repeat first | refine HReg.step ?_ | refine HCode.step ?_)
  refine HCall.mk ⟨Try.f14, Try.func14, by rfl, by rfl⟩ ?_
  obtain ⟨e10, he10, hrd⟩ : ∃ e, (e = 0 ∨ (e = 61 ∧ frG A = [])) ∧ (one { d with off := false, armed := false } lgN v').readF lgN = (e, frG A) := by
    rw [one_readF rfl rfl]
    rcases hv' with ⟨rfl, h0⟩ | rfl
    · exact ⟨61, .inr ⟨rfl, h0⟩, by rw [h0]⟩
    · exact ⟨0, .inl rfl, rfl⟩
  refine size_w (n := lgN) D9 hrd (one_call rfl) fun fl10 H10 D10 u10 => ?_
  have R10 := (R8.upd0 v9).upd0 u10
  have lg10 := (lg8.upd0 v9).upd0 u10
  have hR10 := R10.up
  (repeat first | refine HReg.step ?_ | refine HCode.step ?_)
  refine hloopC [2, 23, 24, 25, 26, 172, 173, 174, 175, 176, 177, 178, 179, 180, 181, 182, 183, 184, 185, 186, 187, 188, 189, 190, 191, 192] [23, 24] (SumInv H10 (qs.map PRec.r)) rfl (by repeat' first | exact Resp.retD | exact Resp1.valuesK | refine Resp.blockD ?_ | refine Resp.thenD ?_ ?_ | refine Resp.hcode ?_) ?_ ?_
  · exact ⟨qs.length, SumInv.mk ⟨0, rfl, by simp, Upd.refl _ _⟩⟩
  rintro m1 _ fe10 H11 ⟨j, rfl, hmj, u11⟩
  rw [List.length_map] at hmj
  (repeat first | refine HReg.step ?_ | refine HCode.step ?_)
  refine hif (fun h1 => ?_) (fun h1 => ?_)
  · have h1 := ltB_true.1 h1
    obtain ⟨q, hq⟩ : ∃ q, qs[j]? = some q := ⟨qs[j]'(by omega), by simp⟩
    have hqm := List.mem_of_getElem? hq
    have hR11 := hR10.upd0 u11
    obtain ⟨ba, ao, rfl, _⟩ := hR11.row _ _ (recsV_get hq 0 _ rfl)
    have hgq : Good q.r := hgA _ (by rw [hq8]; exact List.mem_map.2 ⟨q, hqm, rfl⟩)
    have hs1 : (frG ((qs.map PRec.r).take (j + 1))).length = (frG ((qs.map PRec.r).take j)).length + (frameR (pay q.r)).length := by
      rw [List.take_add_one, List.getElem?_map, hq, frG_append, List.length_append]
      show _ + (frG [q.r]).length = _
      rw [frG_one]
    have hs2 : (frG ((qs.map PRec.r).take (j + 1))).length ≤ 500000000 := by
      have := frG_len (rs := (qs.map PRec.r).take (j + 1)) (fun z hz => hgA z (by rw [hq8]; exact List.mem_of_mem_take hz))
      rw [List.length_take, List.length_map] at this
      have : min (j + 1) qs.length * 1048584 ≤ 400 * 1048584 := Nat.mul_le_mul_right _ (by omega)
      omega
    (repeat first | refine HReg.step ?_ | refine HCode.step ?_)
    refine HReq.mk ⟨by omega, by omega⟩ ?_
    (repeat first | refine HReg.step ?_ | refine HCode.step ?_)
    refine HLoadN_rec hR11.row (by simpa using hq) ?_
    (repeat first | refine HReg.step ?_ | refine HCode.step ?_)
    refine HCall.mk ⟨Try.f10, Try.func10, by rfl, by rfl⟩ ?_
    refine own_t (hR11.each q hqm) fun p12 d12 k12 c12 H12 O12 u12 => ?_
    (repeat first | refine HReg.step ?_ | refine HCode.step ?_)
    refine HCall.mk ⟨Try.f9, Try.func9, by rfl, by rfl⟩ ?_
    refine build_t O12.recIn fun aB cB H13 m13 => ?_
    rw [build_good hgq]
    dsimp only
    (repeat first | refine HReg.step ?_ | refine HCode.step ?_)
    rw [eqB_self 0]
    (repeat first | refine HReg.step ?_ | refine HCode.step ?_)
    rw [wr_i64 (n := ((frG ((qs.map PRec.r).take j)).length : Int) + ((frameR (pay q.r)).length : Int)) (by omega) (by omega), wr_i64 (n := (j : Int) + 1) (by omega) (by omega)]
    refine Exists.intro (m1 - 1) ?_
    refine And.intro (by omega) ?_
    exact SumInv.mk ⟨j + 1, by rw [hs1, Int.natCast_add, Int.natCast_add]; rfl, by rw [List.length_map]; omega, (u11.trans u12).trans m13.upd⟩
  have h1 := ltB_false.1 h1
  obtain rfl : j = qs.length := by omega
  have hfull : (qs.map PRec.r).take qs.length = A := by rw [hq8]; exact List.take_of_length_le (by simp)
  rw [hfull]
  have D11 := D10.upd0 u11
  have v11 := less0 (B := dblk g r fl10) u11
  have lg11 := lg10.upd0 v11
  have R11 := R10.upd0 v11
  ((repeat refine HReg.step ?_); first | (show HCode _ _ _ (Code.seq (Code.seq (Code.region _ _ _) (Code.cond _ _ _)) _) _ _ _; refine hcutC (a := Code.seq (Code.region _ _ _) (Code.cond _ _ _)) [2, 193, 194, 195, 196, 197, 198, 199, 200, 201, 202, 203, 204, 205, 206, 207, 208, 209, 210, 211, 212, 213, 214, 215, 216, 217, 218, 219, 220, 221] [] (SameH H11) rfl (by repeat' first | exact Resp.retD | exact Resp1.valuesK | refine Resp.blockD ?_ | refine Resp.thenD ?_ ?_ | refine Resp.hcode ?_) ?_ ?_) | (refine HCode.step ?_; (repeat refine HReg.step ?_); first | (show HCode _ _ _ (Code.seq (Code.seq (Code.region _ _ _) (Code.cond _ _ _)) _) _ _ _; refine hcutC (a := Code.seq (Code.region _ _ _) (Code.cond _ _ _)) [2, 193, 194, 195, 196, 197, 198, 199, 200, 201, 202, 203, 204, 205, 206, 207, 208, 209, 210, 211, 212, 213, 214, 215, 216, 217, 218, 219, 220, 221] [] (SameH H11) rfl (by repeat' first | exact Resp.retD | exact Resp1.valuesK | refine Resp.blockD ?_ | refine Resp.thenD ?_ ?_ | refine Resp.hcode ?_) ?_ ?_) | (refine HCode.step ?_; (repeat refine HReg.step ?_); first | (show HCode _ _ _ (Code.seq (Code.seq (Code.region _ _ _) (Code.cond _ _ _)) _) _ _ _; refine hcutC (a := Code.seq (Code.region _ _ _) (Code.cond _ _ _)) [2, 193, 194, 195, 196, 197, 198, 199, 200, 201, 202, 203, 204, 205, 206, 207, 208, 209, 210, 211, 212, 213, 214, 215, 216, 217, 218, 219, 220, 221] [] (SameH H11) rfl (by repeat' first | exact Resp.retD | exact Resp1.valuesK | refine Resp.blockD ?_ | refine Resp.thenD ?_ ?_ | refine Resp.hcode ?_) ?_ ?_) | (refine HCode.step ?_; (repeat refine HReg.step ?_); first | (show HCode _ _ _ (Code.seq (Code.seq (Code.region _ _ _) (Code.cond _ _ _)) _) _ _ _; refine hcutC (a := Code.seq (Code.region _ _ _) (Code.cond _ _ _)) [2, 193, 194, 195, 196, 197, 198, 199, 200, 201, 202, 203, 204, 205, 206, 207, 208, 209, 210, 211, 212, 213, 214, 215, 216, 217, 218, 219, 220, 221] [] (SameH H11) rfl (by repeat' first | exact Resp.retD | exact Resp1.valuesK | refine Resp.blockD ?_ | refine Resp.thenD ?_ ?_ | refine Resp.hcode ?_) ?_ ?_) | (refine HCode.step ?_; (repeat refine HReg.step ?_); first | (show HCode _ _ _ (Code.seq (Code.seq (Code.region _ _ _) (Code.cond _ _ _)) _) _ _ _; refine hcutC (a := Code.seq (Code.region _ _ _) (Code.cond _ _ _)) [2, 193, 194, 195, 196, 197, 198, 199, 200, 201, 202, 203, 204, 205, 206, 207, 208, 209, 210, 211, 212, 213, 214, 215, 216, 217, 218, 219, 220, 221] [] (SameH H11) rfl (by repeat' first | exact Resp.retD | exact Resp1.valuesK | refine Resp.blockD ?_ | refine Resp.thenD ?_ ?_ | refine Resp.hcode ?_) ?_ ?_) | (refine HCode.step ?_; (repeat refine HReg.step ?_); first | (show HCode _ _ _ (Code.seq (Code.seq (Code.region _ _ _) (Code.cond _ _ _)) _) _ _ _; refine hcutC (a := Code.seq (Code.region _ _ _) (Code.cond _ _ _)) [2, 193, 194, 195, 196, 197, 198, 199, 200, 201, 202, 203, 204, 205, 206, 207, 208, 209, 210, 211, 212, 213, 214, 215, 216, 217, 218, 219, 220, 221] [] (SameH H11) rfl (by repeat' first | exact Resp.retD | exact Resp1.valuesK | refine Resp.blockD ?_ | refine Resp.thenD ?_ ?_ | refine Resp.hcode ?_) ?_ ?_) | (refine HCode.step ?_; (repeat refine HReg.step ?_); first | (show HCode _ _ _ (Code.seq (Code.seq (Code.region _ _ _) (Code.cond _ _ _)) _) _ _ _; refine hcutC (a := Code.seq (Code.region _ _ _) (Code.cond _ _ _)) [2, 193, 194, 195, 196, 197, 198, 199, 200, 201, 202, 203, 204, 205, 206, 207, 208, 209, 210, 211, 212, 213, 214, 215, 216, 217, 218, 219, 220, 221] [] (SameH H11) rfl (by repeat' first | exact Resp.retD | exact Resp1.valuesK | refine Resp.blockD ?_ | refine Resp.thenD ?_ ?_ | refine Resp.hcode ?_) ?_ ?_) | (refine HCode.step ?_; (repeat refine HReg.step ?_); first | (show HCode _ _ _ (Code.seq (Code.seq (Code.region _ _ _) (Code.cond _ _ _)) _) _ _ _; refine hcutC (a := Code.seq (Code.region _ _ _) (Code.cond _ _ _)) [2, 193, 194, 195, 196, 197, 198, 199, 200, 201, 202, 203, 204, 205, 206, 207, 208, 209, 210, 211, 212, 213, 214, 215, 216, 217, 218, 219, 220, 221] [] (SameH H11) rfl (by repeat' first | exact Resp.retD | exact Resp1.valuesK | refine Resp.blockD ?_ | refine Resp.thenD ?_ ?_ | refine Resp.hcode ?_) ?_ ?_) | (refine HCode.step ?_; (repeat refine HReg.step ?_); first | (show HCode _ _ _ (Code.seq (Code.seq (Code.region _ _ _) (Code.cond _ _ _)) _) _ _ _; refine hcutC (a := Code.seq (Code.region _ _ _) (Code.cond _ _ _)) [2, 193, 194, 195, 196, 197, 198, 199, 200, 201, 202, 203, 204, 205, 206, 207, 208, 209, 210, 211, 212, 213, 214, 215, 216, 217, 218, 219, 220, 221] [] (SameH H11) rfl (by repeat' first | exact Resp.retD | exact Resp1.valuesK | refine Resp.blockD ?_ | refine Resp.thenD ?_ ?_ | refine Resp.hcode ?_) ?_ ?_) | (refine HCode.step ?_; (repeat refine HReg.step ?_); first | (show HCode _ _ _ (Code.seq (Code.seq (Code.region _ _ _) (Code.cond _ _ _)) _) _ _ _; refine hcutC (a := Code.seq (Code.region _ _ _) (Code.cond _ _ _)) [2, 193, 194, 195, 196, 197, 198, 199, 200, 201, 202, 203, 204, 205, 206, 207, 208, 209, 210, 211, 212, 213, 214, 215, 216, 217, 218, 219, 220, 221] [] (SameH H11) rfl (by repeat' first | exact Resp.retD | exact Resp1.valuesK | refine Resp.blockD ?_ | refine Resp.thenD ?_ ?_ | refine Resp.hcode ?_) ?_ ?_) | (refine HCode.step ?_; (repeat refine HReg.step ?_); first | (show HCode _ _ _ (Code.seq (Code.seq (Code.region _ _ _) (Code.cond _ _ _)) _) _ _ _; refine hcutC (a := Code.seq (Code.region _ _ _) (Code.cond _ _ _)) [2, 193, 194, 195, 196, 197, 198, 199, 200, 201, 202, 203, 204, 205, 206, 207, 208, 209, 210, 211, 212, 213, 214, 215, 216, 217, 218, 219, 220, 221] [] (SameH H11) rfl (by repeat' first | exact Resp.retD | exact Resp1.valuesK | refine Resp.blockD ?_ | refine Resp.thenD ?_ ?_ | refine Resp.hcode ?_) ?_ ?_) | (refine HCode.step ?_; (repeat refine HReg.step ?_); first | (show HCode _ _ _ (Code.seq (Code.seq (Code.region _ _ _) (Code.cond _ _ _)) _) _ _ _; refine hcutC (a := Code.seq (Code.region _ _ _) (Code.cond _ _ _)) [2, 193, 194, 195, 196, 197, 198, 199, 200, 201, 202, 203, 204, 205, 206, 207, 208, 209, 210, 211, 212, 213, 214, 215, 216, 217, 218, 219, 220, 221] [] (SameH H11) rfl (by repeat' first | exact Resp.retD | exact Resp1.valuesK | refine Resp.blockD ?_ | refine Resp.thenD ?_ ?_ | refine Resp.hcode ?_) ?_ ?_) | (refine HCode.step ?_; (repeat refine HReg.step ?_); first | (show HCode _ _ _ (Code.seq (Code.seq (Code.region _ _ _) (Code.cond _ _ _)) _) _ _ _; refine hcutC (a := Code.seq (Code.region _ _ _) (Code.cond _ _ _)) [2, 193, 194, 195, 196, 197, 198, 199, 200, 201, 202, 203, 204, 205, 206, 207, 208, 209, 210, 211, 212, 213, 214, 215, 216, 217, 218, 219, 220, 221] [] (SameH H11) rfl (by repeat' first | exact Resp.retD | exact Resp1.valuesK | refine Resp.blockD ?_ | refine Resp.thenD ?_ ?_ | refine Resp.hcode ?_) ?_ ?_) | (refine HCode.step ?_; (repeat refine HReg.step ?_); first | (show HCode _ _ _ (Code.seq (Code.seq (Code.region _ _ _) (Code.cond _ _ _)) _) _ _ _; refine hcutC (a := Code.seq (Code.region _ _ _) (Code.cond _ _ _)) [2, 193, 194, 195, 196, 197, 198, 199, 200, 201, 202, 203, 204, 205, 206, 207, 208, 209, 210, 211, 212, 213, 214, 215, 216, 217, 218, 219, 220, 221] [] (SameH H11) rfl (by repeat' first | exact Resp.retD | exact Resp1.valuesK | refine Resp.blockD ?_ | refine Resp.thenD ?_ ?_ | refine Resp.hcode ?_) ?_ ?_) | (refine HCode.step ?_; (repeat refine HReg.step ?_); first | (show HCode _ _ _ (Code.seq (Code.seq (Code.region _ _ _) (Code.cond _ _ _)) _) _ _ _; refine hcutC (a := Code.seq (Code.region _ _ _) (Code.cond _ _ _)) [2, 193, 194, 195, 196, 197, 198, 199, 200, 201, 202, 203, 204, 205, 206, 207, 208, 209, 210, 211, 212, 213, 214, 215, 216, 217, 218, 219, 220, 221] [] (SameH H11) rfl (by repeat' first | exact Resp.retD | exact Resp1.valuesK | refine Resp.blockD ?_ | refine Resp.thenD ?_ ?_ | refine Resp.hcode ?_) ?_ ?_) | (refine HCode.step ?_; (repeat refine HReg.step ?_); first | (show HCode _ _ _ (Code.seq (Code.seq (Code.region _ _ _) (Code.cond _ _ _)) _) _ _ _; refine hcutC (a := Code.seq (Code.region _ _ _) (Code.cond _ _ _)) [2, 193, 194, 195, 196, 197, 198, 199, 200, 201, 202, 203, 204, 205, 206, 207, 208, 209, 210, 211, 212, 213, 214, 215, 216, 217, 218, 219, 220, 221] [] (SameH H11) rfl (by repeat' first | exact Resp.retD | exact Resp1.valuesK | refine Resp.blockD ?_ | refine Resp.thenD ?_ ?_ | refine Resp.hcode ?_) ?_ ?_) | (refine HCode.step ?_; (repeat refine HReg.step ?_); first | (show HCode _ _ _ (Code.seq (Code.seq (Code.region _ _ _) (Code.cond _ _ _)) _) _ _ _; refine hcutC (a := Code.seq (Code.region _ _ _) (Code.cond _ _ _)) [2, 193, 194, 195, 196, 197, 198, 199, 200, 201, 202, 203, 204, 205, 206, 207, 208, 209, 210, 211, 212, 213, 214, 215, 216, 217, 218, 219, 220, 221] [] (SameH H11) rfl (by repeat' first | exact Resp.retD | exact Resp1.valuesK | refine Resp.blockD ?_ | refine Resp.thenD ?_ ?_ | refine Resp.hcode ?_) ?_ ?_) | (refine HCode.step ?_; (repeat refine HReg.step ?_); first | (show HCode _ _ _ (Code.seq (Code.seq (Code.region _ _ _) (Code.cond _ _ _)) _) _ _ _; refine hcutC (a := Code.seq (Code.region _ _ _) (Code.cond _ _ _)) [2, 193, 194, 195, 196, 197, 198, 199, 200, 201, 202, 203, 204, 205, 206, 207, 208, 209, 210, 211, 212, 213, 214, 215, 216, 217, 218, 219, 220, 221] [] (SameH H11) rfl (by repeat' first | exact Resp.retD | exact Resp1.valuesK | refine Resp.blockD ?_ | refine Resp.thenD ?_ ?_ | refine Resp.hcode ?_) ?_ ?_) | (refine HCode.step ?_; (repeat refine HReg.step ?_); first | (show HCode _ _ _ (Code.seq (Code.seq (Code.region _ _ _) (Code.cond _ _ _)) _) _ _ _; refine hcutC (a := Code.seq (Code.region _ _ _) (Code.cond _ _ _)) [2, 193, 194, 195, 196, 197, 198, 199, 200, 201, 202, 203, 204, 205, 206, 207, 208, 209, 210, 211, 212, 213, 214, 215, 216, 217, 218, 219, 220, 221] [] (SameH H11) rfl (by repeat' first | exact Resp.retD | exact Resp1.valuesK | refine Resp.blockD ?_ | refine Resp.thenD ?_ ?_ | refine Resp.hcode ?_) ?_ ?_) | (refine HCode.step ?_; (repeat refine HReg.step ?_); first | (show HCode _ _ _ (Code.seq (Code.seq (Code.region _ _ _) (Code.cond _ _ _)) _) _ _ _; refine hcutC (a := Code.seq (Code.region _ _ _) (Code.cond _ _ _)) [2, 193, 194, 195, 196, 197, 198, 199, 200, 201, 202, 203, 204, 205, 206, 207, 208, 209, 210, 211, 212, 213, 214, 215, 216, 217, 218, 219, 220, 221] [] (SameH H11) rfl (by repeat' first | exact Resp.retD | exact Resp1.valuesK | refine Resp.blockD ?_ | refine Resp.thenD ?_ ?_ | refine Resp.hcode ?_) ?_ ?_) | (refine HCode.step ?_; (repeat refine HReg.step ?_); (show HCode _ _ _ (Code.seq (Code.seq (Code.region _ _ _) (Code.cond _ _ _)) _) _ _ _; refine hcutC (a := Code.seq (Code.region _ _ _) (Code.cond _ _ _)) [2, 193, 194, 195, 196, 197, 198, 199, 200, 201, 202, 203, 204, 205, 206, 207, 208, 209, 210, 211, 212, 213, 214, 215, 216, 217, 218, 219, 220, 221] [] (SameH H11) rfl (by repeat' first | exact Resp.retD | exact Resp1.valuesK | refine Resp.blockD ?_ | refine Resp.thenD ?_ ?_ | refine Resp.hcode ?_) ?_ ?_))))))))))))))))))))))
  · (repeat first | refine HReg.step ?_ | refine HCode.step ?_)
    refine HCall.mk ⟨Try.f16, Try.func16, by rfl, by rfl⟩ ?_
    refine sizeL_t lg11 ?_
    (repeat first | refine HReg.step ?_ | refine HCode.step ?_)
    rw [eqB_self (((frG A).length : Nat) : Int)]
    (repeat first | refine HReg.step ?_ | refine HCode.step ?_)
    rcases he10 with rfl | ⟨rfl, hA0⟩
    · rw [eqB_self 0]
      (repeat first | refine HReg.step ?_ | refine HCode.step ?_)
      rw [eqB_self (((frG A).length : Nat) : Int)]
      (repeat first | refine HReg.step ?_ | refine HCode.step ?_)
      rw [show eqB (0 : Int) 61 = false from eqB_false.2 (by decide)]
      (repeat first | refine HReg.step ?_ | refine HCode.step ?_)
      rw [eqB_self 0]
      (repeat first | refine HReg.step ?_ | refine HCode.step ?_)
      exact SameH.mk ⟨rfl, rfl⟩
    · rw [show eqB (61 : Int) 0 = false from eqB_false.2 (by decide)]
      (repeat first | refine HReg.step ?_ | refine HCode.step ?_)
      rw [eqB_self 61]
      (repeat first | refine HReg.step ?_ | refine HCode.step ?_)
      rw [hA0, show eqB ((([] : List UInt8).length : Nat) : Int) 0 = true from eqB_true.2 rfl]
      (repeat first | refine HReg.step ?_ | refine HCode.step ?_)
      rw [show eqB (61 : Int) 0 = false from eqB_false.2 (by decide)]
      (repeat first | refine HReg.step ?_ | refine HCode.step ?_)
      rw [eqB_self 61]
      (repeat first | refine HReg.step ?_ | refine HCode.step ?_)
      exact SameH.mk ⟨rfl, rfl⟩
  rintro _ fe11 H11' ⟨rfl, hh⟩
  obtain rfl := hh.symm
  (repeat first | refine HReg.step ?_ | refine HCode.step ?_)
  refine hloopC [27, 28, 222, 223, 224, 225, 226, 227, 228, 229, 230, 231, 232, 233, 234, 235, 236] [27, 28] (NowInv H11 (offD H11 g r fl10) g r (one { d with off := false, armed := false } lgN v') fl10 x qs) rfl (by repeat' first | exact Resp.retD | exact Resp1.valuesK | refine Resp.blockD ?_ | refine Resp.thenD ?_ ?_ | refine Resp.hcode ?_) ?_ ?_
  · refine ⟨qs.length, NowInv.mk ⟨0, none, 0, [], rfl, by omega, rfl, D11, OwnRow.nil _ _ _, fun b hb => by simp [blk] at hb, Upd.refl _ _, fun t ht => by simp at ht, rfl⟩⟩
  rintro m2 _ fe12 H12 ⟨j, aN, cN, ns, rfl, hmj2, hnl2, D12, oN, fN, u12, hrN, hmN⟩
  (repeat first | refine HReg.step ?_ | refine HCode.step ?_)
  refine hif (fun h1 => ?_) (fun h1 => ?_)
  · have h1 := ltB_true.1 h1
    obtain ⟨q, hq⟩ : ∃ q, qs[j]? = some q := ⟨qs[j]'(by omega), by simp⟩
    have hqm := List.mem_of_getElem? hq
    have hR12 := (R11.upd0 u12).up
    obtain ⟨ba, ao, rfl, _⟩ := hR12.row _ _ (recsV_get hq 0 _ rfl)
    have lg12 := lg11.upd0 u12
    have xl : offD H12 g r fl10 x ≠ none := lg12.row.there rfl
    subst hnl2
    (repeat first | refine HReg.step ?_ | refine HCode.step ?_)
    refine HReq.mk ⟨by omega, by omega⟩ ?_
    (repeat first | refine HReg.step ?_ | refine HCode.step ?_)
    refine HLoadN_rec hR12.row (by simpa using hq) ?_
    (repeat first | refine HReg.step ?_ | refine HCode.step ?_)
    refine HCall.mk ⟨Try.f10, Try.func10, by rfl, by rfl⟩ ?_
    refine own_t (hR12.each q hqm) fun p13 d13 k13 c13 H13 O13 u13 => ?_
    have v13 := less0 (B := dblk g r fl10) u13
    have D13 := D12.upd0 u13
    have i13 : RecIn (lessH (offD H13 g r fl10) (x :: blk aN)) q.r p13 k13 := by
      have f1 : ∀ b, H12 b = none → b ∉ x :: blk aN := fun b hb hm => by
        rcases List.mem_cons.1 hm with e | hm
        · rw [e] at hb; exact (off_live D12 xl).2 hb
        · obtain ⟨pp, hpp, rfl⟩ := blk_of hm
          exact (off_live D12 (oN.there hpp)).2 hb
      exact ⟨((O13.p.less fun b hb => D12.fresh (O13.pn b hb)).less fun b hb => f1 b (O13.pn b hb)).rows, ((O13.k.less fun b hb => D12.fresh (O13.kn b hb)).less fun b hb => f1 b (O13.kn b hb)).rows, O13.np, O13.nk⟩
    have oN13 := ownrow_up (oN.upd v13 (Off.nil _))
    (repeat first | refine HReg.step ?_ | refine HCode.step ?_)
    refine HReq.mk (by decide) ?_
    (repeat first | refine HReg.step ?_ | refine HCode.step ?_)
    refine HNew.mk fun b14 hb14 => ?_
    have u14 : Upd [] H13 (H13.upd b14 (.cells (toldV [TRec.mk ⟨q.r, p13, d13, k13, c13⟩ true]).toArray 59)) := Upd.new hb14 _
    have r14 : RowAt (H13.upd b14 (.cells (toldV [TRec.mk ⟨q.r, p13, d13, k13, c13⟩ true]).toArray 59)) (some ⟨b14, 0, none⟩) (toldV [TRec.mk ⟨q.r, p13, d13, k13, c13⟩ true]) := RowAt.of_cells (upd_same _ _ _)
    have hH' : H13.upd b14 (.cells [Value.int .i64 q.r.kind, .int .u64 (q.r.id : Int), .slice p13 q.r.ps.length d13, .slice k13 q.r.ks.length c13, .bool true].toArray 59) = H13.upd b14 (.cells (toldV [TRec.mk ⟨q.r, p13, d13, k13, c13⟩ true]).toArray 59) := rfl
    rw [hH']
    generalize hH14 : H13.upd b14 (.cells (toldV [TRec.mk ⟨q.r, p13, d13, k13, c13⟩ true]).toArray 59) = H14 at u14 r14
    have v14 := less0 (B := dblk g r fl10) u14
    have D14 := D13.upd0 u14
    (repeat first | refine HReg.step ?_ | refine HCode.step ?_)
    refine append_rows (ie := Try.t59) (z := .agg #[.int .i64 0, .int .u64 0, .slice none 0 0, .slice none 0 0, .bool false]) (xs := toldV ns) (ys := toldV [TRec.mk ⟨q.r, p13, d13, k13, c13⟩ true]) Try.underlying55 rfl rfl rfl (by decide) (oN13.upd u14 (Off.nil _)) r14 rfl (plain_told _) (by show (ns.length + 1) * 72 ≤ _; omega) (by omega) fun a15 c15 H15 o15 u15 f15 => ?_
    rw [← toldV_append] at o15
    have hlen : (ns ++ [TRec.mk ⟨q.r, p13, d13, k13, c13⟩ true]).length = ns.length + 1 := by simp
    have offN : ∀ b ∈ blk aN, b ∉ dblk g r fl10 := fun b hb => by
      obtain ⟨pp, hpp, rfl⟩ := blk_of hb
      exact (off_live D12 (oN.there hpp)).1
    have v1214 := v13.trans v14
    have v15 := less0 (B := dblk g r fl10) u15
    (repeat first | refine HReg.step ?_ | refine HCode.step ?_)
    rw [wr_i64 (by omega) (by omega)]
    refine Exists.intro (m2 - 1) ?_
    refine And.intro (by omega) ?_
    refine NowInv.mk ⟨ns.length + 1, a15, c15, ns ++ [TRec.mk ⟨q.r, p13, d13, k13, c13⟩ true], by rw [hlen]; rfl, by omega, hlen, D14.upd u15 offN (fun b hb => rfl), ?_, fun b hb => ?_, Upd.drop (u12.trans v1214) v15 fN, fun t ht => ?_, ?_⟩
    · rw [hlen]
      exact o15.less fun b hb => by
        obtain ⟨pp, hpp, rfl⟩ := blk_of hb
        rcases f15 pp hpp with h | h
        · exact offN _ (by rw [h]; simp [blk])
        · exact D14.fresh h
    · obtain ⟨pp, hpp, rfl⟩ := blk_of hb
      rcases f15 pp hpp with h | h
      · exact fN _ (by rw [h]; simp [blk])
      · exact Upd.none (S := []) (u12.trans v1214) (by simp) (less_nn h)
    · have mv := less_move (p := x) (a := aN) (a' := a15) v15 (fun pp hpp => (f15 pp hpp).imp id less_nn)
      rcases List.mem_append.1 ht with h | h
      · exact ((hrN t h).upd0 (less0 v1214)).upd0 mv
      · rw [List.mem_singleton.1 h]; exact (i13.upd0 (less0 v14)).upd0 mv
    · rw [List.map_append, hmN, List.take_add_one, List.getElem?_map, hq]; rfl
  have h1 := ltB_false.1 h1
  obtain rfl : j = qs.length := by omega
  rw [hfull] at hmN
  have lg12 := lg11.upd0 u12
  have xl : offD H11 g r fl10 x ≠ none := lg11.row.there rfl
  have u68 := (hu.trans v68).trans ((v9.trans u10).trans v11)
  (repeat first | refine HReg.step ?_ | refine HCode.step ?_)
  rw [wr_i64 (by omega) (by omega)]
  refine fin x aN cN ns A none sq H12 (by omega) ⟨⟨_, v', [], _, fl10, D12, by rw [List.append_nil]; exact hv', rfl, fun _ => ⟨rfl, rfl⟩, lg12, oN, u68.trans u12, hrN⟩, hgA, Upd.none (S := []) (hu.trans u7) (by simp) np8, fun b hb => Upd.none (S := []) u68 (by simp) (fN b hb), fun hb => xl (fN _ hb), by rw [hmN]; exact (List.append_nil _).symm, fun j t hj hjt => ?_, by have := ks6.len; omega⟩
  have := (List.getElem?_eq_some_iff.1 hjt).1
  omega
end
end Go.Proofs.Ytfcmjomnpahllaa
