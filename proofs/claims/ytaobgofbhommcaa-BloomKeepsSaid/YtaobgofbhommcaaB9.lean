import Derived.Test.YtaobgofbhommcaaB8
namespace Go.Proofs.Ytaobgofbhommcaa
open Go Hv
set_option linter.unusedVariables false
set_option linter.unusedSimpArgs false
set_option maxRecDepth 10000
set_option maxHeartbeats 1000000
/-! Union -/
theorem set_mid {α : Type} {A S : List α} {i : Nat} {v : α} (hl : A.length = S.length) (hv : A[i]? = some v) : (A.take i ++ S.drop i).set i v = A.take (i + 1) ++ S.drop (i + 1) := by
  have hi := (List.getElem?_eq_some_iff.1 hv).1
  apply List.ext_getElem?
  intro j
  rw [List.getElem?_set]
  by_cases h : i = j
  · subst h
    have hlen : (A.take i ++ S.drop i).length = S.length := by simp; omega
    rw [if_pos rfl, hlen, if_pos (by omega), List.getElem?_append_left (by simp; omega), List.getElem?_take_of_lt (by omega), hv]
  · rw [if_neg h]
    by_cases hj : j < i
    · rw [List.getElem?_append_left (by simp; omega), List.getElem?_append_left (by simp; omega), List.getElem?_take_of_lt hj, List.getElem?_take_of_lt (by omega)]
    · rw [List.getElem?_append_right (by simp; omega), List.getElem?_append_right (by simp; omega)]
      simp only [List.length_take, List.getElem?_drop]
      congr 1; omega
theorem get_mid {α : Type} {A S : List α} {i : Nat} {v : α} (hl : A.length = S.length) (hv : S[i]? = some v) : (A.take i ++ S.drop i)[i]? = some v := by
  have hi := (List.getElem?_eq_some_iff.1 hv).1
  rw [List.getElem?_append_right (by simp; omega)]
  simp only [List.length_take, List.getElem?_drop]
  rw [← hv]; congr 1; omega
theorem orSets_get {S T : List UInt8} {i : Nat} {x y : UInt8} (hx : S[i]? = some x) (hy : T[i]? = some y) : (orSets S T)[i]? = some (x ||| y) := by
  simp [orSets, List.getElem?_zipWith, hx, hy]
theorem orSets_ok {n h : Nat} {S T : List UInt8} (f : FOk n h S) (k : FOk n h T) : FOk n h (orSets S T) := by
  have hl : S.length = T.length := by rw [f.len, k.len]
  exact ⟨f.n1, f.n2, f.h1, f.h2, by rw [orSets_length hl]; exact f.len, fun i hi => by rw [orSets_bit hl, f.spare i hi, k.spare i hi]; rfl⟩
structure UnInv (S T : List UInt8) (H0 : Heap) (a : Option Addr) (c : Nat) (m : Nat) (vs : List Value) (H' : Heap) : Prop where
  ex : ∃ (i : Nat), vs = [.int .i64 (i : Int)] ∧ m + i = S.length ∧ Made H0 H' 5 1 a S.length c (u8s ((orSets S T).take i ++ S.drop i))
theorem Made.store {H0 H H' : Heap} {e : TypeId} {b n cap : Nat} {xs ys : List Value} (m : Made H0 H e 1 (some ⟨b, 0, none⟩) n cap xs) (o : OwnRow H' e 1 (some ⟨b, 0, none⟩) n cap ys) (u : Upd [b] H H') : Made H0 H' e 1 (some ⟨b, 0, none⟩) n cap ys :=
  ⟨o, Upd.drop m.upd u (fun k hk => by rw [List.mem_singleton.1 hk]; exact m.new _ rfl), m.new⟩
section
variable {H : Heap} {g b n h : Nat} {S : List UInt8} {K : Value → Heap → Prop}
theorem union_t {g2 b2 n2 h2 : Nat} {T : List UInt8} (F : Fil H g b n h S) (G : Fil H g2 b2 n2 h2 T)
    (hno : ¬ (n = n2 ∧ h = h2) → K (.tuple #[.pointer none, .int .i64 1]) H)
    (hyes : ∀ g' b' H', n = n2 → h = h2 → FilNew H H' g' b' n h (orSets S T) → K (.tuple #[.pointer (some ⟨g', 0, none⟩), .int .i64 0]) H') :
    HCalls Try.prog 30 [.pointer (some ⟨g, 0, none⟩), .pointer (some ⟨g2, 0, none⟩)] H K := by
  refine hcalls (fn := Try.f30) [(1, [(0, 0), (1, 0), (2, 0), (3, 0), (4, 0), (5, 0), (6, 0), (7, 0), (8, 0), (9, 0), (10, 0), (11, 0), (12, 0), (13, 0), (14, 0), (15, 0), (16, 0)])] mixed Try.func30 rfl rfl (by decide +kernel) ?_
  obtain ⟨c, o, st⟩ := F.ex
  obtain ⟨c2, o2, st2⟩ := G.ex
  (repeat first | refine HReg.step ?_ | refine HCode.step ?_)
  refine HLoadN_row (vs := [.int .i64 (n : Int), .int .i64 (h : Int)]) (by exact o.rows.take 2) rfl ?_
  (repeat first | refine HReg.step ?_ | refine HCode.step ?_)
  refine HLoadN_row (vs := [.int .i64 (n2 : Int), .int .i64 (h2 : Int)]) (by exact o2.rows.take 2) rfl ?_
  (repeat first | refine HReg.step ?_ | refine HCode.step ?_)
  refine shape_neq ?_
  have e : (decide ((n : Int) = (n2 : Int)) && decide ((h : Int) = (h2 : Int))) = decide (n = n2 ∧ h = h2) := by
    rw [Bool.decide_and]
    congr 1 <;> rw [decide_eq_decide] <;> omega
  rw [e]
  (repeat first | refine HReg.step ?_ | refine HCode.step ?_)
  refine hif (fun hm => ?_) (fun hm => ?_)
  · have hm : ¬ (n = n2 ∧ h = h2) := not_dec_true hm
    (repeat first | refine HReg.step ?_ | refine HCode.step ?_)
    exact hno hm
  obtain ⟨rfl, rfl⟩ : n = n2 ∧ h = h2 := not_dec_false hm
  have hlen := F.ok.len
  have hlen2 := G.ok.len
  have hn2 := F.ok.n2
  have hl : S.length = T.length := by omega
  have hol := orSets_length hl
  (repeat first | refine HReg.step ?_ | refine HCode.step ?_)
  refine HLoad.one (v := .slice (some ⟨b, 0, none⟩) S.length c) (by exact o.rows.get (i := 2) rfl) ?_
  (repeat first | refine HReg.step ?_ | refine HCode.step ?_)
  refine HCall.mk ⟨Try.f41, Try.func41, by rfl, by rfl⟩ ?_
  refine clone_t st.rows rfl (by omega) fun a1 c1 H1 m1 => ?_
  have G1 := G.upd0 m1.upd
  obtain ⟨q, rfl⟩ := m1.own.addr (by have := F.ok.n1; omega)
  (repeat first | refine HReg.step ?_ | refine HCode.step ?_)
  refine HLoad.one (v := .slice (some ⟨b2, 0, none⟩) T.length c2) (by exact (o2.upd m1.upd (Off.nil _)).rows.get (i := 2) rfl) ?_
  (repeat first | refine HReg.step ?_ | refine HCode.step ?_)
  refine hloopC [7, 8, 36, 37, 38, 39, 40, 41, 42, 43, 44, 45, 46, 47, 48] [36] (UnInv S T H (some ⟨q, 0, none⟩) c1) rfl (by repeat' first | exact Resp.retD | exact Resp1.valuesK | refine Resp.blockD ?_ | refine Resp.thenD ?_ ?_ | refine Resp.hcode ?_) ?_ ?_
  · exact ⟨S.length, UnInv.mk ⟨0, rfl, rfl, m1⟩⟩
  rintro m _ fe H3 ⟨i, rfl, hmi, m3⟩
  (repeat first | refine HReg.step ?_ | refine HCode.step ?_)
  refine hif (fun h1 => ?_) (fun h1 => ?_)
  · have h1 := ltB_true.1 h1
    obtain ⟨x, hx⟩ : ∃ x, S[i]? = some x := ⟨S[i]'(by omega), by simp⟩
    obtain ⟨y, hy⟩ : ∃ y, T[i]? = some y := ⟨T[i]'(by omega), by simp⟩
    (repeat first | refine HReg.step ?_ | refine HCode.step ?_)
    refine HReq.mk ⟨by omega, by omega⟩ ?_
    (repeat first | refine HReg.step ?_ | refine HCode.step ?_)
    refine HLoad.one (v := u8 y) (by exact (st2.upd m3.upd (Off.nil _)).rows.get (u8s_get hy)) ?_
    (repeat first | refine HReg.step ?_ | refine HCode.step ?_)
    refine HReq.mk ⟨by omega, by omega⟩ ?_
    (repeat first | refine HReg.step ?_ | refine HCode.step ?_)
    refine HLoad.one (v := u8 x) (by exact m3.own.rows.get (u8s_get (get_mid hol hx))) ?_
    (repeat first | refine HReg.step ?_ | refine HCode.step ?_)
    refine HReq.mk ⟨by omega, by omega⟩ ?_
    (repeat first | refine HReg.step ?_ | refine HCode.step ?_)
    rw [or_u8]
    refine store_row m3.own (v := u8 (x ||| y)) rfl (i := i) (by omega) (by exact Nat.zero_add i) fun H4 o4 u4 => ?_
    have eset : (u8s ((orSets S T).take i ++ S.drop i)).set i (u8 (x ||| y)) = u8s ((orSets S T).take (i + 1) ++ S.drop (i + 1)) := by
      rw [← set_mid hol (orSets_get hx hy)]
      unfold u8s
      rw [List.map_set]
    rw [eset] at o4
    have w2 : wr .i64 ((i : Int) + 1) = ((i + 1 : Nat) : Int) := by rw [wr_i64 (by omega) (by omega)]; omega
    (repeat first | refine HReg.step ?_ | refine HCode.step ?_)
    rw [w2]
    exact ⟨m - 1, by omega, UnInv.mk ⟨i + 1, rfl, by omega, Made.store m3 o4 u4⟩⟩
  · have h1 := ltB_false.1 h1
    have hi : i = S.length := by omega
    subst hi
    rw [List.take_of_length_le (by omega), List.drop_of_length_le (by omega), List.append_nil] at m3
    (repeat first | refine HReg.step ?_ | refine HCode.step ?_)
    refine HLoadN_row (vs := [.int .i64 (n : Int), .int .i64 (h : Int)]) (by exact (o.upd m3.upd (Off.nil _)).rows.take 2) rfl ?_
    (repeat first | refine HReg.step ?_ | refine HCode.step ?_)
    refine HNew.mk fun g' hg' => ?_
    obtain ⟨b', he, F'⟩ := made_fil (orSets_ok F.ok G.ok) m3 hol.symm hg'
    cases he
    rw [hol] at F'
    (repeat first | refine HReg.step ?_ | refine HCode.step ?_)
    exact hyes g' q _ rfl rfl F'
end
end Go.Proofs.Ytaobgofbhommcaa
