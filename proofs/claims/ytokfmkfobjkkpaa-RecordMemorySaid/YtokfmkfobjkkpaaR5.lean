import Derived.Test.YtokfmkfobjkkpaaR2
namespace Go.Proofs.Ytokfmkfobjkkpaa
open Go Hv
set_option linter.unusedVariables false
set_option linter.unusedSimpArgs false
set_option maxRecDepth 10000
set_option maxHeartbeats 4000000
/-! RecordMemory: the marks -/
def names6 : List Txt := [[48], [49], [50], [51], [52], [53]]
def nm (i : Nat) : Txt := names6.getD i []
theorem nm_get {i : Nat} (h : i < 6) : (txts names6)[i]? = some (.string (bs (nm i))) := by
  have h' : i < names6.length := h
  unfold txts
  rw [List.getElem?_map, List.getElem?_eq_getElem h']
  simp only [Option.map_some, nm, List.getD_eq_getElem?_getD, List.getElem?_eq_getElem h', Option.getD_some]
def moreT : Txt := [109, 111, 114, 101]
theorem HNew.as {H : Heap} {o o' : Obj} {K : Nat → Heap → Prop} (e : o = o') (h : ∀ b, H b = none → K b (H.upd b o')) : HNew H o K := by rw [e]; exact HNew.mk h
structure Mks (Hl : Heap) (Q : List PRec) (H : Heap) (cs : List PRec) : Prop where
  R : RecsNew Hl H cs
  u : Upd [] Hl H
  c : cs.map PRec.cells = Q.map PRec.cells
theorem Mks.len {Hl H : Heap} {Q cs : List PRec} (s : Mks Hl Q H cs) : cs.length = Q.length := by
  have := congrArg List.length s.c
  rwa [List.length_map, List.length_map] at this
theorem Mks.upd0 {Hl H H' : Heap} {Q cs : List PRec} (s : Mks Hl Q H cs) (u : Upd [] H H') : Mks Hl Q H' cs :=
  ⟨⟨fun q hq => (s.R.each q hq).upd0 u, s.R.apart⟩, s.u.trans u, s.c⟩
theorem Mks.row {Hl H : Heap} {Q cs : List PRec} {a : Option Addr} (s : Mks Hl Q H cs) (h : RowAt Hl a (recsV Q)) : RowAt H a (recsV cs) := by
  rw [recsV_flat, s.c, ← recsV_flat]
  exact h.upd s.u (.inr (Off.nil _))
theorem Mks.get {Hl H : Heap} {Q cs : List PRec} (s : Mks Hl Q H cs) {i : Nat} (h : i < Q.length) : ∃ q, cs[i]? = some q ∧ RecNew Hl H q.r q.ap q.cp q.ak q.ck := by
  have hi : i < cs.length := by rw [s.len]; exact h
  exact ⟨cs[i], List.getElem?_eq_getElem hi, s.R.each _ (List.getElem_mem hi)⟩
theorem Mks.storeK {Hl H : Heap} {Q cs : List PRec} {q : PRec} {i k j b : Nat} {t : Txt} {K : Heap → Prop} (s : Mks Hl Q H cs) (hq : cs[i]? = some q) (ha : q.ak = some ⟨b, 0, none⟩) (hk : k < q.r.ks.length) (hj : j = k)
    (hK : ∀ H', Mks Hl Q H' (cs.set i (q.setK k t)) → K H') : HStore H ⟨b, j, none⟩ (.string (bs t)) K :=
  s.R.storeK hq ha hk hj fun H' R u hb => hK H' ⟨R, Upd.drop s.u u (fun b' hb' => by rw [List.mem_singleton.1 hb']; exact hb), (cells_set hq (q.setK_cells k t)).trans s.c⟩
theorem Mks.storeP {Hl H : Heap} {Q cs : List PRec} {q : PRec} {i k b : Nat} {t : Txt × Txt} {K : Heap → Prop} (s : Mks Hl Q H cs) (hq : cs[i]? = some q) (ha : q.ap = some ⟨b, 0, none⟩) (hk : k < q.r.ps.length)
    (hK : ∀ H', Mks Hl Q H' (cs.set i (q.setP k t)) → K H') : storeN H b (0 + k * 2) 0 K [.string (bs t.1), .string (bs t.2)] :=
  s.R.storeP hq ha hk fun H' R u hb => hK H' ⟨R, Upd.drop s.u u (fun b' hb' => by rw [List.mem_singleton.1 hb']; exact hb), (cells_set hq (q.setP_cells k t)).trans s.c⟩
/-- What is marked so far: all lists of the records ahead of i; j keys and k pairs of record i. -/
structure Dn (cs : List PRec) (i j k : Nat) : Prop where
  all : ∀ (x : Nat) (q : PRec), x < i → cs[x]? = some q → (∀ (y : Nat) (t : Txt), q.r.ks[y]? = some t → t = nm x) ∧ ∀ (y : Nat) (p : Txt × Txt), q.r.ps[y]? = some p → p.1 = nm x
  ks : ∀ (q : PRec) (y : Nat) (t : Txt), cs[i]? = some q → y < j → q.r.ks[y]? = some t → t = nm i
  ps : ∀ (q : PRec) (y : Nat) (p : Txt × Txt), cs[i]? = some q → y < k → q.r.ps[y]? = some p → p.1 = nm i
theorem Dn.zero (cs : List PRec) : Dn cs 0 0 0 := ⟨fun x q h => absurd h (Nat.not_lt_zero _), fun q y t _ h => absurd h (Nat.not_lt_zero _), fun q y t _ h => absurd h (Nat.not_lt_zero _)⟩
theorem Dn.key {cs : List PRec} {i j k : Nat} {q : PRec} (d : Dn cs i j k) (hq : cs[i]? = some q) : Dn (cs.set i (q.setK j (nm i))) i (j + 1) k := by
  have hi := (List.getElem?_eq_some_iff.1 hq).1
  refine ⟨fun x p hx hp => ?_, fun p y t hp hy ht => ?_, fun p y t hp hy ht => ?_⟩
  · rw [List.getElem?_set_ne (by omega)] at hp
    exact d.all x p hx hp
  · rw [List.getElem?_set_self hi] at hp
    cases hp
    have ht : (q.r.ks.set j (nm i))[y]? = some t := ht
    rw [List.getElem?_set] at ht
    split at ht
    · split at ht <;> cases ht; rfl
    · exact d.ks q y t hq (by omega) ht
  · rw [List.getElem?_set_self hi] at hp
    cases hp
    exact d.ps q y t hq hy ht
theorem Dn.pair {cs : List PRec} {i j k : Nat} {q : PRec} (d : Dn cs i j k) (hq : cs[i]? = some q) : Dn (cs.set i (q.setP k (nm i, []))) i j (k + 1) := by
  have hi := (List.getElem?_eq_some_iff.1 hq).1
  refine ⟨fun x p hx hp => ?_, fun p y t hp hy ht => ?_, fun p y t hp hy ht => ?_⟩
  · rw [List.getElem?_set_ne (by omega)] at hp
    exact d.all x p hx hp
  · rw [List.getElem?_set_self hi] at hp
    cases hp
    exact d.ks q y t hq hy ht
  · rw [List.getElem?_set_self hi] at hp
    cases hp
    have ht : (q.r.ps.set k (nm i, []))[y]? = some t := ht
    rw [List.getElem?_set] at ht
    split at ht
    · split at ht <;> cases ht; rfl
    · exact d.ps q y t hq (by omega) ht
theorem Dn.next {cs : List PRec} {i j k : Nat} {q : PRec} (d : Dn cs i j k) (hq : cs[i]? = some q) (hj : q.r.ks.length ≤ j) (hk : q.r.ps.length ≤ k) : Dn cs (i + 1) 0 0 := by
  refine ⟨fun x p hx hp => ?_, fun q y t _ h => absurd h (Nat.not_lt_zero _), fun q y t _ h => absurd h (Nat.not_lt_zero _)⟩
  by_cases h : x = i
  · subst h
    rw [hq] at hp; cases hp
    exact ⟨fun y t ht => d.ks q y t hq (Nat.lt_of_lt_of_le (List.getElem?_eq_some_iff.1 ht).1 hj) ht, fun y t ht => d.ps q y t hq (Nat.lt_of_lt_of_le (List.getElem?_eq_some_iff.1 ht).1 hk) ht⟩
  · exact d.all x p (by omega) hp
structure MoInv (Hl : Heap) (Q : List PRec) (m : Nat) (vs : List Value) (H' : Heap) : Prop where
  ex : ∃ (i : Nat) (cs : List PRec), vs = [.int .i64 (i : Int)] ∧ m + i = 6 ∧ Mks Hl Q H' cs ∧ Dn cs i 0 0
structure MoJ (Hl : Heap) (Q : List PRec) (vs : List Value) (H' : Heap) : Prop where
  ex : ∃ cs, vs = [] ∧ Mks Hl Q H' cs ∧ Dn cs 6 0 0
structure MkInv' (Hl : Heap) (Q : List PRec) (i n m : Nat) (vs : List Value) (H' : Heap) : Prop where
  ex : ∃ (j : Nat) (cs : List PRec) (q : PRec), vs = [.int .i64 (j : Int)] ∧ m + j = n ∧ Mks Hl Q H' cs ∧ Dn cs i j 0 ∧ cs[i]? = some q ∧ q.r.ks.length = n
structure MkJ' (Hl : Heap) (Q : List PRec) (i : Nat) (vs : List Value) (H' : Heap) : Prop where
  ex : ∃ (j : Nat) (cs : List PRec) (q : PRec), vs = [] ∧ Mks Hl Q H' cs ∧ Dn cs i j 0 ∧ cs[i]? = some q ∧ q.r.ks.length ≤ j
structure MpInv' (Hl : Heap) (Q : List PRec) (i n m : Nat) (vs : List Value) (H' : Heap) : Prop where
  ex : ∃ (j k : Nat) (cs : List PRec) (q : PRec), vs = [.int .i64 (k : Int)] ∧ m + k = n ∧ Mks Hl Q H' cs ∧ Dn cs i j k ∧ cs[i]? = some q ∧ q.r.ks.length ≤ j ∧ q.r.ps.length = n
/-- The lists of record i, lengthened x times. -/
structure Le (Hl : Heap) (Q cs : List PRec) (q : PRec) (x : Nat) (a1 a2 : Option Addr) (c1 c2 : Nat) (H' : Heap) : Prop where
  s : Mks Hl Q H' cs
  k : Ext Hl H' cs 9 1 q.ak q.ck a1 (q.r.ks.length + x) c1 (txts (q.r.ks ++ List.replicate x moreT))
  p : Ext Hl H' cs 49 2 q.ap q.cp a2 (q.r.ps.length + x) c2 (pairsV (q.r.ps ++ List.replicate x (moreT, [])))
theorem Le.upd0 {Hl H H' : Heap} {Q cs : List PRec} {q : PRec} {x c1 c2 : Nat} {a1 a2 : Option Addr} (l : Le Hl Q cs q x a1 a2 c1 c2 H) (u : Upd [] H H') : Le Hl Q cs q x a1 a2 c1 c2 H' :=
  ⟨l.s.upd0 u, l.k.upd u (Off.nil _), l.p.upd u (Off.nil _)⟩
theorem Le.zero {Hl H : Heap} {Q cs : List PRec} {q : PRec} {i : Nat} (s : Mks Hl Q H cs) (hq : cs[i]? = some q) : Le Hl Q cs q 0 q.ak q.ap q.ck q.cp H := by
  have n := s.R.each q (List.mem_of_getElem? hq)
  refine ⟨s, ⟨by rw [List.replicate_zero, List.append_nil]; exact n.k, fun b hb => n.away b (List.mem_append_right _ hb), .inl ⟨rfl, rfl⟩⟩, ⟨by rw [List.replicate_zero, List.append_nil]; exact n.p, fun b hb => n.away b (List.mem_append_left _ hb), .inl ⟨rfl, rfl⟩⟩⟩
structure LeInv (Hl : Heap) (Q cs : List PRec) (q : PRec) (m : Nat) (vs : List Value) (H' : Heap) : Prop where
  ex : ∃ (x c1 c2 : Nat) (a1 a2 : Option Addr), vs = [.slice a1 (q.r.ks.length + x) c1, .slice a2 (q.r.ps.length + x) c2, .int .i64 (x : Int)] ∧ m + x = 40 ∧ Le Hl Q cs q x a1 a2 c1 c2 H'
structure LeJ (Hl : Heap) (Q cs : List PRec) (q : PRec) (vs : List Value) (H' : Heap) : Prop where
  ex : ∃ (c1 c2 : Nat) (a1 a2 : Option Addr), vs = [.slice a1 (q.r.ks.length + 40) c1, .slice a2 (q.r.ps.length + 40) c2] ∧ Le Hl Q cs q 40 a1 a2 c1 c2 H'
structure LoInv (Hl : Heap) (Q cs : List PRec) (m : Nat) (vs : List Value) (H' : Heap) : Prop where
  ex : ∃ i : Nat, vs = [.int .i64 (i : Int)] ∧ m + i = 6 ∧ Mks Hl Q H' cs
structure LoJ (Hl : Heap) (Q cs : List PRec) (vs : List Value) (H' : Heap) : Prop where
  ex : vs = [] ∧ Mks Hl Q H' cs
structure CoInv (H1 : Heap) (n m : Nat) (vs : List Value) (H' : Heap) : Prop where
  ex : ∃ i : Nat, vs = [.int .i64 (i : Int)] ∧ m + i = n ∧ H' = H1
structure CoJ (H1 : Heap) (vs : List Value) (H' : Heap) : Prop where
  ex : vs = [] ∧ H' = H1
section
variable {Hl H : Heap} {K : Value → Heap → Prop}
theorem Le.keys {Q cs : List PRec} {q : PRec} {i x c1 c2 c : Nat} {a1 a2 b : Option Addr} (l : Le Hl Q cs q x a1 a2 c1 c2 H) (hq : cs[i]? = some q) (hy : RowAt H b (txts [moreT])) (hx : x ≤ 1000)
    (hk : ∀ a1' c1' H', Mks Hl Q H' cs → Ext Hl H' cs 9 1 q.ak q.ck a1' (q.r.ks.length + (x + 1)) c1' (txts (q.r.ks ++ List.replicate (x + 1) moreT)) → Ext Hl H' cs 49 2 q.ap q.cp a2 (q.r.ps.length + x) c2 (pairsV (q.r.ps ++ List.replicate x (moreT, []))) → K (.slice a1' (q.r.ks.length + (x + 1)) c1') H') :
    HSem Try.prog (Builtin.append_ #[25, 25] 25 [.slice a1 (q.r.ks.length + x) c1, .slice b 1 c].toArray) H K :=
  ext_keys (n' := 0) l.s.R l.s.u hq l.k l.p hy hx fun a'' c'' H' R u E E2 => hk a'' c'' H' ⟨R, u, l.s.c⟩ E E2
theorem Le.pairs {Q cs : List PRec} {q : PRec} {i x c1 c2 c n1 : Nat} {a1 a2 b : Option Addr} {xs : List Value} (s : Mks Hl Q H cs) (k : Ext Hl H cs 9 1 q.ak q.ck a1 n1 c1 xs)
    (p : Ext Hl H cs 49 2 q.ap q.cp a2 (q.r.ps.length + x) c2 (pairsV (q.r.ps ++ List.replicate x (moreT, [])))) (hq : cs[i]? = some q) (hy : RowAt H b (pairsV [(moreT, [])])) (hx : x ≤ 1000)
    (hk : ∀ a2' c2' H', Mks Hl Q H' cs → Ext Hl H' cs 49 2 q.ap q.cp a2' (q.r.ps.length + (x + 1)) c2' (pairsV (q.r.ps ++ List.replicate (x + 1) (moreT, []))) → Ext Hl H' cs 9 1 q.ak q.ck a1 n1 c1 xs → K (.slice a2' (q.r.ps.length + (x + 1)) c2') H') :
    HSem Try.prog (Builtin.append_ #[24, 24] 24 [.slice a2 (q.r.ps.length + x) c2, .slice b 1 c].toArray) H K :=
  ext_pairs (n' := 0) s.R s.u hq p k hy hx fun a'' c'' H' R u E E2 => hk a'' c'' H' ⟨R, u, s.c⟩ E E2
end
end Go.Proofs.Ytokfmkfobjkkpaa
