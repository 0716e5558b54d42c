import Derived.Test.YtaobgofbhommcaaB24
namespace Go.Proofs.Ytaobgofbhommcaa
open Go Hv
set_option linter.unusedVariables false
set_option linter.unusedSimpArgs false
set_option maxRecDepth 10000
set_option maxHeartbeats 4000000
/-! BloomKeeps: what is told beside what was there -/
theorem orSets_self {S : List UInt8} : orSets S S = S := bits_ext (orSets_length rfl) fun i _ => by rw [orSets_bit rfl, Bool.or_self]
theorem eqB_self (a : Int) : eqB a a = true := eqB_true.2 rfl
theorem made_nil (H : Heap) (e : TypeId) (size : Nat) : Made H H e size none 0 0 [] := ⟨OwnRow.nil _ _ _, Upd.refl _ _, fun p hp => by cases hp⟩
theorem sameInts_eq {a b : Option Addr} {n m c d : Nat} {x : List Nat} {H : Heap} {K : Value → Heap → Prop} (hx : RowAt H a (nums x)) (hn : x.length = n) (hy : RowAt H b (nums x)) (hm : x.length = m) (hl : n ≤ 9223372036854775806)
    (hk : K (.bool true) H) : HCalls Try.prog 21 [.slice a n c, .slice b m d] H K := by
  refine sameInts_t hx hn hy hm hl ?_
  rw [decide_eq_true rfl]; exact hk
theorem ones_zeros (n : Nat) : onesL (zerosL n) = 0 := by
  unfold zerosL onesL
  generalize (n + 7) / 8 = k
  induction k with
  | zero => rfl
  | succ k ih => rw [List.replicate_succ, List.map_cons, List.sum_cons, ih]; decide
theorem bytesOf_len (n h : Nat) (S : List UInt8) : (bytesOf n h S).length = 5 + S.length := by unfold bytesOf headOf; simp; omega
theorem bytesOf_drop (n h : Nat) (S : List UInt8) : (bytesOf n h S).drop 5 = S := rfl
def m1 (i : Nat) : UInt8 := UInt8.ofNat (1 + i)
def m2 (i : Nat) : UInt8 := UInt8.ofNat (101 + i)
theorem m1_of (i : Nat) (hi : i < 5) : wr .u8 (wr .i64 (1 + (i : Int))) = ((m1 i).toNat : Int) := by
  have h : wr .i64 (1 + (i : Int)) = ((1 + i : Nat) : Int) := by rw [wr_i64 (by omega) (by omega)]; omega
  rw [h, wr_u8]; unfold m1; rw [UInt8.toNat_ofNat']; norm_cast
theorem m2_of (i : Nat) (hi : i < 5) : wr .u8 (wr .i64 (101 + (i : Int))) = ((m2 i).toNat : Int) := by
  have h : wr .i64 (101 + (i : Int)) = ((101 + i : Nat) : Int) := by rw [wr_i64 (by omega) (by omega)]; omega
  rw [h, wr_u8]; unfold m2; rw [UInt8.toNat_ofNat']; norm_cast
theorem m12 (i : Nat) (hi : i < 5) : (m1 i).toNat = 1 + i ∧ (m2 i).toNat = 101 + i := by
  unfold m1 m2; rw [UInt8.toNat_ofNat', UInt8.toNat_ofNat']; omega
structure BkS (H1 : Heap) (b16 : Nat) (V : List Value) (ls : List (List UInt8)) (np : Nat) (ap : Option Addr) (cp : Nat) (X : List Value) (aq : Option Addr) (cq : Nat) (Y : List Value) (ar : Option Addr) (cr : Nat) (R : List Value) (H' : Heap) : Prop where
  G : GrpM 5 H1 H' V ls
  o : OwnRow H' 39 1 (some ⟨b16, 0, none⟩) 5 5 V
  p : OwnRow H' 3 1 ap np cp X
  q : OwnRow H' 3 1 aq np cq Y
  r : OwnRow H' 3 1 ar 5 cr R
  nb : H1 b16 = none
  pn : ∀ x, ap = some x → H1 x.block = none
  qn : ∀ x, aq = some x → H1 x.block = none
  pq : ∀ x y, ap = some x → aq = some y → x.block ≠ y.block
  pr : ∀ x y, ap = some x → ar = some y → x.block ≠ y.block
  qr : ∀ x y, aq = some x → ar = some y → x.block ≠ y.block
section
variable {H1 H H' : Heap} {b16 np cp cq cr : Nat} {V X Y R : List Value} {ls : List (List UInt8)} {ap aq ar : Option Addr}
/-- A list is changed. -/
theorem BkS.list (s : BkS H1 b16 V ls np ap cp X aq cq Y ar cr R H) {i : Nat} {v : Value} (hv : V[i]? = some v) (u : Upd (vblk v) H H') {ls' : List (List UInt8)} (G' : GrpM 5 H1 H' V ls') : BkS H1 b16 V ls' np ap cp X aq cq Y ar cr R H' :=
  ⟨G', s.o.upd u (s.o.apart s.G.grp (by decide) hv), s.p.upd u (s.p.apart s.G.grp (by decide) hv), s.q.upd u (s.q.apart s.G.grp (by decide) hv), s.r.upd u (s.r.apart s.G.grp (by decide) hv), s.nb, s.pn, s.qn, s.pq, s.pr, s.qr⟩
theorem BkS.upd0 (s : BkS H1 b16 V ls np ap cp X aq cq Y ar cr R H) (u : Upd [] H H') : BkS H1 b16 V ls np ap cp X aq cq Y ar cr R H' :=
  ⟨s.G.step0 u, s.o.upd u (Off.nil _), s.p.upd u (Off.nil _), s.q.upd u (Off.nil _), s.r.upd u (Off.nil _), s.nb, s.pn, s.qn, s.pq, s.pr, s.qr⟩
theorem off_ne {a b : Option Addr} (h : ∀ x y, a = some x → b = some y → x.block ≠ y.block) : Off (blk a) b := fun p hp hb => by
  obtain ⟨q, hq, e⟩ := blk_of hb
  exact h q p hq hp e
theorem BkS.first (s : BkS H1 b16 V ls np ap cp X aq cq Y ar cr R H) (u : Upd (blk ap) H H') {X' : List Value} (p' : OwnRow H' 3 1 ap np cp X') : BkS H1 b16 V ls np ap cp X' aq cq Y ar cr R H' :=
  ⟨s.G.step u (s.p.notT (by decide)) (fun b hb => by obtain ⟨x, hx, rfl⟩ := blk_of hb; exact s.pn x hx), s.o.upd u (s.p.offT s.o (by decide)), p', s.q.upd u (off_ne s.pq), s.r.upd u (off_ne s.pr), s.nb, s.pn, s.qn, s.pq, s.pr, s.qr⟩
theorem BkS.swap (s : BkS H1 b16 V ls np ap cp X aq cq Y ar cr R H) : BkS H1 b16 V ls np aq cq Y ap cp X ar cr R H :=
  ⟨s.G, s.o, s.q, s.p, s.r, s.nb, s.qn, s.pn, fun x y hx hy e => s.pq y x hy hx e.symm, s.qr, s.pr⟩
/-- A list's slice is laid anew. -/
theorem BkS.lay (s : BkS H1 b16 V ls np ap cp X aq cq Y ar cr R H) (u : Upd [b16] H H') {V' : List Value} (o' : OwnRow H' 39 1 (some ⟨b16, 0, none⟩) 5 5 V') (hG : Grp 5 H V' ls) (hn : ∀ v ∈ V', ∀ b ∈ vblk v, H1 b = none) : BkS H1 b16 V' ls np ap cp X aq cq Y ar cr R H' := by
  have G2 : GrpM 5 H1 H V' ls := ⟨hG, hn, s.G.upd⟩
  have hb : blk (some (⟨b16, 0, none⟩ : Addr)) = [b16] := rfl
  have u' : Upd (blk (some (⟨b16, 0, none⟩ : Addr))) H H' := u
  exact ⟨G2.step u' (s.o.notT (by decide)) (fun b h => by rw [hb, List.mem_singleton] at h; rw [h]; exact s.nb), o', s.p.upd u' (s.o.offT s.p (by decide)), s.q.upd u' (s.o.offT s.q (by decide)), s.r.upd u' (s.o.offT s.r (by decide)), s.nb, s.pn, s.qn, s.pq, s.pr, s.qr⟩
end
/-- marks: lists ahead of i are marked. -/
def Pm (N i : Nat) (ls : List (List UInt8)) : Prop := ls.length = 5 ∧ ∀ (k : Nat) (l : List UInt8), ls[k]? = some l → l.length = N ∧ (k < i → l = List.replicate N (m1 k))
theorem Pm.step {N i : Nat} {ls : List (List UInt8)} {l : List UInt8} (h : Pm N i ls) (hi : ls[i]? = some l) : Pm N (i + 1) (ls.set i (List.replicate N (m1 i))) := by
  refine ⟨by rw [List.length_set]; exact h.1, fun k l' hk => ?_⟩
  rw [List.getElem?_set] at hk
  split at hk
  · rename_i e; subst e
    split at hk
    · cases hk; exact ⟨List.length_replicate, fun _ => rfl⟩
    · cases hk
  · obtain ⟨h1, h2⟩ := h.2 k l' hk
    exact ⟨h1, fun h3 => h2 (by omega)⟩
def Pa (N i t : Nat) (ls : List (List UInt8)) : Prop := ls.length = 5 ∧ ∀ (k : Nat) (l : List UInt8), ls[k]? = some l → l = List.replicate N (m1 k) ++ List.replicate (if k < i then 60 else if k = i then t else 0) (m2 k)
theorem Pa.of {N : Nat} {ls : List (List UInt8)} (h : Pm N 5 ls) : Pa N 0 0 ls := by
  refine ⟨h.1, fun k l hk => ?_⟩
  have hlt := (List.getElem?_eq_some_iff.1 hk).1
  have := (h.2 k l hk).2 (by have := h.1; omega)
  rw [if_neg (by omega)]
  have e : (if k = 0 then 0 else 0) = 0 := by split <;> rfl
  rw [e, this]; simp
theorem Pa.more {N i t : Nat} {ls : List (List UInt8)} {l : List UInt8} (h : Pa N i t ls) (hi : ls[i]? = some l) : Pa N i (t + 1) (ls.set i (l ++ [m2 i])) := by
  refine ⟨by rw [List.length_set]; exact h.1, fun k l' hk => ?_⟩
  rw [List.getElem?_set] at hk
  split at hk
  · rename_i e; subst e
    split at hk
    · cases hk
      have h2 := h.2 i l hi
      rw [if_neg (by omega), if_pos rfl] at h2 ⊢
      rw [h2, List.append_assoc, List.replicate_succ']
    · cases hk
  · rename_i e
    have h2 := h.2 k l' hk
    rw [h2]
    by_cases h3 : k < i
    · rw [if_pos h3, if_pos h3]
    · rw [if_neg h3, if_neg h3, if_neg (by omega), if_neg (by omega)]
theorem Pa.next {N i : Nat} {ls : List (List UInt8)} (h : Pa N i 60 ls) : Pa N (i + 1) 0 ls := by
  refine ⟨h.1, fun k l hk => ?_⟩
  rw [h.2 k l hk]
  by_cases h3 : k < i
  · rw [if_pos h3, if_pos (by omega)]
  · rw [if_neg h3]
    by_cases h4 : k = i
    · rw [if_pos h4, if_pos (by omega)]
    · rw [if_neg h4, if_neg (by omega)]
      have e : (if k = i + 1 then 0 else 0) = 0 := by split <;> rfl
      rw [e]
theorem Pa.len {N i t : Nat} {ls : List (List UInt8)} {k : Nat} {l : List UInt8} (h : Pa N i t ls) (hk : ls[k]? = some l) (ht : t ≤ 60) : l.length ≤ N + 60 := by
  rw [h.2 k l hk, List.length_append, List.length_replicate, List.length_replicate]
  split
  · omega
  · split <;> omega
structure Bk5 (H1 : Heap) (b16 N : Nat) (V : List Value) (ap : Option Addr) (cp : Nat) (X : List Value) (aq : Option Addr) (cq : Nat) (Y : List Value) (ar : Option Addr) (cr : Nat) (R : List Value) (m : Nat) (vs : List Value) (H' : Heap) : Prop where
  ex : ∃ (i : Nat) (ls : List (List UInt8)), vs = [.int .i64 (i : Int)] ∧ m + i = 5 ∧ Pm N i ls ∧ BkS H1 b16 V ls 5 ap cp X aq cq Y ar cr R H'
structure Bk6 (H1 : Heap) (b16 N i : Nat) (l : List UInt8) (ls : List (List UInt8)) (V : List Value) (ap : Option Addr) (cp : Nat) (X : List Value) (aq : Option Addr) (cq : Nat) (Y : List Value) (ar : Option Addr) (cr : Nat) (R : List Value) (m : Nat) (vs : List Value) (H' : Heap) : Prop where
  ex : ∃ (j : Nat), vs = [.int .i64 (j : Int)] ∧ m + j = N ∧ BkS H1 b16 V (ls.set i (List.replicate j (m1 i) ++ l.drop j)) 5 ap cp X aq cq Y ar cr R H'
structure Bk7 (H1 : Heap) (b16 : Nat) (V : List Value) (ls : List (List UInt8)) (ap : Option Addr) (cp : Nat) (aq : Option Addr) (cq : Nat) (ar : Option Addr) (cr : Nat) (R : List Value) (m : Nat) (vs : List Value) (H' : Heap) : Prop where
  ex : ∃ (i : Nat) (X Y : List Value), vs = [.int .i64 (i : Int)] ∧ m + i = 5 ∧ (∀ k, k < i → X[k]? = some (.int .i64 (-1)) ∧ Y[k]? = some (.int .i64 (-2))) ∧ BkS H1 b16 V ls 5 ap cp X aq cq Y ar cr R H'
structure Bk8 (H1 : Heap) (b16 N : Nat) (ap : Option Addr) (cp : Nat) (X : List Value) (aq : Option Addr) (cq : Nat) (Y : List Value) (ar : Option Addr) (cr : Nat) (R : List Value) (m : Nat) (vs : List Value) (H' : Heap) : Prop where
  ex : ∃ (i : Nat) (V : List Value) (ls : List (List UInt8)), vs = [.int .i64 (i : Int)] ∧ m + i = 5 ∧ Pa N i 0 ls ∧ BkS H1 b16 V ls 5 ap cp X aq cq Y ar cr R H'
structure Bk9 (H1 : Heap) (b16 N i : Nat) (ap : Option Addr) (cp : Nat) (X : List Value) (aq : Option Addr) (cq : Nat) (Y : List Value) (ar : Option Addr) (cr : Nat) (R : List Value) (m : Nat) (vs : List Value) (H' : Heap) : Prop where
  ex : ∃ (j : Nat) (V : List Value) (ls : List (List UInt8)), vs = [.int .i64 (j : Int)] ∧ m + j = 60 ∧ Pa N i j ls ∧ BkS H1 b16 V ls 5 ap cp X aq cq Y ar cr R H'
theorem set_self {α : Type} {l : List α} {i : Nat} {x : α} (h : l[i]? = some x) : l.set i x = l := by
  apply List.ext_getElem?
  intro k
  rw [List.getElem?_set]
  split
  · rename_i e; subst e
    have := (List.getElem?_eq_some_iff.1 h).1
    rw [if_pos this, h]
  · rfl
theorem get_set {α : Type} {l : List α} {i : Nat} {x y : α} (h : l[i]? = some x) : (l.set i y)[i]? = some y := by
  have := (List.getElem?_eq_some_iff.1 h).1
  rw [List.getElem?_set]; simp [this]
theorem set_set' {α : Type} (l : List α) (i : Nat) (x y : α) : (l.set i x).set i y = l.set i y := by
  apply List.ext_getElem?
  intro k
  simp only [List.getElem?_set, List.length_set]
  split <;> rfl
theorem app_own' {a b : Option Addr} {n cap : Nat} {xs : List UInt8} {x : UInt8} {H : Heap} {K : Value → Heap → Prop} (ho : OwnRow H 5 1 a n cap (u8s xs)) (hy : RowAt H b (u8s [x])) (hlim : n + 1 ≤ 140737488355328)
    (hk : ∀ a' cap' H', OwnRow H' 5 1 a' (n + 1) cap' (u8s (xs ++ [x])) → Upd (blk a) H H' → (∀ p, a' = some p → a = some p ∨ H p.block = none) → K (.slice a' (n + 1) cap') H') :
    HSem Try.prog (Builtin.append_ #[39, 39] 39 [.slice a n cap, .slice b 1 1].toArray) H K := append_own ho hy rfl hlim hk
end Go.Proofs.Ytaobgofbhommcaa
