import Derived.Test.YtindnfcioibdnaaS14
import Derived.Test.YtindnfcioibdnaaS11
namespace Go.Proofs.Ytindnfcioibdnaa
open Go Hv
set_option linter.unusedVariables false
set_option maxRecDepth 10000
set_option maxHeartbeats 2000000
theorem append_made {a b : Option Addr} {n cap m c : Nat} {xs ys : List UInt8} {H0 H : Heap} {K : Value → Heap → Prop} (hm : Made H0 H 5 1 a n cap (u8s xs)) (hy : RowAt H b (u8s ys)) (hml : ys.length = m) (hlim : n + m ≤ 140737488355328)
    (hk : ∀ a' cap' H', Made H0 H' 5 1 a' (n + m) cap' (u8s (xs ++ ys)) → K (.slice a' (n + m) cap') H') :
    HSem Try.prog (Builtin.append_ #[22, 22] 22 [.slice a n cap, .slice b m c].toArray) H K := by
  refine append_own hm.own hy hml hlim fun a' cap' H' o u f => hk a' cap' H' ⟨o, ?_, ?_⟩
  · refine Upd.drop hm.upd u fun b hb => ?_
    obtain ⟨p, hp, rfl⟩ := blk_of hb
    exact hm.new p hp
  · intro p hp
    rcases f p hp with h | h
    · exact hm.new p h
    · exact Upd.none (S := []) hm.upd (by simp) h
theorem u8_add (x : UInt8) : Value.int .u8 (wr .u8 ((x.toNat : Int) + 1)) = u8 (x + 1) := by
  rw [wr_u8]; unfold u8; rw [UInt8.toNat_add]; rfl
theorem byte_of {n : Nat} (a : Nat) (h : n ≤ 1000) (h' : a ≤ 1000) : Value.int .u8 (wr .u8 (wr .i64 ((a : Int) + (n : Int)))) = u8 (UInt8.ofNat (a + n)) := by
  have : wr .i64 ((a : Int) + (n : Int)) = ((a + n : Nat) : Int) := by rw [wr_i64 (by omega) (by omega)]; omega
  rw [this, byte_lo]
theorem grpM_append {a b : Option Addr} {n cap m c i : Nat} {l ys : List UInt8} {vs : List Value} {ls : List (List UInt8)} {H1 H : Heap} {K : Value → Heap → Prop} (G : GrpM 5 H1 H vs ls) (hi : vs[i]? = some (.slice a n cap)) (hl : ls[i]? = some l) (hy : RowAt H b (u8s ys)) (hml : ys.length = m) (hlim : n + m ≤ 140737488355328)
    (hk : ∀ a' cap' H', GrpM 5 H1 H' (vs.set i (.slice a' (n + m) cap')) (ls.set i (l ++ ys)) → Upd (blk a) H H' → K (.slice a' (n + m) cap') H') :
    HSem Try.prog (Builtin.append_ #[22, 22] 22 [.slice a n cap, .slice b m c].toArray) H K := by
  obtain ⟨hn, ho⟩ := G.grp.own hi hl
  refine append_own ho hy hml hlim fun a' cap' H' o u f => hk a' cap' H' (G.change hi (by rw [vblk_slice]; exact u) ?_ ?_) u
  · have hnl : (l ++ ys).length = n + m := by rw [List.length_append, hn, hml]
    exact ⟨a', cap', by rw [hnl], by rw [hnl]; exact o⟩
  · intro b' hb'
    rw [vblk_slice] at hb'
    obtain ⟨p, hp, rfl⟩ := blk_of hb'
    rcases f p hp with h | h
    · left; rw [vblk_slice, h]; simp [blk]
    · exact .inr h
theorem append_ints {a b : Option Addr} {n cap m c : Nat} {xs ys : List Int} {H : Heap} {K : Value → Heap → Prop} (ho : OwnRow H 3 1 a n cap (i64s xs)) (hy : RowAt H b (i64s ys)) (hm : ys.length = m) (hlim : n + m ≤ 17592186044416)
    (hk : ∀ a' cap' H', OwnRow H' 3 1 a' (n + m) cap' (i64s (xs ++ ys)) → Upd (blk a) H H' → (∀ p, a' = some p → a = some p ∨ H p.block = none) → K (.slice a' (n + m) cap') H') :
    HSem Try.prog (Builtin.append_ #[37, 37] 37 [.slice a n cap, .slice b m c].toArray) H K := by
  refine append_rows (ie := Try.t3) (z := .int .i64 0) (ys := i64s ys) (xs := i64s xs) Try.underlying37 rfl rfl rfl (by decide) ho hy ?_ ?_ ?_ ?_ ?_
  · rw [i64s_length, hm]; exact (Nat.mul_one _).symm
  · intro v hv; obtain ⟨z, _, rfl⟩ := List.mem_map.1 hv; rfl
  · show (n + m) * 8 ≤ _; omega
  · omega
  · intro a' cap' H' h1 h2 h3
    have e : i64s xs ++ i64s ys = i64s (xs ++ ys) := by simp [i64s]
    rw [e] at h1
    exact hk a' cap' H' h1 h2 h3
/-! What the eight slices hold, stage by stage. -/
def mC (k : Nat) : UInt8 := UInt8.ofNat (1 + k)
def mD (k : Nat) : UInt8 := UInt8.ofNat (101 + k)
def P2 (ns : List Nat) (i : Nat) (ls : List (List UInt8)) : Prop := ls.length = ns.length ∧ ∀ (k : Nat) (l : List UInt8), ls[k]? = some l → ns[k]? = some l.length ∧ (k < i → l = List.replicate l.length (mC k))
def P3 (ns : List Nat) (i : Nat) (ls : List (List UInt8)) : Prop := ls.length = ns.length ∧ ∀ (k : Nat) (l : List UInt8), ls[k]? = some l → ∃ n, ns[k]? = some n ∧ l = List.replicate n (mC k) ++ (if k < i then List.replicate 80 (mD k) else [])
theorem P2.step {ns : List Nat} {i : Nat} {ls : List (List UInt8)} {l : List UInt8} (h : P2 ns i ls) (hi : ls[i]? = some l) : P2 ns (i + 1) (ls.set i (List.replicate l.length (mC i))) := by
  refine ⟨by simpa using h.1, fun k l' hk => ?_⟩
  rw [List.getElem?_set] at hk
  split at hk
  · rename_i e; subst e
    split at hk
    · cases hk
      refine ⟨?_, fun _ => by simp⟩
      rw [List.length_replicate]; exact (h.2 _ _ hi).1
    · cases hk
  · rename_i e
    refine ⟨(h.2 _ _ hk).1, fun h1 => (h.2 _ _ hk).2 (by omega)⟩
theorem P2.done {ns : List Nat} {ls : List (List UInt8)} (h : P2 ns ns.length ls) : P3 ns 0 ls := by
  refine ⟨h.1, fun k l hk => ⟨l.length, (h.2 _ _ hk).1, ?_⟩⟩
  have := (List.getElem?_eq_some_iff.1 hk).1
  rw [if_neg (by omega), List.append_nil]
  exact (h.2 _ _ hk).2 (by rw [← h.1]; exact this)
theorem P3.step {ns : List Nat} {i : Nat} {ls : List (List UInt8)} {l : List UInt8} (h : P3 ns i ls) (hi : ls[i]? = some l) : P3 ns (i + 1) (ls.set i (l ++ List.replicate 80 (mD i))) := by
  refine ⟨by simpa using h.1, fun k l' hk => ?_⟩
  rw [List.getElem?_set] at hk
  split at hk
  · rename_i e; subst e
    split at hk
    · cases hk
      obtain ⟨n, hn, hl⟩ := h.2 _ _ hi
      rw [if_neg (by omega), List.append_nil] at hl
      exact ⟨n, hn, by rw [if_pos (by omega), hl]⟩
    · cases hk
  · rename_i e
    obtain ⟨n, hn, hl⟩ := h.2 _ _ hk
    refine ⟨n, hn, ?_⟩
    rw [hl]
    by_cases h1 : k < i
    · rw [if_pos h1, if_pos (by omega)]
    · rw [if_neg h1, if_neg (by omega)]
theorem P3.done {ns : List Nat} {ls : List (List UInt8)} {i j n : Nat} {l : List UInt8} (h : P3 ns ns.length ls) (hl : ls[i]? = some l) (hn : ns[i]? = some n) (hj : j < l.length) : l[j]? = some (if j < n then mC i else mD i) := by
  obtain ⟨n', hn', e⟩ := h.2 _ _ hl
  rw [hn] at hn'; cases hn'
  have := (List.getElem?_eq_some_iff.1 hn).1
  rw [if_pos this] at e
  rw [e] at hj ⊢
  simp at hj
  split
  · rw [List.getElem?_append_left (by simpa), List.getElem?_replicate, if_pos (by omega)]
  · rw [List.getElem?_append_right (by simp; omega), List.getElem?_replicate, if_pos (by simp; omega)]
def szs (ns : List Nat) (i : Nat) : List Int := (ns.take i).map fun n : Nat => (n : Int)
theorem szs_length {ns : List Nat} {i : Nat} (h : i ≤ ns.length) : (szs ns i).length = i := by simp [szs]; omega
theorem szs_succ {ns : List Nat} {i n : Nat} (h : ns[i]? = some n) : szs ns i ++ [(n : Int)] = szs ns (i + 1) := by simp [szs, List.take_add_one, h]
theorem szs_get {ns : List Nat} {i k n : Nat} (h : ns[k]? = some n) (hk : k < i) : (i64s (szs ns i))[k]? = some (.int .i64 (n : Int)) := by
  refine i64s_get ?_
  simp [szs, List.getElem?_take, hk, h]
theorem set_self {α : Type} {ls : List α} {i : Nat} {l : α} (h : ls[i]? = some l) : ls.set i l = ls := by
  apply List.ext_getElem?
  intro k
  rw [List.getElem?_set]
  split
  · rename_i e; subst e
    rw [if_pos (List.getElem?_eq_some_iff.1 h).1, h]
  · rfl
theorem get_set {α : Type} {ls : List α} {i : Nat} {l x : α} (h : ls[i]? = some l) : (ls.set i x)[i]? = some x := by
  rw [List.getElem?_set, if_pos rfl, if_pos (List.getElem?_eq_some_iff.1 h).1]
theorem wr_of {n : Nat} (a : Nat) (h : n ≤ 1000) (h' : a ≤ 1000) : wr .u8 (wr .i64 ((a : Int) + (n : Int))) = (UInt8.ofNat (a + n)).toNat := by
  have := byte_of a h h'
  unfold u8 at this
  exact (Value.int.inj this).2
structure M0Inv (va vb : Value) (fa : List UInt8) (g c n : Nat) (H1 : Heap) (m : Nat) (vs : List Value) (H' : Heap) : Prop where
  ex : ∃ (i : Nat) (X : List UInt8), vs = [.int .i64 (i : Int)] ∧ m + i = n ∧ X.length = n + 2 ∧ GrpM 5 H1 H' [.slice (some ⟨g, 0, none⟩) (n + 2) c, va, vb] [X, fa, fa]
structure M2Inv (vs0 : List Value) (ls0 : List (List UInt8)) (g n : Nat) (H1 H16 : Heap) (m : Nat) (vs : List Value) (H' : Heap) : Prop where
  ex : ∃ (i : Nat) (Y : List UInt8), vs = [.int .i64 (i : Int)] ∧ m + i = n ∧ Y.length = n ∧ GrpM 5 H1 H' vs0 (ls0.set 3 Y) ∧ Upd [g] H16 H'
structure M4Inv (ns : List Nat) (vs8 : List Value) (g : Nat) (H1 : Heap) (m : Nat) (vs : List Value) (H' : Heap) : Prop where
  ex : ∃ (i : Nat) (sa : Option Addr) (sc : Nat) (ls : List (List UInt8)), vs = [.slice sa i sc, .int .i64 (i : Int)] ∧ m + i = ns.length ∧ OwnRow H' 3 1 sa i sc (i64s (szs ns i)) ∧ (∀ p, sa = some p → H1 p.block = none) ∧ OwnRow H' 22 1 (some ⟨g, 0, none⟩) 8 8 vs8 ∧ GrpM 5 H1 H' vs8 ls ∧ P2 ns i ls
structure M6Inv (ns : List Nat) (i : Nat) (sa : Option Addr) (sc : Nat) (l : List UInt8) (ls : List (List UInt8)) (vs8 : List Value) (g : Nat) (H1 : Heap) (m : Nat) (vs : List Value) (H' : Heap) : Prop where
  ex : ∃ j : Nat, vs = [.int .i64 (j : Int)] ∧ m + j = l.length ∧ OwnRow H' 3 1 sa (i + 1) sc (i64s (szs ns (i + 1))) ∧ OwnRow H' 22 1 (some ⟨g, 0, none⟩) 8 8 vs8 ∧ GrpM 5 H1 H' vs8 (ls.set i (List.replicate j (mC i) ++ l.drop j))
structure M8Inv (ns : List Nat) (sa : Option Addr) (sc : Nat) (g : Nat) (H1 : Heap) (m : Nat) (vs : List Value) (H' : Heap) : Prop where
  ex : ∃ (i : Nat) (vs8 : List Value) (ls : List (List UInt8)), vs = [.int .i64 (i : Int)] ∧ m + i = ns.length ∧ OwnRow H' 3 1 sa 8 sc (i64s (szs ns 8)) ∧ OwnRow H' 22 1 (some ⟨g, 0, none⟩) 8 8 vs8 ∧ GrpM 5 H1 H' vs8 ls ∧ P3 ns i ls
structure M10Inv (ns : List Nat) (i : Nat) (sa : Option Addr) (sc : Nat) (l : List UInt8) (ls : List (List UInt8)) (g : Nat) (H1 : Heap) (m : Nat) (vs : List Value) (H' : Heap) : Prop where
  ex : ∃ (j : Nat) (vs8 : List Value), vs = [.int .i64 (j : Int)] ∧ m + j = 80 ∧ OwnRow H' 3 1 sa 8 sc (i64s (szs ns 8)) ∧ OwnRow H' 22 1 (some ⟨g, 0, none⟩) 8 8 vs8 ∧ GrpM 5 H1 H' vs8 (ls.set i (l ++ List.replicate j (mD i)))
structure MkInv (n : Nat) (H19 : Heap) (m : Nat) (vs : List Value) (H' : Heap) : Prop where
  ex : ∃ j : Nat, vs = [.int .i64 (j : Int)] ∧ m + j = n ∧ H19 = H'
theorem frameMemory_t {a0 : Option Addr} {n0 c0 : Nat} {body : List UInt8} {H : Heap} (h0 : RowAt H a0 (u8s body)) (l0 : body.length = n0) :
    HCalls Try.prog 7 [.slice a0 n0 c0] H (fun v H' => v = .bool true ∧ Upd [] H H') := by
  refine hcalls (fn := Try.f7) [(30, [(0, 0), (1, 0), (2, 0), (3, 0), (4, 0), (5, 0), (6, 0), (7, 0), (8, 0), (9, 0), (10, 0), (11, 0), (12, 0), (13, 0), (14, 0), (15, 0), (16, 0), (17, 0)])] mixed Try.func7 rfl rfl (by decide +kernel) ?_
  (repeat first | refine HReg.step ?_ | refine HCode.step ?_)
  refine HCall.mk ⟨Try.f8, Try.func8, by rfl, by rfl⟩ ?_
  refine alive_t fun H1 u1 => ?_
  (repeat first | refine HReg.step ?_ | refine HCode.step ?_)
  refine hif (fun h => ?_) (fun h => ?_)
  · (repeat first | refine HReg.step ?_ | refine HCode.step ?_)
    exact ⟨rfl, u1⟩
  have h := ltB_false.1 h
  (repeat first | refine HReg.step ?_ | refine HCode.step ?_)
  refine HCall.mk ⟨Try.f10, Try.func10, by rfl, by rfl⟩ ?_
  refine own_t (h0.upd u1 (.inr (Off.nil _))) l0 (by omega) fun a2 c2 H2 m2 => ?_
  (repeat first | refine HReg.step ?_ | refine HCode.step ?_)
  refine HReq.mk (by decide) ?_
  (repeat first | refine HReg.step ?_ | refine HCode.step ?_)
  refine HNew.mk fun b3 hb3 => ?_
  (repeat first | refine HReg.step ?_ | refine HCode.step ?_)
  have u3 : Upd [] H2 (H2.upd b3 (.cells [Value.int .u8 161, Value.int .u8 162].toArray 5)) := Upd.new hb3 _
  refine append_made (ys := [161, 162]) (m2.step u3) (row_lit (upd_same _ _ _) rfl) rfl (by omega) fun a4 c4 H4 m4 => ?_
  obtain ⟨g4, rfl⟩ := m4.own.addr (by omega)
  have n4 : H1 g4 = none := m4.new _ rfl
  clear m2 u3 hb3
  have le4 := m4.own.le
  have l4 : (body ++ [161, 162]).length = n0 + 2 := by simp [l0]
  have G4 := (GrpM.nil 5 H1).add m4 l4
  (repeat first | refine HReg.step ?_ | refine HCode.step ?_)
  refine HReq.mk ⟨by omega, by omega⟩ ?_
  (repeat first | refine HReg.step ?_ | refine HCode.step ?_)
  refine HCall.mk ⟨Try.f9, Try.func9, by rfl, by rfl⟩ ?_
  have r4 : RowAt H4 (some ⟨g4, 0, none⟩) (u8s body) := by
    have := m4.own.rows.take n0
    rw [← u8s_take, List.take_append_of_le_length (by omega), List.take_of_length_le (by omega)] at this
    exact this
  have lb : (hd n0 ++ body).length = 4 + n0 := by rw [List.length_append, l0]; rfl
  refine build_t r4 l0 (by omega) (fun hl => by omega) fun _ a5 c5 H5 (m5 : Made H4 H5 5 1 a5 (4 + n0) c5 (u8s (hd n0 ++ body))) => ?_
  (repeat first | refine HReg.step ?_ | refine HCode.step ?_)
  refine HReq.mk ⟨by omega, by omega⟩ ?_
  (repeat first | refine HReg.step ?_ | refine HCode.step ?_)
  refine HCall.mk ⟨Try.f9, Try.func9, by rfl, by rfl⟩ ?_
  refine build_t (r4.upd m5.upd (.inr (Off.nil _))) l0 (by omega) (fun hl => by omega) fun _ a6 c6 H6 (m6 : Made H5 H6 5 1 a6 (4 + n0) c6 (u8s (hd n0 ++ body))) => ?_
  have G6 := (G4.add m5 lb).add m6 lb
  (repeat first | refine HReg.step ?_ | refine HCode.step ?_)
  refine hif (fun h => absurd rfl (not_eqB_true.1 h)) (fun _ => ?_)
  (repeat first | refine HReg.step ?_ | refine HCode.step ?_)
  refine hif (fun h => absurd rfl (not_eqB_true.1 h)) (fun _ => ?_)
  (repeat first | refine HReg.step ?_ | refine HCode.step ?_)
  refine HCall.mk ⟨Try.f14, Try.func14, by rfl, by rfl⟩ ?_
  refine same_eq (x := hd n0 ++ body) (y := hd n0 ++ body) (m5.own.rows.upd m6.upd (.inr (Off.nil _))) lb m6.own.rows lb rfl ?_
  (repeat first | refine HReg.step ?_ | refine HCode.step ?_)
  have hw4 : wr .i64 ((n0 : Int) + 4) = ((4 + n0 : Nat) : Int) := by rw [wr_i64 (by omega) (by omega)]; omega
  refine hif (fun h => absurd hw4.symm (not_eqB_true.1 h)) (fun _ => ?_)
  (repeat first | refine HReg.step ?_ | refine HCode.step ?_)
  refine HReq.mk ⟨by omega, by omega⟩ ?_
  (repeat first | refine HReg.step ?_ | refine HCode.step ?_)
  refine HCall.mk ⟨Try.f14, Try.func14, by rfl, by rfl⟩ ?_
  have u46 := m5.upd.trans m6.upd
  have u16 := m4.upd.trans u46
  refine same_eq (x := body) (y := body) (r4.upd u46 (.inr (Off.nil _))) l0 (h0.upd (u1.trans u16) (.inr (Off.nil _))) l0 rfl ?_
  (repeat first | refine HReg.step ?_ | refine HCode.step ?_)
  have r46 := m4.own.rows.upd u46 (.inr (Off.nil _))
  refine HReq.mk ⟨by omega, by omega⟩ ?_
  (repeat first | refine HReg.step ?_ | refine HCode.step ?_)
  have e161 : (u8s (body ++ [161, 162]))[n0]? = some (u8 161) := by
    refine u8s_get ?_
    rw [List.getElem?_append_right (by omega), l0, Nat.sub_self]; rfl
  have e162 : (u8s (body ++ [161, 162]))[n0 + 1]? = some (u8 162) := by
    refine u8s_get ?_
    rw [List.getElem?_append_right (by omega), l0, Nat.add_sub_cancel_left]; rfl
  refine HLoad.one (v := u8 161) (by exact r46.get e161) ?_
  (repeat first | refine HReg.step ?_ | refine HCode.step ?_)
  refine hif (fun h => absurd rfl (not_eqB_true.1 h)) (fun _ => ?_)
  (repeat first | refine HReg.step ?_ | refine HCode.step ?_)
  have hw1 : wr .i64 ((n0 : Int) + 1) = ((n0 + 1 : Nat) : Int) := by rw [wr_i64 (by omega) (by omega)]; omega
  refine HReq.mk ⟨by rw [hw1]; omega, by rw [hw1]; omega⟩ ?_
  (repeat first | refine HReg.step ?_ | refine HCode.step ?_)
  rw [hw1]
  refine HLoad.one (v := u8 162) (by exact r46.get e162) ?_
  (repeat first | refine HReg.step ?_ | refine HCode.step ?_)
  refine hif (fun h => absurd rfl (not_eqB_true.1 h)) (fun _ => ?_)
  (repeat first | refine HReg.step ?_ | refine HCode.step ?_)
  refine hloopC [10, 96, 97, 98, 99, 100, 101, 102, 103, 104, 105, 106, 107, 108] [10] (M0Inv (.slice a5 (4 + n0) c5) (.slice a6 (4 + n0) c6) (hd n0 ++ body) g4 c4 n0 H1) rfl (by repeat' first | exact Resp.retD | exact Resp1.valuesK | refine Resp.blockD ?_ | refine Resp.thenD ?_ ?_ | refine Resp.hcode ?_) ?_ ?_
  · refine ⟨n0, M0Inv.mk ⟨0, _, rfl, rfl, l4, G6⟩⟩
  rintro m vs f H7 ⟨i, X, rfl, hmi, lX, G7⟩
  (repeat first | refine HReg.step ?_ | refine HCode.step ?_)
  refine hif (fun h => ?_) (fun h => ?_)
  · have h := ltB_true.1 h
    (repeat first | refine HReg.step ?_ | refine HCode.step ?_)
    refine HReq.mk ⟨by omega, by omega⟩ ?_
    (repeat first | refine HReg.step ?_ | refine HCode.step ?_)
    obtain ⟨_, ho⟩ := G7.grp.own (i := 0) rfl rfl
    have hgi : X[i]? = some (X[i]'(by omega)) := by simp
    refine HLoad.one (v := u8 (X[i]'(by omega))) (by exact ho.rows.get (u8s_get hgi)) ?_
    (repeat first | refine HReg.step ?_ | refine HCode.step ?_)
    refine HReq.mk ⟨by omega, by omega⟩ ?_
    (repeat first | refine HReg.step ?_ | refine HCode.step ?_)
    rw [u8_add]
    refine G7.store (i := 0) (k := i) (l := X) rfl rfl (by omega) (by show 0 + i + 0 = i; omega) fun H8 G8 u8' => ?_
    (repeat first | refine HReg.step ?_ | refine HCode.step ?_)
    have hw : wr .i64 ((i : Int) + 1) = ((i + 1 : Nat) : Int) := by rw [wr_i64 (by omega) (by omega)]; omega
    rw [hw]
    refine Exists.intro (m - 1) ?_
    refine And.intro (by omega) ?_
    refine M0Inv.mk ⟨i + 1, X.set i (X[i]'(by omega) + 1), rfl, by omega, by rw [List.length_set]; exact lX, G8⟩
  · have h := ltB_false.1 h
    (repeat first | refine HReg.step ?_ | refine HCode.step ?_)
    obtain ⟨l5, o5⟩ := G7.grp.own (i := 1) rfl rfl
    obtain ⟨l6, o6⟩ := G7.grp.own (i := 2) rfl rfl
    refine HCall.mk ⟨Try.f10, Try.func10, by rfl, by rfl⟩ ?_
    refine own_t o5.rows lb (by omega) fun a8 c8 H8 m8 => ?_
    (repeat first | refine HReg.step ?_ | refine HCode.step ?_)
    refine append_made m8 (o6.rows.upd m8.upd (.inr (Off.nil _))) lb (by omega) fun a9 c9 H9 m9 => ?_
    (repeat first | refine HReg.step ?_ | refine HCode.step ?_)
    refine HReq.mk (by decide) ?_
    (repeat first | refine HReg.step ?_ | refine HCode.step ?_)
    refine HNew.mk fun b10 hb10 => ?_
    (repeat first | refine HReg.step ?_ | refine HCode.step ?_)
    have u10 : Upd [] H9 (H9.upd b10 (.cells [Value.int .u8 0, Value.int .u8 0, Value.int .u8 0, Value.int .u8 9, Value.int .u8 5].toArray 5)) := Upd.new hb10 _
    refine append_made (ys := [0, 0, 0, 9, 5]) (m9.step u10) (row_lit (upd_same _ _ _) rfl) rfl (by omega) fun a11 c11 H11 m11 => ?_
    (repeat first | refine HReg.step ?_ | refine HCode.step ?_)
    refine HReq.mk (by decide) ?_
    (repeat first | refine HReg.step ?_ | refine HCode.step ?_)
    refine HNew.mk fun b12 hb12 => ?_
    (repeat first | refine HReg.step ?_ | refine HCode.step ?_)
    have u12 : Upd [] H11 (H11.upd b12 (.cells [Value.int .u8 177, Value.int .u8 178].toArray 5)) := Upd.new hb12 _
    refine append_made (ys := [177, 178]) (m11.step u12) (row_lit (upd_same _ _ _) rfl) rfl (by omega) fun a13 c13 H13 m13 => ?_
    (repeat first | refine HReg.step ?_ | refine HCode.step ?_)
    refine HCall.mk ⟨Try.f10, Try.func10, by rfl, by rfl⟩ ?_
    have l11 : ((hd n0 ++ body) ++ (hd n0 ++ body) ++ [0, 0, 0, 9, 5]).length = 4 + n0 + (4 + n0) + 5 := by simp only [List.length_append, lb]; rfl
    have l13 : ((hd n0 ++ body) ++ (hd n0 ++ body) ++ [0, 0, 0, 9, 5] ++ [177, 178]).length = 4 + n0 + (4 + n0) + 5 + 2 := by rw [List.length_append, l11]; rfl
    obtain ⟨g13, rfl⟩ := m13.own.addr (by omega)
    have le13 := m13.own.le
    have G13 := G7.add m13 l13
    refine own_t m13.own.rows l13 (by omega) fun a14 c14 H14 m14 => ?_
    (repeat first | refine HReg.step ?_ | refine HCode.step ?_)
    refine HReq.mk ⟨by omega, by omega⟩ ?_
    (repeat first | refine HReg.step ?_ | refine HCode.step ?_)
    refine HCall.mk ⟨Try.f12, Try.func12, by rfl, by rfl⟩ ?_
    have hsp : splitA [] ((hd n0 ++ body) ++ (hd n0 ++ body) ++ [0, 0, 0, 9, 5]) = some ([body, body], [0, 0, 0, 9, 5]) := by
      rw [← l0, List.append_assoc, List.append_assoc, splitA_frame _ _ _ (by omega), List.append_assoc, splitA_frame _ _ _ (by omega), splitA_part (by decide) (by decide) (by decide)]
      rfl
    have r14 : RowAt H14 (some ⟨g13, 0, none⟩) (u8s ((hd n0 ++ body) ++ (hd n0 ++ body) ++ [0, 0, 0, 9, 5])) := by
      have := (m13.own.rows.upd m14.upd (.inr (Off.nil _))).take (4 + n0 + (4 + n0) + 5)
      rw [← u8s_take, List.take_append_of_le_length (by omega), List.take_of_length_le (by omega)] at this
      exact this
    refine (splitg_t r14 l11 (by omega) (by omega)).mono fun v15 H15 p15 => ?_
    obtain ⟨u15, p15⟩ := p15
    obtain ⟨ao, no, co, ax, cx, hs, rfl, oo, G15, n15, no15, lo15⟩ := p15 _ _ hsp
    have G15' := (G13.step0 m14.upd).join u15 G15 n15
    (repeat first | refine HReg.step ?_ | refine HCode.step ?_)
    refine HReq.mk ⟨by omega, by omega⟩ ?_
    (repeat first | refine HReg.step ?_ | refine HCode.step ?_)
    refine HCall.mk ⟨Try.f12, Try.func12, by rfl, by rfl⟩ ?_
    refine (splitg_t (r14.upd u15 (.inr (Off.nil _))) l11 (by omega) (by omega)).mono fun v16 H16 p16 => ?_
    obtain ⟨u16', p16⟩ := p16
    obtain ⟨bo, mo, do_, ay, cy, ks, rfl, ok, G16, n16, no16, lo16⟩ := p16 _ _ hsp
    have G16' := G15'.join u16' G16 n16
    have lh : no = 2 := by
      have h1 := oo.len
      have h2 := G15.len
      simp at h1 h2; omega
    have lk : mo = 2 := by
      have h1 := ok.len
      have h2 := G16.len
      simp at h1 h2; omega
    subst lh; subst lk
    (repeat first | refine HReg.step ?_ | refine HCode.step ?_)
    have ooH := oo.upd u16' (Off.nil _)
    obtain ⟨h0', h1', rfl⟩ : ∃ x y, hs = [x, y] := by
      have h2 := oo.len
      match hs, h2 with
      | [x, y], _ => exact ⟨x, y, rfl⟩
    obtain ⟨k0', k1', rfl⟩ : ∃ x y, ks = [x, y] := by
      have h2 := ok.len
      match ks, h2 with
      | [x, y], _ => exact ⟨x, y, rfl⟩
    have G := G16'
    simp only [List.cons_append, List.nil_append] at G
    refine hif (fun h => absurd rfl (not_eqB_true.1 h)) (fun _ => ?_)
    (repeat first | refine HReg.step ?_ | refine HCode.step ?_)
    refine hif (fun h => absurd rfl (not_eqB_true.1 h)) (fun _ => ?_)
    (repeat first | refine HReg.step ?_ | refine HCode.step ?_)
    refine hif (fun h => absurd rfl (not_eqB_true.1 h)) (fun _ => ?_)
    (repeat first | refine HReg.step ?_ | refine HCode.step ?_)
    refine hif (fun h => absurd rfl (not_eqB_true.1 h)) (fun _ => ?_)
    (repeat first | refine HReg.step ?_ | refine HCode.step ?_)
    refine hif (fun h => absurd rfl (not_eqB_true.1 h)) (fun _ => ?_)
    (repeat first | refine HReg.step ?_ | refine HCode.step ?_)
    have Gx := G.grp.own (i := 6) rfl rfl
    have Gy := G.grp.own (i := 9) rfl rfl
    refine HCall.mk ⟨Try.f14, Try.func14, by rfl, by rfl⟩ ?_
    refine same_eq (x := [0, 0, 0, 9, 5]) (y := [0, 0, 0, 9, 5]) Gx.2.rows rfl Gy.2.rows rfl rfl ?_
    (repeat first | refine HReg.step ?_ | refine HCode.step ?_)
    refine HCall.mk ⟨Try.f14, Try.func14, by rfl, by rfl⟩ ?_
    have u146 := u15.trans u16'
    refine same_eq (m13.own.rows.upd (m14.upd.trans u146) (.inr (Off.nil _))) l13 (m14.own.rows.upd u146 (.inr (Off.nil _))) l13 rfl ?_
    (repeat first | refine HReg.step ?_ | refine HCode.step ?_)
    have H0' : Slr H16 h0' body := by
      obtain ⟨a', c', e1, e2⟩ := G.grp.ok 4 _ _ rfl rfl
      exact ⟨a', c', e1, e2.rows⟩
    have H1' : Slr H16 h1' body := by
      obtain ⟨a', c', e1, e2⟩ := G.grp.ok 5 _ _ rfl rfl
      exact ⟨a', c', e1, e2.rows⟩
    have K0' : Slr H16 k0' body := by
      obtain ⟨a', c', e1, e2⟩ := G.grp.ok 7 _ _ rfl rfl
      exact ⟨a', c', e1, e2.rows⟩
    have K1' : Slr H16 k1' body := by
      obtain ⟨a', c', e1, e2⟩ := G.grp.ok 8 _ _ rfl rfl
      exact ⟨a', c', e1, e2.rows⟩
    refine HCall.mk ⟨Try.f15, Try.func15, by rfl, by rfl⟩ ?_
    refine sameLists_t (xs := [body, body]) (ys := [body, body]) ooH.rows rfl ⟨H0', H1', trivial⟩ ok.rows rfl ⟨K0', K1', trivial⟩ (by decide) ?_
    (repeat first | refine HReg.step ?_ | refine HCode.step ?_)
    rw [show decide ([body, body] = [body, body]) = true from decide_eq_true rfl]
    (repeat first | refine HReg.step ?_ | refine HCode.step ?_)
    have o13 := (G.grp.own (i := 3) rfl rfl).2
    refine hloopC [20, 177, 178, 179, 180, 181, 182, 183, 184, 185] [20] (M2Inv [.slice (some ⟨g4, 0, none⟩) (n0 + 2) c4, .slice a5 (4 + n0) c5, .slice a6 (4 + n0) c6, .slice (some ⟨g13, 0, none⟩) (4 + n0 + (4 + n0) + 5 + 2) c13, h0', h1', .slice ax 5 cx, k0', k1', .slice ay 5 cy] [X, hd n0 ++ body, hd n0 ++ body, [], body, body, [0, 0, 0, 9, 5], body, body, [0, 0, 0, 9, 5]] g13 (4 + n0 + (4 + n0) + 5 + 2) H1 H16) rfl (by repeat' first | exact Resp.retD | exact Resp1.valuesK | refine Resp.blockD ?_ | refine Resp.thenD ?_ ?_ | refine Resp.hcode ?_) ?_ ?_
    · refine ⟨_, M2Inv.mk ⟨0, _, rfl, rfl, l13, G, Upd.refl _ _⟩⟩
    rintro m2 vs2 f2 H17 ⟨i2, Y, rfl, hmi2, lY, G17, u17⟩
    (repeat first | refine HReg.step ?_ | refine HCode.step ?_)
    refine hif (fun h => ?_) (fun h => ?_)
    · have h := ltB_true.1 h
      (repeat first | refine HReg.step ?_ | refine HCode.step ?_)
      refine HReq.mk ⟨by omega, by omega⟩ ?_
      (repeat first | refine HReg.step ?_ | refine HCode.step ?_)
      refine G17.store (x := 238) (i := 3) (k := i2) (l := Y) rfl rfl (by omega) (by show 0 + i2 + 0 = i2; omega) fun H18 G18 u18 => ?_
      (repeat first | refine HReg.step ?_ | refine HCode.step ?_)
      have hw : wr .i64 ((i2 : Int) + 1) = ((i2 + 1 : Nat) : Int) := by rw [wr_i64 (by omega) (by omega)]; omega
      rw [hw]
      refine Exists.intro (m2 - 1) ?_
      refine And.intro (by omega) ?_
      exact M2Inv.mk ⟨i2 + 1, _, rfl, by omega, by rw [List.length_set]; exact lY, G18, u17.trans u18⟩
    have h := ltB_false.1 h
    (repeat first | refine HReg.step ?_ | refine HCode.step ?_)
    have oo17 := ooH.upd u17 (o13.offT ooH (by decide))
    have ok17 := ok.upd u17 (o13.offT ok (by decide))
    obtain ⟨al, rfl⟩ := oo17.addr (by decide)
    obtain ⟨bl, rfl⟩ := ok17.addr (by decide)
    obtain ⟨ah0, ch0, rfl, oh0⟩ := G17.grp.ok 4 _ _ rfl rfl
    obtain ⟨ah1, ch1, rfl, oh1⟩ := G17.grp.ok 5 _ _ rfl rfl
    obtain ⟨ak0, ck0, rfl, ok0⟩ := G17.grp.ok 7 _ _ rfl rfl
    obtain ⟨ak1, ck1, rfl, ok1⟩ := G17.grp.ok 8 _ _ rfl rfl
    obtain ⟨la, oa⟩ := G17.grp.own (i := 1) rfl rfl
    have rb := h0.upd (u1.trans G17.upd) (.inr (Off.nil _))
    refine HReq.mk ⟨by decide, by decide⟩ ?_
    (repeat first | refine HReg.step ?_ | refine HCode.step ?_)
    refine HLoad.one (v := .slice ah0 body.length ch0) (by exact oo17.rows.get (i := 0) rfl) ?_
    (repeat first | refine HReg.step ?_ | refine HCode.step ?_)
    refine HCall.mk ⟨Try.f14, Try.func14, by rfl, by rfl⟩ ?_
    refine same_eq (x := body) (y := body) oh0.rows rfl rb l0 rfl ?_
    (repeat first | refine HReg.step ?_ | refine HCode.step ?_)
    refine HReq.mk ⟨by decide, by decide⟩ ?_
    (repeat first | refine HReg.step ?_ | refine HCode.step ?_)
    refine HLoad.one (v := .slice ah1 body.length ch1) (by exact oo17.rows.get (i := 1) rfl) ?_
    (repeat first | refine HReg.step ?_ | refine HCode.step ?_)
    refine HCall.mk ⟨Try.f14, Try.func14, by rfl, by rfl⟩ ?_
    refine same_eq (x := body) (y := body) oh1.rows rfl rb l0 rfl ?_
    (repeat first | refine HReg.step ?_ | refine HCode.step ?_)
    have lea := oa.le
    refine HReq.mk ⟨by decide, by omega⟩ ?_
    (repeat first | refine HReg.step ?_ | refine HCode.step ?_)
    refine HCall.mk ⟨Try.f14, Try.func14, by rfl, by rfl⟩ ?_
    have ra : RowAt H17 (slAddr a5 4 c5 1) (u8s body) := by
      have := oa.rows.sl (l := 4) (cap := c5) (size := 1) (by rw [u8s_length, la]; omega)
      rw [← u8s_drop] at this
      exact this
    refine same_eq (x := body) (y := body) ra (by show body.length = 4 + n0 - 4; omega) rb l0 rfl ?_
    (repeat first | refine HReg.step ?_ | refine HCode.step ?_)
    refine HReq.mk ⟨by decide, by decide⟩ ?_
    (repeat first | refine HReg.step ?_ | refine HCode.step ?_)
    refine HLoad.one (v := .slice ah0 body.length ch0) (by exact oo17.rows.get (i := 0) rfl) ?_
    (repeat first | refine HReg.step ?_ | refine HCode.step ?_)
    refine HReq.mk ⟨by decide, by decide⟩ ?_
    (repeat first | refine HReg.step ?_ | refine HCode.step ?_)
    refine HLoad.one (v := .slice ah1 body.length ch1) (by exact oo17.rows.get (i := 1) rfl) ?_
    (repeat first | refine HReg.step ?_ | refine HCode.step ?_)
    refine HReq.mk ⟨by decide, by decide⟩ ?_
    (repeat first | refine HReg.step ?_ | refine HCode.step ?_)
    refine HLoad.one (v := .slice ak0 body.length ck0) (by exact ok17.rows.get (i := 0) rfl) ?_
    (repeat first | refine HReg.step ?_ | refine HCode.step ?_)
    refine HReq.mk ⟨by decide, by decide⟩ ?_
    (repeat first | refine HReg.step ?_ | refine HCode.step ?_)
    refine HLoad.one (v := .slice ak1 body.length ck1) (by exact ok17.rows.get (i := 1) rfl) ?_
    (repeat first | refine HReg.step ?_ | refine HCode.step ?_)
    refine HReq.mk (by decide) ?_
    (repeat first | refine HReg.step ?_ | refine HCode.step ?_)
    refine HNew.mk fun g18 hg18 => ?_
    have u18 : Upd [] H17 (H17.upd g18 (.cells [.slice a5 (4 + n0) c5, .slice a6 (4 + n0) c6, .slice ah0 body.length ch0, .slice ah1 body.length ch1, .slice ak0 body.length ck0, .slice ak1 body.length ck1, .slice ax 5 cx, .slice ay 5 cy].toArray 22)) := Upd.new hg18 _
    have ng18 : H1 g18 = none := Upd.none (S := []) G17.upd (by simp) hg18
    obtain ⟨vs8, hvs8⟩ : ∃ x : List Value, x = [.slice a5 (4 + n0) c5, .slice a6 (4 + n0) c6, .slice ah0 body.length ch0, .slice ah1 body.length ch1, .slice ak0 body.length ck0, .slice ak1 body.length ck1, .slice ax 5 cx, .slice ay 5 cy] := ⟨_, rfl⟩
    obtain ⟨ls8, hls8⟩ : ∃ x : List (List UInt8), x = [hd n0 ++ body, hd n0 ++ body, body, body, body, body, [0, 0, 0, 9, 5], [0, 0, 0, 9, 5]] := ⟨_, rfl⟩
    have G18 : GrpM 5 H1 (H17.upd g18 (.cells [.slice a5 (4 + n0) c5, .slice a6 (4 + n0) c6, .slice ah0 body.length ch0, .slice ah1 body.length ch1, .slice ak0 body.length ck0, .slice ak1 body.length ck1, .slice ax 5 cx, .slice ay 5 cy].toArray 22)) vs8 ls8 := by
      rw [hvs8, hls8]; exact (G17.step0 u18).pick [1, 2, 4, 5, 7, 8, 6, 9] (by decide) (by simp) undef []
    have oa18 : OwnRow (H17.upd g18 (.cells [.slice a5 (4 + n0) c5, .slice a6 (4 + n0) c6, .slice ah0 body.length ch0, .slice ah1 body.length ch1, .slice ak0 body.length ck0, .slice ak1 body.length ck1, .slice ax 5 cx, .slice ay 5 cy].toArray 22)) 22 1 (some ⟨g18, 0, none⟩) 8 8 vs8 := by rw [hvs8]; exact OwnRow.lit (upd_same _ _ _) rfl
    obtain ⟨ns, hns⟩ : ∃ ns, ns = ls8.map List.length := ⟨_, rfl⟩
    have ln : ns.length = 8 := by rw [hns, hls8]; rfl
    have P0 : P2 ns 0 ls8 := by
      refine ⟨by rw [hns, List.length_map], fun k l hk => ⟨by rw [hns, List.getElem?_map, hk]; rfl, fun h => by omega⟩⟩
    have bn : ∀ (k n : Nat), ns[k]? = some n → n ≤ 100004 := by
      intro k n hk
      have hm := List.mem_of_getElem? hk
      rw [hns, hls8] at hm
      simp only [List.map_cons, List.map_nil, lb, l0, List.length_cons, List.length_nil, List.mem_cons, List.not_mem_nil, or_false] at hm
      omega
    (repeat first | refine HReg.step ?_ | refine HCode.step ?_)
    refine hloopC [22, 23, 24, 224, 225, 226, 227, 228, 229, 230, 231, 232, 233, 234, 235, 236, 237, 238, 239, 240, 241, 242, 243, 244, 245, 246, 247, 248, 249, 250, 251, 252, 253, 254] [22, 23] (M4Inv ns vs8 g18 H1) rfl (by repeat' first | exact Resp.retD | exact Resp1.valuesK | refine Resp.blockD ?_ | refine Resp.thenD ?_ ?_ | refine Resp.hcode ?_) ?_ ?_
    · refine ⟨8, M4Inv.mk ⟨0, none, 0, ls8, rfl, ln.symm, OwnRow.nil _ _ _, fun p hp => (by cases hp), oa18, G18, P0⟩⟩
    rintro m4 vs4 f4 H20 ⟨i, sa, sc, ls, rfl, hmi, os, fsa, oa, G20, PP⟩
    have lls : ls.length = 8 := by rw [PP.1, ln]
    (repeat first | refine HReg.step ?_ | refine HCode.step ?_)
    refine hif (fun h => ?_) (fun h => ?_)
    · have h := ltB_true.1 h
      obtain ⟨l, hl⟩ := ex_get (l := ls) (i := i) (by omega)
      obtain ⟨v, hv, av, cv, rfl, ov⟩ := G20.grp.get hl
      have hnl := (PP.2 _ _ hl).1
      have hbn := bn _ _ hnl
      (repeat first | refine HReg.step ?_ | refine HCode.step ?_)
      refine HReq.mk ⟨by omega, by omega⟩ ?_
      (repeat first | refine HReg.step ?_ | refine HCode.step ?_)
      refine HLoad.one (v := .slice av l.length cv) (by exact oa.rows.get hv) ?_
      (repeat first | refine HReg.step ?_ | refine HCode.step ?_)
      refine HReq.mk (by decide) ?_
      (repeat first | refine HReg.step ?_ | refine HCode.step ?_)
      refine HNew.mk fun b21 hb21 => ?_
      (repeat first | refine HReg.step ?_ | refine HCode.step ?_)
      have u21 : Upd [] H20 (H20.upd b21 (.cells [Value.int .i64 (l.length : Int)].toArray 3)) := Upd.new hb21 _
      have os21 := os.upd u21 (Off.nil _)
      have oa21 := oa.upd u21 (Off.nil _)
      have G21 := G20.step0 u21
      refine append_ints (ys := [(l.length : Int)]) os21 (RowAt.of_cells (upd_same _ _ _)) rfl (by omega) fun sa' sc' H22 os' us fs => ?_
      have oa22 := oa21.upd us (os21.offT oa21 (by decide))
      have G22 := G21.step us (os21.notT (by decide)) (fun b hb => by
        obtain ⟨p, hp, rfl⟩ := blk_of hb
        exact fsa p hp)
      have fsa' : ∀ p, sa' = some p → H1 p.block = none := by
        intro p hp
        rcases fs p hp with h | h
        · exact fsa p h
        · exact Upd.none (S := []) G21.upd (by simp) h
      rw [szs_succ hnl] at os'
      obtain ⟨gs, rfl⟩ := os'.addr (by omega)
      (repeat first | refine HReg.step ?_ | refine HCode.step ?_)
      refine hloopC [24, 238, 239, 240, 241, 242, 243, 244, 245, 246, 247, 248, 249, 250, 251, 252, 253, 254] [24] (M6Inv ns i (some ⟨gs, 0, none⟩) sc' l ls vs8 g18 H1) rfl (by repeat' first | exact Resp.retD | exact Resp1.valuesK | refine Resp.blockD ?_ | refine Resp.thenD ?_ ?_ | refine Resp.hcode ?_) ?_ ?_
      · refine ⟨l.length, M6Inv.mk ⟨0, rfl, rfl, os', oa22, ?_⟩⟩
        have : List.replicate 0 (mC i) ++ l.drop 0 = l := by simp
        rw [this, set_self hl]; exact G22
      rintro m6 vs6 f6 H23 ⟨j, rfl, hmj, os23, oa23, G23⟩
      (repeat first | refine HReg.step ?_ | refine HCode.step ?_)
      refine HReq.mk ⟨by omega, by omega⟩ ?_
      (repeat first | refine HReg.step ?_ | refine HCode.step ?_)
      refine HLoad.one (v := .int .i64 (l.length : Int)) (by exact os23.rows.get (szs_get (i := i + 1) (k := i) hnl (by omega))) ?_
      (repeat first | refine HReg.step ?_ | refine HCode.step ?_)
      refine hif (fun h2 => ?_) (fun h2 => ?_)
      · have h2 := ltB_true.1 h2
        obtain ⟨gv, rfl⟩ := ov.addr (by omega)
        (repeat first | refine HReg.step ?_ | refine HCode.step ?_)
        refine HReq.mk ⟨by omega, by omega⟩ ?_
        (repeat first | refine HReg.step ?_ | refine HCode.step ?_)
        refine HLoad.one (v := .slice (some ⟨gv, 0, none⟩) l.length cv) (by exact oa23.rows.get hv) ?_
        (repeat first | refine HReg.step ?_ | refine HCode.step ?_)
        refine HReq.mk ⟨by omega, by omega⟩ ?_
        (repeat first | refine HReg.step ?_ | refine HCode.step ?_)
        have hb : Value.int .u8 (wr .u8 (wr .i64 (1 + (i : Int)))) = u8 (mC i) := byte_of 1 (by omega) (by omega)
        rw [hb]
        refine G23.store (i := i) (k := j) (l := List.replicate j (mC i) ++ l.drop j) hv (get_set hl) (by rw [List.length_append, List.length_replicate, List.length_drop]; omega) (by show 0 + j + 0 = j; omega) fun H24 G24 u24 => ?_
        (repeat first | refine HReg.step ?_ | refine HCode.step ?_)
        rw [List.set_set, set_rep (by omega)] at G24
        have hw : wr .i64 ((j : Int) + 1) = ((j + 1 : Nat) : Int) := by rw [wr_i64 (by omega) (by omega)]; omega
        rw [hw]
        refine Exists.intro (m6 - 1) ?_
        refine And.intro (by omega) ?_
        exact M6Inv.mk ⟨j + 1, rfl, by omega, os23.upd u24 (os23.apart G23.grp (by decide) hv), oa23.upd u24 (oa23.apart G23.grp (by decide) hv), G24⟩
      · have h2 := ltB_false.1 h2
        (repeat first | refine HReg.step ?_ | refine HCode.step ?_)
        have hj : j = l.length := by omega
        subst hj
        rw [List.drop_length, List.append_nil] at G23
        have hw : wr .i64 ((i : Int) + 1) = ((i + 1 : Nat) : Int) := by rw [wr_i64 (by omega) (by omega)]; omega
        rw [hw]
        refine Exists.intro (m4 - 1) ?_
        refine And.intro (by omega) ?_
        exact M4Inv.mk ⟨i + 1, _, _, _, rfl, by omega, os23, fsa', oa23, G23, PP.step hl⟩
    have h := ltB_false.1 h
    (repeat first | refine HReg.step ?_ | refine HCode.step ?_)
    have hi8 : i = 8 := by omega
    subst hi8
    have P3' : P3 ns 0 ls := P2.done (by rw [ln]; exact PP)
    obtain ⟨gs, rfl⟩ := os.addr (by decide)
    refine hloopC [25, 26, 255, 256, 257, 258, 259, 260, 261, 262, 263, 264, 265, 266, 267, 268, 269, 270, 271, 272, 273, 274, 275, 276] [25] (M8Inv ns (some ⟨gs, 0, none⟩) sc g18 H1) rfl (by repeat' first | exact Resp.retD | exact Resp1.valuesK | refine Resp.blockD ?_ | refine Resp.thenD ?_ ?_ | refine Resp.hcode ?_) ?_ ?_
    · refine ⟨8, M8Inv.mk ⟨0, vs8, ls, rfl, ln.symm, os, oa, G20, P3'⟩⟩
    clear P3' PP G20 oa os G18 oa18 u18
    rintro m8 vs8' f8 H30 ⟨i, ws, ls3, rfl, hmi, os, oa, G30, PP⟩
    have lls : ls3.length = 8 := by rw [PP.1, ln]
    (repeat first | refine HReg.step ?_ | refine HCode.step ?_)
    refine hif (fun h => ?_) (fun h => ?_)
    · have h := ltB_true.1 h
      obtain ⟨l, hl⟩ := ex_get (l := ls3) (i := i) (by omega)
      have hll : l.length ≤ 100004 := by
        obtain ⟨n, hn, e⟩ := PP.2 _ _ hl
        rw [if_neg (by omega), List.append_nil] at e
        have := bn _ _ hn
        rw [e, List.length_replicate]; exact this
      (repeat first | refine HReg.step ?_ | refine HCode.step ?_)
      refine hloopC [26, 261, 262, 263, 264, 265, 266, 267, 268, 269, 270, 271, 272, 273, 274, 275, 276] [26] (M10Inv ns i (some ⟨gs, 0, none⟩) sc l ls3 g18 H1) rfl (by repeat' first | exact Resp.retD | exact Resp1.valuesK | refine Resp.blockD ?_ | refine Resp.thenD ?_ ?_ | refine Resp.hcode ?_) ?_ ?_
      · refine ⟨80, M10Inv.mk ⟨0, ws, rfl, rfl, os, oa, ?_⟩⟩
        have : l ++ List.replicate 0 (mD i) = l := by simp
        rw [this, set_self hl]; exact G30
      rintro m10 vs10 f10 H33 ⟨j, xs, rfl, hmj, os33, oa33, G33⟩
      (repeat first | refine HReg.step ?_ | refine HCode.step ?_)
      refine hif (fun h2 => ?_) (fun h2 => ?_)
      · have h2 := ltB_true.1 h2
        obtain ⟨v, hv, av, cv, rfl, ov⟩ := G33.grp.get (get_set hl)
        have llj : (l ++ List.replicate j (mD i)).length = l.length + j := by rw [List.length_append, List.length_replicate]
        (repeat first | refine HReg.step ?_ | refine HCode.step ?_)
        refine HReq.mk ⟨by omega, by omega⟩ ?_
        (repeat first | refine HReg.step ?_ | refine HCode.step ?_)
        refine HLoad.one (v := .slice av (l ++ List.replicate j (mD i)).length cv) (by exact oa33.rows.get hv) ?_
        (repeat first | refine HReg.step ?_ | refine HCode.step ?_)
        refine HReq.mk (by decide) ?_
        (repeat first | refine HReg.step ?_ | refine HCode.step ?_)
        refine HNew.mk fun b34 hb34 => ?_
        (repeat first | refine HReg.step ?_ | refine HCode.step ?_)
        have hb : Value.int .u8 (wr .u8 (wr .i64 (101 + (i : Int)))) = u8 (mD i) := byte_of 101 (by omega) (by omega)
        rw [hb]
        have u34 : Upd [] H33 (H33.upd b34 (.cells [u8 (mD i)].toArray 5)) := Upd.new hb34 _
        refine grpM_append (ys := [mD i]) (G33.step0 u34) hv (get_set hl) (row_lit (upd_same _ _ _) rfl) rfl (by omega) fun a35 c35 H35 G35 u35 => ?_
        have oa35 := (oa33.upd u34 (Off.nil _)).upd u35 ((ov.upd u34 (Off.nil _)).offT (oa33.upd u34 (Off.nil _)) (by decide))
        have os35 := (os33.upd u34 (Off.nil _)).upd u35 ((ov.upd u34 (Off.nil _)).offT (os33.upd u34 (Off.nil _)) (by decide))
        (repeat first | refine HReg.step ?_ | refine HCode.step ?_)
        refine HReq.mk ⟨by omega, by omega⟩ ?_
        (repeat first | refine HReg.step ?_ | refine HCode.step ?_)
        refine store_row oa35 rfl (i := i) (by omega) (by show 0 + i + 0 = i; omega) fun H36 oa36 u36 => ?_
        (repeat first | refine HReg.step ?_ | refine HCode.step ?_)
        have G36 := G35.step u36 (oa35.notE (by decide)) (fun b hb => by rw [List.mem_singleton.1 hb]; exact ng18)
        have os36 := os35.upd u36 (oa35.offT os35 (by decide))
        rw [List.set_set, List.append_assoc, ← List.replicate_succ'] at G36
        have hw : wr .i64 ((j : Int) + 1) = ((j + 1 : Nat) : Int) := by rw [wr_i64 (by omega) (by omega)]; omega
        rw [hw]
        refine Exists.intro (m10 - 1) ?_
        refine And.intro (by omega) ?_
        exact M10Inv.mk ⟨j + 1, _, rfl, by omega, os36, oa36, G36⟩
      · have h2 := ltB_false.1 h2
        (repeat first | refine HReg.step ?_ | refine HCode.step ?_)
        have hj : j = 80 := by omega
        subst hj
        have hw : wr .i64 ((i : Int) + 1) = ((i + 1 : Nat) : Int) := by rw [wr_i64 (by omega) (by omega)]; omega
        rw [hw]
        refine Exists.intro (m8 - 1) ?_
        refine And.intro (by omega) ?_
        exact M8Inv.mk ⟨i + 1, _, _, rfl, by omega, os33, oa33, G33, PP.step hl⟩
    have h := ltB_false.1 h
    (repeat first | refine HReg.step ?_ | refine HCode.step ?_)
    have hi8 : i = 8 := by omega
    subst hi8
    have PD : P3 ns ns.length ls3 := by rw [ln]; exact PP
    refine hloopC [2, 27, 28, 277, 278, 279, 280, 281, 282, 283, 284, 285, 286, 287, 288, 289, 290, 291, 292, 293, 294, 295, 296, 297, 298, 299, 300, 301, 302, 303, 304, 305, 306, 307, 308, 309, 310, 311, 312, 313, 314, 315, 316, 317, 318, 319, 320, 321, 322, 323, 324, 325, 326, 327, 328, 329, 330, 331] [27] (MkInv 8 H30) rfl (by repeat' first | exact Resp.retD | exact Resp1.valuesK | refine Resp.blockD ?_ | refine Resp.thenD ?_ ?_ | refine Resp.hcode ?_) ?_ ?_
    · exact ⟨8, MkInv.mk ⟨0, rfl, rfl, rfl⟩⟩
    rintro m12 vs12 f12 _ ⟨i, rfl, hmi, rfl⟩
    (repeat first | refine HReg.step ?_ | refine HCode.step ?_)
    refine hif (fun h => ?_) (fun h => ?_)
    · have h := ltB_true.1 h
      obtain ⟨l, hl⟩ := ex_get (l := ls3) (i := i) (by omega)
      obtain ⟨n, hn⟩ := ex_get (l := ns) (i := i) (by omega)
      obtain ⟨v, hv, av, cv, rfl, ov⟩ := G30.grp.get hl
      have hbC : wr .u8 (wr .i64 (1 + (i : Int))) = (mC i).toNat := wr_of 1 (by omega) (by omega)
      have hbD : wr .u8 (wr .i64 (101 + (i : Int))) = (mD i).toNat := wr_of 101 (by omega) (by omega)
      have hll : l.length ≤ 100084 := by
        obtain ⟨n', hn', e⟩ := PD.2 _ _ hl
        have := bn _ _ hn'
        rw [if_pos (by omega)] at e
        rw [e, List.length_append, List.length_replicate, List.length_replicate]; omega
      (repeat first | refine HReg.step ?_ | refine HCode.step ?_)
      refine hloopC [2, 28, 283, 284, 285, 286, 287, 288, 289, 290, 291, 292, 293, 294, 295, 296, 297, 298, 299, 300, 301, 302, 303, 304, 305, 306, 307, 308, 309, 310, 311, 312, 313, 314, 315, 316, 317, 318, 319, 320, 321, 322, 323, 324, 325, 326, 327, 328, 329, 330, 331] [28] (MkInv l.length H30) rfl (by repeat' first | exact Resp.retD | exact Resp1.valuesK | refine Resp.blockD ?_ | refine Resp.thenD ?_ ?_ | refine Resp.hcode ?_) ?_ ?_
      · exact ⟨l.length, MkInv.mk ⟨0, rfl, rfl, rfl⟩⟩
      rintro m14 vs14 f14 _ ⟨j, rfl, hmj, rfl⟩
      (repeat first | refine HReg.step ?_ | refine HCode.step ?_)
      refine HReq.mk ⟨by omega, by omega⟩ ?_
      (repeat first | refine HReg.step ?_ | refine HCode.step ?_)
      refine HLoad.one (v := .slice av l.length cv) (by exact oa.rows.get hv) ?_
      (repeat first | refine HReg.step ?_ | refine HCode.step ?_)
      refine hif (fun h2 => ?_) (fun h2 => ?_)
      · have h2 := ltB_true.1 h2
        obtain ⟨gv, rfl⟩ := ov.addr (by omega)
        have hw : wr .i64 ((j : Int) + 1) = ((j + 1 : Nat) : Int) := by rw [wr_i64 (by omega) (by omega)]; omega
        have hb := P3.done PD hl hn (j := j) (by omega)
        (repeat first | refine HReg.step ?_ | refine HCode.step ?_)
        refine HReq.mk ⟨by omega, by omega⟩ ?_
        (repeat first | refine HReg.step ?_ | refine HCode.step ?_)
        refine HLoad.one (v := .int .i64 (n : Int)) (by exact os.rows.get (szs_get (i := 8) (k := i) hn (by omega))) ?_
        (repeat first | refine HReg.step ?_ | refine HCode.step ?_)
        by_cases hjn : j < n
        · rw [if_pos hjn] at hb
          refine hif (fun _ => ?_) (fun h3 => absurd (ltB_false.1 h3) (by omega))
          (repeat first | refine HReg.step ?_ | refine HCode.step ?_)
          refine HReq.mk ⟨by omega, by omega⟩ ?_
          (repeat first | refine HReg.step ?_ | refine HCode.step ?_)
          refine HLoad.one (v := .slice (some ⟨gv, 0, none⟩) l.length cv) (by exact oa.rows.get hv) ?_
          (repeat first | refine HReg.step ?_ | refine HCode.step ?_)
          refine HReq.mk ⟨by omega, by omega⟩ ?_
          (repeat first | refine HReg.step ?_ | refine HCode.step ?_)
          refine HLoad.one (v := u8 (mC i)) (by exact ov.rows.get (u8s_get hb)) ?_
          (repeat first | refine HReg.step ?_ | refine HCode.step ?_)
          refine hif (fun h3 => absurd hbC.symm (not_eqB_true.1 h3)) (fun _ => ?_)
          (repeat first | refine HReg.step ?_ | refine HCode.step ?_)
          refine HReq.mk ⟨by omega, by omega⟩ ?_
          (repeat first | refine HReg.step ?_ | refine HCode.step ?_)
          refine HLoad.one (v := .int .i64 (n : Int)) (by exact os.rows.get (szs_get (i := 8) (k := i) hn (by omega))) ?_
          (repeat first | refine HReg.step ?_ | refine HCode.step ?_)
          refine hif (fun h3 => absurd (not_ltB_true.1 h3) (by omega)) (fun _ => ?_)
          (repeat first | refine HReg.step ?_ | refine HCode.step ?_)
          rw [hw]
          refine Exists.intro (m14 - 1) ?_
          refine And.intro (by omega) ?_
          exact MkInv.mk ⟨j + 1, rfl, by omega, rfl⟩
        · rw [if_neg hjn] at hb
          refine hif (fun h3 => absurd (ltB_true.1 h3) (by omega)) (fun _ => ?_)
          (repeat first | refine HReg.step ?_ | refine HCode.step ?_)
          refine HReq.mk ⟨by omega, by omega⟩ ?_
          (repeat first | refine HReg.step ?_ | refine HCode.step ?_)
          refine HLoad.one (v := .int .i64 (n : Int)) (by exact os.rows.get (szs_get (i := 8) (k := i) hn (by omega))) ?_
          (repeat first | refine HReg.step ?_ | refine HCode.step ?_)
          refine hif (fun _ => ?_) (fun h3 => absurd (not_ltB_false.1 h3) (by omega))
          (repeat first | refine HReg.step ?_ | refine HCode.step ?_)
          refine HReq.mk ⟨by omega, by omega⟩ ?_
          (repeat first | refine HReg.step ?_ | refine HCode.step ?_)
          refine HLoad.one (v := .slice (some ⟨gv, 0, none⟩) l.length cv) (by exact oa.rows.get hv) ?_
          (repeat first | refine HReg.step ?_ | refine HCode.step ?_)
          refine HReq.mk ⟨by omega, by omega⟩ ?_
          (repeat first | refine HReg.step ?_ | refine HCode.step ?_)
          refine HLoad.one (v := u8 (mD i)) (by exact ov.rows.get (u8s_get hb)) ?_
          (repeat first | refine HReg.step ?_ | refine HCode.step ?_)
          refine hif (fun h3 => absurd hbD.symm (not_eqB_true.1 h3)) (fun _ => ?_)
          (repeat first | refine HReg.step ?_ | refine HCode.step ?_)
          rw [hw]
          refine Exists.intro (m14 - 1) ?_
          refine And.intro (by omega) ?_
          exact MkInv.mk ⟨j + 1, rfl, by omega, rfl⟩
      · have h2 := ltB_false.1 h2
        (repeat first | refine HReg.step ?_ | refine HCode.step ?_)
        have hw : wr .i64 ((i : Int) + 1) = ((i + 1 : Nat) : Int) := by rw [wr_i64 (by omega) (by omega)]; omega
        rw [hw]
        refine Exists.intro (m12 - 1) ?_
        refine And.intro (by omega) ?_
        exact MkInv.mk ⟨i + 1, rfl, by omega, rfl⟩
    · (repeat first | refine HReg.step ?_ | refine HCode.step ?_)
      exact ⟨rfl, u1.trans G30.upd⟩
end Go.Proofs.Ytindnfcioibdnaa
