import Derived.Test.YtlgncabjphokjaaGreatK2
import Derived.Test.YtlgncabjphokjaaGreatG2
namespace Go.Proofs.YtlgncabjphokjaaGreat
open Go Hv
set_option linter.unusedVariables false
set_option linter.unusedSimpArgs false
set_option maxRecDepth 10000
set_option maxHeartbeats 1000000
/-! Messages in memory; what may be. CUT2 -/
def pairsV : List (Txt × Txt) → List Value
  | [] => []
  | p :: ps => .string (bs p.1) :: .string (bs p.2) :: pairsV ps
theorem pairsV_length : ∀ ps : List (Txt × Txt), (pairsV ps).length = ps.length * 2
  | [] => rfl
  | p :: ps => by simp only [pairsV, List.length_cons, pairsV_length ps]; omega
theorem pairsV_append : ∀ a b : List (Txt × Txt), pairsV (a ++ b) = pairsV a ++ pairsV b
  | [], b => rfl
  | p :: a, b => by simp only [pairsV, List.cons_append, pairsV_append a b]
theorem pairsV_get : ∀ {ps : List (Txt × Txt)} {i : Nat} {p : Txt × Txt}, ps[i]? = some p → (pairsV ps)[i * 2]? = some (.string (bs p.1)) ∧ (pairsV ps)[i * 2 + 1]? = some (.string (bs p.2))
  | [], i, p, h => by simp at h
  | q :: ps, 0, p, h => by simp at h; subst h; exact ⟨rfl, rfl⟩
  | q :: ps, i + 1, p, h => by
    have := pairsV_get (ps := ps) (i := i) (p := p) (by simpa using h)
    have e : (i + 1) * 2 = i * 2 + 2 := by omega
    rw [e]; exact this
theorem pairsV_take (ps : List (Txt × Txt)) : ∀ i, (pairsV ps).take (i * 2) = pairsV (ps.take i) := by
  induction ps with
  | nil => intro i; simp [pairsV]
  | cons p ps ih =>
    intro i
    cases i with
    | zero => simp [pairsV]
    | succ i =>
      have e : (i + 1) * 2 = i * 2 + 1 + 1 := by omega
      rw [e, List.take_succ_cons]
      show _ :: _ :: (pairsV ps).take (i * 2) = _
      rw [ih i]; rfl
theorem plain_pairs (ps : List (Txt × Txt)) : ∀ v ∈ pairsV ps, Value.plain v = true := by
  induction ps with
  | nil => intro v hv; simp [pairsV] at hv
  | cons p ps ih =>
    intro v hv
    rcases List.mem_cons.1 hv with rfl | hv
    · rfl
    · rcases List.mem_cons.1 hv with rfl | hv
      · rfl
      · exact ih v hv
theorem HLoadN_pair {H : Heap} {b off i : Nat} {ps : List (Txt × Txt)} {p : Txt × Txt} {K : List Value → Prop} (h : RowAt H (some ⟨b, off, none⟩) (pairsV ps)) (hp : ps[i]? = some p) (hk : K [.string (bs p.1), .string (bs p.2)]) : HLoadN [H] b (off + i * 2) 2 K := by
  obtain ⟨h1, h2⟩ := pairsV_get hp
  refine ⟨[.string (bs p.1), .string (bs p.2)], fun H' hH j v hv => ?_, rfl, hk⟩
  rw [List.mem_singleton.1 hH]
  match j, hv with
  | 0, hv => cases hv; exact h.get h1
  | 1, hv => cases hv; have := h.get h2; rwa [← Nat.add_assoc] at this
theorem app_textsZ {a b : Option Addr} {k cap m c : Nat} {xs ys : List (List UInt8)} {H0 H : Heap} {K : Value → Heap → Prop} (hm : Made H0 H 9 1 a k cap (txts xs)) (hy : RowAt H b (txts ys)) (hyl : ys.length = m) (hb : k + m ≤ 8796093022208)
    (hk : ∀ a' cap' H', Made H0 H' 9 1 a' (k + m) cap' (txts (xs ++ ys)) → K (.slice a' (k + m) cap') H') :
    HSem Tryz.prog (Builtin.append_ #[26, 26] 26 [.slice a k cap, .slice b m c].toArray) H K := by
  refine append_madeG (ie := Tryz.t9) (z := .string ⟨#[]⟩) (xs := txts xs) (ys := txts ys) Tryz.underlying26 rfl rfl rfl (by decide) hm hy (by rw [txts_length, hyl]; exact (Nat.mul_one _).symm) (plain_txts _) (by show (k + m) * 16 ≤ _; omega) (by omega) fun a' cap' H' m' => ?_
  rw [← txts_append] at m'
  exact hk a' cap' H' m'
theorem made_nil (H : Heap) (e : TypeId) (size : Nat) : Made H H e size none 0 0 [] := ⟨OwnRow.nil _ _ _, Upd.refl _ _, fun p hp => by cases hp⟩
theorem wr8 (v : Nat) : wr .u8 (v : Int) = ((v % 256 : Nat) : Int) := by rw [wr_u8]; omega
theorem wr32 (v : Nat) : wr .u32 (v : Int) = ((v % 4294967296 : Nat) : Int) := by
  have h : IntKind.u32.wrap (v : Int) = (v : Int) % 4294967296 := rfl
  rw [wr_eq, h]; omega
theorem eqB_self (a : Int) : eqB a a = true := eqB_true.2 rfl
def wantsV : List (Txt × Nat) → List Value
  | [] => []
  | p :: ps => .string (bs p.1) :: .int .u64 (p.2 : Int) :: wantsV ps
theorem wantsV_length : ∀ ps : List (Txt × Nat), (wantsV ps).length = ps.length * 2
  | [] => rfl
  | p :: ps => by simp only [wantsV, List.length_cons, wantsV_length ps]; omega
theorem wantsV_append : ∀ a b : List (Txt × Nat), wantsV (a ++ b) = wantsV a ++ wantsV b
  | [], b => rfl
  | p :: a, b => by simp only [wantsV, List.cons_append, wantsV_append a b]
theorem wantsV_get : ∀ {ps : List (Txt × Nat)} {i : Nat} {p : Txt × Nat}, ps[i]? = some p → (wantsV ps)[i * 2]? = some (.string (bs p.1)) ∧ (wantsV ps)[i * 2 + 1]? = some (.int .u64 (p.2 : Int))
  | [], i, p, h => by simp at h
  | q :: ps, 0, p, h => by simp at h; subst h; exact ⟨rfl, rfl⟩
  | q :: ps, i + 1, p, h => by
    obtain ⟨h1, h2⟩ := wantsV_get (ps := ps) (i := i) (p := p) (by simpa using h)
    have e1 : (i + 1) * 2 = i * 2 + 1 + 1 := by omega
    have e2 : (i + 1) * 2 + 1 = i * 2 + 1 + 1 + 1 := by omega
    rw [e2, e1]
    exact ⟨h1, h2⟩
theorem plain_wants (ps : List (Txt × Nat)) : ∀ v ∈ wantsV ps, Value.plain v = true := by
  induction ps with
  | nil => intro v hv; simp [wantsV] at hv
  | cons p ps ih =>
    intro v hv
    simp only [wantsV, List.mem_cons] at hv
    rcases hv with rfl | rfl | hv
    · rfl
    · rfl
    · exact ih v hv
theorem HLoadN_want {H : Heap} {b off i : Nat} {ps : List (Txt × Nat)} {p : Txt × Nat} {K : List Value → Prop} (h : RowAt H (some ⟨b, off, none⟩) (wantsV ps)) (hp : ps[i]? = some p) (hk : K [.string (bs p.1), .int .u64 (p.2 : Int)]) : HLoadN [H] b (off + i * 2) 2 K := by
  obtain ⟨h1, h2⟩ := wantsV_get hp
  refine ⟨[.string (bs p.1), .int .u64 (p.2 : Int)], fun H' hH j v hv => ?_, rfl, hk⟩
  rw [List.mem_singleton.1 hH]
  match j, hv with
  | 0, hv => cases hv; exact h.get h1
  | 1, hv => cases hv; have := h.get h2; rwa [← Nat.add_assoc] at this
/-- A version, with where its keys lie. -/
structure VerA where
  v : Ver
  a : Option Addr
  c : Nat
def VerA.cells (x : VerA) : List Value := [.string (bs x.v.key), .int .u64 (x.v.id : Int), .string (bs x.v.val), .slice x.a x.v.ks.length x.c]
def versV : List VerA → List Value
  | [] => []
  | x :: xs => x.cells ++ versV xs
theorem versV_length : ∀ xs : List VerA, (versV xs).length = xs.length * 4
  | [] => rfl
  | x :: xs => by
    show (x.cells ++ versV xs).length = _
    rw [List.length_append, versV_length xs, List.length_cons]
    show 4 + _ = _; omega
theorem versV_append : ∀ a b, versV (a ++ b) = versV a ++ versV b
  | [], b => rfl
  | f :: a, b => by
    show f.cells ++ versV (a ++ b) = f.cells ++ versV a ++ versV b
    rw [versV_append a b, List.append_assoc]
theorem versV_get : ∀ {xs : List VerA} {i : Nat} {x : VerA}, xs[i]? = some x → ∀ (k : Nat) v, x.cells[k]? = some v → (versV xs)[i * 4 + k]? = some v
  | [], i, f, h => by simp at h
  | p :: fs, 0, f, h => fun k v hk => by
    simp at h; subst h
    have : k < p.cells.length := (List.getElem?_eq_some_iff.1 hk).1
    show (p.cells ++ versV fs)[0 * 4 + k]? = _
    rw [Nat.zero_mul, Nat.zero_add, List.getElem?_append_left this]; exact hk
  | p :: fs, i + 1, f, h => fun k v hk => by
    have ih := versV_get (xs := fs) (i := i) (x := f) (by simpa using h) k v hk
    have e : p.cells.length = 4 := rfl
    show (p.cells ++ versV fs)[(i + 1) * 4 + k]? = _
    rw [List.getElem?_append_right (by rw [e]; omega), e]
    have e2 : (i + 1) * 4 + k - 4 = i * 4 + k := by omega
    rw [e2]; exact ih
theorem plain_vers (xs : List VerA) : ∀ v ∈ versV xs, Value.plain v = true := by
  induction xs with
  | nil => intro v hv; simp [versV] at hv
  | cons q qs ih =>
    intro v hv
    rcases List.mem_append.1 hv with hv | hv
    · have hv : v ∈ [Value.string (bs q.v.key), .int .u64 (q.v.id : Int), .string (bs q.v.val), .slice q.a q.v.ks.length q.c] := hv
      simp only [List.mem_cons, List.not_mem_nil, or_false] at hv
      rcases hv with rfl | rfl | rfl | rfl <;> rfl
    · exact ih v hv
theorem HLoadN_ver {H : Heap} {b off i : Nat} {xs : List VerA} {x : VerA} {K : List Value → Prop} (h : RowAt H (some ⟨b, off, none⟩) (versV xs)) (hx : xs[i]? = some x) (hk : K x.cells) : HLoadN [H] b (off + i * 4) 4 K :=
  ⟨x.cells, fun H' hH j v hv => by
    rw [List.mem_singleton.1 hH, Nat.add_assoc]
    exact h.get (versV_get hx j v hv), rfl, hk⟩
/-- A message, with where its lists lie. -/
structure MsgA where
  kind : Int
  client : Int
  req : Nat
  id : Nat
  ps : List (Txt × Txt)
  ap : Option Addr
  cp : Nat
  ks : List Txt
  ak : Option Addr
  ck : Nat
  ws : List (Txt × Nat)
  aw : Option Addr
  cw : Nat
  vs : List VerA
  av : Option Addr
  cv : Nat
def MsgA.m (x : MsgA) : Msg := ⟨x.kind, x.client, x.req, x.id, x.ps, x.ks, x.ws, x.vs.map VerA.v⟩
def MsgA.cells (x : MsgA) : List Value := [.int .i64 x.kind, .int .i64 x.client, .int .u64 (x.req : Int), .int .u64 (x.id : Int), .slice x.ap x.ps.length x.cp, .slice x.ak x.ks.length x.ck, .slice x.aw x.ws.length x.cw, .slice x.av x.vs.length x.cv]
def MsgA.val (x : MsgA) : Value := .agg x.cells.toArray
structure MsgIn (H : Heap) (x : MsgA) : Prop where
  rp : RowAt H x.ap (pairsV x.ps)
  rk : RowAt H x.ak (txts x.ks)
  rw : RowAt H x.aw (wantsV x.ws)
  rv : RowAt H x.av (versV x.vs)
  vk : ∀ v ∈ x.vs, RowAt H v.a (txts v.v.ks)
  np : x.ps.length ≤ 4398046510976
  nk : x.ks.length ≤ 8796093021952
  nw : x.ws.length ≤ 8796093021952
  nv : x.vs.length ≤ 8796093021952
  nvk : ∀ v ∈ x.vs, v.v.ks.length ≤ 8796093021952
theorem MsgIn.upd0 {H H' : Heap} {x : MsgA} (h : MsgIn H x) (u : Upd [] H H') : MsgIn H' x :=
  ⟨h.rp.upd (S := []) u (.inr (Off.nil _)), h.rk.upd (S := []) u (.inr (Off.nil _)), h.rw.upd (S := []) u (.inr (Off.nil _)), h.rv.upd (S := []) u (.inr (Off.nil _)), fun v hv => (h.vk v hv).upd (S := []) u (.inr (Off.nil _)), h.np, h.nk, h.nw, h.nv, h.nvk⟩
theorem list8 {xs : List Value} (h : xs.length = 8) : ∃ a b c d e f g i, xs = [a, b, c, d, e, f, g, i] := by
  match xs, h with
  | [a, b, c, d, e, f, g, i], _ => exact ⟨a, b, c, d, e, f, g, i, rfl⟩
section
variable {H : Heap} {K : Value → Heap → Prop}
theorem store_msg {b : Nat} {x : MsgA} {xs : List Value} {K : Heap → Prop} (h : OwnRow H 30 1 (some ⟨b, 0, none⟩) 8 8 xs) (hl : xs.length = 8)
    (hk : ∀ H', OwnRow H' 30 1 (some ⟨b, 0, none⟩) 8 8 x.cells → Upd [b] H H' → K H') : storeN H b 0 0 K x.cells := by
  obtain ⟨x0, x1, x2, x3, x4, x5, x6, x7, rfl⟩ := list8 hl
  refine store_row h (v := .int .i64 x.kind) rfl (i := 0) (by decide) (by rfl) fun H1 o1 u1 => ?_
  refine store_row o1 (v := .int .i64 x.client) rfl (i := 1) (by decide) (by rfl) fun H2 o2 u2 => ?_
  refine store_row o2 (v := .int .u64 (x.req : Int)) rfl (i := 2) (by decide) (by rfl) fun H3 o3 u3 => ?_
  refine store_row o3 (v := .int .u64 (x.id : Int)) rfl (i := 3) (by decide) (by rfl) fun H4 o4 u4 => ?_
  refine store_row o4 (v := .slice x.ap x.ps.length x.cp) rfl (i := 4) (by decide) (by rfl) fun H5 o5 u5 => ?_
  refine store_row o5 (v := .slice x.ak x.ks.length x.ck) rfl (i := 5) (by decide) (by rfl) fun H6 o6 u6 => ?_
  refine store_row o6 (v := .slice x.aw x.ws.length x.cw) rfl (i := 6) (by decide) (by rfl) fun H7 o7 u7 => ?_
  refine store_row o7 (v := .slice x.av x.vs.length x.cv) rfl (i := 7) (by decide) (by rfl) fun H8 o8 u8_ => ?_
  exact hk H8 o8 (((((((u1.trans u2).trans u3).trans u4).trans u5).trans u6).trans u7).trans u8_)
theorem store_pair {b : Nat} {p : Txt × Txt} {xs : List Value} {K : Heap → Prop} (h : OwnRow H 50 1 (some ⟨b, 0, none⟩) 2 2 xs) (hl : xs.length = 2)
    (hk : ∀ H', OwnRow H' 50 1 (some ⟨b, 0, none⟩) 2 2 [.string (bs p.1), .string (bs p.2)] → Upd [b] H H' → K H') : storeN H b 0 0 K [.string (bs p.1), .string (bs p.2)] := by
  obtain ⟨x0, x1, rfl⟩ : ∃ a b, xs = [a, b] := by
    match xs, hl with
    | [a, b], _ => exact ⟨a, b, rfl⟩
  refine store_row h (v := .string (bs p.1)) rfl (i := 0) (by decide) (by rfl) fun H1 o1 u1 => ?_
  refine store_row o1 (v := .string (bs p.2)) rfl (i := 1) (by decide) (by rfl) fun H2 o2 u2 => ?_
  exact hk H2 o2 (u1.trans u2)
theorem store_want {b : Nat} {p : Txt × Nat} {xs : List Value} {K : Heap → Prop} (h : OwnRow H 54 1 (some ⟨b, 0, none⟩) 2 2 xs) (hl : xs.length = 2)
    (hk : ∀ H', OwnRow H' 54 1 (some ⟨b, 0, none⟩) 2 2 [.string (bs p.1), .int .u64 (p.2 : Int)] → Upd [b] H H' → K H') : storeN H b 0 0 K [.string (bs p.1), .int .u64 (p.2 : Int)] := by
  obtain ⟨x0, x1, rfl⟩ : ∃ a b, xs = [a, b] := by
    match xs, hl with
    | [a, b], _ => exact ⟨a, b, rfl⟩
  refine store_row h (v := .string (bs p.1)) rfl (i := 0) (by decide) (by rfl) fun H1 o1 u1 => ?_
  refine store_row o1 (v := .int .u64 (p.2 : Int)) rfl (i := 1) (by decide) (by rfl) fun H2 o2 u2 => ?_
  exact hk H2 o2 (u1.trans u2)
theorem store_ver {b : Nat} {x : VerA} {xs : List Value} {K : Heap → Prop} (h : OwnRow H 56 1 (some ⟨b, 0, none⟩) 4 4 xs) (hl : xs.length = 4)
    (hk : ∀ H', OwnRow H' 56 1 (some ⟨b, 0, none⟩) 4 4 x.cells → Upd [b] H H' → K H') : storeN H b 0 0 K x.cells := by
  obtain ⟨x0, x1, x2, x3, rfl⟩ : ∃ a b c d, xs = [a, b, c, d] := by
    match xs, hl with
    | [a, b, c, d], _ => exact ⟨a, b, c, d, rfl⟩
  refine store_row h (v := .string (bs x.v.key)) rfl (i := 0) (by decide) (by rfl) fun H1 o1 u1 => ?_
  refine store_row o1 (v := .int .u64 (x.v.id : Int)) rfl (i := 1) (by decide) (by rfl) fun H2 o2 u2 => ?_
  refine store_row o2 (v := .string (bs x.v.val)) rfl (i := 2) (by decide) (by rfl) fun H3 o3 u3 => ?_
  refine store_row o3 (v := .slice x.a x.v.ks.length x.c) rfl (i := 3) (by decide) (by rfl) fun H4 o4 u4 => ?_
  exact hk H4 o4 (((u1.trans u2).trans u3).trans u4)
structure NmInv (ps : List (Txt × Txt)) (H : Heap) (m : Nat) (vs : List Value) (H' : Heap) : Prop where
  ex : ∃ (i : Nat) (a : Option Addr) (c : Nat), vs = [.slice a i c, .int .i64 (i : Int)] ∧ m + i = ps.length ∧ Made H H' 9 1 a i c (txts ((ps.take i).map Prod.fst))
theorem names_t {a : Option Addr} {n c : Nat} {ps : List (Txt × Txt)} (hr : RowAt H a (pairsV ps)) (hl : ps.length = n) (hn : n ≤ 4398046510976)
    (hk : ∀ a' c' H', Made H H' 9 1 a' n c' (txts (ps.map Prod.fst)) → K (.slice a' n c') H') : HCalls Tryz.prog 62 [.slice a n c] H K := by
  refine hcalls (fn := Tryz.f62) [] mixed Tryz.func62 rfl rfl (by decide +kernel) ?_
  (repeat first | refine HReg.step ?_ | refine HCode.step ?_)
  refine hloopC [3, 5, 8, 9, 10, 11, 12, 13, 14, 15, 16, 17] [3, 8] (NmInv ps H) rfl (by repeat' first | exact Resp.retD | exact Resp1.valuesK | refine Resp.blockD ?_ | refine Resp.thenD ?_ ?_ | refine Resp.hcode ?_) ?_ ?_
  · exact ⟨ps.length, NmInv.mk ⟨0, none, 0, rfl, rfl, made_nil _ _ _⟩⟩
  rintro m _ fe H1 ⟨i, a1, c1, rfl, hmi, m1⟩
  (repeat first | refine HReg.step ?_ | refine HCode.step ?_)
  refine hif (fun h1 => ?_) (fun h1 => ?_)
  · have h1 := ltB_true.1 h1
    have w2 : wr .i64 ((i : Int) + 1) = ((i + 1 : Nat) : Int) := by rw [wr_i64 (by omega) (by omega)]; omega
    obtain ⟨p, hp⟩ : ∃ p, ps[i]? = some p := ⟨ps[i]'(by omega), by simp⟩
    have hr1 := hr.upd (S := []) m1.upd (.inr (Off.nil _))
    obtain ⟨ba, bo, rfl, _⟩ := hr _ _ (pairsV_get hp).1
    (repeat first | refine HReg.step ?_ | refine HCode.step ?_)
    refine HReq.mk ⟨by omega, by omega⟩ ?_
    (repeat first | refine HReg.step ?_ | refine HCode.step ?_)
    refine HLoadN_pair hr1 hp ?_
    (repeat first | refine HReg.step ?_ | refine HCode.step ?_)
    refine HNew.mk fun b hb => ?_
    (repeat first | refine HReg.step ?_ | refine HCode.step ?_)
    refine store_pair (p := p) (OwnRow.lit (upd_same _ _ _) rfl) rfl fun H2 o2 u2 => ?_
    have u12 : Upd [] H1 H2 := Upd.drop (Upd.new hb _) u2 (fun x hx => by rw [List.mem_singleton.1 hx]; exact hb)
    (repeat first | refine HReg.step ?_ | refine HCode.step ?_)
    refine HLoad.one (v := .string (bs p.1)) (by exact o2.rows.get (i := 0) rfl) ?_
    (repeat first | refine HReg.step ?_ | refine HCode.step ?_)
    refine HReq.mk (by decide) ?_
    (repeat first | refine HReg.step ?_ | refine HCode.step ?_)
    refine HNew.mk fun b3 hb3 => ?_
    have u3 : Upd [] H2 (H2.upd b3 (.cells [Value.string (bs p.1)].toArray 9)) := Upd.new hb3 _
    have r3 : RowAt (H2.upd b3 (.cells [Value.string (bs p.1)].toArray 9)) (some ⟨b3, 0, none⟩) (txts [p.1]) := RowAt.of_cells (upd_same _ _ _)
    generalize hH3 : H2.upd b3 (.cells [Value.string (bs p.1)].toArray 9) = H3 at u3 r3
    (repeat first | refine HReg.step ?_ | refine HCode.step ?_)
    refine app_textsZ (m1.step (u12.trans u3)) r3 rfl (by omega) fun a4 c4 H4 m4 => ?_
    (repeat first | refine HReg.step ?_ | refine HCode.step ?_)
    rw [w2]
    refine ⟨m - 1, by omega, NmInv.mk ⟨i + 1, a4, c4, rfl, by omega, ?_⟩⟩
    have e : (ps.take (i + 1)).map Prod.fst = (ps.take i).map Prod.fst ++ [p.1] := by rw [List.take_add_one, hp]; simp
    rw [e]; exact m4
  · have h1 := ltB_false.1 h1
    have hi : i = n := by omega
    subst hi
    rw [List.take_of_length_le (by omega)] at m1
    (repeat first | refine HReg.step ?_ | refine HCode.step ?_)
    exact hk a1 c1 H1 m1
theorem one_t {id : Nat} (hk : ∀ t : Bool, (t = true ↔ 65536 ≤ id) → K (.bool t) H) : HCalls Tryz.prog 42 [.int .u64 (id : Int)] H K := by
  refine hcalls (fn := Tryz.f42) [] mixed Tryz.func42 rfl rfl rfl ?_
  (repeat first | refine HReg.step ?_ | refine HCode.step ?_)
  refine hk _ ⟨fun h => ?_, fun h => ?_⟩
  · have := not_ltB_true.1 h; omega
  · exact not_ltB_true.2 (by omega)
theorem ordered_t {a : Option Addr} {n c : Nat} {l : List Txt} (hr : RowAt H a (txts l)) (hl : l.length = n) (hn : n ≤ 4000000000000000000)
    (hk : ∀ (t : Bool) H', (t = true ↔ Whole l) → Upd [] H H' → K (.bool t) H') : HCalls Tryz.prog 40 [.slice a n c] H K := by
  refine hcalls (fn := Tryz.f40) [] mixed Tryz.func40 rfl rfl (by decide +kernel) ?_
  (repeat first | refine HReg.step ?_ | refine HCode.step ?_)
  refine HCall.mk ⟨Tryz.f61, Tryz.func61, by rfl, by rfl⟩ ?_
  refine rising_t hr hl (by omega) fun t ht => ?_
  cases t with
  | false =>
    (repeat first | refine HReg.step ?_ | refine HCode.step ?_)
    refine hk false H ⟨fun h => (by cases h), fun h => ?_⟩ (Upd.refl _ _)
    exact ht.2 h.2
  | true =>
    have hri := ht.1 rfl
    (repeat first | refine HReg.step ?_ | refine HCode.step ?_)
    refine HCall.mk ⟨Tryz.f43, Tryz.func43, by rfl, by rfl⟩ ?_
    refine valid_t hr hl fun t2 H2 ht2 u2 => ?_
    (repeat first | refine HReg.step ?_ | refine HCode.step ?_)
    exact hk t2 H2 ⟨fun h => ⟨(ht2.1 h).1, hri⟩, fun h => ht2.2 ⟨h.1, by rw [hri.sorted]; exact hri⟩⟩ u2
structure PoInv (ps : List (Txt × Txt)) (ks : List Txt) (H : Heap) (m : Nat) (vs : List Value) (H' : Heap) : Prop where
  ex : ∃ i : Nat, vs = [.int .i64 (i : Int)] ∧ m + i = ps.length ∧ Upd [] H H' ∧ ∀ j p, j < i → ps[j]? = some p → (Rising ks ∧ p.1 ∈ ks) ∧ p.2.length ≤ 65535
theorem pairs_t {a b : Option Addr} {n c k d : Nat} {ps : List (Txt × Txt)} {ks : List Txt} (hr : RowAt H a (pairsV ps)) (hl : ps.length = n) (hn : n ≤ 4398046510976) (hrk : RowAt H b (txts ks)) (hlk : ks.length = k) (hnk : k ≤ 4000000000000000000)
    (hk : ∀ (t : Bool) H', (t = true ↔ (ps ≠ [] ∧ Rising (ps.map Prod.fst) ∧ ∀ p ∈ ps, (Rising ks ∧ p.1 ∈ ks) ∧ p.2.length ≤ 65535)) → Upd [] H H' → K (.bool t) H') : HCalls Tryz.prog 41 [.slice a n c, .slice b k d] H K := by
  refine hcalls (fn := Tryz.f41) [] mixed Tryz.func41 rfl rfl (by decide +kernel) ?_
  (repeat first | refine HReg.step ?_ | refine HCode.step ?_)
  refine HCall.mk ⟨Tryz.f62, Tryz.func62, by rfl, by rfl⟩ ?_
  refine names_t hr hl hn fun a1 c1 H1 m1 => ?_
  (repeat first | refine HReg.step ?_ | refine HCode.step ?_)
  refine hif (fun h1 => ?_) (fun h1 => ?_)
  · have h1 := ltB_true.1 h1
    (repeat first | refine HReg.step ?_ | refine HCode.step ?_)
    refine hk false H1 ⟨fun h => (by cases h), fun h => ?_⟩ m1.upd
    exact absurd (List.eq_nil_of_length_eq_zero (by omega)) h.1
  have h1 := ltB_false.1 h1
  have hne : ps ≠ [] := fun e => by rw [e] at hl; simp at hl; omega
  (repeat first | refine HReg.step ?_ | refine HCode.step ?_)
  refine HCall.mk ⟨Tryz.f61, Tryz.func61, by rfl, by rfl⟩ ?_
  refine rising_t m1.own.rows (by simp; omega) (by omega) fun t2 ht2 => ?_
  cases t2 with
  | false =>
    (repeat first | refine HReg.step ?_ | refine HCode.step ?_)
    refine hk false H1 ⟨fun h => (by cases h), fun h => ?_⟩ m1.upd
    exact ht2.2 h.2.1
  | true =>
    have hris := ht2.1 rfl
    (repeat first | refine HReg.step ?_ | refine HCode.step ?_)
    refine hloopC [4, 7, 20, 21, 22, 23, 24, 25, 26, 27, 28, 29, 30, 31, 32, 33, 34, 35] [20] (PoInv ps ks H1) rfl (by repeat' first | exact Resp.retD | exact Resp1.valuesK | refine Resp.blockD ?_ | refine Resp.thenD ?_ ?_ | refine Resp.hcode ?_) ?_ ?_
    · exact ⟨ps.length, PoInv.mk ⟨0, rfl, rfl, Upd.refl _ _, fun j p hj => by omega⟩⟩
    rintro m _ fe H4 ⟨i, rfl, hmi, u4, hall⟩
    have u14 := m1.upd.trans u4
    (repeat first | refine HReg.step ?_ | refine HCode.step ?_)
    refine hif (fun h5 => ?_) (fun h5 => ?_)
    · have h5 := ltB_true.1 h5
      have w2 : wr .i64 ((i : Int) + 1) = ((i + 1 : Nat) : Int) := by rw [wr_i64 (by omega) (by omega)]; omega
      obtain ⟨p, hp⟩ : ∃ p, ps[i]? = some p := ⟨ps[i]'(by omega), by simp⟩
      have hpm := List.mem_of_getElem? hp
      obtain ⟨ba, bo, rfl, _⟩ := hr _ _ (pairsV_get hp).1
      (repeat first | refine HReg.step ?_ | refine HCode.step ?_)
      refine HReq.mk ⟨by omega, by omega⟩ ?_
      (repeat first | refine HReg.step ?_ | refine HCode.step ?_)
      refine HLoadN_pair (hr.upd (S := []) u14 (.inr (Off.nil _))) hp ?_
      (repeat first | refine HReg.step ?_ | refine HCode.step ?_)
      refine HNew.mk fun b5 hb5 => ?_
      (repeat first | refine HReg.step ?_ | refine HCode.step ?_)
      refine store_pair (p := p) (OwnRow.lit (upd_same _ _ _) rfl) rfl fun H6 o6 u6 => ?_
      have u46 : Upd [] H4 H6 := Upd.drop (Upd.new hb5 _) u6 (fun x hx => by rw [List.mem_singleton.1 hx]; exact hb5)
      (repeat first | refine HReg.step ?_ | refine HCode.step ?_)
      refine HLoad.one (v := .string (bs p.2)) (by exact o6.rows.get (i := 1) rfl) ?_
      (repeat first | refine HReg.step ?_ | refine HCode.step ?_)
      rw [bs_size]
      refine hif (fun h8 => ?_) (fun h8 => ?_)
      · have h8 := ltB_true.1 h8
        (repeat first | refine HReg.step ?_ | refine HCode.step ?_)
        refine hk false H6 ⟨fun h => (by cases h), fun h => ?_⟩ (u14.trans u46)
        have := (h.2.2 p hpm).2; omega
      · have h8 := ltB_false.1 h8
        (repeat first | refine HReg.step ?_ | refine HCode.step ?_)
        refine HLoad.one (v := .string (bs p.1)) (by exact o6.rows.get (i := 0) rfl) ?_
        (repeat first | refine HReg.step ?_ | refine HCode.step ?_)
        refine HCall.mk ⟨Tryz.f63, Tryz.func63, by rfl, by rfl⟩ ?_
        refine Has_t (hrk.upd (S := []) (u14.trans u46) (.inr (Off.nil _))) hlk hnk fun t7 ht7 => ?_
        cases t7 with
        | false =>
          (repeat first | refine HReg.step ?_ | refine HCode.step ?_)
          refine hk false H6 ⟨fun h => (by cases h), fun h => ?_⟩ (u14.trans u46)
          exact ht7.2 (h.2.2 p hpm).1
        | true =>
          have hin := ht7.1 rfl
          (repeat first | refine HReg.step ?_ | refine HCode.step ?_)
          rw [w2]
          refine ⟨m - 1, by omega, PoInv.mk ⟨i + 1, rfl, by omega, u4.trans u46, fun j q hj hq => ?_⟩⟩
          by_cases e : j = i
          · subst e; rw [hp] at hq; cases hq; exact ⟨hin, by omega⟩
          · exact hall j q (by omega) hq
    · have h5 := ltB_false.1 h5
      (repeat first | refine HReg.step ?_ | refine HCode.step ?_)
      refine hk true H4 ⟨fun _ => ⟨hne, hris, fun p hpm => ?_⟩, fun _ => rfl⟩ u14
      obtain ⟨j, hj⟩ := List.getElem?_of_mem hpm
      have := (List.getElem?_eq_some_iff.1 hj).1
      exact hall j p (by omega) hj
structure WaInv (ws : List (Txt × Nat)) (H : Heap) (m : Nat) (vs : List Value) (H' : Heap) : Prop where
  ex : ∃ (i : Nat) (a : Option Addr) (c : Nat), vs = [.slice a i c, .int .i64 (i : Int)] ∧ m + i = ws.length ∧ Made H H' 9 1 a i c (txts ((ws.take i).map Prod.fst)) ∧ ∀ j w, j < i → ws[j]? = some w → 65536 ≤ w.2
theorem wants_t {a : Option Addr} {n c : Nat} {ws : List (Txt × Nat)} (hr : RowAt H a (wantsV ws)) (hl : ws.length = n) (hn : n ≤ 8796093021952)
    (hk : ∀ (t : Bool) H', (t = true ↔ WantsOk ws) → Upd [] H H' → K (.bool t) H') : HCalls Tryz.prog 44 [.slice a n c] H K := by
  refine hcalls (fn := Tryz.f44) [] mixed Tryz.func44 rfl rfl (by decide +kernel) ?_
  (repeat first | refine HReg.step ?_ | refine HCode.step ?_)
  refine hloopC [2, 3, 5, 8, 9, 10, 11, 12, 13, 14, 15, 16, 17, 18, 19, 20, 21] [3, 8] (WaInv ws H) rfl (by repeat' first | exact Resp.retD | exact Resp1.valuesK | refine Resp.blockD ?_ | refine Resp.thenD ?_ ?_ | refine Resp.hcode ?_) ?_ ?_
  · exact ⟨ws.length, WaInv.mk ⟨0, none, 0, rfl, rfl, made_nil _ _ _, fun j w hj => by omega⟩⟩
  rintro m _ fe H1 ⟨i, a1, c1, rfl, hmi, m1, hall⟩
  (repeat first | refine HReg.step ?_ | refine HCode.step ?_)
  refine hif (fun h1 => ?_) (fun h1 => ?_)
  · have h1 := ltB_true.1 h1
    have w2 : wr .i64 ((i : Int) + 1) = ((i + 1 : Nat) : Int) := by rw [wr_i64 (by omega) (by omega)]; omega
    obtain ⟨p, hp⟩ : ∃ p, ws[i]? = some p := ⟨ws[i]'(by omega), by simp⟩
    have hr1 := hr.upd (S := []) m1.upd (.inr (Off.nil _))
    obtain ⟨ba, bo, rfl, _⟩ := hr _ _ (wantsV_get hp).1
    (repeat first | refine HReg.step ?_ | refine HCode.step ?_)
    refine HReq.mk ⟨by omega, by omega⟩ ?_
    (repeat first | refine HReg.step ?_ | refine HCode.step ?_)
    refine HLoadN_want hr1 hp ?_
    (repeat first | refine HReg.step ?_ | refine HCode.step ?_)
    refine HNew.mk fun b hb => ?_
    (repeat first | refine HReg.step ?_ | refine HCode.step ?_)
    refine store_want (p := p) (OwnRow.lit (upd_same _ _ _) rfl) rfl fun H2 o2 u2 => ?_
    have u12 : Upd [] H1 H2 := Upd.drop (Upd.new hb _) u2 (fun x hx => by rw [List.mem_singleton.1 hx]; exact hb)
    (repeat first | refine HReg.step ?_ | refine HCode.step ?_)
    refine HLoad.one (v := .int .u64 (p.2 : Int)) (by exact o2.rows.get (i := 1) rfl) ?_
    (repeat first | refine HReg.step ?_ | refine HCode.step ?_)
    refine HCall.mk ⟨Tryz.f42, Tryz.func42, by rfl, by rfl⟩ ?_
    refine one_t fun t ht => ?_
    cases t with
    | false =>
      (repeat first | refine HReg.step ?_ | refine HCode.step ?_)
      refine hk false H2 ⟨fun h => (by cases h), fun h => ?_⟩ (m1.upd.trans u12)
      exact ht.2 (h.1 p (List.mem_of_getElem? hp))
    | true =>
      have hid := ht.1 rfl
      (repeat first | refine HReg.step ?_ | refine HCode.step ?_)
      refine HLoad.one (v := .string (bs p.1)) (by exact o2.rows.get (i := 0) rfl) ?_
      (repeat first | refine HReg.step ?_ | refine HCode.step ?_)
      refine HReq.mk (by decide) ?_
      (repeat first | refine HReg.step ?_ | refine HCode.step ?_)
      refine HNew.mk fun b3 hb3 => ?_
      have u3 : Upd [] H2 (H2.upd b3 (.cells [Value.string (bs p.1)].toArray 9)) := Upd.new hb3 _
      have r3 : RowAt (H2.upd b3 (.cells [Value.string (bs p.1)].toArray 9)) (some ⟨b3, 0, none⟩) (txts [p.1]) := RowAt.of_cells (upd_same _ _ _)
      generalize hH3 : H2.upd b3 (.cells [Value.string (bs p.1)].toArray 9) = H3 at u3 r3
      (repeat first | refine HReg.step ?_ | refine HCode.step ?_)
      refine app_textsZ (m1.step (u12.trans u3)) r3 rfl (by omega) fun a4 c4 H4 m4 => ?_
      (repeat first | refine HReg.step ?_ | refine HCode.step ?_)
      rw [w2]
      refine ⟨m - 1, by omega, WaInv.mk ⟨i + 1, a4, c4, rfl, by omega, ?_, fun j q hj hq => ?_⟩⟩
      · have e : (ws.take (i + 1)).map Prod.fst = (ws.take i).map Prod.fst ++ [p.1] := by rw [List.take_add_one, hp]; simp
        rw [e]; exact m4
      · by_cases e : j = i
        · subst e; rw [hp] at hq; cases hq; exact hid
        · exact hall j q (by omega) hq
  · have h1 := ltB_false.1 h1
    have hi : i = n := by omega
    subst hi
    rw [List.take_of_length_le (by omega)] at m1
    (repeat first | refine HReg.step ?_ | refine HCode.step ?_)
    refine HCall.mk ⟨Tryz.f43, Tryz.func43, by rfl, by rfl⟩ ?_
    refine valid_t m1.own.rows (by simp; omega) fun t2 H2 ht2 u2 => ?_
    (repeat first | refine HReg.step ?_ | refine HCode.step ?_)
    refine hk t2 H2 ⟨fun h => ⟨fun w hw => ?_, ht2.1 h⟩, fun h => ht2.2 h.2⟩ (m1.upd.trans u2)
    obtain ⟨j, hj⟩ := List.getElem?_of_mem hw
    have := (List.getElem?_eq_some_iff.1 hj).1
    exact hall j w (by omega) hj
end
end Go.Proofs.YtlgncabjphokjaaGreat
