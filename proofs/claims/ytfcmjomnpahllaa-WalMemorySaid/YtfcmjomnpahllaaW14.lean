import Derived.Test.YtfcmjomnpahllaaW13
namespace Go.Proofs.Ytfcmjomnpahllaa
open Go Hv
set_option linter.unusedVariables false
set_option linter.unusedSimpArgs false
set_option maxRecDepth 10000
set_option maxHeartbeats 4000000
/-! WalMemory: two lists of records, their first records' lists written over and lengthened. -/
structure Sm where
  q : PRec
  ra : Option Addr
  rn : Nat
  rc : Nat
  rest : List Value
def Sm.row (m : Sm) : Slot := ⟨28, 4, m.ra, m.rn, m.rc, m.q.cells ++ m.rest⟩
def Sm.pairs (m : Sm) : Slot := ⟨50, 2, m.q.ap, m.q.r.ps.length, m.q.cp, pairsV m.q.r.ps⟩
def Sm.keys (m : Sm) : Slot := ⟨9, 1, m.q.ak, m.q.r.ks.length, m.q.ck, txts m.q.r.ks⟩
def Sm.sl (m : Sm) : Value := .slice m.ra m.rn m.rc
def allS (g : Nat) (x y : Sm) : Slot := ⟨22, 1, some ⟨g, 0, none⟩, 2, 2, [x.sl, y.sl]⟩
def slts (g : Nat) (ms : Nat → Sm) (tail : List Slot) : List Slot := allS g (ms 0) (ms 1) :: (ms 0).row :: (ms 0).pairs :: (ms 0).keys :: (ms 1).row :: (ms 1).pairs :: (ms 1).keys :: tail
def upM (ms : Nat → Sm) (i : Nat) (m : Sm) : Nat → Sm := fun j => if j = i then m else ms j
theorem upM_self (ms : Nat → Sm) (i : Nat) (m : Sm) : upM ms i m i = m := if_pos rfl
theorem upM_ne {ms : Nat → Sm} {i j : Nat} {m : Sm} (h : j ≠ i) : upM ms i m j = ms j := if_neg h
section
variable {g i : Nat} {ms : Nat → Sm} {tail : List Slot} {m : Sm}
theorem lt2 (hi : i < 2) : i = 0 ∨ i = 1 := by omega
theorem slts_all : (slts g ms tail)[0]? = some (allS g (ms 0) (ms 1)) := rfl
theorem all_at (hi : i < 2) : (allS g (ms 0) (ms 1)).xs[i]? = some (ms i).sl := by rcases lt2 hi with rfl | rfl <;> rfl
theorem slts_row (hi : i < 2) : (slts g ms tail)[1 + 3 * i]? = some (ms i).row := by rcases lt2 hi with rfl | rfl <;> rfl
theorem slts_pairs (hi : i < 2) : (slts g ms tail)[2 + 3 * i]? = some (ms i).pairs := by rcases lt2 hi with rfl | rfl <;> rfl
theorem slts_keys (hi : i < 2) : (slts g ms tail)[3 + 3 * i]? = some (ms i).keys := by rcases lt2 hi with rfl | rfl <;> rfl
theorem slts_tail {j : Nat} : (slts g ms tail)[7 + j]? = tail[j]? := by
  rw [Nat.add_comm]; rfl
theorem slts_eq {ms' : Nat → Sm} (h0 : ms 0 = ms' 0) (h1 : ms 1 = ms' 1) : slts g ms tail = slts g ms' tail := by unfold slts; rw [h0, h1]
theorem set_keys (hi : i < 2) (hr : m.row = (ms i).row) (hp : m.pairs = (ms i).pairs) (hs : m.sl = (ms i).sl) : (slts g ms tail).set (3 + 3 * i) m.keys = slts g (upM ms i m) tail := by
  rcases lt2 hi with rfl | rfl
  · unfold slts allS
    rw [upM_self, upM_ne (by decide), hr, hp, hs]; rfl
  · unfold slts allS
    rw [upM_self, upM_ne (by decide), hr, hp, hs]; rfl
theorem set_pairs (hi : i < 2) (hr : m.row = (ms i).row) (hp : m.keys = (ms i).keys) (hs : m.sl = (ms i).sl) : (slts g ms tail).set (2 + 3 * i) m.pairs = slts g (upM ms i m) tail := by
  rcases lt2 hi with rfl | rfl
  · unfold slts allS
    rw [upM_self, upM_ne (by decide), hr, hp, hs]; rfl
  · unfold slts allS
    rw [upM_self, upM_ne (by decide), hr, hp, hs]; rfl
theorem set_keys_row (hi : i < 2) (hp : m.pairs = (ms i).pairs) (hs : m.sl = (ms i).sl) : ((slts g ms tail).set (3 + 3 * i) m.keys).set (1 + 3 * i) m.row = slts g (upM ms i m) tail := by
  rcases lt2 hi with rfl | rfl
  · unfold slts allS
    rw [upM_self, upM_ne (by decide), hp, hs]; rfl
  · unfold slts allS
    rw [upM_self, upM_ne (by decide), hp, hs]; rfl
theorem set_pairs_row (hi : i < 2) (hp : m.keys = (ms i).keys) (hs : m.sl = (ms i).sl) : ((slts g ms tail).set (2 + 3 * i) m.pairs).set (1 + 3 * i) m.row = slts g (upM ms i m) tail := by
  rcases lt2 hi with rfl | rfl
  · unfold slts allS
    rw [upM_self, upM_ne (by decide), hp, hs]; rfl
  · unfold slts allS
    rw [upM_self, upM_ne (by decide), hp, hs]; rfl
theorem set_row_all (hi : i < 2) (hp : m.pairs = (ms i).pairs) (hk : m.keys = (ms i).keys) : ((slts g ms tail).set (1 + 3 * i) m.row).set 0 { allS g (ms 0) (ms 1) with xs := (allS g (ms 0) (ms 1)).xs.set i m.sl } = slts g (upM ms i m) tail := by
  rcases lt2 hi with rfl | rfl
  · unfold slts allS
    rw [upM_self, upM_ne (by decide), hp, hk]; rfl
  · unfold slts allS
    rw [upM_self, upM_ne (by decide), hp, hk]; rfl
end
/-- What stands beside the disk. -/
structure Wm (L : Heap) (g r : Nat) (s : St) (fl : List Fl) (ga : Nat) (tail : List Slot) (ms : Nat → Sm) (H : Heap) : Prop where
  D : DiskAt eH H g r s fl
  S : Slots L (dblk g r fl) H (slts ga ms tail)
section
variable {L H H' : Heap} {g r ga i : Nat} {s : St} {fl : List Fl} {tail : List Slot} {ms : Nat → Sm}
theorem Wm.live (w : Wm L g r s fl ga tail ms H) : ∀ b ∈ dblk g r fl, H b ≠ none := w.D.phys.live
theorem Wm.upd0 (w : Wm L g r s fl ga tail ms H) (u : Upd [] H H') : Wm L g r s fl ga tail ms H' := ⟨w.D.upd0 u, w.S.upd0 u⟩
theorem Wm.all (w : Wm L g r s fl ga tail ms H) (hi : i < 2) : H.cell? ⟨ga, 0 + i, none⟩ = some (ms i).sl := (w.S.get slts_all).rows.get (all_at hi)
theorem Wm.row (w : Wm L g r s fl ga tail ms H) (hi : i < 2) : OwnRow H 28 4 (ms i).ra (ms i).rn (ms i).rc ((ms i).q.cells ++ (ms i).rest) := w.S.get (slts_row hi)
theorem Wm.pairs (w : Wm L g r s fl ga tail ms H) (hi : i < 2) : OwnRow H 50 2 (ms i).q.ap (ms i).q.r.ps.length (ms i).q.cp (pairsV (ms i).q.r.ps) := w.S.get (slts_pairs hi)
theorem Wm.keys (w : Wm L g r s fl ga tail ms H) (hi : i < 2) : OwnRow H 9 1 (ms i).q.ak (ms i).q.r.ks.length (ms i).q.ck (txts (ms i).q.r.ks) := w.S.get (slts_keys hi)
/-- A cell of a first record. -/
theorem Wm.cell (w : Wm L g r s fl ga tail ms H) (hi : i < 2) {b : Nat} (hb : (ms i).ra = some ⟨b, 0, none⟩) {j : Nat} {v : Value} (hv : (ms i).q.cells[j]? = some v) : H.cell? ⟨b, 0 + j, none⟩ = some v := by
  have o := (w.row hi).rows
  rw [hb] at o
  refine o.get ?_
  rw [List.getElem?_append_left (List.getElem?_eq_some_iff.1 hv).1]; exact hv
theorem Wm.store {K : Heap → Prop} {ss : List Slot} {k j b : Nat} {sl : Slot} {v : Value} (D : DiskAt eH H g r s fl) (S : Slots L (dblk g r fl) H ss) (hs : ss[i]? = some sl) (ha : sl.a = some ⟨b, 0, none⟩) (hv : Value.plain v = true) (hk : k < sl.xs.length) (hj : j = k)
    (hK : ∀ H', DiskAt eH H' g r s fl → Slots L (dblk g r fl) H' (ss.set i { sl with xs := sl.xs.set k v }) → K H') : HStore H ⟨b, j, none⟩ v K :=
  S.store hs ha hv hk hj fun H' S' u hb hL => hK H' (D.upd u (fun b' hb' => by rw [List.mem_singleton.1 hb']; exact hb) (fun _ _ => rfl)) S'
theorem txts_set' (l : List Txt) (k : Nat) (s : Txt) : txts (l.set k s) = (txts l).set k (.string (bs s)) := by
  unfold txts; rw [List.map_set]
theorem pairsV_setv : ∀ (l : List (Txt × Txt)) (k : Nat) (p : Txt × Txt) (v : Txt), l[k]? = some p → pairsV (l.set k (p.1, v)) = (pairsV l).set (k * 2 + 1) (.string (bs v))
  | [], k, p, v, h => by simp at h
  | q :: l, 0, p, v, h => by simp at h; subst h; rfl
  | q :: l, k + 1, p, v, h => by
    have e1 : (k + 1) * 2 + 1 = k * 2 + 1 + 1 + 1 := by omega
    rw [List.set_cons_succ, pairsV, pairsV_setv l k p v (by simpa using h), e1]
    rfl
def Sm.setK (m : Sm) (k : Nat) (t : Txt) : Sm := { m with q := { m.q with r := { m.q.r with ks := m.q.r.ks.set k t } } }
def Sm.setP (m : Sm) (k : Nat) (p : Txt × Txt) : Sm := { m with q := { m.q with r := { m.q.r with ps := m.q.r.ps.set k p } } }
theorem Wm.storeK {K : Heap → Prop} {b j k : Nat} {t : Txt} (w : Wm L g r s fl ga tail ms H) (hi : i < 2) (ha : (ms i).q.ak = some ⟨b, 0, none⟩) (hk : k < (ms i).q.r.ks.length) (hj : j = k)
    (hK : ∀ H', Wm L g r s fl ga tail (upM ms i ((ms i).setK k t)) H' → K H') : HStore H ⟨b, j, none⟩ (.string (bs t)) K := by
  refine Wm.store w.D w.S (slts_keys hi) ha rfl (k := k) (by show k < (txts _).length; rw [txts_length]; exact hk) hj fun H' D S => hK H' ⟨D, ?_⟩
  have e : ({ (ms i).keys with xs := (ms i).keys.xs.set k (.string (bs t)) } : Slot) = ((ms i).setK k t).keys := by
    unfold Sm.keys Sm.setK
    simp only [List.length_set, txts_set']
  rw [e, set_keys hi] at S
  · exact S
  · unfold Sm.row Sm.setK PRec.cells rcells
    simp only [List.length_set]
  · rfl
  · rfl
theorem Wm.storeV {K : Heap → Prop} {b j k : Nat} {p : Txt × Txt} {t : Txt} (w : Wm L g r s fl ga tail ms H) (hi : i < 2) (ha : (ms i).q.ap = some ⟨b, 0, none⟩) (hk : (ms i).q.r.ps[k]? = some p) (hj : j = k * 2 + 1)
    (hK : ∀ H', Wm L g r s fl ga tail (upM ms i ((ms i).setP k (p.1, t))) H' → K H') : HStore H ⟨b, j, none⟩ (.string (bs t)) K := by
  have hkl := (List.getElem?_eq_some_iff.1 hk).1
  refine Wm.store w.D w.S (slts_pairs hi) ha rfl (k := k * 2 + 1) (by show _ < (pairsV _).length; rw [pairsV_length]; omega) hj fun H' D S => hK H' ⟨D, ?_⟩
  have e : ({ (ms i).pairs with xs := (ms i).pairs.xs.set (k * 2 + 1) (.string (bs t)) } : Slot) = ((ms i).setP k (p.1, t)).pairs := by
    unfold Sm.pairs Sm.setP
    simp only [List.length_set, pairsV_setv _ _ _ _ hk]
  rw [e, set_pairs hi] at S
  · exact S
  · unfold Sm.row Sm.setP PRec.cells rcells
    simp only [List.length_set]
  · rfl
  · rfl
end
def Sm.addK (m : Sm) (t : Txt) (a : Option Addr) (c : Nat) : Sm := { m with q := { m.q with r := { m.q.r with ks := m.q.r.ks ++ [t] }, ak := a, ck := c } }
def Sm.addP (m : Sm) (t : Txt × Txt) (a : Option Addr) (c : Nat) : Sm := { m with q := { m.q with r := { m.q.r with ps := m.q.r.ps ++ [t] }, ap := a, cp := c } }
section
variable {L H H' : Heap} {g r ga i : Nat} {s : St} {fl : List Fl} {tail : List Slot} {ms : Nat → Sm}
/-- A list of a first record, lengthened: the record is not changed yet. -/
theorem Wm.appK {K : Value → Heap → Prop} {b : Option Addr} {c : Nat} {t : Txt} (w : Wm L g r s fl ga tail ms H) (hi : i < 2) (hy : RowAt H b (txts [t])) (hb : (ms i).q.r.ks.length ≤ 1000000) (hr : 0 < (ms i).rn)
    (hK : ∀ a' c' H', H'.cell? ⟨ga, 0 + i, none⟩ = some (ms i).sl → (∀ (K' : Heap → Prop) (br : Nat), (ms i).ra = some ⟨br, 0, none⟩ → (∀ H2, Wm L g r s fl ga tail (upM ms i ((ms i).addK t a' c')) H2 → K' H2) → HStore H' ⟨br, 0 + 3, none⟩ (.slice a' ((ms i).q.r.ks.length + 1) c') K') → K (.slice a' ((ms i).q.r.ks.length + 1) c') H') :
    HSem Try.prog (Builtin.append_ #[26, 26] 26 [.slice (ms i).q.ak (ms i).q.r.ks.length (ms i).q.ck, .slice b 1 c].toArray) H K := by
  refine Slots.append (ie := Try.t9) (z := .string ⟨#[]⟩) (xs := txts (ms i).q.r.ks) (ys := txts [t]) w.live Try.underlying26 rfl rfl rfl (by decide) w.S (slts_keys hi) hy rfl (plain_txts _) (by show ((ms i).q.r.ks.length + 1) * 16 ≤ _; omega) (by omega) fun a' c' H' S u off => ?_
  have D := w.D.upd u (fun b' hb' => (off b' hb').1) (fun _ _ => rfl)
  have e : (⟨9, 1, a', (ms i).q.r.ks.length + 1, c', txts (ms i).q.r.ks ++ txts [t]⟩ : Slot) = ((ms i).addK t a' c').keys := by
    unfold Sm.keys Sm.addK
    simp only [List.length_append, List.length_singleton, txts_append]
  have S2 : Slots L (dblk g r fl) H' ((slts ga ms tail).set (3 + 3 * i) ((ms i).addK t a' c').keys) := by rw [← e]; exact S
  have hall : ((slts ga ms tail).set (3 + 3 * i) ((ms i).addK t a' c').keys)[0]? = some (allS ga (ms 0) (ms 1)) := by
    rw [List.getElem?_set_ne (by omega)]; exact slts_all
  refine hK a' c' H' ((S2.get hall).rows.get (all_at hi)) fun K' br hbr hk' => ?_
  have hrow : ((slts ga ms tail).set (3 + 3 * i) ((ms i).addK t a' c').keys)[1 + 3 * i]? = some (ms i).row := by
    rw [List.getElem?_set_ne (by omega)]; exact slts_row hi
  refine Wm.store D S2 hrow hbr rfl (k := 3) (by show 3 < (rcells _ _ _ _ _ ++ _).length; simp [rcells]) (by omega) fun H2 D2 S3 => hk' H2 ⟨D2, ?_⟩
  have e2 : ({ (ms i).row with xs := (ms i).row.xs.set 3 (.slice a' ((ms i).q.r.ks.length + 1) c') } : Slot) = ((ms i).addK t a' c').row := by
    unfold Sm.row Sm.addK PRec.cells rcells
    simp only [List.length_append, List.length_singleton]
    rfl
  rw [e2, set_keys_row hi] at S3
  · exact S3
  · rfl
  · rfl
theorem Wm.appP {K : Value → Heap → Prop} {b : Option Addr} {c : Nat} {t : Txt × Txt} (w : Wm L g r s fl ga tail ms H) (hi : i < 2) (hy : RowAt H b (pairsV [t])) (hb : (ms i).q.r.ps.length ≤ 1000000) (hr : 0 < (ms i).rn)
    (hK : ∀ a' c' H', H'.cell? ⟨ga, 0 + i, none⟩ = some (ms i).sl → (∀ (K' : Heap → Prop) (br : Nat), (ms i).ra = some ⟨br, 0, none⟩ → (∀ H2, Wm L g r s fl ga tail (upM ms i ((ms i).addP t a' c')) H2 → K' H2) → HStore H' ⟨br, 0 + 2, none⟩ (.slice a' ((ms i).q.r.ps.length + 1) c') K') → K (.slice a' ((ms i).q.r.ps.length + 1) c') H') :
    HSem Try.prog (Builtin.append_ #[25, 25] 25 [.slice (ms i).q.ap (ms i).q.r.ps.length (ms i).q.cp, .slice b 1 c].toArray) H K := by
  refine Slots.append (ie := Try.t50) (z := .agg #[.string ⟨#[]⟩, .string ⟨#[]⟩]) (xs := pairsV (ms i).q.r.ps) (ys := pairsV [t]) w.live Try.underlying25 rfl rfl rfl (by decide) w.S (slts_pairs hi) hy rfl (plain_pairs _) (by show ((ms i).q.r.ps.length + 1) * 32 ≤ _; omega) (by omega) fun a' c' H' S u off => ?_
  have D := w.D.upd u (fun b' hb' => (off b' hb').1) (fun _ _ => rfl)
  have e : (⟨50, 2, a', (ms i).q.r.ps.length + 1, c', pairsV (ms i).q.r.ps ++ pairsV [t]⟩ : Slot) = ((ms i).addP t a' c').pairs := by
    unfold Sm.pairs Sm.addP
    simp only [List.length_append, List.length_singleton, pairsV_append]
  have S2 : Slots L (dblk g r fl) H' ((slts ga ms tail).set (2 + 3 * i) ((ms i).addP t a' c').pairs) := by rw [← e]; exact S
  have hall : ((slts ga ms tail).set (2 + 3 * i) ((ms i).addP t a' c').pairs)[0]? = some (allS ga (ms 0) (ms 1)) := by
    rw [List.getElem?_set_ne (by omega)]; exact slts_all
  refine hK a' c' H' ((S2.get hall).rows.get (all_at hi)) fun K' br hbr hk' => ?_
  have hrow : ((slts ga ms tail).set (2 + 3 * i) ((ms i).addP t a' c').pairs)[1 + 3 * i]? = some (ms i).row := by
    rw [List.getElem?_set_ne (by omega)]; exact slts_row hi
  refine Wm.store D S2 hrow hbr rfl (k := 2) (by show 2 < (rcells _ _ _ _ _ ++ _).length; simp [rcells]) (by omega) fun H2 D2 S3 => hk' H2 ⟨D2, ?_⟩
  have e2 : ({ (ms i).row with xs := (ms i).row.xs.set 2 (.slice a' ((ms i).q.r.ps.length + 1) c') } : Slot) = ((ms i).addP t a' c').row := by
    unfold Sm.row Sm.addP PRec.cells rcells
    simp only [List.length_append, List.length_singleton]
    rfl
  rw [e2, set_pairs_row hi] at S3
  · exact S3
  · rfl
  · rfl
def Sm.addR (m : Sm) (n : Nat) (vs : List Value) (a : Option Addr) (c : Nat) : Sm := { m with ra := a, rn := m.rn + n, rc := c, rest := m.rest ++ vs }
/-- A list of records, lengthened. -/
theorem Wm.appR {K : Value → Heap → Prop} {b : Option Addr} {c n : Nat} {ys : List PRec} (w : Wm L g r s fl ga tail ms H) (hi : i < 2) (hy : RowAt H b (recsV ys)) (hn : ys.length = n) (hb : (ms i).rn + n ≤ 1000000)
    (hK : ∀ a' c' H', H'.cell? ⟨ga, 0 + i, none⟩ = some (ms i).sl → (∀ (K' : Heap → Prop), (∀ H2, Wm L g r s fl ga tail (upM ms i ((ms i).addR n (recsV ys) a' c')) H2 → K' H2) → HStore H' ⟨ga, 0 + i, none⟩ (.slice a' ((ms i).rn + n) c') K') → K (.slice a' ((ms i).rn + n) c') H') :
    HSem Try.prog (Builtin.append_ #[22, 22] 22 [.slice (ms i).ra (ms i).rn (ms i).rc, .slice b n c].toArray) H K := by
  refine Slots.append (ie := Try.t28) (z := .agg #[.int .i64 0, .int .u64 0, .slice none 0 0, .slice none 0 0]) (xs := (ms i).q.cells ++ (ms i).rest) (ys := recsV ys) w.live Try.underlying22 rfl rfl rfl (by decide) w.S (slts_row hi) hy (by rw [recsV_length, hn]; rfl) (plain_recs _) (by show ((ms i).rn + n) * 64 ≤ _; omega) (by omega) fun a' c' H' S u off => ?_
  have D := w.D.upd u (fun b' hb' => (off b' hb').1) (fun _ _ => rfl)
  have e : (⟨28, 4, a', (ms i).rn + n, c', (ms i).q.cells ++ (ms i).rest ++ recsV ys⟩ : Slot) = ((ms i).addR n (recsV ys) a' c').row := by
    unfold Sm.row Sm.addR
    simp only [List.append_assoc]
  have S2 : Slots L (dblk g r fl) H' ((slts ga ms tail).set (1 + 3 * i) ((ms i).addR n (recsV ys) a' c').row) := by rw [← e]; exact S
  have hall : ((slts ga ms tail).set (1 + 3 * i) ((ms i).addR n (recsV ys) a' c').row)[0]? = some (allS ga (ms 0) (ms 1)) := by
    rw [List.getElem?_set_ne (by omega)]; exact slts_all
  refine hK a' c' H' ((S2.get hall).rows.get (all_at hi)) fun K' hk' => ?_
  refine Wm.store D S2 hall rfl rfl (k := i) (by exact hi) (by omega) fun H2 D2 S3 => hk' H2 ⟨D2, ?_⟩
  have e3 : (.slice a' ((ms i).rn + n) c' : Value) = ((ms i).addR n (recsV ys) a' c').sl := rfl
  rw [e3, set_row_all hi] at S3
  · exact S3
  · rfl
  · rfl
end
/-! The marks. -/
def Tm (n j : Nat) : Txt := [UInt8.ofNat (n + j)]
structure Md (q : PRec) (j u v k p : Nat) : Prop where
  lk : q.r.ks.length = 2 + k
  lp : q.r.ps.length = 2 + p
  hk : ∀ y, y < u → y < 2 → q.r.ks[y]? = some (Tm 33 j)
  hp : ∀ y, y < v → y < 2 → ∃ x, q.r.ps[y]? = some (x, Tm 33 j)
  tk : ∀ y, 2 ≤ y → y < 2 + k → q.r.ks[y]? = some (Tm 97 j)
  tp : ∀ y, 2 ≤ y → y < 2 + p → q.r.ps[y]? = some (Tm 97 j, [])
section
variable {m : Sm} {j u v k p : Nat}
theorem Md.setK (d : Md m.q j u v k p) (hu : u < 2) : Md (m.setK u (Tm 33 j)).q j (u + 1) v k p := by
  refine ⟨by show (m.q.r.ks.set _ _).length = _; rw [List.length_set]; exact d.lk, d.lp, fun y h1 h2 => ?_, d.hp, fun y h1 h2 => ?_, d.tp⟩
  · show (m.q.r.ks.set u (Tm 33 j))[y]? = _
    rw [List.getElem?_set]
    split
    · rw [if_pos (by have := d.lk; omega)]
    · exact d.hk y (by omega) h2
  · show (m.q.r.ks.set u (Tm 33 j))[y]? = _
    rw [List.getElem?_set_ne (by omega)]; exact d.tk y h1 h2
theorem Md.setP (d : Md m.q j u v k p) (hv : v < 2) {x : Txt} : Md (m.setP v (x, Tm 33 j)).q j u (v + 1) k p := by
  refine ⟨d.lk, by show (m.q.r.ps.set _ _).length = _; rw [List.length_set]; exact d.lp, d.hk, fun y h1 h2 => ?_, d.tk, fun y h1 h2 => ?_⟩
  · show ∃ z, (m.q.r.ps.set v (x, Tm 33 j))[y]? = some (z, Tm 33 j)
    rw [List.getElem?_set]
    split
    · rw [if_pos (by have := d.lp; omega)]
      exact ⟨x, rfl⟩
    · exact d.hp y (by omega) h2
  · show (m.q.r.ps.set v (x, Tm 33 j))[y]? = _
    rw [List.getElem?_set_ne (by omega)]; exact d.tp y h1 h2
theorem Md.addK (d : Md m.q j u v k p) {a : Option Addr} {c : Nat} : Md (m.addK (Tm 97 j) a c).q j u v (k + 1) p := by
  have hl := d.lk
  refine ⟨by show (m.q.r.ks ++ [_]).length = _; rw [List.length_append, hl]; rfl, d.lp, fun y h1 h2 => ?_, d.hp, fun y h1 h2 => ?_, d.tp⟩
  · show (m.q.r.ks ++ [Tm 97 j])[y]? = _
    rw [List.getElem?_append_left (by omega)]; exact d.hk y h1 h2
  · show (m.q.r.ks ++ [Tm 97 j])[y]? = _
    by_cases h : y < 2 + k
    · rw [List.getElem?_append_left (by omega)]; exact d.tk y h1 h
    · rw [List.getElem?_append_right (by omega), show y - m.q.r.ks.length = 0 by omega]; rfl
theorem Md.addP (d : Md m.q j u v k p) {a : Option Addr} {c : Nat} : Md (m.addP (Tm 97 j, []) a c).q j u v k (p + 1) := by
  have hl := d.lp
  refine ⟨d.lk, by show (m.q.r.ps ++ [_]).length = _; rw [List.length_append, hl]; rfl, d.hk, fun y h1 h2 => ?_, d.tk, fun y h1 h2 => ?_⟩
  · show ∃ z, (m.q.r.ps ++ [(Tm 97 j, [])])[y]? = some (z, Tm 33 j)
    rw [List.getElem?_append_left (by omega)]; exact d.hp y h1 h2
  · show (m.q.r.ps ++ [(Tm 97 j, [])])[y]? = _
    by_cases h : y < 2 + p
    · rw [List.getElem?_append_left (by omega)]; exact d.tp y h1 h
    · rw [List.getElem?_append_right (by omega), show y - m.q.r.ps.length = 0 by omega]; rfl
end
/-- The records behind the first one: commit 9, and, at the end, two more. -/
def Rst (m : Sm) (j : Nat) (b : Bool) : Prop := ∃ ap cp ak ck, m.rest = recsV (⟨commitR 9, ap, cp, ak, ck⟩ :: (if b then [⟨commitR (11 + j), none, 0, none, 0⟩, ⟨commitR (11 + j), none, 0, none, 0⟩] else [])) ∧ m.rn = if b then 4 else 2
end Go.Proofs.Ytfcmjomnpahllaa
