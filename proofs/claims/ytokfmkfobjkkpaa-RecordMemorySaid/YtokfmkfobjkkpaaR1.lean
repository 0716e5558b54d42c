import Derived.Test.YtokfmkfobjkkpaaN5
namespace Go.Proofs.Ytokfmkfobjkkpaa
open Go Hv
set_option linter.unusedVariables false
set_option linter.unusedSimpArgs false
set_option maxRecDepth 10000
set_option maxHeartbeats 4000000
/-! RecordMemory: records' lists that are written over and lengthened -/
theorem Hv.OwnRow.flat {H : Heap} {e : TypeId} {size n cap : Nat} {a : Option Addr} {xs : List Value} (h : OwnRow H e size a n cap xs) : OwnRow H e 1 a (n * size) (cap * size) xs := by
  refine ⟨by rw [h.len, Nat.mul_one], ?_⟩
  rcases h.ok with ⟨h1, h2, h3⟩ | ⟨g, cur, ha, hg, h1, h2, h3⟩
  · exact .inl ⟨h1, by rw [h2, Nat.zero_mul], by rw [h3, Nat.zero_mul]⟩
  · exact .inr ⟨g, cur, ha, hg, by rw [h1, Nat.mul_one], Nat.mul_le_mul_right _ h2, h3⟩
theorem Hv.OwnRow.pre {H : Heap} {e : TypeId} {size n m cap : Nat} {a : Option Addr} {xs ys : List Value} (h : OwnRow H e size a (n + m) cap (xs ++ ys)) (hl : xs.length = n * size) : OwnRow H e size a n cap xs := by
  refine ⟨hl, ?_⟩
  rcases h.ok with ⟨h1, h2, h3⟩ | ⟨g, cur, ha, hg, h1, h2, h3⟩
  · exact .inl ⟨h1, by omega, h3⟩
  · exact .inr ⟨g, cur, ha, hg, h1, by omega, fun i v hi => h3 i v (by rw [List.getElem?_append_left (List.getElem?_eq_some_iff.1 hi).1]; exact hi)⟩
def lessH (H : Heap) (B : List Nat) : Heap := fun b => if b ∈ B then none else H b
theorem lessH_none {H : Heap} {B : List Nat} {b : Nat} (h : b ∈ B) : lessH H B b = none := if_pos h
theorem upd_less (H : Heap) (B : List Nat) : Upd B H (lessH H B) := fun k hk _ => if_neg hk
theorem less_upd (H : Heap) (B : List Nat) : Upd [] (lessH H B) H := fun k _ h => by
  unfold lessH at h ⊢
  split at h
  · exact absurd rfl h
  · rename_i h'; rw [if_neg h']
theorem upd_less0 {H0 H : Heap} {B : List Nat} (u : Upd [] H0 H) (h : ∀ b ∈ B, H0 b = none) : Upd [] H0 (lessH H B) := fun k hk hn => by
  unfold lessH
  rw [if_neg fun hb => hn (h k hb)]; exact u k hk hn
def recsB (qs : List PRec) : List Nat := qs.flatMap PRec.bl
theorem RecNew.away {H0 H : Heap} {q : PRec} (h : RecNew H0 H q.r q.ap q.cp q.ak q.ck) : ∀ b ∈ q.bl, H0 b = none := fun b hb => by
  rcases List.mem_append.1 hb with hb | hb
  · obtain ⟨p, hp, rfl⟩ := blk_of hb; exact h.pn p hp
  · obtain ⟨p, hp, rfl⟩ := blk_of hb; exact h.kn p hp
theorem RecNew.less {H0 H : Heap} {q : PRec} {B : List Nat} (h : RecNew H0 H q.r q.ap q.cp q.ak q.ck) (hB : ∀ b ∈ q.bl, b ∈ B) : RecNew (lessH H B) H q.r q.ap q.cp q.ak q.ck :=
  ⟨h.p, h.k, fun p hp => lessH_none (hB _ (List.mem_append_left _ (by rw [hp]; simp [blk]))), fun p hp => lessH_none (hB _ (List.mem_append_right _ (by rw [hp]; simp [blk]))), h.np, h.nk⟩
theorem mem_recsB {qs : List PRec} {q : PRec} (hq : q ∈ qs) {b : Nat} (hb : b ∈ q.bl) : b ∈ recsB qs := List.mem_flatMap.2 ⟨q, hq, hb⟩
theorem RecsNew.less {H0 H : Heap} {qs : List PRec} (h : RecsNew H0 H qs) : RecsNew (lessH H (recsB qs)) H qs :=
  ⟨fun q hq => (h.each q hq).less fun b hb => mem_recsB hq hb, h.apart⟩
theorem RecsNew.away {H0 H : Heap} {qs : List PRec} (h : RecsNew H0 H qs) : ∀ b ∈ recsB qs, H0 b = none := fun b hb => by
  obtain ⟨q, hq, hb⟩ := List.mem_flatMap.1 hb
  exact (h.each q hq).away b hb
theorem RecsNew.types {H0 H : Heap} {qs : List PRec} (h : RecsNew H0 H qs) {e : TypeId} {size n c : Nat} {a : Option Addr} {xs : List Value} (o : OwnRow H e size a n c xs) (h1 : e ≠ 49) (h2 : e ≠ 9) : Off (recsB qs) a := off_notin fun b hb hm => by
  obtain ⟨q, hq, hm⟩ := List.mem_flatMap.1 hm
  rcases (h.each q hq).live b hm with ⟨c', f, e1⟩ | ⟨c', f, e1⟩
  · exact o.notT h1 b hb _ _ e1
  · exact o.notT h2 b hb _ _ e1
theorem RecsNew.change {H0 H H' : Heap} {qs : List PRec} {q q' : PRec} {i : Nat} {T : List Nat} (h : RecsNew H0 H qs) (hq : qs[i]? = some q) (u : Upd T H H') (hT : ∀ b ∈ T, b ∈ q.bl) (n : RecNew H0 H' q'.r q'.ap q'.cp q'.ak q'.ck) (hb : q'.bl = q.bl) : RecsNew H0 H' (qs.set i q') := by
  have hil := (List.getElem?_eq_some_iff.1 hq).1
  refine ⟨fun p hp => ?_, fun j k p p' hjk hj hk b hbp => ?_⟩
  · obtain ⟨j, hj⟩ := List.getElem?_of_mem hp
    rw [List.getElem?_set] at hj
    split at hj
    · cases hj; exact n
    · rename_i hij
      have off : ∀ b ∈ p.bl, b ∉ T := fun b hb hm => h.apart i j q p hij hq hj b (hT b hm) hb
      exact (h.each p (List.mem_of_getElem? hj)).upd u (off_notin fun b hb => off b (List.mem_append_left _ hb)) (off_notin fun b hb => off b (List.mem_append_right _ hb))
  · rw [List.getElem?_set] at hj hk
    split at hj
    · rename_i e1; subst e1
      cases hj
      rw [if_neg hjk] at hk
      exact h.apart _ _ _ _ hjk hq hk b (by rw [← hb]; exact hbp)
    · split at hk
      · rename_i e1 e2; subst e2
        cases hk
        rw [hb]; exact h.apart _ _ _ _ hjk hj hq b hbp
      · exact h.apart _ _ _ _ hjk hj hk b hbp
theorem set_self {α : Type} {l : List α} {i : Nat} {x : α} (h : l[i]? = some x) : l.set i x = l := by
  apply List.ext_getElem?
  intro j
  rw [List.getElem?_set]
  split
  · rename_i e; subst e
    rw [if_pos (List.getElem?_eq_some_iff.1 h).1, h]
  · rfl
theorem recsV_flat (qs : List PRec) : recsV qs = (qs.map PRec.cells).flatten := by
  induction qs with
  | nil => rfl
  | cons q qs ih => rw [List.map_cons, List.flatten_cons, ← ih]; rfl
theorem cells_set {qs : List PRec} {q q' : PRec} {i : Nat} (hq : qs[i]? = some q) (h : q'.cells = q.cells) : (qs.set i q').map PRec.cells = qs.map PRec.cells := by
  rw [List.map_set, h]
  exact set_self (by rw [List.getElem?_map, hq]; rfl)
def PRec.setK (q : PRec) (k : Nat) (s : Txt) : PRec := { q with r := { q.r with ks := q.r.ks.set k s } }
def PRec.setP (q : PRec) (k : Nat) (p : Txt × Txt) : PRec := { q with r := { q.r with ps := q.r.ps.set k p } }
theorem PRec.setK_cells (q : PRec) (k : Nat) (s : Txt) : (q.setK k s).cells = q.cells := by
  unfold PRec.setK PRec.cells rcells
  simp only [List.length_set]
theorem PRec.setP_cells (q : PRec) (k : Nat) (s : Txt × Txt) : (q.setP k s).cells = q.cells := by
  unfold PRec.setP PRec.cells rcells
  simp only [List.length_set]
theorem txts_set (l : List Txt) (k : Nat) (s : Txt) : txts (l.set k s) = (txts l).set k (.string (bs s)) := by
  unfold txts; rw [List.map_set]
theorem pairsV_set : ∀ (l : List (Txt × Txt)) (k : Nat) (p : Txt × Txt), pairsV (l.set k p) = ((pairsV l).set (k * 2) (.string (bs p.1))).set (k * 2 + 1) (.string (bs p.2))
  | [], k, p => by simp [pairsV]
  | q :: l, 0, p => rfl
  | q :: l, k + 1, p => by
    have e1 : (k + 1) * 2 = k * 2 + 1 + 1 := by omega
    rw [List.set_cons_succ, pairsV, pairsV_set l k p, e1]
    rfl
section
variable {H0 H : Heap}
theorem RecsNew.storeK {qs : List PRec} {q : PRec} {i k j b : Nat} {s : Txt} {K : Heap → Prop} (h : RecsNew H0 H qs) (hq : qs[i]? = some q) (ha : q.ak = some ⟨b, 0, none⟩) (hk : k < q.r.ks.length) (hj : j = k)
    (hK : ∀ H', RecsNew H0 H' (qs.set i (q.setK k s)) → Upd [b] H H' → H0 b = none → K H') : HStore H ⟨b, j, none⟩ (.string (bs s)) K := by
  have n := h.each q (List.mem_of_getElem? hq)
  have o := n.k
  rw [ha] at o
  refine store_row o (v := .string (bs s)) rfl hk hj fun H' o' u => ?_
  rw [← txts_set] at o'
  have hb0 : H0 b = Option.none := n.kn _ ha
  have n' : RecNew H0 H' (q.setK k s).r (q.setK k s).ap (q.setK k s).cp (q.setK k s).ak (q.setK k s).ck := by
    refine ⟨n.p.upd u ?_, ?_, n.pn, n.kn, n.np, by show (q.r.ks.set k s).length ≤ _; rw [List.length_set]; exact n.nk⟩
    · exact OwnRow.offT (b := q.ap) o n.p (by decide)
    · show OwnRow H' 9 1 q.ak (q.r.ks.set k s).length q.ck _
      rw [ha, List.length_set]; exact o'
  refine hK H' (h.change hq u (fun b' hb' => ?_) n' rfl) u hb0
  rw [List.mem_singleton.1 hb']
  exact List.mem_append_right _ (by rw [ha]; simp [blk])
theorem RecsNew.storeP {qs : List PRec} {q : PRec} {i k b : Nat} {s : Txt × Txt} {K : Heap → Prop} (h : RecsNew H0 H qs) (hq : qs[i]? = some q) (ha : q.ap = some ⟨b, 0, none⟩) (hk : k < q.r.ps.length)
    (hK : ∀ H', RecsNew H0 H' (qs.set i (q.setP k s)) → Upd [b] H H' → H0 b = none → K H') : storeN H b (0 + k * 2) 0 K [.string (bs s.1), .string (bs s.2)] := by
  have n := h.each q (List.mem_of_getElem? hq)
  have o0 := n.p
  rw [ha] at o0
  have o := o0.flat
  refine store_row o (v := .string (bs s.1)) rfl (i := k * 2) (by omega) (by omega) fun H1 o1 u1 => ?_
  refine store_row o1 (v := .string (bs s.2)) rfl (i := k * 2 + 1) (by omega) (by omega) fun H' o2 u2 => ?_
  rw [← pairsV_set] at o2
  have u := u1.trans u2
  have hb0 : H0 b = Option.none := n.pn _ ha
  have o' : OwnRow H' 49 2 (some ⟨b, 0, none⟩) (q.r.ps.set k s).length q.cp (pairsV (q.r.ps.set k s)) := by
    refine ⟨by rw [pairsV_length], ?_⟩
    rcases o2.ok with ⟨h1, _⟩ | ⟨g, cur, ha', hg, h1, h2, h3⟩
    · cases h1
    · exact .inr ⟨g, cur, ha', hg, by rw [h1, Nat.mul_one], by rw [List.length_set]; exact o0.le, h3⟩
  have n' : RecNew H0 H' (q.setP k s).r (q.setP k s).ap (q.setP k s).cp (q.setP k s).ak (q.setP k s).ck := by
    refine ⟨?_, n.k.upd u ?_, n.pn, n.kn, by show (q.r.ps.set k s).length ≤ _; rw [List.length_set]; exact n.np, n.nk⟩
    · show OwnRow H' 49 2 q.ap (q.r.ps.set k s).length q.cp _
      rw [ha]; exact o'
    · exact OwnRow.offT (b := q.ak) o0 n.k (by decide)
  refine hK H' (h.change hq u (fun b' hb' => ?_) n' rfl) u hb0
  rw [List.mem_singleton.1 hb']
  exact List.mem_append_left _ (by rw [ha]; simp [blk])
end
/-- A list of record i, lengthened: in its own place, or away from all. -/
structure Ext (H0 H : Heap) (qs : List PRec) (e size : Nat) (a : Option Addr) (c : Nat) (a' : Option Addr) (n' c' : Nat) (xs' : List Value) : Prop where
  own : OwnRow H e size a' n' c' xs'
  new : ∀ b ∈ blk a', H0 b = none
  at_ : (a' = a ∧ c' = c) ∨ ∀ q ∈ qs, ∀ b ∈ q.bl, b ∉ blk a'
theorem Ext.upd {H0 H H' : Heap} {qs : List PRec} {e size : Nat} {a : Option Addr} {c : Nat} {a' : Option Addr} {n' c' : Nat} {xs' : List Value} {T : List Nat} (E : Ext H0 H qs e size a c a' n' c' xs') (u : Upd T H H') (ho : Off T a') : Ext H0 H' qs e size a c a' n' c' xs' :=
  ⟨E.own.upd u ho, E.new, E.at_⟩
theorem more_eq (l : List Txt) (x : Nat) (s : Txt) : l ++ List.replicate x s ++ [s] = l ++ List.replicate (x + 1) s := by rw [List.append_assoc, ← List.replicate_succ']
theorem more_eqP (l : List (Txt × Txt)) (x : Nat) (s : Txt × Txt) : l ++ List.replicate x s ++ [s] = l ++ List.replicate (x + 1) s := by rw [List.append_assoc, ← List.replicate_succ']
theorem ext_step {H0 H H' : Heap} {qs : List PRec} {q : PRec} {i : Nat} {e size : Nat} {a a' a'' : Option Addr} {c n' c' m c'' : Nat} {xs ys : List Value} (R : RecsNew H0 H qs) (u0 : Upd [] H0 H) (hq : qs[i]? = some q)
    (E : Ext H0 H qs e size a c a' n' c' xs) (o : OwnRow H' e size a'' (n' + m) c'' (xs ++ ys)) (u : Upd (blk a') H H') (hl : xs.length = n' * size)
    (h1 : n' + m ≤ c' → a'' = a' ∧ c'' = c') (h2 : ¬ n' + m ≤ c' → Upd [] H H' ∧ ∀ p, a'' = some p → H p.block = none)
    (hself : a' = a → c' = c → Upd (blk a) H H' → OwnRow H' e size a n' c xs → RecsNew H0 H' qs) : RecsNew H0 H' qs ∧ Upd [] H0 H' ∧ Ext H0 H' qs e size a c a'' (n' + m) c'' (xs ++ ys) := by
  have u' : Upd [] H0 H' := Upd.drop u0 u E.new
  by_cases hc : n' + m ≤ c'
  · obtain ⟨rfl, rfl⟩ := h1 hc
    refine ⟨?_, u', o, E.new, E.at_⟩
    rcases E.at_ with ⟨rfl, rfl⟩ | off
    · exact hself rfl rfl u (o.pre hl)
    · exact R.upd u off
  · obtain ⟨v, nw⟩ := h2 hc
    refine ⟨⟨fun p hp => (R.each p hp).upd0 v, R.apart⟩, u', o, fun b hb => ?_, .inr fun p hp b hb hm => ?_⟩
    · obtain ⟨p, hp, rfl⟩ := blk_of hb
      exact Upd.none (S := []) u0 (by simp) (nw p hp)
    · obtain ⟨p', hp', rfl⟩ := blk_of hm
      have := nw p' hp'
      rcases (R.each p hp).live _ hb with ⟨_, _, e1⟩ | ⟨_, _, e1⟩ <;> (rw [this] at e1; cases e1)
section
variable {H0 H : Heap} {K : Value → Heap → Prop}
theorem ext_keys {qs : List PRec} {q : PRec} {i : Nat} {a' a2 b : Option Addr} {n' c' n2 c2 c x : Nat} {xs2 : List Value} {s : Txt} (R : RecsNew H0 H qs) (u0 : Upd [] H0 H) (hq : qs[i]? = some q)
    (E : Ext H0 H qs 9 1 q.ak q.ck a' (q.r.ks.length + x) c' (txts (q.r.ks ++ List.replicate x s))) (E2 : Ext H0 H qs 49 2 q.ap q.cp a2 n2 c2 xs2) (hy : RowAt H b (txts [s])) (hx : x ≤ 1000)
    (hk : ∀ a'' c'' H', RecsNew H0 H' qs → Upd [] H0 H' → Ext H0 H' qs 9 1 q.ak q.ck a'' (q.r.ks.length + (x + 1)) c'' (txts (q.r.ks ++ List.replicate (x + 1) s)) → Ext H0 H' qs 49 2 q.ap q.cp a2 n2 c2 xs2 → K (.slice a'' (q.r.ks.length + (x + 1)) c'') H') :
    HSem Try.prog (Builtin.append_ #[25, 25] 25 [.slice a' (q.r.ks.length + x) c', .slice b 1 c].toArray) H K := by
  have n := R.each q (List.mem_of_getElem? hq)
  have hnk := n.nk
  refine append_rows' (ie := Try.t9) (z := .string ⟨#[]⟩) (xs := txts (q.r.ks ++ List.replicate x s)) (ys := txts [s]) Try.underlying25 rfl rfl rfl (by decide) E.own hy rfl (plain_txts _) (by show (q.r.ks.length + x + 1) * 16 ≤ _; omega) (by omega) fun a'' c'' H' o u f ⟨h1, h2⟩ => ?_
  obtain ⟨R', u', E'⟩ := ext_step R u0 hq E o u E.own.len h1 h2 fun e1 e2 v o' => by
    have o'' := o'
    rw [txts_append] at o''
    have ok := o''.pre (by unfold txts; rw [List.length_map, Nat.mul_one])
    have n' : RecNew H0 H' q.r q.ap q.cp q.ak q.ck := ⟨n.p.upd v (n.k.offT n.p (by decide)), ok, n.pn, n.kn, n.np, n.nk⟩
    have := R.change hq v (fun b hb => List.mem_append_right _ hb) n' rfl
    rwa [set_self hq] at this
  rw [← txts_append, more_eq] at E'
  exact hk a'' c'' H' R' u' E' (E2.upd u (E.own.offT E2.own (by decide)))
theorem ext_pairs {qs : List PRec} {q : PRec} {i : Nat} {a' a2 b : Option Addr} {n' c' n2 c2 c x : Nat} {xs2 : List Value} {s : Txt × Txt} (R : RecsNew H0 H qs) (u0 : Upd [] H0 H) (hq : qs[i]? = some q)
    (E : Ext H0 H qs 49 2 q.ap q.cp a' (q.r.ps.length + x) c' (pairsV (q.r.ps ++ List.replicate x s))) (E2 : Ext H0 H qs 9 1 q.ak q.ck a2 n2 c2 xs2) (hy : RowAt H b (pairsV [s])) (hx : x ≤ 1000)
    (hk : ∀ a'' c'' H', RecsNew H0 H' qs → Upd [] H0 H' → Ext H0 H' qs 49 2 q.ap q.cp a'' (q.r.ps.length + (x + 1)) c'' (pairsV (q.r.ps ++ List.replicate (x + 1) s)) → Ext H0 H' qs 9 1 q.ak q.ck a2 n2 c2 xs2 → K (.slice a'' (q.r.ps.length + (x + 1)) c'') H') :
    HSem Try.prog (Builtin.append_ #[24, 24] 24 [.slice a' (q.r.ps.length + x) c', .slice b 1 c].toArray) H K := by
  have n := R.each q (List.mem_of_getElem? hq)
  have hnp := n.np
  refine append_rows' (ie := Try.t49) (z := .agg #[.string ⟨#[]⟩, .string ⟨#[]⟩]) (xs := pairsV (q.r.ps ++ List.replicate x s)) (ys := pairsV [s]) Try.underlying24 rfl rfl rfl (by decide) E.own hy rfl (plain_pairs _) (by show (q.r.ps.length + x + 1) * 32 ≤ _; omega) (by omega) fun a'' c'' H' o u f ⟨h1, h2⟩ => ?_
  obtain ⟨R', u', E'⟩ := ext_step R u0 hq E o u E.own.len h1 h2 fun e1 e2 v o' => by
    have o'' := o'
    rw [pairsV_append] at o''
    have ok := o''.pre (pairsV_length _)
    have n' : RecNew H0 H' q.r q.ap q.cp q.ak q.ck := ⟨ok, n.k.upd v (n.p.offT n.k (by decide)), n.pn, n.kn, n.np, n.nk⟩
    have := R.change hq v (fun b hb => List.mem_append_left _ hb) n' rfl
    rwa [set_self hq] at this
  rw [← pairsV_append, more_eqP] at E'
  exact hk a'' c'' H' R' u' E' (E2.upd u (E.own.offT E2.own (by decide)))
end
end Go.Proofs.Ytokfmkfobjkkpaa
