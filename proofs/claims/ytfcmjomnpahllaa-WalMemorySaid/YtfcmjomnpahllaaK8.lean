import Derived.Test.YtfcmjomnpahllaaK7
namespace Go.Proofs.Ytfcmjomnpahllaa
open Go Hv
set_option linter.unusedVariables false
set_option linter.unusedSimpArgs false
set_option maxRecDepth 10000
set_option maxHeartbeats 1000000
/-! Scan -/
theorem parse_ok {l : List UInt8} (h : (parseR l).2.2 = 0) : ∃ L, L = val (l.take 4) ∧ 8 + L ≤ l.length ∧ L ≤ 1048576 ∧ crcN ((l.drop 8).take L) = val ((l.drop 4).take 4) ∧ ReadOk ((l.drop 8).take L) ∧ parseR l = ((readR ((l.drop 8).take L)).1, 8 + L, 0) := by
  refine ⟨_, rfl, ?_⟩
  unfold parseR at h ⊢
  by_cases h1 : l.length < 8
  · rw [if_pos h1] at h; exact absurd h (by decide)
  rw [if_neg h1] at h ⊢
  by_cases h2 : 1048576 < val (l.take 4)
  · rw [if_pos h2] at h; exact absurd h (by decide)
  rw [if_neg h2] at h ⊢
  by_cases h3 : l.length - 8 < val (l.take 4)
  · rw [if_pos h3] at h; exact absurd h (by decide)
  rw [if_neg h3] at h ⊢
  by_cases h4 : crcN ((l.drop 8).take (val (l.take 4))) ≠ val ((l.drop 4).take 4)
  · rw [if_pos h4] at h; exact absurd h (by decide)
  rw [if_neg h4] at h ⊢
  by_cases h5 : ¬ ReadOk ((l.drop 8).take (val (l.take 4)))
  · rw [if_pos h5] at h; exact absurd h (by decide)
  rw [if_neg h5]
  exact ⟨by omega, by omega, Classical.not_not.1 h4, Classical.not_not.1 h5, rfl⟩
open Classical in
noncomputable def scanR (l : List UInt8) : List Rec × Nat :=
  if h : (parseR l).2.2 = 0 then ((parseR l).1 :: (scanR (l.drop (parseR l).2.1)).1, (parseR l).2.1 + (scanR (l.drop (parseR l).2.1)).2) else ([], 0)
termination_by l.length
decreasing_by
  all_goals
    obtain ⟨L, _, h1, _, _, _, h2⟩ := parse_ok h
    rw [h2, List.length_drop]
    show l.length - (8 + L) < l.length
    omega
theorem scan_yes {l : List UInt8} (h : (parseR l).2.2 = 0) : scanR l = ((parseR l).1 :: (scanR (l.drop (parseR l).2.1)).1, (parseR l).2.1 + (scanR (l.drop (parseR l).2.1)).2) := by
  rw [scanR, dif_pos h]
theorem scan_no {l : List UInt8} (h : (parseR l).2.2 ≠ 0) : scanR l = ([], 0) := by
  rw [scanR, dif_neg h]
structure PRec where
  r : Rec
  ap : Option Addr
  cp : Nat
  ak : Option Addr
  ck : Nat
def PRec.cells (q : PRec) : List Value := rcells q.r q.ap q.cp q.ak q.ck
def PRec.bl (q : PRec) : List Nat := blk q.ap ++ blk q.ak
def recsV : List PRec → List Value
  | [] => []
  | q :: qs => q.cells ++ recsV qs
theorem recsV_length : ∀ qs, (recsV qs).length = qs.length * 4
  | [] => rfl
  | q :: qs => by
    show (q.cells ++ recsV qs).length = _
    rw [List.length_append, recsV_length qs, List.length_cons]
    show 4 + _ = _; omega
theorem recsV_append : ∀ a b, recsV (a ++ b) = recsV a ++ recsV b
  | [], b => rfl
  | q :: a, b => by
    show q.cells ++ recsV (a ++ b) = q.cells ++ recsV a ++ recsV b
    rw [recsV_append a b, List.append_assoc]
theorem recsV_get : ∀ {qs : List PRec} {i : Nat} {q : PRec}, qs[i]? = some q → ∀ (k : Nat) v, q.cells[k]? = some v → (recsV qs)[i * 4 + k]? = some v
  | [], i, q, h => by simp at h
  | p :: qs, 0, q, h => fun k v hk => by
    simp at h; subst h
    have : k < p.cells.length := (List.getElem?_eq_some_iff.1 hk).1
    show (p.cells ++ recsV qs)[0 * 4 + k]? = _
    rw [Nat.zero_mul, Nat.zero_add, List.getElem?_append_left this]; exact hk
  | p :: qs, i + 1, q, h => fun k v hk => by
    have ih := recsV_get (qs := qs) (i := i) (q := q) (by simpa using h) k v hk
    have e : p.cells.length = 4 := rfl
    show (p.cells ++ recsV qs)[(i + 1) * 4 + k]? = _
    rw [List.getElem?_append_right (by rw [e]; omega), e]
    have e2 : (i + 1) * 4 + k - 4 = i * 4 + k := by omega
    rw [e2]; exact ih
theorem plain_recs (qs : List PRec) : ∀ v ∈ recsV qs, Value.plain v = true := by
  induction qs with
  | nil => intro v hv; simp [recsV] at hv
  | cons q qs ih =>
    intro v hv
    rcases List.mem_append.1 hv with hv | hv
    · have hv : v ∈ [Value.int .i64 q.r.kind, .int .u64 (q.r.id : Int), .slice q.ap q.r.ps.length q.cp, .slice q.ak q.r.ks.length q.ck] := hv
      simp only [List.mem_cons, List.not_mem_nil, or_false] at hv
      rcases hv with rfl | rfl | rfl | rfl <;> rfl
    · exact ih v hv
structure RecsNew (H0 H : Heap) (qs : List PRec) : Prop where
  each : ∀ q ∈ qs, RecNew H0 H q.r q.ap q.cp q.ak q.ck
  apart : ∀ (i j : Nat) q q', i ≠ j → qs[i]? = some q → qs[j]? = some q' → ∀ b ∈ q.bl, b ∉ q'.bl
theorem RecsNew.nil (H0 H : Heap) : RecsNew H0 H [] := ⟨fun q hq => by simp at hq, fun i j q q' _ hq => by simp at hq⟩
theorem RecNew.live {H0 H : Heap} {x : Rec} {ap ak : Option Addr} {cp ck : Nat} (h : RecNew H0 H x ap cp ak ck) : ∀ b ∈ blk ap ++ blk ak, (∃ c f, H b = some (.cells c 50 f)) ∨ ∃ c f, H b = some (.cells c 9 f) := fun b hb => by
  rcases List.mem_append.1 hb with hb | hb
  · obtain ⟨p, hp, rfl⟩ := blk_of hb
    rcases h.p.ok with ⟨ha, _⟩ | ⟨g, cur, ha, hg, _⟩
    · rw [ha] at hp; cases hp
    · rw [ha] at hp; cases hp; exact .inl ⟨_, _, hg⟩
  · obtain ⟨p, hp, rfl⟩ := blk_of hb
    rcases h.k.ok with ⟨ha, _⟩ | ⟨g, cur, ha, hg, _⟩
    · rw [ha] at hp; cases hp
    · rw [ha] at hp; cases hp; exact .inr ⟨_, _, hg⟩
theorem RecsNew.upd {H0 H H' : Heap} {qs : List PRec} {T : List Nat} (h : RecsNew H0 H qs) (u : Upd T H H') (hT : ∀ q ∈ qs, ∀ b ∈ q.bl, b ∉ T) : RecsNew H0 H' qs :=
  ⟨fun q hq => (h.each q hq).upd u (off_notin fun b hb => hT q hq b (List.mem_append_left _ hb)) (off_notin fun b hb => hT q hq b (List.mem_append_right _ hb)), h.apart⟩
theorem RecsNew.add {H0 H1 H : Heap} {qs : List PRec} {q : PRec} (h : RecsNew H0 H1 qs) (h0 : Upd [] H0 H1) (u : Upd [] H1 H) (hq : RecNew H1 H q.r q.ap q.cp q.ak q.ck) : RecsNew H0 H (qs ++ [q]) := by
  have h' := h.upd u (by simp)
  have hnew : ∀ b ∈ q.bl, H1 b = none := fun b hb => by
    rcases List.mem_append.1 hb with hb | hb
    · obtain ⟨p, hp, rfl⟩ := blk_of hb; exact hq.pn p hp
    · obtain ⟨p, hp, rfl⟩ := blk_of hb; exact hq.kn p hp
  have hold : ∀ x ∈ qs, ∀ b ∈ x.bl, H1 b ≠ none := fun x hx b hb => by
    rcases (h.each x hx).live b hb with ⟨c, f, e⟩ | ⟨c, f, e⟩ <;> rw [e] <;> simp
  refine ⟨fun x hx => ?_, fun i j x x' hij hi hj b hb hb' => ?_⟩
  · rcases List.mem_append.1 hx with hx | hx
    · exact h'.each x hx
    · rw [List.mem_singleton.1 hx]; exact hq.back h0
  · have key : ∀ {k : Nat} {y : PRec}, (qs ++ [q])[k]? = some y → (k < qs.length ∧ qs[k]? = some y) ∨ (k = qs.length ∧ y = q) := fun {k y} hk => by
      by_cases e : k < qs.length
      · rw [List.getElem?_append_left e] at hk; exact .inl ⟨e, hk⟩
      · rw [List.getElem?_append_right (by omega)] at hk
        have h0 : k - qs.length = 0 := Classical.byContradiction fun hne => by
          obtain ⟨z, hz⟩ : ∃ z, k - qs.length = z + 1 := ⟨k - qs.length - 1, by omega⟩
          rw [hz] at hk; simp at hk
        rw [h0] at hk
        exact .inr ⟨by omega, by simpa using hk.symm⟩
    rcases key hi with ⟨h1, h2⟩ | ⟨h1, rfl⟩
    · rcases key hj with ⟨h3, h4⟩ | ⟨h3, rfl⟩
      · exact h.apart i j x x' hij h2 h4 b hb hb'
      · exact hold x (List.mem_of_getElem? h2) b hb (hnew b hb')
    · rcases key hj with ⟨h3, h4⟩ | ⟨h3, rfl⟩
      · exact hold x' (List.mem_of_getElem? h4) b hb' (hnew b hb)
      · omega
structure ScInv (H : Heap) (l : List UInt8) (m : Nat) (vs : List Value) (H' : Heap) : Prop where
  ex : ∃ (i : Nat) (a : Option Addr) (c : Nat) (qs : List PRec), vs = [.slice a qs.length c, .int .i64 (i : Int)] ∧ m + i = l.length ∧ qs.length * 8 ≤ i ∧ OwnRow H' 28 4 a qs.length c (recsV qs) ∧ (∀ p, a = some p → H p.block = none) ∧ RecsNew H H' qs ∧ Upd [] H H' ∧ scanR l = (qs.map PRec.r ++ (scanR (l.drop i)).1, i + (scanR (l.drop i)).2)
section
variable {H : Heap} {K : Value → Heap → Prop}
theorem scan_t {a : Option Addr} {n c : Nat} {l : List UInt8} (hr : RowAt H a (u8s l)) (hl : l.length = n) (hc : n ≤ c) (hlim : n ≤ 17592186044416)
    (hk : ∀ a' c' qs H', OwnRow H' 28 4 a' qs.length c' (recsV qs) → (∀ p, a' = some p → H p.block = none) → RecsNew H H' qs → Upd [] H H' → qs.map PRec.r = (scanR l).1 → K (.tuple #[.slice a' qs.length c', .int .i64 ((scanR l).2 : Int)]) H') : HCalls Try.prog 37 [.slice a n c] H K := by
  refine hcalls (fn := Try.f37) [] mixed Try.func37 rfl rfl (by decide +kernel) ?_
  (repeat first | refine HReg.step ?_ | refine HCode.step ?_)
  refine hloopC [2, 3, 4, 5, 6, 7, 8, 9, 10, 11, 12, 13, 14, 15, 16, 17, 18, 19, 20, 21, 22, 23, 24, 25, 26, 27] [4, 5] (ScInv H l) rfl (by repeat' first | exact Resp.retD | exact Resp1.valuesK | refine Resp.blockD ?_ | refine Resp.thenD ?_ ?_ | refine Resp.hcode ?_) ?_ ?_
  · exact ⟨l.length, ScInv.mk ⟨0, none, 0, [], rfl, rfl, Nat.zero_le _, OwnRow.nil _ _ _, fun p hp => (by cases hp), RecsNew.nil _ _, Upd.refl _ _, by simp⟩⟩
  rintro m _ fe H1 ⟨i, a1, c1, qs, rfl, hmi, h8, o1, f1, n1, u1, hs⟩
  (repeat first | refine HReg.step ?_ | refine HCode.step ?_)
  refine HReq.mk ⟨by omega, by omega⟩ ?_
  (repeat first | refine HReg.step ?_ | refine HCode.step ?_)
  refine HCall.mk ⟨Try.f57, Try.func57, by rfl, by rfl⟩ ?_
  have hr1 := hr.upd (S := []) u1 (.inr (Off.nil _))
  have r1 : RowAt H1 (slAddr a i c 1) (u8s (l.drop i)) := by
    have h := RowAt.sl (size := 1) (l := i) (cap := c) hr1 (by rw [u8s_length]; omega)
    rw [Nat.mul_one, ← u8s_drop] at h; exact h
  refine parse_t (l := l.drop i) r1 (by rw [List.length_drop, hl, Int.toNat_natCast]) (by rw [Int.toNat_natCast]; omega) (by rw [Int.toNat_natCast]; omega) fun ap cp ak ck H2 n2 u2 => ?_
  have o2 := o1.upd u2 (Off.nil _)
  (repeat first | refine HReg.step ?_ | refine HCode.step ?_)
  refine HNew.mk fun b6 hb6 => ?_
  (repeat first | refine HReg.step ?_ | refine HCode.step ?_)
  refine store_rec (x := (parseR (l.drop i)).1) (OwnRow.lit (upd_same _ _ _) rfl) rfl fun H3 o3 u3 => ?_
  have u23 : Upd [] H2 H3 := Upd.drop (Upd.new hb6 _) u3 (fun x hx => by rw [List.mem_singleton.1 hx]; exact hb6)
  have n3 := n2.upd0 u23
  have a3 := n1.add (q := ⟨(parseR (l.drop i)).1, ap, cp, ak, ck⟩) u1 (u2.trans u23) n3
  have n13 := n1.upd (T := []) (u2.trans u23) (by simp)
  have o23 := o2.upd u23 (Off.nil _)
  have u13 := u1.trans (u2.trans u23)
  (repeat first | refine HReg.step ?_ | refine HCode.step ?_)
  by_cases he : (parseR (l.drop i)).2.2 = 0
  · obtain ⟨L, _, hL1, hL2, _, _, hL3⟩ := parse_ok he
    rw [List.length_drop] at hL1
    have hpn : (parseR (l.drop i)).2.1 = 8 + L := by rw [hL3]
    have hsy := scan_yes he
    rw [hpn, List.drop_drop] at hsy
    rw [he, hpn]
    generalize (parseR (l.drop i)).1 = x at *
    have w5 : wr .i64 ((i : Int) + ((8 + L : Nat) : Int)) = ((i + (8 + L) : Nat) : Int) := by rw [wr_i64 (by omega) (by omega)]; omega
    (repeat first | refine HReg.step ?_ | refine HCode.step ?_)
    rw [eqB_self 0]
    (repeat first | refine HReg.step ?_ | refine HCode.step ?_)
    refine HLoadN_row o3.rows rfl ?_
    (repeat first | refine HReg.step ?_ | refine HCode.step ?_)
    refine HReq.mk (by decide) ?_
    (repeat first | refine HReg.step ?_ | refine HCode.step ?_)
    refine HNew.mk fun b7 hb7 => ?_
    have u7 : Upd [] H3 (H3.upd b7 (.cells (recsV [⟨x, ap, cp, ak, ck⟩]).toArray 28)) := Upd.new hb7 _
    have r7 : RowAt (H3.upd b7 (.cells (recsV [⟨x, ap, cp, ak, ck⟩]).toArray 28)) (some ⟨b7, 0, none⟩) (recsV [⟨x, ap, cp, ak, ck⟩]) := RowAt.of_cells (upd_same _ _ _)
    have hH' : H3.upd b7 (.cells [Value.int .i64 x.kind, .int .u64 (x.id : Int), .slice ap x.ps.length cp, .slice ak x.ks.length ck].toArray 28) = H3.upd b7 (.cells (recsV [⟨x, ap, cp, ak, ck⟩]).toArray 28) := rfl
    rw [hH']
    generalize hH7 : H3.upd b7 (.cells (recsV [⟨x, ap, cp, ak, ck⟩]).toArray 28) = H7 at u7 r7
    have o7 := o23.upd u7 (Off.nil _)
    have a7 := a3.upd (T := []) u7 (by simp)
    (repeat first | refine HReg.step ?_ | refine HCode.step ?_)
    refine append_rows (ie := Try.t28) (z := .agg #[.int .i64 0, .int .u64 0, .slice none 0 0, .slice none 0 0]) (xs := recsV qs) (ys := recsV [⟨x, ap, cp, ak, ck⟩]) Try.underlying22 rfl rfl rfl (by decide) o7 r7 rfl (plain_recs _) (by show (qs.length + 1) * 64 ≤ _; omega) (by omega) fun a8 c8 H8 o8 u8_ f8 => ?_
    rw [← recsV_append] at o8
    have hlen : (qs ++ [PRec.mk x ap cp ak ck]).length = qs.length + 1 := by simp
    have ha1 : ∀ b ∈ blk a1, H b = none := fun b hb => by obtain ⟨p, hp, rfl⟩ := blk_of hb; exact f1 p hp
    (repeat first | refine HReg.step ?_ | refine HCode.step ?_)
    rw [w5]
    refine Exists.intro (m - (8 + L)) ?_
    refine And.intro (by omega) ?_
    refine ScInv.mk ⟨i + (8 + L), a8, c8, qs ++ [PRec.mk x ap cp ak ck], by rw [hlen], by omega, by rw [hlen]; omega, by rw [hlen]; exact o8, fun p hp => ?_, ?_, Upd.drop (u13.trans u7) u8_ ha1, ?_⟩
    · rcases f8 p hp with h | h
      · exact f1 p h
      · exact Upd.none (S := []) (u13.trans u7) (by simp) h
    · refine a7.upd u8_ fun q hq b hb hb' => ?_
      have hc := o7.notT (e := 50) (by decide) b hb'
      have hd := o7.notT (e := 9) (by decide) b hb'
      rcases (a7.each q hq).live b hb with ⟨c, f, e⟩ | ⟨c, f, e⟩
      · exact hc c f e
      · exact hd c f e
    · rw [hs, hsy]
      simp [Nat.add_assoc]
  · rw [eqB_false.2 he]
    have hsn := scan_no he
    rw [hsn] at hs
    simp only [List.append_nil, Nat.add_zero] at hs
    (repeat first | refine HReg.step ?_ | refine HCode.step ?_)
    have hk' := hk a1 c1 qs H3 o23 f1 n13 u13 (by rw [hs])
    rw [hs] at hk'
    exact hk'
end
end Go.Proofs.Ytfcmjomnpahllaa
