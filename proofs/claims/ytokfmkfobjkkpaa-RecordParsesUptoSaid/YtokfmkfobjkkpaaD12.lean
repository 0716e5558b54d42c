import Derived.Test.YtokfmkfobjkkpaaD11
namespace Go.Proofs.Ytokfmkfobjkkpaa
open Go Hv
set_option linter.unusedVariables false
set_option linter.unusedSimpArgs false
set_option maxRecDepth 10000
set_option maxHeartbeats 2000000
/-! The document's Scan -/
theorem RqN.keep {H0 H1 H2 : Heap} {x : Rec} {ap ak : Option Addr} {cp ck : Nat} {e : TypeId} {size n c : Nat} {a : Option Addr} {xs : List Value} (h : RqN H0 H1 x ap cp ak ck) (o : OwnRow H1 e size a n c xs) (u : Upd (blk a) H1 H2) (h1 : e ≠ 49) (h2 : e ≠ 9) : RqN H0 H2 x ap cp ak ck :=
  ⟨h.p.upd u (o.offT h.p h1), h.k.upd u (o.offT h.k h2), h.pn, h.kn, h.np, h.nk⟩
theorem RqN.upd0 {H0 H1 H2 : Heap} {x : Rec} {ap ak : Option Addr} {cp ck : Nat} (h : RqN H0 H1 x ap cp ak ck) (u : Upd [] H1 H2) : RqN H0 H2 x ap cp ak ck :=
  ⟨h.p.upd u (Off.nil _), h.k.upd u (Off.nil _), h.pn, h.kn, h.np, h.nk⟩
theorem RqN.back {H0 H1 H : Heap} {x : Rec} {ap ak : Option Addr} {cp ck : Nat} (h : RqN H1 H x ap cp ak ck) (u : Upd [] H0 H1) : RqN H0 H x ap cp ak ck :=
  ⟨h.p, h.k, fun b hb => Upd.none (S := []) u (by simp) (h.pn b hb), fun b hb => Upd.none (S := []) u (by simp) (h.kn b hb), h.np, h.nk⟩
theorem RqN.recIn {H0 H1 : Heap} {x : Rec} {ap ak : Option Addr} {cp ck : Nat} (h : RqN H0 H1 x ap cp ak ck) : RecIn H1 x ap ak := by
  have h1 := h.np
  have h2 := h.nk
  exact ⟨h.p.rows, h.k.rows, by omega, by omega⟩
structure SdInv (H : Heap) (l : List UInt8) (m : Nat) (vs : List Value) (H' : Heap) : Prop where
  ex : ∃ (i : Nat) (a : Option Addr) (c : Nat) (qs : List PRec), vs = [.slice a qs.length c, .int .i64 (i : Int)] ∧ m + i = l.length ∧ qs.length * 8 ≤ i ∧ OwnRow H' 27 4 a qs.length c (recsV qs) ∧ (∀ b ∈ blk a, H b = none) ∧ (∀ q ∈ qs, RqN H H' q.r q.ap q.cp q.ak q.ck) ∧ Upd [] H H' ∧ scanR l = (qs.map PRec.r ++ (scanR (l.drop i)).1, i + (scanR (l.drop i)).2)
section
variable {H : Heap} {K : Value → Heap → Prop}
theorem rscan_t {a : Option Addr} {n c : Nat} {l : List UInt8} (hr : RowAt H a (u8s l)) (hl : l.length = n) (hc : n ≤ c) (hlim : n ≤ 10000000000)
    (hk : ∀ a' c' qs H', OwnRow H' 27 4 a' qs.length c' (recsV qs) → (∀ q ∈ qs, RqN H H' q.r q.ap q.cp q.ak q.ck) → Upd [] H H' → qs.map PRec.r = (scanR l).1 → K (.tuple #[.slice a' qs.length c', .int .i64 ((scanR l).2 : Int)]) H') : HCalls Try.prog 24 [.slice a n c] H K := by
  refine hcalls (fn := Try.f24) [] mixed Try.func24 rfl rfl (by decide +kernel) ?_
  (repeat first | refine HReg.step ?_ | refine HCode.step ?_)
  refine hloopC [2, 3, 4, 5, 6, 7, 8, 9, 10, 11, 12, 13, 14, 15, 16, 17, 18, 19, 20, 21, 22, 23, 24, 25, 26, 27] [4, 5] (SdInv H l) rfl (by repeat' first | exact Resp.retD | exact Resp1.valuesK | refine Resp.blockD ?_ | refine Resp.thenD ?_ ?_ | refine Resp.hcode ?_) ?_ ?_
  · exact ⟨l.length, SdInv.mk ⟨0, none, 0, [], rfl, rfl, Nat.zero_le _, OwnRow.nil _ _ _, fun b hb => (by simp [blk] at hb), fun q hq => (by simp at hq), Upd.refl _ _, by simp⟩⟩
  rintro m _ fe H1 ⟨i, a1, c1, qs, rfl, hmi, h8, o1, f1, n1, u1, hs⟩
  (repeat first | refine HReg.step ?_ | refine HCode.step ?_)
  refine HReq.mk ⟨by omega, by omega⟩ ?_
  (repeat first | refine HReg.step ?_ | refine HCode.step ?_)
  refine HCall.mk ⟨Try.f23, Try.func23, by rfl, by rfl⟩ ?_
  have hr1 := hr.upd (S := []) u1 (.inr (Off.nil _))
  have r1 : RowAt H1 (slAddr a i c 1) (u8s (l.drop i)) := by
    have h := RowAt.sl (size := 1) (l := i) (cap := c) hr1 (by rw [u8s_length]; omega)
    rw [Nat.mul_one, ← u8s_drop] at h; exact h
  refine rparse_t (l := l.drop i) r1 (by rw [List.length_drop, hl, Int.toNat_natCast]) (by rw [Int.toNat_natCast]; omega) (by rw [Int.toNat_natCast]; omega) fun ap cp ak ck H2 n2 u2 => ?_
  have o2 := o1.upd u2 (Off.nil _)
  (repeat first | refine HReg.step ?_ | refine HCode.step ?_)
  refine HNew.mk fun b6 hb6 => ?_
  (repeat first | refine HReg.step ?_ | refine HCode.step ?_)
  refine store_rec (x := (parseR (l.drop i)).1) (OwnRow.lit (upd_same _ _ _) rfl) rfl fun H3 o3 u3 => ?_
  have u23 : Upd [] H2 H3 := Upd.drop (Upd.new hb6 _) u3 (fun x hx => by rw [List.mem_singleton.1 hx]; exact hb6)
  have n3 := (n2.upd0 u23).back u1
  have n13 : ∀ q ∈ qs, RqN H H3 q.r q.ap q.cp q.ak q.ck := fun q hq => (n1 q hq).upd0 (u2.trans u23)
  have o23 := o2.upd u23 (Off.nil _)
  have u13 := u1.trans (u2.trans u23)
  (repeat first | refine HReg.step ?_ | refine HCode.step ?_)
  by_cases he : (parseR (l.drop i)).2.2 = 0
  · obtain ⟨L, _, hL1, hL2, _, _, hL3⟩ := parse_ok he
    rw [List.length_drop] at hL1
    have hpn : (parseR (l.drop i)).2.1 = 8 + L := by rw [hL3]
    have hsy := scan_yes he
    rw [hpn, List.drop_drop] at hsy
    rw [he, hpn]
    generalize (parseR (l.drop i)).1 = x at *
    have w5 : wr .i64 ((i : Int) + ((8 + L : Nat) : Int)) = ((i + (8 + L) : Nat) : Int) := by rw [wr_i64 (by omega) (by omega)]; omega
    (repeat first | refine HReg.step ?_ | refine HCode.step ?_)
    rw [eqB_self 0]
    (repeat first | refine HReg.step ?_ | refine HCode.step ?_)
    refine HLoadN_row o3.rows rfl ?_
    (repeat first | refine HReg.step ?_ | refine HCode.step ?_)
    refine HReq.mk (by decide) ?_
    (repeat first | refine HReg.step ?_ | refine HCode.step ?_)
    refine HNew.mk fun b7 hb7 => ?_
    have u7 : Upd [] H3 (H3.upd b7 (.cells (recsV [⟨x, ap, cp, ak, ck⟩]).toArray 27)) := Upd.new hb7 _
    have r7 : RowAt (H3.upd b7 (.cells (recsV [⟨x, ap, cp, ak, ck⟩]).toArray 27)) (some ⟨b7, 0, none⟩) (recsV [⟨x, ap, cp, ak, ck⟩]) := RowAt.of_cells (upd_same _ _ _)
    have hH' : H3.upd b7 (.cells [Value.int .i64 x.kind, .int .u64 (x.id : Int), .slice ap x.ps.length cp, .slice ak x.ks.length ck].toArray 27) = H3.upd b7 (.cells (recsV [⟨x, ap, cp, ak, ck⟩]).toArray 27) := rfl
    rw [hH']
    generalize hH7 : H3.upd b7 (.cells (recsV [⟨x, ap, cp, ak, ck⟩]).toArray 27) = H7 at u7 r7
    have o7 := o23.upd u7 (Off.nil _)
    (repeat first | refine HReg.step ?_ | refine HCode.step ?_)
    refine append_rows (ie := Try.t27) (z := .agg #[.int .i64 0, .int .u64 0, .slice none 0 0, .slice none 0 0]) (xs := recsV qs) (ys := recsV [⟨x, ap, cp, ak, ck⟩]) Try.underlying51 rfl rfl rfl (by decide) o7 r7 rfl (plain_recs _) (by show (qs.length + 1) * 64 ≤ _; omega) (by omega) fun a8 c8 H8 o8 u8_ f8 => ?_
    rw [← recsV_append] at o8
    have hlen : (qs ++ [PRec.mk x ap cp ak ck]).length = qs.length + 1 := by simp
    (repeat first | refine HReg.step ?_ | refine HCode.step ?_)
    rw [w5]
    refine Exists.intro (m - (8 + L)) ?_
    refine And.intro (by omega) ?_
    refine SdInv.mk ⟨i + (8 + L), a8, c8, qs ++ [PRec.mk x ap cp ak ck], by rw [hlen], by omega, by rw [hlen]; omega, by rw [hlen]; exact o8, fun b hb => ?_, fun q hq => ?_, Upd.drop (u13.trans u7) u8_ f1, ?_⟩
    · obtain ⟨p, hp, rfl⟩ := blk_of hb
      rcases f8 p hp with h | h
      · exact f1 _ (by rw [h]; simp [blk])
      · exact Upd.none (S := []) (u13.trans u7) (by simp) h
    · rcases List.mem_append.1 hq with hq | hq
      · exact ((n13 q hq).upd0 u7).keep o7 u8_ (by decide) (by decide)
      · rw [List.mem_singleton.1 hq]
        exact (n3.upd0 u7).keep o7 u8_ (by decide) (by decide)
    · rw [hs, hsy]
      simp [Nat.add_assoc]
  · rw [eqB_false.2 he]
    have hsn := scan_no he
    rw [hsn] at hs
    simp only [List.append_nil, Nat.add_zero] at hs
    (repeat first | refine HReg.step ?_ | refine HCode.step ?_)
    have hk' := hk a1 c1 qs H3 o23 n13 u13 (by rw [hs])
    rw [hs] at hk'
    exact hk'
end
end Go.Proofs.Ytokfmkfobjkkpaa
