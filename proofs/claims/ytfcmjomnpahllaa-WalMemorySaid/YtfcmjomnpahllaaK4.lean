import Derived.Test.YtfcmjomnpahllaaK3
import Derived.Test.YtfcmjomnpahllaaT1
namespace Go.Proofs.Ytfcmjomnpahllaa
open Go Hv
set_option linter.unusedVariables false
set_option linter.unusedSimpArgs false
set_option maxRecDepth 10000
set_option maxHeartbeats 1000000
/-! payload, Build -/
theorem wr8 (v : Nat) : wr .u8 (v : Int) = ((v % 256 : Nat) : Int) := by rw [wr_u8]; omega
theorem wr32 (v : Nat) : wr .u32 (v : Int) = ((v % 4294967296 : Nat) : Int) := by
  have h : IntKind.u32.wrap (v : Int) = (v : Int) % 4294967296 := rfl
  rw [wr_eq, h]; omega
theorem nodup_le : ∀ {l m : List Txt}, l.Nodup → (∀ x ∈ l, x ∈ m) → l.length ≤ m.length
  | [], m, _, _ => Nat.zero_le _
  | a :: l, m, hn, hs => by
    have hn' := List.nodup_cons.1 hn
    have ha := hs a List.mem_cons_self
    have h1 := nodup_le (m := m.erase a) hn'.2 (fun x hx => (List.mem_erase_of_ne (fun e => hn'.1 (by rw [← e]; exact hx))).2 (hs x (List.mem_cons_of_mem _ hx)))
    rw [List.length_erase_of_mem ha] at h1
    have := List.length_pos_of_mem ha
    rw [List.length_cons]; omega
def layL (w : W) (bs : List (List UInt8)) : W := bs.foldl W.lay w
theorem layL_append (w : W) (a b : List (List UInt8)) : layL w (a ++ b) = layL (layL w a) b := List.foldl_append
theorem layL_err {w : W} (h : w.err ≠ 0) : ∀ bs, layL w bs = w
  | [] => rfl
  | b :: bs => by
    show layL (w.lay b) bs = w
    have e : w.lay b = w := by unfold W.lay; rw [if_pos h]
    rw [e]; exact layL_err h bs
theorem layL_lim (w : W) : ∀ bs, (layL w bs).lim = w.lim
  | [] => rfl
  | b :: bs => (layL_lim (w.lay b) bs).trans W.lay_len.2
theorem layL_fit : ∀ (bs : List (List UInt8)) {w : W}, w.err = 0 → w.out.length + bs.flatten.length ≤ w.lim → layL w bs = { w with out := w.out ++ bs.flatten }
  | [], w, _, _ => by simp [layL]
  | b :: bs, w, he, hl => by
    rw [List.flatten_cons, List.length_append] at hl
    show layL (w.lay b) bs = _
    rw [lay_yes he (by omega), layL_fit bs (w := { w with out := w.out ++ b }) he (by rw [List.length_append]; show _ ≤ w.lim; omega)]
    rw [List.flatten_cons, List.append_assoc]
theorem layL_over : ∀ (bs : List (List UInt8)) {w : W}, w.err = 0 → w.out.length ≤ w.lim → w.lim < w.out.length + bs.flatten.length → (layL w bs).err = 3
  | [], w, _, h1, h2 => by simp at h2; omega
  | b :: bs, w, he, h1, h2 => by
    rw [List.flatten_cons, List.length_append] at h2
    show (layL (w.lay b) bs).err = 3
    by_cases hb : b.length ≤ w.lim - w.out.length
    · rw [lay_yes he hb]
      exact layL_over bs (w := { w with out := w.out ++ b }) he (by rw [List.length_append]; show _ ≤ w.lim; omega) (by rw [List.length_append]; show w.lim < _; omega)
    · rw [lay_no (fun h => hb h.2), if_pos he, layL_err (by show (3 : Int) ≠ 0; decide)]
def pairPieces (ps : List (Txt × Txt)) : List (List UInt8) := ps.flatMap fun p => [textB p.1, textB p.2]
def payPieces (r : Rec) : List (List UInt8) := [num r.kind.toNat 1, num r.id 8] ++ (if r.kind = 1 then [num r.ps.length 4] ++ pairPieces r.ps ++ [textsB r.ks] else [])
def pay (r : Rec) : List UInt8 := (payPieces r).flatten
theorem May.kind {r : Rec} (h : May r) : r.kind = 1 ∨ r.kind = 2 := by
  rcases h.2 with h | h
  · exact .inr h.1
  · exact .inl h.1
theorem May.few {r : Rec} (h : May r) : r.ps.length ≤ 1024 ∧ r.ks.length ≤ 1024 := by
  rcases h.2 with h | h
  · rw [h.2.1, h.2.2]; simp
  · have h1 := nodup_le h.2.2.2.1.nodup (m := r.ks) (fun x hx => by
      obtain ⟨p, hp, rfl⟩ := List.mem_map.1 hx
      exact (h.2.2.2.2 p hp).1)
    rw [List.length_map] at h1
    exact ⟨Nat.le_trans h1 h.2.1.1.2.1, h.2.1.1.2.1⟩
theorem May.short {r : Rec} (h : May r) : (∀ p ∈ r.ps, p.1.length ≤ 65535 ∧ p.2.length ≤ 65535) ∧ ∀ s ∈ r.ks, s.length ≤ 65535 := by
  rcases h.2 with h | h
  · rw [h.2.1, h.2.2]; simp
  · exact ⟨fun p hp => ⟨h.2.1.1.2.2 _ (h.2.2.2.2 p hp).1, (h.2.2.2.2 p hp).2⟩, h.2.1.1.2.2⟩
theorem flat_bound {l : List Txt} {B : Nat} (h : ∀ s ∈ l, s.length ≤ B) : (l.flatMap textB).length ≤ l.length * (4 + B) := by
  induction l with
  | nil => simp
  | cons s l ih =>
    have h1 := ih fun x hx => h x (List.mem_cons_of_mem _ hx)
    have h2 := h s List.mem_cons_self
    rw [List.flatMap_cons, List.length_append, textB_length, List.length_cons, Nat.add_mul]
    omega
def payW (r : Rec) : W := layL ⟨1048576, [], 0⟩ (payPieces r)
structure PyInv (H0 : Heap) (g : Nat) (w : W) (ps : List (Txt × Txt)) (H1 : Heap) (m : Nat) (vs : List Value) (H' : Heap) : Prop where
  ex : ∃ (i : Nat) (S' : List Nat), vs = [.int .i64 (i : Int)] ∧ m + i = ps.length ∧ WAt H0 H' g S' (layL w (pairPieces (ps.take i))) ∧ Upd [] H0 H'
section
variable {H : Heap} {K : Value → Heap → Prop}
theorem pieces_take {ps : List (Txt × Txt)} {i : Nat} {p : Txt × Txt} (hp : ps[i]? = some p) : pairPieces (ps.take (i + 1)) = pairPieces (ps.take i) ++ [textB p.1, textB p.2] := by
  unfold pairPieces; rw [List.take_add_one, hp, List.flatMap_append]; simp
theorem WAt.lim {H0 H : Heap} {g : Nat} {S : List Nat} {w : W} (d : WAt H0 H g S w) : w.out.length ≤ w.lim := d.ok.le
theorem payload_t {r : Rec} {ap ak : Option Addr} {cp ck : Nat} (hr : RecIn H r ap ak) (hm : May r)
    (hk : ∀ a c H', Made H H' 5 1 a (payW r).told.length c (u8s (payW r).told) → K (.tuple #[.slice a (payW r).told.length c, .int .i64 (payW r).err]) H') : HCalls Try.prog 29 [rv r ap cp ak ck] H K := by
  refine hcalls (fn := Try.f29) [] mixed Try.func29 rfl rfl (by decide +kernel) ?_
  have hnp := hr.np
  have hnk := hr.nk
  obtain ⟨hfp, hfk⟩ := hm.few
  obtain ⟨hsp, hsk⟩ := hm.short
  obtain ⟨kn, hkn⟩ : ∃ kn : Nat, r.kind = (kn : Int) ∧ kn < 256 := by
    rcases hm.kind with h | h
    · exact ⟨1, h, by decide⟩
    · exact ⟨2, h, by decide⟩
  have wk : wr .u8 (r.kind) = (kn : Int) := by rw [hkn.1, wr_u8]; omega
  (repeat first | refine HReg.step ?_ | refine HCode.step ?_)
  refine HNew.mk fun b1 hb1 => ?_
  have u1 : Upd [] H (H.upd b1 (.cells (rcells r ap cp ak ck).toArray 28)) := Upd.new hb1 _
  have o1 : RowAt (H.upd b1 (.cells (rcells r ap cp ak ck).toArray 28)) (some ⟨b1, 0, none⟩) (rcells r ap cp ak ck) := RowAt.of_cells (upd_same _ _ _)
  have hH' : H.upd b1 (.cells [Value.int .i64 r.kind, .int .u64 (r.id : Int), .slice ap r.ps.length cp, .slice ak r.ks.length ck].toArray 28) = H.upd b1 (.cells (rcells r ap cp ak ck).toArray 28) := rfl
  rw [hH']
  generalize hH1 : H.upd b1 (.cells (rcells r ap cp ak ck).toArray 28) = H1 at u1 o1
  have hr1 := hr.upd0 u1
  (repeat first | refine HReg.step ?_ | refine HCode.step ?_)
  refine HCall.mk ⟨Try.f30, Try.func30, by rfl, by rfl⟩ ?_
  refine newW_t (by decide) fun g S2 H2 d2 => ?_
  have d2 : WAt H1 H2 g S2 ⟨1048576, [], 0⟩ := d2
  have o2 := o1.upd (S := []) d2.base (.inr (Off.nil _))
  (repeat first | refine HReg.step ?_ | refine HCode.step ?_)
  refine HLoad.one (v := .int .i64 r.kind) (by exact o2.get (i := 0) rfl) ?_
  (repeat first | refine HReg.step ?_ | refine HCode.step ?_)
  rw [wk]
  refine HCall.mk ⟨Try.f50, Try.func50, by rfl, by rfl⟩ ?_
  refine u8_t d2 hkn.2 (by simp) fun S3 H3 d3 f3 => ?_
  have hl3 := d3.lim
  have hm3 : ((⟨1048576, [], 0⟩ : W).lay (num kn 1)).lim = 1048576 := W.lay_len.2
  have o3 := o1.upd (S := []) d3.base (.inr (Off.nil _))
  (repeat first | refine HReg.step ?_ | refine HCode.step ?_)
  refine HLoad.one (v := .int .u64 (r.id : Int)) (by exact o3.get (i := 1) rfl) ?_
  (repeat first | refine HReg.step ?_ | refine HCode.step ?_)
  refine HCall.mk ⟨Try.f51, Try.func51, by rfl, by rfl⟩ ?_
  refine u64_t d3 (by omega) fun S4 H4 d4 f4 => ?_
  have e4 : ((⟨1048576, [], 0⟩ : W).lay (num kn 1)).lay (num r.id 8) = layL ⟨1048576, [], 0⟩ [num r.kind.toNat 1, num r.id 8] := by rw [hkn.1]; rfl
  rw [e4] at d4
  have o4 := o1.upd (S := []) d4.base (.inr (Off.nil _))
  have hm4 := layL_lim ⟨1048576, [], 0⟩ [num r.kind.toNat 1, num r.id 8]
  generalize hw4 : layL ⟨1048576, [], 0⟩ [num r.kind.toNat 1, num r.id 8] = w4 at d4 hm4
  have hm4 : w4.lim = 1048576 := hm4
  have hl4 := d4.lim
  (repeat first | refine HReg.step ?_ | refine HCode.step ?_)
  refine HLoad.one (v := .int .i64 r.kind) (by exact o4.get (i := 0) rfl) ?_
  (repeat first | refine HReg.step ?_ | refine HCode.step ?_)
  refine hif (fun h1 => ?_) (fun h1 => ?_)
  · have h1 := eqB_true.1 h1
    have wn : wr .u32 (r.ps.length : Int) = (r.ps.length : Int) := by rw [wr32 r.ps.length]; omega
    (repeat first | refine HReg.step ?_ | refine HCode.step ?_)
    refine HLoad.one (v := .slice ap r.ps.length cp) (by exact o4.get (i := 2) rfl) ?_
    (repeat first | refine HReg.step ?_ | refine HCode.step ?_)
    rw [wn]
    refine HCall.mk ⟨Try.f52, Try.func52, by rfl, by rfl⟩ ?_
    refine u32_t d4 (by omega) (by omega) fun S5 H5 d5 f5 => ?_
    have o5 := o1.upd (S := []) d5.base (.inr (Off.nil _))
    generalize hw5 : w4.lay (num r.ps.length 4) = w5 at d5
    have hm5 : w5.lim = 1048576 := by rw [← hw5]; exact W.lay_len.2.trans hm4
    (repeat first | refine HReg.step ?_ | refine HCode.step ?_)
    refine HLoad.one (v := .slice ap r.ps.length cp) (by exact o5.get (i := 2) rfl) ?_
    (repeat first | refine HReg.step ?_ | refine HCode.step ?_)
    refine hloopC [6, 29, 30, 31, 32, 33, 34, 35, 36, 37, 38, 39, 40, 41] [29] (PyInv H1 g w5 r.ps H5) rfl (by repeat' first | exact Resp.retD | exact Resp1.valuesK | refine Resp.blockD ?_ | refine Resp.thenD ?_ ?_ | refine Resp.hcode ?_) ?_ ?_
    · exact ⟨r.ps.length, PyInv.mk ⟨0, S5, rfl, rfl, by rw [List.take_zero]; exact d5, d5.base⟩⟩
    rintro m _ fe H6 ⟨i, S6, rfl, hmi, d6, u6⟩
    (repeat first | refine HReg.step ?_ | refine HCode.step ?_)
    refine hif (fun h2 => ?_) (fun h2 => ?_)
    · have h2 := ltB_true.1 h2
      have w2 : wr .i64 ((i : Int) + 1) = ((i + 1 : Nat) : Int) := by rw [wr_i64 (by omega) (by omega)]; omega
      obtain ⟨p, hp⟩ : ∃ p, r.ps[i]? = some p := ⟨r.ps[i]'(by omega), by simp⟩
      obtain ⟨hs1, hs2⟩ := hsp p (List.mem_of_getElem? hp)
      have hr6 := hr1.upd0 u6
      have hm6 : (layL w5 (pairPieces (r.ps.take i))).lim = 1048576 := (layL_lim _ _).trans hm5
      have hpt := pieces_take hp
      generalize hw6 : layL w5 (pairPieces (r.ps.take i)) = w6 at d6 hm6
      have hl6 := d6.lim
      obtain ⟨ba, bo, rfl, _⟩ := hr.rp _ _ (pairsV_get hp).1
      (repeat first | refine HReg.step ?_ | refine HCode.step ?_)
      refine HReq.mk ⟨by omega, by omega⟩ ?_
      (repeat first | refine HReg.step ?_ | refine HCode.step ?_)
      refine HLoadN_pair hr6.rp hp ?_
      (repeat first | refine HReg.step ?_ | refine HCode.step ?_)
      refine HNew.mk fun b7 hb7 => ?_
      (repeat first | refine HReg.step ?_ | refine HCode.step ?_)
      refine store_pair (p := p) (OwnRow.lit (upd_same _ _ _) rfl) rfl fun H7 o7 u7 => ?_
      have u67 : Upd [] H6 H7 := Upd.drop (Upd.new hb7 _) u7 (fun x hx => by rw [List.mem_singleton.1 hx]; exact hb7)
      have d7 := d6.upd0 u67
      (repeat first | refine HReg.step ?_ | refine HCode.step ?_)
      refine HLoad.one (v := .string (bs p.1)) (by exact o7.rows.get (i := 0) rfl) ?_
      (repeat first | refine HReg.step ?_ | refine HCode.step ?_)
      refine HCall.mk ⟨Try.f31, Try.func31, by rfl, by rfl⟩ ?_
      refine text_t d7 (by omega) fun S8 H8 d8 f8 => ?_
      have hl8 := d8.lim
      have hm8 : (w6.lay (textB p.1)).lim = 1048576 := W.lay_len.2.trans hm6
      have b7S : b7 ∉ S6 := fun h => d6.live b7 h hb7
      have o8 : RowAt H8 (some ⟨b7, 0, none⟩) [.string (bs p.1), .string (bs p.2)] := o7.rows.upd f8.upd (.inr fun q hq hqS => by cases hq; exact b7S hqS)
      (repeat first | refine HReg.step ?_ | refine HCode.step ?_)
      refine HLoad.one (v := .string (bs p.2)) (by exact o8.get (i := 1) rfl) ?_
      (repeat first | refine HReg.step ?_ | refine HCode.step ?_)
      refine HCall.mk ⟨Try.f31, Try.func31, by rfl, by rfl⟩ ?_
      refine text_t d8 (by omega) fun S9 H9 d9 f9 => ?_
      (repeat first | refine HReg.step ?_ | refine HCode.step ?_)
      rw [w2]
      refine ⟨m - 1, by omega, PyInv.mk ⟨i + 1, S9, rfl, by omega, ?_, d9.base⟩⟩
      rw [hpt, layL_append, hw6]; exact d9
    · have h2 := ltB_false.1 h2
      have hi : i = r.ps.length := by omega
      subst hi
      rw [List.take_length] at d6
      have hm6 : (layL w5 (pairPieces r.ps)).lim = 1048576 := (layL_lim _ _).trans hm5
      have hl6 := d6.lim
      have hfb := flat_bound hsk
      have htb : (textsB r.ks).length ≤ 4 + 1024 * 65539 := by
        unfold textsB
        rw [List.length_append, num_length]
        have : r.ks.length * (4 + 65535) ≤ 1024 * 65539 := Nat.mul_le_mul hfk (by decide)
        omega
      have o6 := o1.upd (S := []) u6 (.inr (Off.nil _))
      (repeat first | refine HReg.step ?_ | refine HCode.step ?_)
      refine HLoad.one (v := .slice ak r.ks.length ck) (by exact o6.get (i := 3) rfl) ?_
      (repeat first | refine HReg.step ?_ | refine HCode.step ?_)
      refine HCall.mk ⟨Try.f53, Try.func53, by rfl, by rfl⟩ ?_
      refine texts_t d6 hr1.rk rfl (by omega) fun S7 H7 d7 f7 => ?_
      have ew : (layL w5 (pairPieces r.ps)).lay (textsB r.ks) = payW r := by
        unfold payW payPieces
        rw [if_pos h1, layL_append, hw4, layL_append, layL_append]
        show (layL w5 (pairPieces r.ps)).lay (textsB r.ks) = (layL (w4.lay (num r.ps.length 4)) (pairPieces r.ps)).lay (textsB r.ks)
        rw [hw5]
      rw [ew] at d7
      have hl7 := d7.lim
      have hm7 : (payW r).lim = 1048576 := layL_lim _ _
      (repeat first | refine HReg.step ?_ | refine HCode.step ?_)
      refine HCall.mk ⟨Try.f32, Try.func32, by rfl, by rfl⟩ ?_
      refine out_t d7 (by omega) fun a c H8 m8 => ?_
      (repeat first | refine HReg.step ?_ | refine HCode.step ?_)
      exact hk a c H8 ⟨m8.own, u1.trans (d7.base.trans m8.upd), fun p hp => Upd.none (S := []) (u1.trans d7.base) (by simp) (m8.new p hp)⟩
  · have h1 := eqB_false.1 h1
    have ew : w4 = payW r := by
      unfold payW payPieces
      rw [if_neg h1, List.append_nil, hw4]
    rw [ew] at d4
    have hl7 := d4.lim
    have hm7 : (payW r).lim = 1048576 := layL_lim _ _
    (repeat first | refine HReg.step ?_ | refine HCode.step ?_)
    refine HCall.mk ⟨Try.f32, Try.func32, by rfl, by rfl⟩ ?_
    refine out_t d4 (by omega) fun a c H8 m8 => ?_
    (repeat first | refine HReg.step ?_ | refine HCode.step ?_)
    exact hk a c H8 ⟨m8.own, u1.trans (d4.base.trans m8.upd), fun p hp => Upd.none (S := []) (u1.trans d4.base) (by simp) (m8.new p hp)⟩
end
end Go.Proofs.Ytfcmjomnpahllaa
