import Derived.Test.YtokfmkfobjkkpaaL5
namespace Go.Proofs.Ytokfmkfobjkkpaa
open Go Hv
set_option linter.unusedVariables false
set_option linter.unusedSimpArgs false
set_option maxRecDepth 10000
set_option maxHeartbeats 1000000
/-! lent -/
def spareP : Txt × Txt := ([115, 112, 97, 114, 101], [])
def spareS : Txt := [115, 112, 97, 114, 101]
structure LentOk (H H' : Heap) (r : Rec) (bp : Option Addr) (dp : Nat) (bk : Option Addr) (dk : Nat) : Prop where
  p : Made H H' 49 2 bp (r.ps.length + 1) dp (pairsV (r.ps ++ [spareP]))
  k : Made H H' 9 1 bk (r.ks.length + 1) dk (txts (r.ks ++ [spareS]))
section
variable {H : Heap} {K : Value → Heap → Prop}
theorem app_pairsZ {a b : Option Addr} {k cap m c : Nat} {xs ys : List (Txt × Txt)} {H0 H : Heap} {K : Value → Heap → Prop} (hm : Made H0 H 49 2 a k cap (pairsV xs)) (hy : RowAt H b (pairsV ys)) (hyl : ys.length = m) (hb : k + m ≤ 4398046511104)
    (hk : ∀ a' cap' H', Made H0 H' 49 2 a' (k + m) cap' (pairsV (xs ++ ys)) → K (.slice a' (k + m) cap') H') :
    HSem Try.prog (Builtin.append_ #[24, 24] 24 [.slice a k cap, .slice b m c].toArray) H K := by
  refine append_madeG (ie := Try.t49) (z := .agg #[.string ⟨#[]⟩, .string ⟨#[]⟩]) (xs := pairsV xs) (ys := pairsV ys) Try.underlying24 rfl rfl rfl (by decide) hm hy (by rw [pairsV_length, hyl]; rfl) (plain_pairs _) (by show (k + m) * 32 ≤ _; omega) (by omega) fun a' cap' H' m' => ?_
  rw [← pairsV_append] at m'
  exact hk a' cap' H' m'
theorem LentOk.recIn {H H' : Heap} {r : Rec} {bp bk : Option Addr} {dp dk : Nat} (h : LentOk H H' r bp dp bk dk) (h1 : r.ps.length ≤ 4398046510976) (h2 : r.ks.length ≤ 8796093021952) : RecIn H' r bp bk := by
  refine ⟨?_, ?_, h1, h2⟩
  · have := h.p.own.rows.take (r.ps.length * 2)
    rw [pairsV_take, List.take_append_of_le_length (Nat.le_refl _), List.take_of_length_le (Nat.le_refl _)] at this
    exact this
  · have := h.k.own.rows.take r.ks.length
    rw [← txts_take, List.take_append_of_le_length (Nat.le_refl _), List.take_of_length_le (Nat.le_refl _)] at this
    exact this
theorem lent_t {r : Rec} {ap ak : Option Addr} {cp ck : Nat} (hx : RecIn H r ap ak)
    (hk : ∀ bp dp bk dk H', LentOk H H' r bp dp bk dk → Upd [] H H' → K (rv r bp dp bk dk) H') : HCalls Try.prog 11 [rv r ap cp ak ck] H K := by
  refine hcalls (fn := Try.f11) [] mixed Try.func11 rfl rfl (by decide +kernel) ?_
  have hnp := hx.np
  have hnk := hx.nk
  (repeat first | refine HReg.step ?_ | refine HCode.step ?_)
  refine HNew.mk fun b1 hb1 => ?_
  have u1 : Upd [] H (H.upd b1 (.cells (rcells r ap cp ak ck).toArray 27)) := Upd.new hb1 _
  have o1 : OwnRow (H.upd b1 (.cells (rcells r ap cp ak ck).toArray 27)) 27 1 (some ⟨b1, 0, none⟩) 4 4 (rcells r ap cp ak ck) := OwnRow.lit (upd_same _ _ _) rfl
  have hH' : H.upd b1 (.cells [Value.int .i64 r.kind, .int .u64 (r.id : Int), .slice ap r.ps.length cp, .slice ak r.ks.length ck].toArray 27) = H.upd b1 (.cells (rcells r ap cp ak ck).toArray 27) := rfl
  rw [hH']
  generalize hH1 : H.upd b1 (.cells (rcells r ap cp ak ck).toArray 27) = H1 at u1 o1
  (repeat first | refine HReg.step ?_ | refine HCode.step ?_)
  refine HNew.mk fun b2 hb2 => ?_
  have u2 : Upd [] H1 (H1.upd b2 (.cells [Value.int .i64 0, .int .u64 0, .slice none 0 0, .slice none 0 0].toArray 27)) := Upd.new hb2 _
  have o2 : OwnRow (H1.upd b2 (.cells [Value.int .i64 0, .int .u64 0, .slice none 0 0, .slice none 0 0].toArray 27)) 27 1 (some ⟨b2, 0, none⟩) 4 4 zeroR := OwnRow.lit (upd_same _ _ _) rfl
  generalize hH2 : H1.upd b2 (.cells [Value.int .i64 0, .int .u64 0, .slice none 0 0, .slice none 0 0].toArray 27) = H2 at u2 o2
  have o1a := o1
  have ne : b1 ≠ b2 := fun e => by subst e; exact o1.there rfl hb2
  have o1 := o1.upd u2 (Off.nil _)
  have u02 := u1.trans u2
  have n1 := hb1
  have n2 : H b2 = none := Upd.none (S := []) u1 (by simp) hb2
  have hx2 := hx.upd0 u02
  (repeat first | refine HReg.step ?_ | refine HCode.step ?_)
  refine HLoad.one (v := .slice ap r.ps.length cp) (by exact o1.rows.get (i := 2) rfl) ?_
  (repeat first | refine HReg.step ?_ | refine HCode.step ?_)
  refine app_pairsZ (xs := []) (made_nil H2 49 2) hx2.rp rfl (by omega) fun a3 c3 H3 m3 => ?_
  rw [List.nil_append] at m3
  (repeat first | refine HReg.step ?_ | refine HCode.step ?_)
  refine HReq.mk (by decide) ?_
  (repeat first | refine HReg.step ?_ | refine HCode.step ?_)
  refine HNew.mk fun b4 hb4 => ?_
  have u4 : Upd [] H3 (H3.upd b4 (.cells [Value.string ⟨#[115, 112, 97, 114, 101]⟩, Value.string ⟨#[]⟩].toArray 49)) := Upd.new hb4 _
  have r4 : RowAt (H3.upd b4 (.cells [Value.string ⟨#[115, 112, 97, 114, 101]⟩, Value.string ⟨#[]⟩].toArray 49)) (some ⟨b4, 0, none⟩) (pairsV [spareP]) := RowAt.of_cells (upd_same _ _ _)
  generalize hH4 : H3.upd b4 (.cells [Value.string ⟨#[115, 112, 97, 114, 101]⟩, Value.string ⟨#[]⟩].toArray 49) = H4 at u4 r4
  (repeat first | refine HReg.step ?_ | refine HCode.step ?_)
  refine app_pairsZ (m3.step u4) r4 rfl (by omega) fun a5 c5 H5 m5 => ?_
  have o1 := o1.upd m5.upd (Off.nil _)
  have hx5 := hx2.upd0 m5.upd
  (repeat first | refine HReg.step ?_ | refine HCode.step ?_)
  refine HLoad.one (v := .slice ak r.ks.length ck) (by exact o1.rows.get (i := 3) rfl) ?_
  (repeat first | refine HReg.step ?_ | refine HCode.step ?_)
  refine app_textsZ (xs := []) (made_nil H5 9 1) hx5.rk rfl (by omega) fun a6 c6 H6 m6 => ?_
  rw [List.nil_append] at m6
  (repeat first | refine HReg.step ?_ | refine HCode.step ?_)
  refine HReq.mk (by decide) ?_
  (repeat first | refine HReg.step ?_ | refine HCode.step ?_)
  refine HNew.mk fun b7 hb7 => ?_
  have u7 : Upd [] H6 (H6.upd b7 (.cells [Value.string ⟨#[115, 112, 97, 114, 101]⟩].toArray 9)) := Upd.new hb7 _
  have r7 : RowAt (H6.upd b7 (.cells [Value.string ⟨#[115, 112, 97, 114, 101]⟩].toArray 9)) (some ⟨b7, 0, none⟩) (txts [spareS]) := RowAt.of_cells (upd_same _ _ _)
  generalize hH7 : H6.upd b7 (.cells [Value.string ⟨#[115, 112, 97, 114, 101]⟩].toArray 9) = H7 at u7 r7
  (repeat first | refine HReg.step ?_ | refine HCode.step ?_)
  refine app_textsZ (m6.step u7) r7 rfl (by omega) fun a8 c8 H8 m8 => ?_
  have o1 := o1.upd m8.upd (Off.nil _)
  have mp := m5.step m8.upd
  have hle1 := mp.own.le
  have hle2 := m8.own.le
  have u28 := m5.upd.trans m8.upd
  have o2 := o2.upd u28 (Off.nil _)
  (repeat first | refine HReg.step ?_ | refine HCode.step ?_)
  refine HLoad.one (v := .slice ap r.ps.length cp) (by exact o1.rows.get (i := 2) rfl) ?_
  (repeat first | refine HReg.step ?_ | refine HCode.step ?_)
  refine HReq.mk ⟨by omega, by omega⟩ ?_
  (repeat first | refine HReg.step ?_ | refine HCode.step ?_)
  refine store_row o1 (v := .slice a5 r.ps.length c5) rfl (i := 2) (by decide) (by rfl) fun H9 o9 u9 => ?_
  (repeat first | refine HReg.step ?_ | refine HCode.step ?_)
  refine HLoad.one (v := .slice ak r.ks.length ck) (by exact o9.rows.get (i := 3) rfl) ?_
  (repeat first | refine HReg.step ?_ | refine HCode.step ?_)
  refine HReq.mk ⟨by omega, by omega⟩ ?_
  (repeat first | refine HReg.step ?_ | refine HCode.step ?_)
  refine store_row o9 (v := .slice a8 r.ks.length c8) rfl (i := 3) (by decide) (by rfl) fun H10 o10 u10 => ?_
  (repeat first | refine HReg.step ?_ | refine HCode.step ?_)
  refine HLoadN_row o10.rows rfl ?_
  (repeat first | refine HReg.step ?_ | refine HCode.step ?_)
  have u0a : Upd [] H H10 := Upd.drop (Upd.drop (u02.trans u28) u9 (fun q hq => by rw [List.mem_singleton.1 hq]; exact hb1)) u10 (fun q hq => by rw [List.mem_singleton.1 hq]; exact hb1)
  have off2 : Off [b1] (some ⟨b2, 0, none⟩) := fun q hq hb => by cases hq; exact ne (List.mem_singleton.1 hb).symm
  refine store_rec (x := r) (ap := a5) (cp := c5) (ak := a8) (ck := c8) ((o2.upd u9 off2).upd u10 off2) rfl fun H11 o11 u11 => ?_
  (repeat first | refine HReg.step ?_ | refine HCode.step ?_)
  refine HLoadN_row o11.rows rfl ?_
  have fin : ∀ {e : TypeId} {size n c : Nat} {a : Option Addr} {xs : List Value}, e ≠ 27 → Made H2 H8 e size a n c xs → Made H H11 e size a n c xs := fun {e size n c a xs} he m => by
    have w9 := m.own.upd u9 (o1.offT m.own (Ne.symm he))
    have w10 := w9.upd u10 (o9.offT w9 (Ne.symm he))
    have o10b := (o2.upd u9 off2).upd u10 off2
    refine ⟨w10.upd u11 (o10b.offT w10 (Ne.symm he)), Upd.drop u0a u11 (fun q hq => by rw [List.mem_singleton.1 hq]; exact n2), fun q hq => Upd.none (S := []) u02 (by simp) (m.new q hq)⟩
  refine hk a5 c5 a8 c8 H11 ⟨?_, ?_⟩ (Upd.drop u0a u11 (fun q hq => by rw [List.mem_singleton.1 hq]; exact n2))
  · have := fin (by decide) mp
    rw [Nat.zero_add] at this; exact this
  · have := fin (by decide) (m8.back m5.upd)
    rw [Nat.zero_add] at this; exact this
end
end Go.Proofs.Ytokfmkfobjkkpaa
