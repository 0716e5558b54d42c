import Derived.Test.YtocejipjnklieaaF17
namespace Go.Proofs.Ytocejipjnklieaa
open Go Hv
set_option linter.unusedVariables false
set_option linter.unusedSimpArgs false
set_option maxRecDepth 10000
set_option maxHeartbeats 4000000
/-! The document's disk: Rename, List. CUT2 -/
theorem Stq.more {H H' : Heap} {B B' X : List Nat} (h : Stq H H' B B') (hX : ∀ b ∈ X, b ∈ B) : Stq H H' B (B' ++ X) :=
  ⟨h.upd, fun b hb => by
    rcases List.mem_append.1 hb with h1 | h1
    · exact h.sub b h1
    · exact .inl (hX b h1)⟩
section
variable {H1 H : Heap} {g N : Nat} {s : St} {B : List Nat} {K : Value → Heap → Prop}
theorem rrename_t {t u : Txt} (R : RAt H1 H g s B) (c : Cok s N)
    (hk : ∀ H' B', RAt H1 H' g (s.rename (bs t) (bs u)).2 B' → Stq H H' B B' → K (.int .i64 (s.rename (bs t) (bs u)).1) H') : HCalls Try.prog 48 [.pointer (some ⟨g, 0, none⟩), .string (bs t), .string (bs u)] H K := by
  refine hcalls (fn := Try.f48) [] mixed Try.func48 rfl rfl (by decide +kernel) ?_
  (repeat first | refine HReg.step ?_ | refine HCode.step ?_)
  refine HCall.mk ⟨Try.f57, Try.func57, by rfl, by rfl⟩ ?_
  refine rcounted_t R c.kl c.kh c.lo c.ok (Nat.le_trans c.hN (by decide)) fun H2 R2 S2 => ?_
  (repeat first | refine HReg.step ?_ | refine HCode.step ?_)
  refine hif (fun h1 => ?_) (fun h1 => ?_)
  · have e : s.rename (bs t) (bs u) = (62, s.call) := by unfold St.rename; dsimp only; rw [if_pos h1]
    rw [e] at hk
    (repeat first | refine HReg.step ?_ | refine HCode.step ?_)
    exact hk H2 B R2 S2
  (repeat first | refine HReg.step ?_ | refine HCode.step ?_)
  refine HCall.mk ⟨Try.f58, Try.func58, by rfl, by rfl⟩ ?_
  refine rnamed_t ?_
  (repeat first | refine HReg.step ?_ | refine HCode.step ?_)
  refine hif (fun h5 => ?_) (fun h5 => ?_)
  · have hn1 := not_dec_true h5
    have e : s.rename (bs t) (bs u) = (1, s.call) := by unfold St.rename; dsimp only; rw [if_neg (by rw [h1]; simp), if_pos hn1]
    rw [e] at hk
    (repeat first | refine HReg.step ?_ | refine HCode.step ?_)
    exact hk H2 B R2 S2
  have hn1 := not_dec_false h5
  have R2' := R2
  obtain ⟨fs, aF, cF, cl, st, r, rfl⟩ := R2
  have hfew := c.ok.call.few
  have hcn := r.cnt
  (repeat first | refine HReg.step ?_ | refine HCode.step ?_)
  refine HCall.mk ⟨Try.f59, Try.func59, by rfl, by rfl⟩ ?_
  refine rat_t r (by omega) (fun i f hf hn => ?_) (fun i hi hlt hgt => ?_)
  · have hfm := List.mem_of_getElem? hf
    have hg := r.get f hfm
    rw [hn] at hg
    have e : s.rename (bs t) (bs u) = (0, (s.call.del (bs t)).put (bs u) (f.bytes, f.synced)) := by unfold St.rename; dsimp only; rw [if_neg (by rw [h1]; simp), if_neg (not_not_intro hn1), hg]
    rw [e] at hk
    have hil := (List.getElem?_eq_some_iff.1 hf).1
    obtain ⟨bF, rfl⟩ := r.row.addr (by omega)
    (repeat first | refine HReg.step ?_ | refine HCode.step ?_)
    rw [ltB_false.2 (by omega)]
    (repeat first | refine HReg.step ?_ | refine HCode.step ?_)
    refine HLoad.one (v := .slice (some ⟨bF, 0, none⟩) fs.length cF) (by exact r.obj.rows.get (i := 0) rfl) ?_
    (repeat first | refine HReg.step ?_ | refine HCode.step ?_)
    refine HReq.mk ⟨by omega, by omega⟩ ?_
    (repeat first | refine HReg.step ?_ | refine HCode.step ?_)
    refine HLoadN_rf r.row.rows hf ?_
    (repeat first | refine HReg.step ?_ | refine HCode.step ?_)
    refine HNew.mk fun b8 hb8 => ?_
    (repeat first | refine HReg.step ?_ | refine HCode.step ?_)
    refine store_rf (f := f) (OwnRow.lit (upd_same _ _ _) rfl) rfl fun H3 o3 u3 => ?_
    have u3 : Upd [] H2 H3 := Upd.drop (Upd.new hb8 _) u3 (fun q hq => by rw [List.mem_singleton.1 hq]; exact hb8)
    have r3 := r.upd0 u3
    have b8n : b8 ∉ rblk g (some ⟨bF, 0, none⟩) fs := fun hb => r.live b8 hb hb8
    have n8 : H1 b8 = none := Upd.none (S := []) r.base (by simp) hb8
    (repeat first | refine HReg.step ?_ | refine HCode.step ?_)
    refine HCall.mk ⟨Try.f61, Try.func61, by rfl, by rfl⟩ ?_
    refine rgone_t r3.ph (by omega) hil fun aF4 cF4 H4 p4 s4 v4 => ?_
    have r4 := r3.del hf p4
    have o4 := o3.upd s4.upd (fun p hp hb => by cases hp; exact b8n hb)
    (repeat first | refine HReg.step ?_ | refine HCode.step ?_)
    refine store_row o4 (v := .string (bs u)) rfl (i := 0) (by decide) (by rfl) fun H5 o5 u5 => ?_
    have o5 : OwnRow H5 96 1 (some ⟨b8, 0, none⟩) 3 3 (⟨u, f.a, f.c, f.bytes, f.synced⟩ : RFl).cells := o5
    have b8n4 : b8 ∉ rblk g aF4 (fs.take i ++ fs.drop (i + 1)) := fun hb => by
      rcases s4.sub b8 hb with h | h
      · exact b8n h
      · exact o3.there rfl h
    have r5 := r4.upd u5 (fun b hb hm => b8n4 (by rw [← List.mem_singleton.1 hb]; exact hm)) (fun b hb => by rw [List.mem_singleton.1 hb]; exact n8)
    have hlen : (fs.take i ++ fs.drop (i + 1)).length ≤ 100 := by rw [List.length_append, List.length_take, List.length_drop]; omega
    have w3 := r3.byt f hfm
    have fblk : ∀ b ∈ f.bl, b ∈ rblk g (some ⟨bF, 0, none⟩) fs := fun b hb => mem_rblk.2 (.inr (.inr ⟨f, hfm, hb⟩))
    -- the bytes of the file stay while it is taken out
    have w4 : WRow H4 5 1 f.a f.bytes.length f.c (u8s f.bytes) := w3.upd v4 (off_notin fun b hb hm => by
      obtain ⟨c1, z1, e1⟩ := w3.live b hb
      obtain ⟨c2, z2, e2⟩ := own_live r3.obj
      rw [List.mem_singleton.1 hm, e2] at e1; cases e1)
    have w5 : WRow H5 5 1 f.a f.bytes.length f.c (u8s f.bytes) := w4.upd u5 (off_notin fun b hb hm => b8n (by rw [← List.mem_singleton.1 hm]; exact fblk b hb))
    (repeat first | refine HReg.step ?_ | refine HCode.step ?_)
    refine HLoadN_row o5.rows rfl ?_
    (repeat first | refine HReg.step ?_ | refine HCode.step ?_)
    refine HCall.mk ⟨Try.f60, Try.func60, by rfl, by rfl⟩ ?_
    refine rput_t (f := ⟨u, f.a, f.c, f.bytes, f.synced⟩) r5 hlen w5 (r.syn f hfm) (fun x hx b hb => ?_) (fun b hb => r.new b (fblk b hb)) fun H6 B6 R6 s6 => ?_
    · obtain ⟨j, hj⟩ := List.getElem?_of_mem hx
      exact r.ap i _ f x (by split <;> omega) hf (erase_get j x hj) b hb
    (repeat first | refine HReg.step ?_ | refine HCode.step ?_)
    rw [hn] at R6
    refine hk H6 B6 R6 (S2.trans ?_)
    have s24 := (Stq.new0 u3).trans (s4.more fblk)
    exact Stq.trans ⟨upd_join s24.upd u5 (fun b hb => .inr (by rw [List.mem_singleton.1 hb]; exact hb8)), s24.sub⟩ s6
  · have hnn := r.none hlt hgt
    have e : s.rename (bs t) (bs u) = (61, s.call) := by unfold St.rename; dsimp only; rw [if_neg (by rw [h1]; simp), if_neg (not_not_intro hn1), hnn]
    rw [e] at hk
    (repeat first | refine HReg.step ?_ | refine HCode.step ?_)
    rw [ltB_true.2 (by omega)]
    (repeat first | refine HReg.step ?_ | refine HCode.step ?_)
    exact hk H2 _ R2' S2
theorem app_texts {a b : Option Addr} {k cap m c : Nat} {xs ys : List Txt} {H0 H : Heap} {K : Value → Heap → Prop} (hm : Made H0 H 9 1 a k cap (txts xs)) (hy : RowAt H b (txts ys)) (hyl : ys.length = m) (hb : k + m ≤ 8796093022208)
    (hk : ∀ a' cap' H', Made H0 H' 9 1 a' (k + m) cap' (txts (xs ++ ys)) → K (.slice a' (k + m) cap') H') :
    HSem Try.prog (Builtin.append_ #[36, 36] 36 [.slice a k cap, .slice b m c].toArray) H K := by
  refine append_madeG (ie := Try.t9) (z := .string ⟨#[]⟩) (xs := txts xs) (ys := txts ys) Try.underlying36 rfl rfl rfl (by decide) hm hy (by unfold txts; rw [List.length_map, hyl]; exact (Nat.mul_one _).symm) (fun v hv => by
    unfold txts at hv
    obtain ⟨x, _, rfl⟩ := List.mem_map.1 hv
    rfl) (by show (k + m) * 16 ≤ _; omega) (by omega) fun a' cap' H' m' => ?_
  have e : txts xs ++ txts ys = txts (xs ++ ys) := by unfold txts; rw [List.map_append]
  rw [e] at m'
  exact hk a' cap' H' m'
structure RlInv (H2 : Heap) (fs : List RFl) (m : Nat) (vs : List Value) (H' : Heap) : Prop where
  ex : ∃ (i : Nat) (a : Option Addr) (c : Nat), vs = [.slice a i c, .int .i64 (i : Int)] ∧ m + i = fs.length ∧ Made H2 H' 9 1 a i c (txts ((fs.take i).map RFl.name))
theorem rlist_t (R : RAt H1 H g s B) (c : Cok s N)
    (hno : s.call.d.off = true → ∀ H', RAt H1 H' g s.call B → Stq H H' B B → K (.tuple #[.slice none 0 0, .int .i64 62]) H')
    (hyes : s.call.d.off = false → ∀ a c ns H2 H', RAt H1 H2 g s.call B → Stq H H2 B B → Nms s.call ns → ns.length ≤ 16 → Made H2 H' 9 1 a ns.length c (txts ns) → K (.tuple #[.slice a ns.length c, .int .i64 0]) H') : HCalls Try.prog 49 [.pointer (some ⟨g, 0, none⟩)] H K := by
  refine hcalls (fn := Try.f49) [] mixed Try.func49 rfl rfl (by decide +kernel) ?_
  (repeat first | refine HReg.step ?_ | refine HCode.step ?_)
  refine HCall.mk ⟨Try.f57, Try.func57, by rfl, by rfl⟩ ?_
  refine rcounted_t R c.kl c.kh c.lo c.ok (Nat.le_trans c.hN (by decide)) fun H2 R2 S2 => ?_
  (repeat first | refine HReg.step ?_ | refine HCode.step ?_)
  refine hif (fun h1 => ?_) (fun h1 => ?_)
  · (repeat first | refine HReg.step ?_ | refine HCode.step ?_)
    exact hno h1 H2 R2 S2
  have R2' := R2
  obtain ⟨fs, aF, cF, cl, st, r, rfl⟩ := R2
  have hfew := c.ok.call.few
  have hcn := r.cnt
  (repeat first | refine HReg.step ?_ | refine HCode.step ?_)
  refine hloopC [4, 5, 8, 9, 10, 11, 12, 13, 14, 15, 16, 17, 18, 19, 20, 21, 22, 23, 24, 25, 26, 27] [4, 5] (RlInv H2 fs) rfl (by repeat' first | exact Resp.retD | exact Resp1.valuesK | refine Resp.blockD ?_ | refine Resp.thenD ?_ ?_ | refine Resp.hcode ?_) ?_ ?_
  · exact ⟨fs.length, RlInv.mk ⟨0, none, 0, rfl, rfl, ⟨OwnRow.nil _ _ _, Upd.refl _ _, fun p hp => by cases hp⟩⟩⟩
  rintro m _ fe H3 ⟨i, a3, c3, rfl, hmi, m3⟩
  have r3 := r.upd0 m3.upd
  (repeat first | refine HReg.step ?_ | refine HCode.step ?_)
  refine HLoad.one (v := .slice aF fs.length cF) (by exact r3.obj.rows.get (i := 0) rfl) ?_
  (repeat first | refine HReg.step ?_ | refine HCode.step ?_)
  refine hif (fun h2 => ?_) (fun h2 => ?_)
  · have h2 := ltB_true.1 h2
    have wi : wr .i64 ((i : Int) + 1) = ((i + 1 : Nat) : Int) := by rw [wr_i64 (by omega) (by omega)]; omega
    obtain ⟨f, hf⟩ : ∃ f, fs[i]? = some f := ⟨fs[i]'(by omega), by simp⟩
    obtain ⟨bF, rfl⟩ := r3.row.addr (by omega)
    (repeat first | refine HReg.step ?_ | refine HCode.step ?_)
    refine HLoad.one (v := .slice (some ⟨bF, 0, none⟩) fs.length cF) (by exact r3.obj.rows.get (i := 0) rfl) ?_
    (repeat first | refine HReg.step ?_ | refine HCode.step ?_)
    refine HReq.mk ⟨by omega, by omega⟩ ?_
    (repeat first | refine HReg.step ?_ | refine HCode.step ?_)
    refine HLoad.one (v := .string (bs f.name)) (by exact r3.row.rows.get (rfV_get hf 0 _ rfl)) ?_
    (repeat first | refine HReg.step ?_ | refine HCode.step ?_)
    refine HReq.mk (by decide) ?_
    (repeat first | refine HReg.step ?_ | refine HCode.step ?_)
    refine HNew.mk fun b4 hb4 => ?_
    have u4 : Upd [] H3 (H3.upd b4 (.cells [Value.string (bs f.name)].toArray 9)) := Upd.new hb4 _
    have r4 : RowAt (H3.upd b4 (.cells [Value.string (bs f.name)].toArray 9)) (some ⟨b4, 0, none⟩) (txts [f.name]) := RowAt.of_cells (upd_same _ _ _)
    generalize hH4 : H3.upd b4 (.cells [Value.string (bs f.name)].toArray 9) = H4 at u4 r4
    (repeat first | refine HReg.step ?_ | refine HCode.step ?_)
    refine app_texts (m3.step u4) r4 rfl (by omega) fun a5 c5 H5 m5 => ?_
    (repeat first | refine HReg.step ?_ | refine HCode.step ?_)
    rw [wi]
    refine ⟨m - 1, by omega, RlInv.mk ⟨i + 1, a5, c5, rfl, by omega, ?_⟩⟩
    have e : (fs.take (i + 1)).map RFl.name = (fs.take i).map RFl.name ++ [f.name] := by rw [List.take_add_one, hf]; simp
    rw [e]; exact m5
  · have h2 := ltB_false.1 h2
    obtain rfl : i = fs.length := by omega
    rw [List.take_length] at m3
    have hnl : (fs.map RFl.name).length = fs.length := List.length_map _
    (repeat first | refine HReg.step ?_ | refine HCode.step ?_)
    have := hyes h1 a3 c3 (fs.map RFl.name) H2 H3 R2' S2 ⟨r.ri, fun t => ⟨fun ht => ?_, fun ht => ?_⟩⟩ (by rw [hnl]; omega) (by rw [hnl]; exact m3)
    · rw [hnl] at this; exact this
    · obtain ⟨f, hf, rfl⟩ := List.mem_map.1 ht
      rw [r.get f hf]; simp
    · cases hx : s.call.fs (bs t) with
      | none => exact absurd hx ht
      | some x =>
        obtain ⟨f, hf, hn⟩ := r.all _ _ hx
        exact List.mem_map.2 ⟨f, hf, bs_inj hn⟩
end
end Go.Proofs.Ytocejipjnklieaa
