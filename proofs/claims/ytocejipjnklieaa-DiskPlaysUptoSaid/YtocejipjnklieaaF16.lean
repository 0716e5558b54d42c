import Derived.Test.YtocejipjnklieaaF15
namespace Go.Proofs.Ytocejipjnklieaa
open Go Hv
set_option linter.unusedVariables false
set_option linter.unusedSimpArgs false
set_option maxRecDepth 10000
set_option maxHeartbeats 4000000
/-! The document's disk: put. CUT2 -/
theorem store_file {H : Heap} {b cF i j : Nat} {fs : List RFl} {f0 f : RFl} {K : Heap → Prop} (row : OwnRow H 96 3 (some ⟨b, 0, none⟩) fs.length cF (rfV fs)) (hi : fs[i]? = some f0) (hj : j = i * 3)
    (hk : ∀ H', OwnRow H' 96 3 (some ⟨b, 0, none⟩) fs.length cF (rfV (fs.set i f)) → Upd [b] H H' → K H') : storeN H b j 0 K f.cells := by
  have hil := (List.getElem?_eq_some_iff.1 hi).1
  have hl : ∀ x, (fs.set i x)[i]? = some x := fun x => by rw [List.getElem?_set_self hil]
  refine store_row row.flat (v := .string (bs f.name)) rfl (i := i * 3 + 0) (by omega) (by omega) fun H1 o1 u1 => ?_
  rw [← rfV_set (f' := ⟨f.name, f0.a, f0.c, f0.bytes, f0.synced⟩) hi (by decide) rfl] at o1
  refine store_row o1 (v := .slice f.a f.bytes.length f.c) rfl (i := i * 3 + 1) (by omega) (by omega) fun H2 o2 u2 => ?_
  rw [← rfV_set (f' := ⟨f.name, f.a, f.c, f.bytes, f0.synced⟩) (hl _) (by decide) rfl, List.set_set] at o2
  refine store_row o2 (v := .int .i64 (f.synced : Int)) rfl (i := i * 3 + 2) (by omega) (by omega) fun H3 o3 u3 => ?_
  rw [← rfV_set (f' := f) (hl _) (by decide) rfl, List.set_set] at o3
  exact hk H3 (unflat o3 (by rw [rfV_length, List.length_set]) (by decide)) ((u1.trans u2).trans u3)
theorem RPh.redo3 {H1 H H' : Heap} {g : Nat} {fs fs' : List RFl} {aF : Option Addr} {cF : Nat} {off : Bool} {rf cl st : Int} {X : List Nat} (R : RPh H1 H g fs aF cF off rf cl st) (u : Upd (blk aF) H H') (hl : fs'.length = fs.length)
    (row : OwnRow H' 96 3 aF fs.length cF (rfV fs')) (byt : ∀ f ∈ fs', WRow H 5 1 f.a f.bytes.length f.c (u8s f.bytes)) (ap : ∀ (i j : Nat) f f', i ≠ j → fs'[i]? = some f → fs'[j]? = some f' → ∀ b ∈ f.bl, b ∉ f'.bl)
    (sub : ∀ f ∈ fs', ∀ b ∈ f.bl, b ∈ rblk g aF fs ∨ b ∈ X) (hX : ∀ b ∈ X, H1 b = none) : RPh H1 H' g fs' aF cF off rf cl st ∧ Stq H H' (rblk g aF fs ++ X) (rblk g aF fs') := by
  have t5 : ∀ {a : Option Addr} {n c : Nat} {xs : List Value}, WRow H 5 1 a n c xs → Off (blk aF) a := fun w => off_notin fun b hb hm => by
    obtain ⟨c, z, e⟩ := w.live b hb
    exact R.row.notT (by decide) b hm _ _ e
  refine ⟨⟨by rw [hl]; exact R.obj.upd u (R.row.offT R.obj (by decide)), by rw [hl]; exact row, fun f hf => (byt f hf).upd u (t5 (byt f hf)), ap, fun b hb => ?_, Upd.drop R.base u (fun b hb => R.new b (mem_rblk.2 (.inr (.inl hb))))⟩, ⟨u.mono (fun k hk => List.mem_append_left _ (mem_rblk.2 (.inr (.inl hk)))), fun b hb => ?_⟩⟩
  · rcases mem_rblk.1 hb with h | h | ⟨f, hf, h⟩
    · exact R.new b (mem_rblk.2 (.inl h))
    · exact R.new b (mem_rblk.2 (.inr (.inl h)))
    · rcases sub f hf b h with h | h
      · exact R.new b h
      · exact hX b h
  · rcases mem_rblk.1 hb with h | h | ⟨f, hf, h⟩
    · exact .inl (List.mem_append_left _ (mem_rblk.2 (.inl h)))
    · exact .inl (List.mem_append_left _ (mem_rblk.2 (.inr (.inl h))))
    · rcases sub f hf b h with h | h
      · exact .inl (List.mem_append_left _ h)
      · exact .inl (List.mem_append_right _ h)
theorem mem_set_f {fs : List RFl} {i : Nat} {f x : RFl} (hx : x ∈ fs.set i f) : x = f ∨ x ∈ fs := by
  rcases List.mem_or_eq_of_mem_set hx with h | h
  · exact .inr h
  · exact .inl h
section
variable {H1 H : Heap} {g : Nat} {s : St} {K : Value → Heap → Prop}
theorem rput_t {fs : List RFl} {aF : Option Addr} {cF : Nat} {cl st : Int} {f : RFl} (r : RIn H1 H g s fs aF cF cl st) (hl : fs.length ≤ 100) (w : WRow H 5 1 f.a f.bytes.length f.c (u8s f.bytes)) (hsy : f.synced ≤ f.bytes.length)
    (hap : ∀ x ∈ fs, ∀ b ∈ f.bl, b ∉ x.bl) (hnew : ∀ b ∈ f.bl, H1 b = none)
    (hk : ∀ H' B', RAt H1 H' g (s.put (bs f.name) (f.bytes, f.synced)) B' → Stq H H' (rblk g aF fs ++ f.bl) B' → K (.tuple #[]) H') : HCalls Try.prog 60 [.pointer (some ⟨g, 0, none⟩), .agg f.cells.toArray] H K := by
  refine hcalls (fn := Try.f60) [(3, [(0, 0), (1, 0), (2, 0), (3, 0), (4, 0), (5, 0), (6, 0), (7, 0)])] mixed Try.func60 rfl rfl (by decide +kernel) ?_
  (repeat first | refine HReg.step ?_ | refine HCode.step ?_)
  refine HNew.mk fun b1 hb1 => ?_
  have u1 : Upd [] H (H.upd b1 (.cells f.cells.toArray 96)) := Upd.new hb1 _
  have o1 : RowAt (H.upd b1 (.cells f.cells.toArray 96)) (some ⟨b1, 0, none⟩) f.cells := RowAt.of_cells (upd_same _ _ _)
  have hH' : H.upd b1 (.cells [Value.string (bs f.name), .slice f.a f.bytes.length f.c, .int .i64 (f.synced : Int)].toArray 96) = H.upd b1 (.cells f.cells.toArray 96) := rfl
  rw [hH']
  generalize hH2 : H.upd b1 (.cells f.cells.toArray 96) = H2 at u1 o1
  have r2 := r.upd0 u1
  have w2 := w.upd u1 (Off.nil _)
  (repeat first | refine HReg.step ?_ | refine HCode.step ?_)
  refine HLoad.one (v := .string (bs f.name)) (by exact o1.get (i := 0) rfl) ?_
  (repeat first | refine HReg.step ?_ | refine HCode.step ?_)
  refine HCall.mk ⟨Try.f59, Try.func59, by rfl, by rfl⟩ ?_
  refine rat_t r2 (by omega) (fun i f0 hf hn => ?_) (fun i hi hlt hgt => ?_)
  · have hil := (List.getElem?_eq_some_iff.1 hf).1
    obtain ⟨bF, rfl⟩ := r2.row.addr (by omega)
    have ob := r2.obj.rows.get (i := 0) rfl
    (repeat first | refine HReg.step ?_ | refine HCode.step ?_)
    rw [ltB_false.2 (by omega)]
    (repeat first | refine HReg.step ?_ | refine HCode.step ?_)
    refine HLoad.one (v := .slice (some ⟨bF, 0, none⟩) fs.length cF) (by exact ob) ?_
    (repeat first | refine HReg.step ?_ | refine HCode.step ?_)
    refine HLoadN_row o1 rfl ?_
    (repeat first | refine HReg.step ?_ | refine HCode.step ?_)
    refine HReq.mk ⟨by omega, by omega⟩ ?_
    (repeat first | refine HReg.step ?_ | refine HCode.step ?_)
    refine store_file (f := f) r2.row hf (by show 0 + (i : Int).toNat * 3 = _; omega) fun H3 o3 u3 => ?_
    have hg : ∀ (k : Nat) x, (fs.set i f)[k]? = some x → (k = i ∧ x = f) ∨ (k ≠ i ∧ fs[k]? = some x) := fun k x hx => by
      rw [List.getElem?_set] at hx
      split at hx
      · rename_i e; subst e
        cases hx; exact .inl ⟨rfl, rfl⟩
      · rename_i e; exact .inr ⟨fun h => e h.symm, hx⟩
    obtain ⟨p3, s3⟩ := r2.ph.redo3 (fs' := fs.set i f) (X := f.bl) u3 List.length_set o3 (fun x hx => by
      rcases mem_set_f hx with rfl | h
      · exact w2
      · exact r2.byt x h) (fun a b x y hab hx hy z hz => by
      rcases hg a x hx with ⟨rfl, rfl⟩ | ⟨ha, hx'⟩
      · rcases hg b y hy with ⟨rfl, rfl⟩ | ⟨hb, hy'⟩
        · exact absurd rfl hab
        · exact hap y (List.mem_of_getElem? hy') z hz
      · rcases hg b y hy with ⟨rfl, rfl⟩ | ⟨hb, hy'⟩
        · exact fun hz' => hap x (List.mem_of_getElem? hx') z hz' hz
        · exact r2.ap a b x y hab hx' hy' z hz) (fun x hx b hb => by
      rcases mem_set_f hx with rfl | h
      · exact .inr hb
      · exact .inl (mem_rblk.2 (.inr (.inr ⟨x, h, hb⟩)))) hnew
    have r3 := r2.setf (f' := f) hf hn.symm p3 hsy
    rw [hn] at r3
    (repeat first | refine HReg.step ?_ | refine HCode.step ?_)
    exact hk H3 _ ⟨_, _, _, _, _, r3, rfl⟩ ((Stq.new0 u1).trans s3)
  · have wi : wr .i64 (-1 - (-1 - (i : Int))) = (i : Int) := by rw [wr_i64 (by omega) (by omega)]; omega
    have hle := r2.row.le
    (repeat first | refine HReg.step ?_ | refine HCode.step ?_)
    rw [ltB_true.2 (by omega)]
    (repeat first | refine HReg.step ?_ | refine HCode.step ?_)
    rw [wi]
    refine HLoad.one (v := .slice aF fs.length cF) (by exact r2.obj.rows.get (i := 0) rfl) ?_
    (repeat first | refine HReg.step ?_ | refine HCode.step ?_)
    refine HReq.mk ⟨by omega, by omega⟩ ?_
    (repeat first | refine HReg.step ?_ | refine HCode.step ?_)
    refine append_rf (xs := []) (ys := fs.take i) (OwnRow.nil _ _ _) (by rw [rfV_take]; exact r2.row.rows.take _) (m := i) (by rw [List.length_take]; omega) (by omega) fun a3 c3 H3 o3 u3 f3 => ?_
    have u3' : Upd [] H2 H3 := u3
    have o13 := o1.upd (S := []) u3' (.inr (Off.nil _))
    (repeat first | refine HReg.step ?_ | refine HCode.step ?_)
    refine HLoadN_row o13 rfl ?_
    (repeat first | refine HReg.step ?_ | refine HCode.step ?_)
    refine HReq.mk (by decide) ?_
    (repeat first | refine HReg.step ?_ | refine HCode.step ?_)
    refine HNew.mk fun b4 hb4 => ?_
    have u4 : Upd [] H3 (H3.upd b4 (.cells f.cells.toArray 96)) := Upd.new hb4 _
    have o4 : RowAt (H3.upd b4 (.cells f.cells.toArray 96)) (some ⟨b4, 0, none⟩) (rfV [f]) := RowAt.of_cells (upd_same _ _ _)
    have hH4' : H3.upd b4 (.cells [Value.string (bs f.name), .slice f.a f.bytes.length f.c, .int .i64 (f.synced : Int)].toArray 96) = H3.upd b4 (.cells f.cells.toArray 96) := rfl
    rw [hH4']
    generalize hH4 : H3.upd b4 (.cells f.cells.toArray 96) = H4 at u4 o4
    (repeat first | refine HReg.step ?_ | refine HCode.step ?_)
    refine append_rf (xs := fs.take i) (ys := [f]) (by rw [List.nil_append] at o3; exact o3.upd u4 (Off.nil _)) o4 (m := 1) rfl (by omega) fun a5 c5 H5 o5 u5 f5 => ?_
    have u34 : Upd [] H2 H4 := u3'.trans u4
    have n3 : ∀ b ∈ blk a3, H2 b = none := fun b hb => by
      obtain ⟨p, hp, rfl⟩ := blk_of hb
      rcases f3 p hp with h | h
      · cases h
      · exact h
    have u25 : Upd [] H2 H5 := Upd.drop u34 u5 n3
    have n5 : ∀ b ∈ blk a5, H2 b = none := fun b hb => by
      obtain ⟨p, hp, rfl⟩ := blk_of hb
      rcases f5 p hp with h | h
      · exact n3 _ (by rw [h]; simp [blk])
      · exact Upd.none (S := []) u34 (by simp) h
    have r5 := r2.upd0 u25
    (repeat first | refine HReg.step ?_ | refine HCode.step ?_)
    refine HLoad.one (v := .slice aF fs.length cF) (by exact r5.obj.rows.get (i := 0) rfl) ?_
    (repeat first | refine HReg.step ?_ | refine HCode.step ?_)
    refine HReq.mk ⟨by omega, by omega⟩ ?_
    (repeat first | refine HReg.step ?_ | refine HCode.step ?_)
    have ry := RowAt.sl (size := 3) r5.row.rows (l := i) (cap := cF) (by rw [rfV_length]; omega)
    rw [← rfV_drop] at ry
    refine append_rf (xs := fs.take i ++ [f]) (ys := fs.drop i) o5 ry (m := fs.length - i) (by rw [List.length_drop]) (by omega) fun a6 c6 H6 o6 u6 f6 => ?_
    have u26 : Upd [] H2 H6 := Upd.drop u25 u6 n5
    have n6 : ∀ b ∈ blk a6, H2 b = none := fun b hb => by
      obtain ⟨p, hp, rfl⟩ := blk_of hb
      rcases f6 p hp with h | h
      · exact n5 _ (by rw [h]; simp [blk])
      · exact Upd.none (S := []) u25 (by simp) h
    have r6 := r2.upd0 u26
    have e6 : fs.take i ++ [f] ++ fs.drop i = fs.take i ++ f :: fs.drop i := by simp
    have hlen : 0 + i + 1 + (fs.length - i) = (fs.take i ++ f :: fs.drop i).length := by rw [List.length_append, List.length_cons, List.length_take, List.length_drop]; omega
    rw [hlen, e6] at o6
    rw [hlen]
    (repeat first | refine HReg.step ?_ | refine HCode.step ?_)
    refine store_row r6.obj (v := .slice a6 (fs.take i ++ f :: fs.drop i).length c6) rfl (i := 0) (by decide) (by rfl) fun H7 o7 u7 => ?_
    have hg7 : Off [g] a6 := off_notin fun b hb hm => by
      rw [List.mem_singleton.1 hm] at hb
      obtain ⟨c, z, e⟩ := own_live r2.obj
      rw [n6 g hb] at e; cases e
    obtain ⟨p7, s7⟩ := r2.ph.redo2 (H' := H7) (aF' := a6) (cF' := c6) (fs' := fs.take i ++ f :: fs.drop i) (X := f.bl) ((u26.mono (fun k hk => by simp at hk)).trans u7) o7 (o6.upd u7 hg7) n6 (fun x hx => by
      rcases mem_ins hx with rfl | h
      · exact w2
      · exact r2.byt x h) (fun a b x y hab hx hy z hz => by
      rcases ins_get hi a x hx with ⟨rfl, rfl⟩ | ⟨ha, hx'⟩
      · rcases ins_get hi b y hy with ⟨rfl, rfl⟩ | ⟨hb, hy'⟩
        · exact absurd rfl hab
        · exact hap y (List.mem_of_getElem? hy') z hz
      · rcases ins_get hi b y hy with ⟨rfl, rfl⟩ | ⟨hb, hy'⟩
        · exact fun hz' => hap x (List.mem_of_getElem? hx') z hz' hz
        · exact r2.ap _ _ x y (by split <;> split <;> omega) hx' hy' z hz) (fun x hx b hb => by
      rcases mem_ins hx with rfl | h
      · exact .inr hb
      · exact .inl (mem_rblk.2 (.inr (.inr ⟨x, h, hb⟩)))) hnew
    have r7 := r2.ins hi hlt hgt p7 hsy
    (repeat first | refine HReg.step ?_ | refine HCode.step ?_)
    exact hk H7 _ ⟨_, _, _, _, _, r7, rfl⟩ ((Stq.new0 u1).trans s7)
end
end Go.Proofs.Ytocejipjnklieaa
