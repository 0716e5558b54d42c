import Derived.Test.YtocejipjnklieaaF10
namespace Go.Proofs.Ytocejipjnklieaa
open Go Hv
set_option linter.unusedVariables false
set_option linter.unusedSimpArgs false
set_option maxRecDepth 10000
set_option maxHeartbeats 4000000
/-! The document's disk: gone. CUT2 -/
theorem rfV_take : ∀ (fs : List RFl) (i : Nat), rfV (fs.take i) = (rfV fs).take (i * 3)
  | [], i => by simp [rfV]
  | f :: fs, 0 => by simp [rfV]
  | f :: fs, i + 1 => by
    show f.cells ++ rfV (fs.take i) = (f.cells ++ rfV fs).take _
    have e : f.cells.length = 3 := rfl
    have e2 : (i + 1) * 3 = f.cells.length + i * 3 := by rw [e]; omega
    rw [rfV_take fs i, e2, List.take_length_add_append]
theorem rfV_drop : ∀ (fs : List RFl) (i : Nat), rfV (fs.drop i) = (rfV fs).drop (i * 3)
  | [], i => by simp [rfV]
  | f :: fs, 0 => by simp [rfV]
  | f :: fs, i + 1 => by
    show rfV (fs.drop i) = (f.cells ++ rfV fs).drop _
    have e : f.cells.length = 3 := rfl
    have e2 : (i + 1) * 3 = f.cells.length + i * 3 := by rw [e]; omega
    rw [rfV_drop fs i, e2, List.drop_length_add_append]
section
variable {H1 H : Heap} {g : Nat} {K : Value → Heap → Prop}
theorem rgone_t {fs : List RFl} {aF : Option Addr} {cF i : Nat} {off : Bool} {rf cl st : Int} (r : RPh H1 H g fs aF cF off rf cl st) (hl : fs.length ≤ 100) (hi : i < fs.length)
    (hk : ∀ aF' cF' H', RPh H1 H' g (fs.take i ++ fs.drop (i + 1)) aF' cF' off rf cl st → Stq H H' (rblk g aF fs) (rblk g aF' (fs.take i ++ fs.drop (i + 1))) → Upd [g] H H' → K (.tuple #[]) H') :
    HCalls Try.prog 61 [.pointer (some ⟨g, 0, none⟩), .int .i64 (i : Int)] H K := by
  refine hcalls (fn := Try.f61) [] mixed Try.func61 rfl rfl (by decide +kernel) ?_
  have wi : wr .i64 ((i : Int) + 1) = ((i + 1 : Nat) : Int) := by rw [wr_i64 (by omega) (by omega)]; omega
  have hle := r.row.le
  (repeat first | refine HReg.step ?_ | refine HCode.step ?_)
  refine HLoad.one (v := .slice aF fs.length cF) (by exact r.obj.rows.get (i := 0) rfl) ?_
  (repeat first | refine HReg.step ?_ | refine HCode.step ?_)
  refine HReq.mk ⟨by omega, by omega⟩ ?_
  (repeat first | refine HReg.step ?_ | refine HCode.step ?_)
  refine append_rf (xs := []) (ys := fs.take i) (OwnRow.nil _ _ _) (by rw [rfV_take]; exact r.row.rows.take _) (m := i) (by rw [List.length_take]; omega) (by omega) fun a2 c2 H2 o2 u2 f2 => ?_
  have u2' : Upd [] H H2 := u2
  have r2 := r.upd0 u2'
  (repeat first | refine HReg.step ?_ | refine HCode.step ?_)
  refine HLoad.one (v := .slice aF fs.length cF) (by exact r2.obj.rows.get (i := 0) rfl) ?_
  (repeat first | refine HReg.step ?_ | refine HCode.step ?_)
  rw [wi]
  refine HReq.mk ⟨by omega, by omega⟩ ?_
  (repeat first | refine HReg.step ?_ | refine HCode.step ?_)
  have ry := RowAt.sl (size := 3) r2.row.rows (l := i + 1) (cap := cF) (by rw [rfV_length]; omega)
  rw [← rfV_drop] at ry
  rw [List.nil_append] at o2
  refine append_rf (xs := fs.take i) (ys := fs.drop (i + 1)) (by rw [Nat.zero_add] at *; exact o2) ry (m := fs.length - (i + 1)) (by rw [List.length_drop]) (by omega) fun a3 c3 H3 o3 u3 f3 => ?_
  have n2 : ∀ b ∈ blk a2, H b = none := fun b hb => by
    obtain ⟨p, hp, rfl⟩ := blk_of hb
    rcases f2 p hp with h | h
    · cases h
    · exact h
  have u03 : Upd [] H H3 := Upd.drop u2' u3 n2
  have n3 : ∀ b ∈ blk a3, H b = none := fun b hb => by
    obtain ⟨p, hp, rfl⟩ := blk_of hb
    rcases f3 p hp with h | h
    · exact n2 _ (by rw [h]; simp [blk])
    · exact Classical.byContradiction fun hn => hn (by rw [← u2' _ (by simp) hn]; exact h)
  have r3 := r.upd0 u03
  have hlen : 0 + i + (fs.length - (i + 1)) = (fs.take i ++ fs.drop (i + 1)).length := by rw [List.length_append, List.length_take, List.length_drop]; omega
  rw [hlen] at o3
  rw [hlen]
  (repeat first | refine HReg.step ?_ | refine HCode.step ?_)
  refine store_row r3.obj (v := .slice a3 (fs.take i ++ fs.drop (i + 1)).length c3) rfl (i := 0) (by decide) (by rfl) fun H4 o4 u4 => ?_
  have hg4 : Off [g] a3 := off_notin fun b hb hm => by
    rw [List.mem_singleton.1 hm] at hb
    obtain ⟨c, z, e⟩ := own_live r.obj
    rw [n3 g hb] at e; cases e
  have hmem : ∀ f ∈ fs.take i ++ fs.drop (i + 1), f ∈ fs := fun f hf => by
    rcases List.mem_append.1 hf with h | h
    · exact List.mem_of_mem_take h
    · exact List.mem_of_mem_drop h
  have hget : ∀ (j : Nat) f, (fs.take i ++ fs.drop (i + 1))[j]? = some f → fs[if j < i then j else j + 1]? = some f := fun j f h => by
    rw [← List.eraseIdx_eq_take_drop_succ, List.getElem?_eraseIdx] at h
    split at h <;> rename_i q
    · rw [if_pos q]; exact h
    · rw [if_neg q]; exact h
  obtain ⟨p4, s4⟩ := r.redo (H' := H4) (aF' := a3) (cF' := c3) (fs' := fs.take i ++ fs.drop (i + 1)) ((u03.mono (fun k hk => by simp at hk)).trans u4) o4 (o3.upd u4 hg4) n3 (fun f hf => r.byt f (hmem f hf))
    (fun a b f f' hab ha hb => r.ap _ _ f f' (by split <;> split <;> omega) (hget a f ha) (hget b f' hb)) (fun f hf b hb => mem_rblk.2 (.inr (.inr ⟨f, hmem f hf, hb⟩)))
  (repeat first | refine HReg.step ?_ | refine HCode.step ?_)
  exact hk a3 c3 H4 p4 s4 ((u03.mono (fun k hk => by simp at hk)).trans u4)
end
end Go.Proofs.Ytocejipjnklieaa
