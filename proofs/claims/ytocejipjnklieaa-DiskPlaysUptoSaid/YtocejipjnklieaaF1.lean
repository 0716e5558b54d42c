import Derived.Test.YtocejipjnklieaaW1
namespace Go.Proofs.Ytocejipjnklieaa
open Go Hv
set_option linter.unusedVariables false
set_option linter.unusedSimpArgs false
set_option maxRecDepth 10000
set_option maxHeartbeats 2000000
/-! The document's disk in memory. -/
structure RFl where
  name : Txt
  a : Option Addr
  c : Nat
  bytes : List UInt8
  synced : Nat
def RFl.cells (f : RFl) : List Value := [.string (bs f.name), .slice f.a f.bytes.length f.c, .int .i64 (f.synced : Int)]
def rfV : List RFl → List Value
  | [] => []
  | f :: fs => f.cells ++ rfV fs
theorem rfV_length : ∀ fs, (rfV fs).length = fs.length * 3
  | [] => rfl
  | f :: fs => by
    show (f.cells ++ rfV fs).length = _
    rw [List.length_append, rfV_length fs, List.length_cons]
    show 3 + _ = _; omega
theorem rfV_append : ∀ a b, rfV (a ++ b) = rfV a ++ rfV b
  | [], b => rfl
  | f :: a, b => by
    show f.cells ++ rfV (a ++ b) = f.cells ++ rfV a ++ rfV b
    rw [rfV_append a b, List.append_assoc]
theorem rfV_get : ∀ {fs : List RFl} {i : Nat} {f : RFl}, fs[i]? = some f → ∀ (k : Nat) v, f.cells[k]? = some v → (rfV fs)[i * 3 + k]? = some v
  | [], i, f, h => by simp at h
  | p :: fs, 0, f, h => fun k v hk => by
    simp at h; subst h
    have : k < p.cells.length := (List.getElem?_eq_some_iff.1 hk).1
    show (p.cells ++ rfV fs)[0 * 3 + k]? = _
    rw [Nat.zero_mul, Nat.zero_add, List.getElem?_append_left this]; exact hk
  | p :: fs, i + 1, f, h => fun k v hk => by
    have ih := rfV_get (fs := fs) (i := i) (f := f) (by simpa using h) k v hk
    have e : p.cells.length = 3 := rfl
    show (p.cells ++ rfV fs)[(i + 1) * 3 + k]? = _
    rw [List.getElem?_append_right (by rw [e]; omega), e]
    have e2 : (i + 1) * 3 + k - 3 = i * 3 + k := by omega
    rw [e2]; exact ih
theorem plain_rf (fs : List RFl) : ∀ v ∈ rfV fs, Value.plain v = true := by
  induction fs with
  | nil => intro v hv; simp [rfV] at hv
  | cons q qs ih =>
    intro v hv
    rcases List.mem_append.1 hv with hv | hv
    · have hv : v ∈ [Value.string (bs q.name), .slice q.a q.bytes.length q.c, .int .i64 (q.synced : Int)] := hv
      simp only [List.mem_cons, List.not_mem_nil, or_false] at hv
      rcases hv with rfl | rfl | rfl <;> rfl
    · exact ih v hv
theorem HLoadN_rf {H : Heap} {b off i : Nat} {fs : List RFl} {f : RFl} {K : List Value → Prop} (h : RowAt H (some ⟨b, off, none⟩) (rfV fs)) (hf : fs[i]? = some f) (hk : K f.cells) : HLoadN [H] b (off + i * 3) 3 K :=
  ⟨f.cells, fun H' hH j v hv => by
    rw [List.mem_singleton.1 hH, Nat.add_assoc]
    exact h.get (rfV_get hf j v hv), rfl, hk⟩
def RFl.bl (f : RFl) : List Nat := blk f.a
def rdcells (aF : Option Addr) (n cF : Nat) (off : Bool) (rf cl st : Int) : List Value := [.slice aF n cF, .bool off, .int .i64 rf, .int .i64 cl, .int .i64 st]
def rblk (g : Nat) (aF : Option Addr) (fs : List RFl) : List Nat := g :: (blk aF ++ fs.flatMap RFl.bl)
theorem mem_rblk {g b : Nat} {aF : Option Addr} {fs : List RFl} : b ∈ rblk g aF fs ↔ b = g ∨ b ∈ blk aF ∨ ∃ f ∈ fs, b ∈ f.bl := by
  unfold rblk
  rw [List.mem_cons, List.mem_append, List.mem_flatMap]
/-- How the document's disk says that it is armed. -/
def Armed (s : St) (cl st : Int) : Prop := (s.d.armed = true ∧ 0 ≤ s.d.calls ∧ cl = s.d.calls ∧ st = s.d.keep) ∨ (s.d.armed = false ∧ cl = -1)
structure RIn (H1 H : Heap) (g : Nat) (s : St) (fs : List RFl) (aF : Option Addr) (cF : Nat) (cl st : Int) : Prop where
  obj : OwnRow H 81 1 (some ⟨g, 0, none⟩) 5 5 (rdcells aF fs.length cF s.d.off s.d.refuses cl st)
  row : OwnRow H 96 3 aF fs.length cF (rfV fs)
  byt : ∀ f ∈ fs, WRow H 5 1 f.a f.bytes.length f.c (u8s f.bytes)
  ap : ∀ (i j : Nat) f f', i ≠ j → fs[i]? = some f → fs[j]? = some f' → ∀ b ∈ f.bl, b ∉ f'.bl
  new : ∀ b ∈ rblk g aF fs, H1 b = none
  base : Upd [] H1 H
  ri : (fs.map RFl.name).Pairwise (· < ·)
  get : ∀ f ∈ fs, s.fs (bs f.name) = some (f.bytes, f.synced)
  all : ∀ k x, s.fs k = some x → ∃ f ∈ fs, bs f.name = k
  syn : ∀ f ∈ fs, f.synced ≤ f.bytes.length
  cnt : s.cnt = fs.length
  arm : Armed s cl st
  hi : s.d.calls ≤ 9223372036854775807
  rhi : s.d.refuses ≤ 9223372036854775807
theorem RIn.live {H1 H : Heap} {g : Nat} {s : St} {fs : List RFl} {aF : Option Addr} {cF : Nat} {cl st : Int} (R : RIn H1 H g s fs aF cF cl st) : ∀ b ∈ rblk g aF fs, H b ≠ none := fun b hb => by
  rcases mem_rblk.1 hb with rfl | h | ⟨f, hf, h⟩
  · obtain ⟨c, z, e⟩ := own_live R.obj; rw [e]; simp
  · obtain ⟨p, hp, rfl⟩ := blk_of h; exact R.row.there hp
  · obtain ⟨c, z, e⟩ := (R.byt f hf).live b h; rw [e]; simp
theorem RIn.upd {H1 H H' : Heap} {g : Nat} {s : St} {fs : List RFl} {aF : Option Addr} {cF : Nat} {cl st : Int} {T : List Nat} (R : RIn H1 H g s fs aF cF cl st) (u : Upd T H H') (hd : ∀ b ∈ T, b ∉ rblk g aF fs) (hn : ∀ b ∈ T, H1 b = none) : RIn H1 H' g s fs aF cF cl st :=
  ⟨R.obj.upd u (fun p hp hb => by cases hp; exact hd g hb (mem_rblk.2 (.inl rfl))), R.row.upd u (off_notin fun b hb hm => hd b hm (mem_rblk.2 (.inr (.inl hb)))), fun f hf => (R.byt f hf).upd u (off_notin fun b hb hm => hd b hm (mem_rblk.2 (.inr (.inr ⟨f, hf, hb⟩)))), R.ap, R.new, Upd.drop R.base u hn, R.ri, R.get, R.all, R.syn, R.cnt, R.arm, R.hi, R.rhi⟩
theorem RIn.upd0 {H1 H H' : Heap} {g : Nat} {s : St} {fs : List RFl} {aF : Option Addr} {cF : Nat} {cl st : Int} (R : RIn H1 H g s fs aF cF cl st) (u : Upd [] H H') : RIn H1 H' g s fs aF cF cl st := R.upd u (fun b hb => by simp at hb) (fun b hb => by simp at hb)
/-- A change inside of blocks B, which become B'. -/
structure Stq (H H' : Heap) (B B' : List Nat) : Prop where
  upd : Upd B H H'
  sub : ∀ b ∈ B', b ∈ B ∨ H b = none
theorem Stq.refl (H : Heap) (B : List Nat) : Stq H H B B := ⟨Upd.refl _ _, fun b hb => .inl hb⟩
theorem Stq.trans {H H' H'' : Heap} {B B' B'' : List Nat} (h : Stq H H' B B') (k : Stq H' H'' B' B'') : Stq H H'' B B'' := by
  refine ⟨upd_join h.upd k.upd h.sub, fun b hb => ?_⟩
  rcases k.sub b hb with h1 | h1
  · exact h.sub b h1
  · by_cases hB : b ∈ B
    · exact .inl hB
    · exact .inr (Classical.byContradiction fun hn => hn (by rw [← h.upd b hB hn]; exact h1))
theorem Stq.new0 {H H' : Heap} {B : List Nat} (u : Upd [] H H') : Stq H H' B B := ⟨u.mono (fun k hk => by simp at hk), fun b hb => .inl hb⟩
/-- The disk of the document, at g, in the blocks B. -/
def RAt (H1 H : Heap) (g : Nat) (s : St) (B : List Nat) : Prop := ∃ fs aF cF cl st, RIn H1 H g s fs aF cF cl st ∧ B = rblk g aF fs
theorem RAt.upd0 {H1 H H' : Heap} {g : Nat} {s : St} {B : List Nat} (R : RAt H1 H g s B) (u : Upd [] H H') : RAt H1 H' g s B := by
  obtain ⟨fs, aF, cF, cl, st, r, e⟩ := R; exact ⟨fs, aF, cF, cl, st, r.upd0 u, e⟩
theorem RAt.upd {H1 H H' : Heap} {g : Nat} {s : St} {B T : List Nat} (R : RAt H1 H g s B) (u : Upd T H H') (hd : ∀ b ∈ T, b ∉ B) (hn : ∀ b ∈ T, H1 b = none) : RAt H1 H' g s B := by
  obtain ⟨fs, aF, cF, cl, st, r, e⟩ := R; subst e; exact ⟨fs, aF, cF, cl, st, r.upd u hd hn, rfl⟩
theorem RAt.live {H1 H : Heap} {g : Nat} {s : St} {B : List Nat} (R : RAt H1 H g s B) : ∀ b ∈ B, H b ≠ none := by
  obtain ⟨fs, aF, cF, cl, st, r, e⟩ := R; subst e; exact r.live
theorem RAt.old {H1 H : Heap} {g : Nat} {s : St} {B : List Nat} (R : RAt H1 H g s B) : ∀ b ∈ B, H1 b = none := by
  obtain ⟨fs, aF, cF, cl, st, r, e⟩ := R; subst e; exact r.new
theorem RAt.base {H1 H : Heap} {g : Nat} {s : St} {B : List Nat} (R : RAt H1 H g s B) : Upd [] H1 H := by
  obtain ⟨fs, aF, cF, cl, st, r, e⟩ := R; exact r.base
/-- The object's cells change; the files stay. -/
theorem RIn.setd {H1 H H' : Heap} {g : Nat} {s s' : St} {fs : List RFl} {aF : Option Addr} {cF : Nat} {cl st cl' st' : Int} (R : RIn H1 H g s fs aF cF cl st) (u : Upd [g] H H') (o : OwnRow H' 81 1 (some ⟨g, 0, none⟩) 5 5 (rdcells aF fs.length cF s'.d.off s'.d.refuses cl' st'))
    (hf : s'.fs = s.fs) (hc : s'.cnt = s.cnt) (ha : Armed s' cl' st') (h1 : s'.d.calls ≤ 9223372036854775807) (h2 : s'.d.refuses ≤ 9223372036854775807) : RIn H1 H' g s' fs aF cF cl' st' := by
  have hg : ∀ b ∈ blk aF, b ∉ [g] := fun b hb hm => by
    rw [List.mem_singleton.1 hm] at hb
    obtain ⟨c, z, e⟩ := own_live R.obj
    exact R.row.notT (by decide) g hb _ _ e
  have hgb : ∀ f ∈ fs, ∀ b ∈ f.bl, b ∉ [g] := fun f hf b hb hm => by
    rw [List.mem_singleton.1 hm] at hb
    obtain ⟨c, z, e⟩ := own_live R.obj
    obtain ⟨c', z', e'⟩ := (R.byt f hf).live g hb
    rw [e] at e'; cases e'
  exact ⟨o, R.row.upd u (off_notin hg), fun f hf => (R.byt f hf).upd u (off_notin (hgb f hf)), R.ap, R.new, Upd.drop R.base u (fun b hb => by rw [List.mem_singleton.1 hb]; exact R.new g (mem_rblk.2 (.inl rfl))), R.ri, fun f hf' => by rw [hf]; exact R.get f hf', fun k x hx => R.all k x (by rw [← hf]; exact hx), R.syn, by rw [hc]; exact R.cnt, ha, h1, h2⟩
theorem Stq.g {H H' : Heap} {g : Nat} {aF : Option Addr} {fs : List RFl} (u : Upd [g] H H') : Stq H H' (rblk g aF fs) (rblk g aF fs) :=
  ⟨u.mono (fun k hk => by rw [List.mem_singleton.1 hk]; exact mem_rblk.2 (.inl rfl)), fun b hb => .inl hb⟩
end Go.Proofs.Ytocejipjnklieaa
