import Derived.Test.YtocejipjnklieaaF2
namespace Go.Proofs.Ytocejipjnklieaa
open Go Hv
set_option linter.unusedVariables false
set_option linter.unusedSimpArgs false
set_option maxRecDepth 10000
set_option maxHeartbeats 4000000
/-! The document's disk: Crash, counted. CUT2 -/
theorem Hv.OwnRow.flat {H : Heap} {e : TypeId} {size n cap : Nat} {a : Option Addr} {xs : List Value} (h : OwnRow H e size a n cap xs) : OwnRow H e 1 a (n * size) (cap * size) xs := by
  refine ⟨by rw [h.len, Nat.mul_one], ?_⟩
  rcases h.ok with ⟨h1, h2, h3⟩ | ⟨g, cur, ha, hg, h1, h2, h3⟩
  · exact .inl ⟨h1, by rw [h2, Nat.zero_mul], by rw [h3, Nat.zero_mul]⟩
  · exact .inr ⟨g, cur, ha, hg, by rw [h1, Nat.mul_one], Nat.mul_le_mul_right _ h2, h3⟩
theorem unflat {H : Heap} {e : TypeId} {size n cap : Nat} {a : Option Addr} {xs : List Value} (h : OwnRow H e 1 a (n * size) (cap * size) xs) (hl : xs.length = n * size) (hs : 0 < size) : OwnRow H e size a n cap xs := by
  refine ⟨hl, ?_⟩
  rcases h.ok with ⟨h1, h2, h3⟩ | ⟨g, cur, ha, hg, h1, h2, h3⟩
  · refine .inl ⟨h1, ?_, ?_⟩
    · rcases Nat.mul_eq_zero.1 h2 with h | h
      · exact h
      · omega
    · rcases Nat.mul_eq_zero.1 h3 with h | h
      · exact h
      · omega
  · exact .inr ⟨g, cur, ha, hg, by rw [h1, Nat.mul_one], Nat.le_of_mul_le_mul_right h2 hs, h3⟩
theorem rfV_set : ∀ {fs : List RFl} {i k : Nat} {f f' : RFl} {v : Value}, fs[i]? = some f → k < 3 → f'.cells = f.cells.set k v → rfV (fs.set i f') = (rfV fs).set (i * 3 + k) v
  | [], i, k, f, f', v, h, _, _ => by simp at h
  | p :: fs, 0, k, f, f', v, h, hk, e => by
    simp at h; subst h
    show f'.cells ++ rfV fs = (p.cells ++ rfV fs).set (0 * 3 + k) v
    rw [e, List.set_append_left _ _ (by show 0 * 3 + k < 3; omega), Nat.zero_mul, Nat.zero_add]
  | p :: fs, i + 1, k, f, f', v, h, hk, e => by
    have ih := rfV_set (fs := fs) (i := i) (by simpa using h) hk e
    show p.cells ++ rfV (fs.set i f') = (p.cells ++ rfV fs).set ((i + 1) * 3 + k) v
    have hp : p.cells.length = 3 := rfl
    rw [ih, List.set_append_right _ _ (by rw [hp]; omega), hp]
    congr 2
    omega
/-- The blocks of the disk, whatever it says. -/
structure RPh (H1 H : Heap) (g : Nat) (fs : List RFl) (aF : Option Addr) (cF : Nat) (off : Bool) (rf cl st : Int) : Prop where
  obj : OwnRow H 81 1 (some ⟨g, 0, none⟩) 5 5 (rdcells aF fs.length cF off rf cl st)
  row : OwnRow H 96 3 aF fs.length cF (rfV fs)
  byt : ∀ f ∈ fs, WRow H 5 1 f.a f.bytes.length f.c (u8s f.bytes)
  ap : ∀ (i j : Nat) f f', i ≠ j → fs[i]? = some f → fs[j]? = some f' → ∀ b ∈ f.bl, b ∉ f'.bl
  new : ∀ b ∈ rblk g aF fs, H1 b = none
  base : Upd [] H1 H
theorem RIn.ph {H1 H : Heap} {g : Nat} {s : St} {fs : List RFl} {aF : Option Addr} {cF : Nat} {cl st : Int} (R : RIn H1 H g s fs aF cF cl st) : RPh H1 H g fs aF cF s.d.off s.d.refuses cl st := ⟨R.obj, R.row, R.byt, R.ap, R.new, R.base⟩
theorem RPh.upd0 {H1 H H' : Heap} {g : Nat} {fs : List RFl} {aF : Option Addr} {cF : Nat} {off : Bool} {rf cl st : Int} (R : RPh H1 H g fs aF cF off rf cl st) (u : Upd [] H H') : RPh H1 H' g fs aF cF off rf cl st :=
  ⟨R.obj.upd u (Off.nil _), R.row.upd u (Off.nil _), fun f hf => (R.byt f hf).upd u (Off.nil _), R.ap, R.new, R.base.trans u⟩
theorem mem_set_bl {fs : List RFl} {i : Nat} {f f' : RFl} (hi : fs[i]? = some f) (ha : f'.a = f.a) {x : RFl} (hx : x ∈ fs.set i f') : x = f' ∨ x ∈ fs := by
  rcases List.mem_or_eq_of_mem_set hx with h | h
  · exact .inr h
  · exact .inl h
theorem RPh.set {H1 H H' : Heap} {g : Nat} {fs : List RFl} {aF : Option Addr} {cF i : Nat} {off : Bool} {rf cl st : Int} {f f' : RFl} (R : RPh H1 H g fs aF cF off rf cl st) (hi : fs[i]? = some f) (ha : f'.a = f.a) (u : Upd (blk aF) H H')
    (row : OwnRow H' 96 3 aF fs.length cF (rfV (fs.set i f'))) (w : WRow H 5 1 f'.a f'.bytes.length f'.c (u8s f'.bytes)) : RPh H1 H' g (fs.set i f') aF cF off rf cl st := by
  have hl : (fs.set i f').length = fs.length := List.length_set
  have hil := (List.getElem?_eq_some_iff.1 hi).1
  have t5 : ∀ {a : Option Addr} {n c : Nat} {xs : List Value}, WRow H 5 1 a n c xs → Off (blk aF) a := fun w => off_notin fun b hb hm => by
    obtain ⟨c, z, e⟩ := w.live b hb
    exact R.row.notT (by decide) b hm _ _ e
  refine ⟨by rw [hl]; exact R.obj.upd u (R.row.offT R.obj (by decide)), by rw [hl]; exact row, fun x hx => ?_, fun a b x y hab hx hy z hz => ?_, fun b hb => ?_, Upd.drop R.base u (fun b hb => R.new b (mem_rblk.2 (.inr (.inl hb))))⟩
  · rcases mem_set_bl hi ha hx with rfl | h
    · exact w.upd u (t5 w)
    · exact (R.byt x h).upd u (t5 (R.byt x h))
  · have key : ∀ (k : Nat) (q : RFl), (fs.set i f')[k]? = some q → ∃ q', fs[k]? = some q' ∧ q'.bl = q.bl := fun k q hq => by
      rw [List.getElem?_set] at hq
      split at hq
      · rename_i e; subst e
        cases hq
        exact ⟨f, hi, by unfold RFl.bl; rw [ha]⟩
      · exact ⟨q, hq, rfl⟩
    obtain ⟨x', hx', ex⟩ := key a x hx
    obtain ⟨y', hy', ey⟩ := key b y hy
    rw [← ey]
    exact R.ap a b x' y' hab hx' hy' z (by rw [ex]; exact hz)
  · refine R.new b (mem_rblk.2 ?_)
    rcases mem_rblk.1 hb with h | h | ⟨x, hx, h⟩
    · exact .inl h
    · exact .inr (.inl h)
    · rcases mem_set_bl hi ha hx with rfl | h'
      · exact .inr (.inr ⟨f, List.mem_of_getElem? hi, by unfold RFl.bl at h ⊢; rw [← ha]; exact h⟩)
      · exact .inr (.inr ⟨x, h', h⟩)
/-- A cell of a file is stored. -/
theorem RPh.store {H1 H : Heap} {g b : Nat} {fs : List RFl} {cF i k j : Nat} {off : Bool} {rf cl st : Int} {f f' : RFl} {v : Value} {K : Heap → Prop} (R : RPh H1 H g fs (some ⟨b, 0, none⟩) cF off rf cl st) (hi : fs[i]? = some f) (ha : f'.a = f.a) (hk3 : k < 3)
    (hc : f'.cells = f.cells.set k v) (hv : Value.plain v = true) (w : WRow H 5 1 f'.a f'.bytes.length f'.c (u8s f'.bytes)) (hj : j = i * 3 + k)
    (hK : ∀ H', RPh H1 H' g (fs.set i f') (some ⟨b, 0, none⟩) cF off rf cl st → Upd [b] H H' → K H') : HStore H ⟨b, j, none⟩ v K := by
  have hil := (List.getElem?_eq_some_iff.1 hi).1
  refine store_row R.row.flat hv (i := i * 3 + k) (by omega) hj fun H' o u => ?_
  rw [← rfV_set hi hk3 hc] at o
  have o' := unflat o (by rw [rfV_length, List.length_set]) (by decide)
  exact hK H' (R.set hi ha u o' w) u
end Go.Proofs.Ytocejipjnklieaa
