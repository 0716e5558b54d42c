import Derived.Test.YtefmplilhbbiaaaProg
import Derived.Test.YtefmplilhbbiaaaHv12
namespace Go.Proofs.Ytefmplilhbbiaaa
open Go Hv
set_option linter.unusedVariables false
set_option linter.unusedSimpArgs false
set_option maxRecDepth 10000
theorem mixed : Try.prog.follows .mixedOrders = true := by kernel_rfl
/-! Frames under way. -/
structure Fr where
  num : Int
  frm : Int
  to : Int
  v : Value
def fcells (f : Fr) : List Value := [.int .i64 f.num, .int .i64 f.frm, .int .i64 f.to, f.v]
def frow : List Fr → List Value
  | [] => []
  | f :: l => fcells f ++ frow l
theorem frow_length : ∀ l : List Fr, (frow l).length = l.length * 4
  | [] => rfl
  | f :: l => by show (fcells f ++ frow l).length = _; rw [List.length_append, frow_length l, List.length_cons]; show 4 + _ = _; omega
theorem frow_append : ∀ a b : List Fr, frow (a ++ b) = frow a ++ frow b
  | [], b => rfl
  | f :: a, b => by show fcells f ++ frow (a ++ b) = _; rw [frow_append a b, ← List.append_assoc]; rfl
theorem frow_take : ∀ (l : List Fr) (i : Nat), (frow l).take (i * 4) = frow (l.take i)
  | [], i => by cases i <;> simp [frow]
  | f :: l, 0 => by simp [frow]
  | f :: l, i + 1 => by
    have e : (i + 1) * 4 = 4 + i * 4 := by omega
    show (fcells f ++ frow l).take _ = fcells f ++ frow (l.take i)
    rw [e, ← frow_take l i, List.take_append]
    show (fcells f).take (4 + i * 4) ++ (frow l).take (4 + i * 4 - 4) = _
    rw [List.take_of_length_le (by show 4 ≤ _; omega), Nat.add_sub_cancel_left]
theorem frow_drop : ∀ (l : List Fr) (i : Nat), (frow l).drop (i * 4) = frow (l.drop i)
  | [], i => by cases i <;> simp [frow]
  | f :: l, 0 => by simp [frow]
  | f :: l, i + 1 => by
    have e : (i + 1) * 4 = 4 + i * 4 := by omega
    show (fcells f ++ frow l).drop _ = frow (l.drop i)
    rw [e, ← frow_drop l i, ← List.drop_drop]; rfl
theorem frow_get : ∀ {l : List Fr} {i k : Nat} {f : Fr} {v : Value}, l[i]? = some f → (fcells f)[k]? = some v → (frow l)[i * 4 + k]? = some v
  | [], i, k, f, v, h, _ => by simp at h
  | g :: l, 0, k, f, v, h, hv => by
    simp at h; subst h
    have := (List.getElem?_eq_some_iff.1 hv).1
    show (fcells g ++ frow l)[0 * 4 + k]? = _
    rw [Nat.zero_mul, Nat.zero_add, List.getElem?_append_left this]; exact hv
  | g :: l, i + 1, k, f, v, h, hv => by
    have e : (i + 1) * 4 + k = 4 + (i * 4 + k) := by omega
    show (fcells g ++ frow l)[(i + 1) * 4 + k]? = _
    rw [e, List.getElem?_append_right (by show 4 ≤ _; omega)]
    show (frow l)[4 + (i * 4 + k) - 4]? = _
    rw [Nat.add_sub_cancel_left]
    exact frow_get (by simpa using h) hv
/-- A net of the program (T = 61, F = 33) or of the document (66, 67). -/
structure NetAt (T F : TypeId) (H1 H : Heap) (g : Nat) (P C L : Int) (a : Option Addr) (n cap : Nat) (fs : List Fr) : Prop where
  obj : OwnRow H T 1 (some ⟨g, 0, none⟩) 4 4 [.int .i64 P, .int .i64 C, .int .i64 L, .slice a n cap]
  row : OwnRow H F 4 a n cap (frow fs)
  newg : H1 g = none
  newa : ∀ p, a = some p → H1 p.block = none
  apart : ∀ p, a = some p → p.block ≠ g
  base : Upd [] H1 H
theorem NetAt.len {T F : TypeId} {H1 H : Heap} {g : Nat} {P C L : Int} {a : Option Addr} {n cap : Nat} {fs : List Fr} (h : NetAt T F H1 H g P C L a n cap fs) : fs.length = n := by
  have := h.row.len; rw [frow_length] at this; omega
theorem NetAt.upd {T F : TypeId} {H1 H H' : Heap} {g : Nat} {P C L : Int} {a : Option Addr} {n cap : Nat} {fs : List Fr} {S : List Nat} (h : NetAt T F H1 H g P C L a n cap fs) (hu : Upd S H H') (h1 : g ∉ S) (h2 : Off S a) (hn : ∀ b ∈ S, H1 b = none) : NetAt T F H1 H' g P C L a n cap fs :=
  ⟨h.obj.upd hu (fun p hp hb => by cases hp; exact h1 hb), h.row.upd hu h2, h.newg, h.newa, h.apart, Upd.drop h.base hu hn⟩
theorem NetAt.upd0 {T F : TypeId} {H1 H H' : Heap} {g : Nat} {P C L : Int} {a : Option Addr} {n cap : Nat} {fs : List Fr} (h : NetAt T F H1 H g P C L a n cap fs) (hu : Upd [] H H') : NetAt T F H1 H' g P C L a n cap fs := h.upd hu (by simp) (Off.nil _) (by simp)
theorem NetAt.back {T F : TypeId} {H0 H1 H : Heap} {g : Nat} {P C L : Int} {a : Option Addr} {n cap : Nat} {fs : List Fr} (h : NetAt T F H1 H g P C L a n cap fs) (hu : Upd [] H0 H1) : NetAt T F H0 H g P C L a n cap fs :=
  ⟨h.obj, h.row, Upd.none (S := []) hu (by simp) h.newg, fun p hp => Upd.none (S := []) hu (by simp) (h.newa p hp), h.apart, hu.trans h.base⟩
/-- The blocks that a net writes. -/
def nblk (g : Nat) (a : Option Addr) : List Nat := g :: blk a
theorem NetAt.notE {T F : TypeId} {H1 H : Heap} {g : Nat} {P C L : Int} {a : Option Addr} {n cap : Nat} {fs : List Fr} (h : NetAt T F H1 H g P C L a n cap fs) {e : TypeId} (hT : T ≠ e) (hF : F ≠ e) : ∀ b ∈ nblk g a, ∀ c f, H b ≠ some (.cells c e f) := by
  intro b hb
  rcases List.mem_cons.1 hb with rfl | hb
  · exact h.obj.notE hT _ (by simp)
  · exact h.row.notT hF b hb
theorem NetAt.old {T F : TypeId} {H1 H : Heap} {g : Nat} {P C L : Int} {a : Option Addr} {n cap : Nat} {fs : List Fr} (h : NetAt T F H1 H g P C L a n cap fs) : ∀ b ∈ nblk g a, H1 b = none := by
  intro b hb
  rcases List.mem_cons.1 hb with rfl | hb
  · exact h.newg
  · obtain ⟨p, hp, rfl⟩ := blk_of hb
    exact h.newa p hp
theorem NetAt.live {T F : TypeId} {H1 H : Heap} {g : Nat} {P C L : Int} {a : Option Addr} {n cap : Nat} {fs : List Fr} (h : NetAt T F H1 H g P C L a n cap fs) : ∀ b ∈ nblk g a, H b ≠ none := by
  intro b hb
  rcases List.mem_cons.1 hb with rfl | hb
  · exact h.obj.there rfl
  · obtain ⟨p, hp, rfl⟩ := blk_of hb
    exact h.row.there hp
theorem mem_nblk_g (g : Nat) (a : Option Addr) : g ∈ nblk g a := List.mem_cons_self
theorem blk_nblk (g : Nat) (a : Option Addr) : ∀ b ∈ blk a, b ∈ nblk g a := fun b hb => List.mem_cons_of_mem _ hb
/-- The blocks of the new state: old ones or new ones. -/
theorem own_upto {H : Heap} {e : TypeId} {size : Nat} {a : Option Addr} {n cap i : Nat} {xs : List Value} (h : OwnRow H e size a n cap xs) (hi : i ≤ n) : OwnRow H e size a i cap (xs.take (i * size)) := by
  refine ⟨by rw [List.length_take, h.len]; exact Nat.min_eq_left (Nat.mul_le_mul_right _ hi), ?_⟩
  rcases h.ok with ⟨ha, hn, hc⟩ | ⟨g, cur, ha, hg, h1, h2, h3⟩
  · exact .inl ⟨ha, by omega, hc⟩
  · refine .inr ⟨g, cur, ha, hg, h1, by omega, fun j v hj => ?_⟩
    rw [List.getElem?_take] at hj
    split at hj
    · exact h3 j v hj
    · cases hj
theorem plain_frow {l : List Fr} (h : ∀ f ∈ l, Value.plain f.v = true) : ∀ v ∈ frow l, Value.plain v = true := by
  induction l with
  | nil => intro v hv; simp [frow] at hv
  | cons f l ih =>
    intro v hv
    have hv : v ∈ fcells f ++ frow l := hv
    rcases List.mem_append.1 hv with h1 | h1
    · simp only [fcells, List.mem_cons, List.not_mem_nil, or_false] at h1
      rcases h1 with rfl | rfl | rfl | rfl
      · rfl
      · rfl
      · rfl
      · exact h f (by simp)
    · exact ih (fun f hf => h f (by simp [hf])) v h1
def isSl (v : Value) : Prop := ∃ a n c, v = .slice a n c
theorem isSl.plain {v : Value} (h : isSl v) : Value.plain v = true := by obtain ⟨a, n, c, rfl⟩ := h; rfl
theorem HLoad_all {Hs : List Heap} {a : Addr} {K : Value → Prop} {v : Value} (h : ∀ H ∈ Hs, H.cell? a = some v) (hk : K v) : HLoad Hs a K := ⟨v, h, hk⟩
theorem upd_join {S T : List Nat} {H H1 H2 : Heap} (h : Upd S H H1) (k : Upd T H1 H2) (hT : ∀ b ∈ T, b ∈ S ∨ H b = none) : Upd S H H2 := fun b hb hn => by
  have e := h b hb hn
  have : b ∉ T := fun hbT => by
    rcases hT b hbT with h1 | h1
    · exact hb h1
    · exact hn h1
  rw [k b this (by rw [e]; exact hn)]; exact e
theorem HLoad_two {H H' : Heap} {a : Addr} {K : Value → Prop} {v : Value} (h : H.cell? a = some v) (h' : H'.cell? a = some v) (hk : K v) : HLoad [H, H'] a K := ⟨v, fun Hx hx => by
  simp only [List.mem_cons, List.not_mem_nil, or_false] at hx
  rcases hx with rfl | rfl
  · exact h
  · exact h', hk⟩
theorem HLoad_three {H H' H'' : Heap} {a : Addr} {K : Value → Prop} {v : Value} (h : H.cell? a = some v) (h' : H'.cell? a = some v) (h'' : H''.cell? a = some v) (hk : K v) : HLoad [H, H', H''] a K := ⟨v, fun Hx hx => by
  simp only [List.mem_cons, List.not_mem_nil, or_false] at hx
  rcases hx with rfl | rfl | rfl
  · exact h
  · exact h'
  · exact h'', hk⟩
/-- Which nodes may send to which. -/
def can (P C frm to : Int) : Prop := (0 ≤ frm ∧ frm < P ∧ to < 0 ∧ -C ≤ to) ∨ (frm < 0 ∧ -C ≤ frm ∧ 0 ≤ to ∧ to < P)
/-- What a frame laid behind the others leaves. -/
structure Laid (T F : TypeId) (H1 H : Heap) (g : Nat) (P C L : Int) (a : Option Addr) (n : Nat) (fs : List Fr) (frm to : Int) (ys : List UInt8) (H' : Heap) : Prop where
  ex : ∃ v a' cap', NetAt T F H1 H' g P C (L + 1) a' (n + 1) cap' (fs ++ [⟨L + 1, frm, to, v⟩]) ∧ Sle 5 H' v ys ∧ (∀ b ∈ vblk v, H b = none) ∧ Upd (nblk g a) H H' ∧ (∀ p, a' = some p → a = some p ∨ H p.block = none)
theorem u8s_nil_of_none {H : Heap} {ys : List UInt8} (h : RowAt H none (u8s ys)) : ys = [] := by
  cases ys with
  | nil => rfl
  | cons y ys => obtain ⟨_, _, hh, _⟩ := h 0 _ rfl; cases hh
end Go.Proofs.Ytefmplilhbbiaaa
