import Derived.Test.YtlgncabjphokjaaY5
namespace Go.Proofs.Ytlgncabjphokjaa
open Go Hv
set_option linter.unusedVariables false
set_option linter.unusedSimpArgs false
set_option maxRecDepth 10000
set_option maxHeartbeats 1000000
/-! MsgKeeps: what is gathered. -/
theorem encode_len (m : Msg) : (encodeM m).1.length ≤ 1048580 := by
  by_cases h : MayM m
  · by_cases hl : 1048576 < (body m).length
    · rw [encode_long h hl]; exact Nat.zero_le _
    · rw [encode_ok h (by omega)]
      show (frameM (body m)).length ≤ _
      rw [frameM_len]; omega
  · rw [encode_no h]; exact Nat.zero_le _
theorem NewR.off {H1 H H' : Heap} {e : TypeId} {size n c : Nat} {a : Option Addr} {xs : List Value} {S : List Nat} (r : NewR H1 H e size a n c xs) (u : Upd S H H') (ho : ∀ b ∈ blk a, b ∉ S) : NewR H1 H' e size a n c xs := ⟨r.own.upd u (off_notin ho), r.new⟩
theorem app_new {e : TypeId} {H1 H H' : Heap} {a a' : Option Addr} {n c m c' : Nat} {V ys : List Value} (r : NewR H1 H e 1 a n c V) (uH : Upd [] H1 H) (o : OwnRow H' e 1 a' (n + m) c' (V ++ ys)) (f : ∀ p, a' = some p → a = some p ∨ H p.block = none) :
    NewR H1 H' e 1 a' (n + m) c' (V ++ ys) ∧ ∀ b ∈ blk a', b ∈ blk a ∨ H b = none := by
  have key : ∀ b ∈ blk a', b ∈ blk a ∨ H b = none := fun b hb => by
    obtain ⟨p, hp, rfl⟩ := blk_of hb
    rcases f p hp with h | h
    · left; rw [h]; simp [blk]
    · exact .inr h
  refine ⟨⟨o, fun b hb => ?_⟩, key⟩
  rcases key b hb with h | h
  · exact r.new b h
  · exact Upd.none (S := []) uH (by simp) h
section
variable {H1 H : Heap} {a b : Option Addr} {n c m d : Nat} {V ys : List Value} {K : Value → Heap → Prop}
theorem app30 (r : NewR H1 H 30 1 a n c V) (uH : Upd [] H1 H) (hy : RowAt H b ys) (hl : ys.length = m) (hp : ∀ v ∈ ys, Value.plain v = true) (hb : n + m ≤ 1024)
    (hk : ∀ a' c' H', NewR H1 H' 30 1 a' (n + m) c' (V ++ ys) → Upd (blk a) H H' → (∀ b ∈ blk a', b ∈ blk a ∨ H b = none) → K (.slice a' (n + m) c') H') :
    HSem Try.prog (Builtin.append_ #[49, 49] 49 [.slice a n c, .slice b m d].toArray) H K := by
  refine append_rows (ie := Try.t30) (z := .slice none 0 0) (xs := V) (ys := ys) Try.underlying49 rfl rfl rfl (by decide) r.own hy (by rw [hl]; exact (Nat.mul_one _).symm) hp (by show (n + m) * 24 ≤ _; omega) (by omega) fun a' c' H' o u f => ?_
  obtain ⟨h1, h2⟩ := app_new r uH o f
  exact hk a' c' H' h1 u h2
theorem app25 (r : NewR H1 H 25 1 a n c V) (uH : Upd [] H1 H) (hy : RowAt H b ys) (hl : ys.length = m) (hp : ∀ v ∈ ys, Value.plain v = true) (hb : n + m ≤ 1024)
    (hk : ∀ a' c' H', NewR H1 H' 25 1 a' (n + m) c' (V ++ ys) → Upd (blk a) H H' → (∀ b ∈ blk a', b ∈ blk a ∨ H b = none) → K (.slice a' (n + m) c') H') :
    HSem Try.prog (Builtin.append_ #[50, 50] 50 [.slice a n c, .slice b m d].toArray) H K := by
  refine append_rows (ie := Try.t25) (z := .slice none 0 0) (xs := V) (ys := ys) Try.underlying50 rfl rfl rfl (by decide) r.own hy (by rw [hl]; exact (Nat.mul_one _).symm) hp (by show (n + m) * 24 ≤ _; omega) (by omega) fun a' c' H' o u f => ?_
  obtain ⟨h1, h2⟩ := app_new r uH o f
  exact hk a' c' H' h1 u h2
end
/-- Each of W is a copy, of a row of its own. -/
def Cop (e : TypeId) (H : Heap) (W : List Value) (ls : List (List Value)) : Prop := W.length ≤ ls.length ∧ ∀ (i : Nat) w, W[i]? = some w → ∃ l a c, ls[i]? = some l ∧ w = .slice a l.length c ∧ OwnRow H e 1 a l.length c l
structure KG (H1 : Heap) (VK : List Value) (lK : List (List Value)) (VT : List Value) (lT : List (List Value)) (W U : List Value) (H : Heap) : Prop where
  G : Grv 5 H1 H VK lK
  G' : Grv 9 H1 H VT lT
  cw : Cop 5 H W lK
  cu : Cop 9 H U lT
section
variable {H1 H H' : Heap} {VK VT W U : List Value} {lK lT : List (List Value)}
theorem Cop.upd {e : TypeId} {ls : List (List Value)} {S : List Nat} (h : Cop e H W ls) (u : Upd S H H') (hS : ∀ b ∈ S, ∀ c f, H b ≠ some (.cells c e f)) : Cop e H' W ls :=
  ⟨h.1, fun i w hw => by
    obtain ⟨l, a, c, h1, h2, h3⟩ := h.2 i w hw
    refine ⟨l, a, c, h1, h2, h3.upd u (off_notin fun b hb hs => ?_)⟩
    obtain ⟨cc, f, hc⟩ := live_cells h3 b hb
    exact hS b hs cc f hc⟩
theorem Cop.more {e : TypeId} {ls ls' : List (List Value)} (h : Cop e H W ls) : Cop e H W (ls ++ ls') :=
  ⟨by rw [List.length_append]; have := h.1; omega, fun i w hw => by
    obtain ⟨l, a, c, h1, h2, h3⟩ := h.2 i w hw
    exact ⟨l, a, c, by rw [List.getElem?_append_left (List.getElem?_eq_some_iff.1 h1).1]; exact h1, h2, h3⟩⟩
theorem Cop.put {e : TypeId} {ls : List (List Value)} {l : List Value} {a : Option Addr} {n c : Nat} (h : Cop e H W ls) (hl : ls[W.length]? = some l) (o : OwnRow H e 1 a n c l) : Cop e H (W ++ [.slice a n c]) ls := by
  have hn : l.length = n := by have := o.len; omega
  subst hn
  refine ⟨by rw [List.length_append]; exact (List.getElem?_eq_some_iff.1 hl).1, fun i w hw => ?_⟩
  by_cases hi : i < W.length
  · rw [List.getElem?_append_left hi] at hw
    exact h.2 i w hw
  · rw [List.getElem?_append_right (by omega)] at hw
    have hi2 : i = W.length := by
      have := (List.getElem?_eq_some_iff.1 hw).1
      simp at this; omega
    subst hi2
    simp at hw
    exact ⟨l, a, c, hl, hw.symm, o⟩
theorem KG.step {S : List Nat} (g : KG H1 VK lK VT lT W U H) (u : Upd S H H') (h5 : ∀ b ∈ S, ∀ c f, H b ≠ some (.cells c 5 f)) (h9 : ∀ b ∈ S, ∀ c f, H b ≠ some (.cells c 9 f)) (hn : ∀ b ∈ S, H1 b = none) : KG H1 VK lK VT lT W U H' :=
  ⟨g.G.step u h5 hn, g.G'.step u h9 hn, g.cw.upd u h5, g.cu.upd u h9⟩
theorem KG.row {e : TypeId} {a : Option Addr} {n c : Nat} {xs : List Value} (g : KG H1 VK lK VT lT W U H) (r : NewR H1 H e 1 a n c xs) (u : Upd (blk a) H H') (h5 : e ≠ 5) (h9 : e ≠ 9) : KG H1 VK lK VT lT W U H' :=
  g.step u (r.own.notT h5) (r.own.notT h9) r.new
theorem KG.upd0 (g : KG H1 VK lK VT lT W U H) (u : Upd [] H H') : KG H1 VK lK VT lT W U H' := g.step u (by simp) (by simp) (by simp)
/-- One more of a group, apart from the others. -/
theorem Grv.put {e : TypeId} {vs : List Value} {ls : List (List Value)} {a : Option Addr} {n c : Nat} {l : List Value} (h : Grv e H1 H vs ls) (o : OwnRow H e 1 a n c l) (hn : ∀ b ∈ blk a, H1 b = none) (hx : ∀ v ∈ vs, ∀ b ∈ vblk v, b ∉ blk a) : Grv e H1 H (vs ++ [.slice a n c]) (ls ++ [l]) := by
  have hl : l.length = n := by have := o.len; omega
  subst hl
  have one : ∀ {α : Type} (x : α) {xs : List α} {i : Nat} {y : α}, (xs ++ [x])[i]? = some y → xs[i]? = some y ∨ (i = xs.length ∧ y = x) := by
    intro α x xs i y hi
    by_cases h1 : i < xs.length
    · rw [List.getElem?_append_left h1] at hi; exact .inl hi
    · rw [List.getElem?_append_right (by omega)] at hi
      obtain ⟨k, hk⟩ : ∃ k, i - xs.length = k := ⟨_, rfl⟩
      rw [hk] at hi
      cases k with
      | zero => exact .inr ⟨by omega, by simpa using hi.symm⟩
      | succ k => simp at hi
  refine ⟨by rw [List.length_append, List.length_append, h.len]; rfl, fun i v l' hv hl => ?_, fun i j v w hij hv hw => ?_, fun v hv b hb => ?_, h.upd⟩
  · rcases one _ hv with hv | ⟨h1, rfl⟩
    · have h2 := (List.getElem?_eq_some_iff.1 hv).1
      rw [List.getElem?_append_left (by rw [← h.len]; exact h2)] at hl
      exact h.ok i v l' hv hl
    · rcases one _ hl with hl | ⟨h2, rfl⟩
      · have h2 := (List.getElem?_eq_some_iff.1 hl).1
        have := h.len; omega
      · exact ⟨a, c, rfl, o⟩
  · rcases one _ hv with hv | ⟨h1, rfl⟩ <;> rcases one _ hw with hw | ⟨h2, rfl⟩
    · exact h.apart i j v w hij hv hw
    · rw [vblk_slice]; exact hx v (List.mem_of_getElem? hv)
    · rw [vblk_slice]; exact fun b hb hb' => hx w (List.mem_of_getElem? hw) b hb' hb
    · omega
  · rcases List.mem_append.1 hv with hv | hv
    · exact h.new v hv b hb
    · rw [List.mem_singleton.1 hv, vblk_slice] at hb
      exact hn b hb
def vsl (v : VerA) : Value := .slice v.a v.v.ks.length v.c
/-- The lists of a version or of none. -/
theorem Grv.putV {vs : List Value} {ls : List (List Value)} {xs : List VerA} (h : Grv 9 H1 H vs ls) (hl : xs.length ≤ 1) (o : ∀ v ∈ xs, OwnRow H 9 1 v.a v.v.ks.length v.c (txts v.v.ks)) (hn : ∀ v ∈ xs, ∀ b ∈ blk v.a, H1 b = none) (hx : ∀ x ∈ xs, ∀ v ∈ vs, ∀ b ∈ vblk v, b ∉ blk x.a) :
    Grv 9 H1 H (vs ++ xs.map vsl) (ls ++ xs.map fun v => txts v.v.ks) := by
  match xs, hl with
  | [], _ => simpa using h
  | [v], _ => exact h.put (o v (by simp)) (hn v (by simp)) (hx v (by simp))
end
structure Ls where
  a : Option Addr
  n : Nat
  c : Nat
  V : List Value
def Ls.val (k : Ls) : Value := .slice k.a k.n k.c
structure KSt (H1 : Heap) (k w t u : Ls) (lK lT : List (List Value)) (H : Heap) : Prop where
  g : KG H1 k.V lK t.V lT w.V u.V H
  rk : NewR H1 H 30 1 k.a k.n k.c k.V
  rw : NewR H1 H 30 1 w.a w.n w.c w.V
  rt : NewR H1 H 25 1 t.a t.n t.c t.V
  ru : NewR H1 H 25 1 u.a u.n u.c u.V
  dw : ∀ b ∈ blk k.a, b ∉ blk w.a
  du : ∀ b ∈ blk t.a, b ∉ blk u.a
  bl : ∀ l ∈ lK, ∃ ys : List UInt8, l = u8s ys ∧ ys.length ≤ 1048580
  tl : ∀ l ∈ lT, ∃ ts : List Txt, l = txts ts ∧ ts.length ≤ 4294967296
end Go.Proofs.Ytlgncabjphokjaa
