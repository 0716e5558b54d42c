import Derived.Test.YtaobgofbhommcaaHv9
import Derived.KernelRfl
import Derived.Laws.Strings
namespace Go.Proofs.Ytaobgofbhommcaa.Hv
open Go
set_option linter.unusedVariables false
set_option linter.unusedSimpArgs false

theorem Upd.none {S : List Nat} {H H' : Heap} (h : Upd S H H') {b : Nat} (hS : b ∉ S) (hb : H' b = none) : H b = none := by
  refine Classical.byContradiction fun hne => ?_
  rw [h b hS hne] at hb; exact hne hb
theorem blk_of {a : Option Addr} {b : Nat} (h : b ∈ blk a) : ∃ p, a = some p ∧ p.block = b := by
  cases a with
  | none => simp [blk] at h
  | some p => exact ⟨p, rfl, by simp [blk] at h; exact h.symm⟩
/-! ## Bytes -/
def u8 (b : UInt8) : Value := .int .u8 b.toNat
def u8s (l : List UInt8) : List Value := l.map u8
theorem u8s_length (l : List UInt8) : (u8s l).length = l.length := by simp [u8s]
theorem u8s_append (a b : List UInt8) : u8s (a ++ b) = u8s a ++ u8s b := by simp [u8s]
theorem u8s_drop (a : List UInt8) (k : Nat) : u8s (a.drop k) = (u8s a).drop k := by simp [u8s]
theorem u8s_take (a : List UInt8) (k : Nat) : u8s (a.take k) = (u8s a).take k := by simp [u8s]
theorem u8s_get {l : List UInt8} {i : Nat} {b : UInt8} (h : l[i]? = some b) : (u8s l)[i]? = some (u8 b) := by simp [u8s, h]
theorem plain_u8s (l : List UInt8) : ∀ v ∈ u8s l, Value.plain v = true := fun v hv => by
  obtain ⟨b, _, rfl⟩ := List.mem_map.1 hv; rfl
theorem u8s_inj {a b : List UInt8} (h : u8s a = u8s b) : a = b := by
  unfold u8s at h
  refine List.map_inj_right (fun x y e => ?_) |>.1 h
  injection e with _ e
  exact UInt8.toNat_inj.1 (by exact_mod_cast e)

/-! ## Sealed words, opened -/
theorem wr_i64 {n : Int} (h0 : -9223372036854775808 ≤ n) (h1 : n ≤ 9223372036854775807) : wr .i64 n = n := by rw [wr_eq]; exact IntWalk.i64_in _ ⟨h0, h1⟩
theorem wr_i64n (n : Nat) (h : n ≤ 9223372036854775807) : wr .i64 (n : Int) = n := wr_i64 (by omega) (by omega)
theorem wr_u8 (n : Int) : wr .u8 n = n % 256 := by rw [wr_eq]; rfl
def i64s (l : List Int) : List Value := l.map (Value.int .i64)
theorem i64s_length (l : List Int) : (i64s l).length = l.length := by simp [i64s]
theorem i64s_get {l : List Int} {i : Nat} {z : Int} (h : l[i]? = some z) : (i64s l)[i]? = some (.int .i64 z) := by simp [i64s, h]
theorem wr_u64 (n : Int) : wr .u64 n = n % 18446744073709551616 := by rw [wr_eq]; simp [IntKind.wrap, IntKind.bits, IntKind.signed]
theorem ltB_nat (a b : Nat) : ltB (a : Int) (b : Int) = decide (a < b) := by rw [ltB_eq]; simp
theorem ltB_true {a b : Int} : ltB a b = true ↔ a < b := by rw [ltB_eq]; simp
theorem ltB_false {a b : Int} : ltB a b = false ↔ b ≤ a := by rw [ltB_eq]; simp
theorem not_ltB_true {a b : Int} : (!ltB a b) = true ↔ b ≤ a := by rw [ltB_eq]; simp
theorem not_ltB_false {a b : Int} : (!ltB a b) = false ↔ a < b := by rw [ltB_eq]; simp
theorem eqB_true {a b : Int} : eqB a b = true ↔ a = b := by rw [eqB_eq]; simp
theorem eqB_false {a b : Int} : eqB a b = false ↔ a ≠ b := by rw [eqB_eq]; simp
theorem not_eqB_true {a b : Int} : (!eqB a b) = true ↔ a ≠ b := by rw [eqB_eq]; simp
theorem not_eqB_false {a b : Int} : (!eqB a b) = false ↔ a = b := by rw [eqB_eq]; simp
def bs (l : List UInt8) : ByteArray := ⟨l.toArray⟩
theorem bs_size (l : List UInt8) : (bs l).size = l.length := by simp [bs, ByteArray.size]
theorem bs_list (l : List UInt8) : (bs l).data.toList = l := rfl
theorem seqB_bs (a b : List UInt8) : seqB (bs a) (bs b) = decide (a = b) := by
  rw [seqB_eq, ByteArray.toList_eq, ByteArray.toList_eq]
  show (a == b) = _
  by_cases h : a = b
  · subst h; simp
  · rw [decide_eq_false h]; exact beq_eq_false_iff_ne.2 h
theorem HBytes.row {Hs : List Heap} {a : Option Addr} {n : Nat} {K : ByteArray → Prop} (l : List UInt8) (hl : l.length = n) (h : ∀ H ∈ Hs, RowAt H a (u8s l)) (hk : K (bs l)) (hne : Hs ≠ []) : HBytes Hs a n K := by
  refine ⟨bs l, by rw [bs_size, hl], fun ha => ?_, fun H hH i v hi p hp => ?_, hk⟩
  · cases Hs with
    | nil => exact absurd rfl hne
    | cons H Hs =>
      cases l with
      | nil => rw [← hl]; rfl
      | cons x l => obtain ⟨_, _, hh, _⟩ := h H List.mem_cons_self 0 _ rfl; rw [ha] at hh; cases hh
  · have := h H hH i (u8 v) (by rw [u8s_get]; exact hi)
    obtain ⟨b, off, ha, hc⟩ := this
    rw [hp] at ha; cases ha
    rw [Addr.add_lit]; exact hc

theorem HLoad.one {H : Heap} {a : Addr} {K : Value → Prop} {v : Value} (h : H.cell? a = some v) (hk : K v) : HLoad [H] a K := ⟨v, fun H' hH => by rw [List.mem_singleton.1 hH]; exact h, hk⟩
theorem RowAt.load {H : Heap} {b off : Nat} {cs : List Value} (h : RowAt H (some ⟨b, off, none⟩) cs) {i size : Nat} {v : Value} (hi : cs[i * size]? = some v) : H.cell? ((⟨b, off, none⟩ : Addr).add (offMul i size)) = some v := by
  rw [Addr.add_lit, offMul_eq]; exact h.get hi

theorem RowAt.sl {H : Heap} {a : Option Addr} {cs : List Value} (h : RowAt H a cs) {l cap size : Nat} (hc : cs.length ≤ cap * size) : RowAt H (slAddr a l cap size) (cs.drop (l * size)) := by
  unfold slAddr
  by_cases e : cap = l
  · have : cs.drop (l * size) = [] := List.drop_eq_nil_of_le (by rw [← e]; exact hc)
    rw [this]; exact RowAt.nil _ _
  · rw [if_neg e]; exact h.drop (l * size)

/-! ## Slices of bytes (element type e) -/
section
/-- What a call has made: a row of its own, of a new block. -/
structure Made (H H' : Heap) (e : TypeId) (size : Nat) (a : Option Addr) (n cap : Nat) (xs : List Value) : Prop where
  own : OwnRow H' e size a n cap xs
  upd : Upd [] H H'
  new : ∀ p, a = some p → H p.block = none
end
def All2 {α β : Type} (R : α → β → Prop) : List α → List β → Prop
  | [], [] => True
  | x :: xs, y :: ys => R x y ∧ All2 R xs ys
  | _, _ => False
theorem All2.length {α β : Type} {R : α → β → Prop} : ∀ {xs : List α} {ys : List β}, All2 R xs ys → xs.length = ys.length
  | [], [], _ => rfl
  | x :: xs, y :: ys, h => by simp [h.2.length]
theorem All2.mono {α β : Type} {R R' : α → β → Prop} (hr : ∀ x y, R x y → R' x y) : ∀ {xs : List α} {ys : List β}, All2 R xs ys → All2 R' xs ys
  | [], [], _ => trivial
  | x :: xs, y :: ys, h => ⟨hr _ _ h.1, h.2.mono hr⟩
theorem All2.append {α β : Type} {R : α → β → Prop} : ∀ {xs xs' : List α} {ys ys' : List β}, All2 R xs ys → All2 R xs' ys' → All2 R (xs ++ xs') (ys ++ ys')
  | [], _, [], _, _, h => h
  | x :: xs, _, y :: ys, _, h, h' => ⟨h.1, h.2.append h'⟩
theorem All2.get {α β : Type} {R : α → β → Prop} : ∀ {xs : List α} {ys : List β}, All2 R xs ys → ∀ {i : Nat} {y : β}, ys[i]? = some y → ∃ x, xs[i]? = some x ∧ R x y
  | [], [], _, i, y, hy => by simp at hy
  | x :: xs, z :: ys, h, 0, y, hy => ⟨x, rfl, by simp at hy; subst hy; exact h.1⟩
  | x :: xs, z :: ys, h, i + 1, y, hy => h.2.get (i := i) (by simpa using hy)
theorem OwnRow.addr {H : Heap} {e : TypeId} {size : Nat} {a : Option Addr} {n cap : Nat} {xs : List Value} (h : OwnRow H e size a n cap xs) (hn : 0 < n) : ∃ b, a = some ⟨b, 0, none⟩ := by
  rcases h.ok with ⟨_, h0, _⟩ | ⟨g, cur, ha, _⟩
  · omega
  · exact ⟨g, ha⟩
end Go.Proofs.Ytaobgofbhommcaa.Hv
