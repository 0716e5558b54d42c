import Derived.Test.YtefmplilhbbiaaaN13
namespace Go.Proofs.Ytefmplilhbbiaaa
open Go Hv
set_option linter.unusedVariables false
set_option maxRecDepth 10000
set_option maxHeartbeats 4000000
/-! A script. -/
structure Opr where
  kind : Int
  who : Int
  A : Int
  B : Int
  ab : Option Addr
  nb : Nat
  cb : Nat
  ys : List UInt8
def ocells (o : Opr) : List Value := [.int .i64 o.kind, .int .i64 o.who, .int .i64 o.A, .int .i64 o.B, .slice o.ab o.nb o.cb]
def orow : List Opr → List Value
  | [] => []
  | o :: l => ocells o ++ orow l
theorem orow_get : ∀ {l : List Opr} {i k : Nat} {o : Opr} {v : Value}, l[i]? = some o → (ocells o)[k]? = some v → (orow l)[i * 5 + k]? = some v
  | [], i, k, f, v, h, _ => by simp at h
  | g :: l, 0, k, f, v, h, hv => by
    simp at h; subst h
    have := (List.getElem?_eq_some_iff.1 hv).1
    show (ocells g ++ orow l)[0 * 5 + k]? = _
    rw [Nat.zero_mul, Nat.zero_add, List.getElem?_append_left this]; exact hv
  | g :: l, i + 1, k, f, v, h, hv => by
    have e : (i + 1) * 5 + k = 5 + (i * 5 + k) := by omega
    show (ocells g ++ orow l)[(i + 1) * 5 + k]? = _
    rw [e, List.getElem?_append_right (by show 5 ≤ _; omega)]
    show (orow l)[5 + (i * 5 + k) - 5]? = _
    rw [Nat.add_sub_cancel_left]
    exact orow_get (by simpa using h) hv
theorem or_get {H : Heap} {b off i k : Nat} {l : List Opr} {o : Opr} {v : Value} (r : RowAt H (some ⟨b, off, none⟩) (orow l)) (ho : l[i]? = some o) (hv : (ocells o)[k]? = some v) : H.cell? ⟨b, off + i * 5 + k, none⟩ = some v := by
  have := r.get (orow_get ho hv)
  rw [← Nat.add_assoc] at this
  exact this
def OprOk (H : Heap) (o : Opr) : Prop := RowAt H o.ab (u8s o.ys) ∧ o.ys.length = o.nb ∧ o.nb ≤ 140737488351232
theorem and1_any (w : Int) : ∃ k : Nat, bitsS .and .i64 w 1 = (k : Int) ∧ k < 2 := by
  rw [bitsS_eq]
  have h1 : (BitVec.ofInt 64 w &&& BitVec.ofInt 64 1).toNat < 2 := by
    rw [BitVec.toNat_and]
    have : (BitVec.ofInt 64 1).toNat = 1 := by decide
    rw [this, Nat.and_one_is_mod]; omega
  refine ⟨(BitVec.ofInt 64 w &&& BitVec.ofInt 64 1).toNat, ?_, h1⟩
  show IntKind.i64.wrap ((BitVec.ofInt 64 w &&& BitVec.ofInt 64 1).toNat : Int) = _
  exact IntWalk.i64_in _ (by omega)
/-! Two pairs of nets. -/
theorem PairAt.notE {Hb H : Heap} {g g' : Nat} {P C : Int} {S : List Nat} {k : Nat} (Q : PairAt Hb H g g' P C S k) {e : TypeId} (h1 : 61 ≠ e) (h2 : 33 ≠ e) (h3 : 66 ≠ e) (h4 : 67 ≠ e) : ∀ b ∈ S, ∀ c f, H b ≠ some (.cells c e f) := by
  obtain ⟨L, a, n, cap, fs, a', cap', fs', ls, N, N', SA, SB, FS, hS, _⟩ := Q
  intro b hb
  rw [hS] at hb
  rcases List.mem_append.1 hb with h | h
  · exact N.notE h1 h2 b h
  · exact N'.notE h3 h4 b h
theorem PairAt.old {Hb H : Heap} {g g' : Nat} {P C : Int} {S : List Nat} {k : Nat} (Q : PairAt Hb H g g' P C S k) : ∀ b ∈ S, Hb b = none := by
  obtain ⟨L, a, n, cap, fs, a', cap', fs', ls, N, N', SA, SB, FS, hS, _⟩ := Q
  intro b hb
  rw [hS] at hb
  rcases List.mem_append.1 hb with h | h
  · exact N.old b h
  · exact N'.old b h
theorem PairAt.live {Hb H : Heap} {g g' : Nat} {P C : Int} {S : List Nat} {k : Nat} (Q : PairAt Hb H g g' P C S k) : ∀ b ∈ S, H b ≠ none := by
  obtain ⟨L, a, n, cap, fs, a', cap', fs', ls, N, N', SA, SB, FS, hS, _⟩ := Q
  intro b hb
  rw [hS] at hb
  rcases List.mem_append.1 hb with h | h
  · exact N.live b h
  · exact N'.live b h
theorem PairAt.upd {Hb H H' : Heap} {g g' : Nat} {P C : Int} {S T : List Nat} {k k' : Nat} (Q : PairAt Hb H g g' P C S k) (hkk : k ≤ k') (u : Upd T H H') (hd : ∀ b ∈ T, b ∉ S) (hn : ∀ b ∈ T, Hb b = none) (h5 : ∀ b ∈ T, ∀ c f, H b ≠ some (.cells c 5 f)) : PairAt Hb H' g g' P C S k' := by
  obtain ⟨L, a, n, cap, fs, a', cap', fs', ls, N, N', SA, SB, FS, hS, hP, hC, hL0, hLk, hnk, hll⟩ := Q
  have d5 : ∀ {v : Value} {l : List UInt8}, Sle 5 H v l → Sle 5 H' v l := fun s => s.upd u fun b hb hT => by
    obtain ⟨c, f, hc⟩ := s.live hb
    exact h5 b hT c f hc
  refine PairAt.mk ⟨L, a, n, cap, fs, a', cap', fs', ls, N.upd u (fun hb => hd _ hb ?_) (fun p hp hb => hd _ hb ?_) hn, N'.upd u (fun hb => hd _ hb ?_) (fun p hp hb => hd _ hb ?_) hn, SA.mono fun v l s => d5 s, SB.mono fun v l s => d5 s, FS, hS, hP, hC, hL0, by omega, by omega, hll⟩
  · rw [hS]; exact List.mem_append_left _ (mem_nblk_g _ _)
  · rw [hS]; exact List.mem_append_left _ (blk_nblk _ _ _ (by rw [hp]; simp [blk]))
  · rw [hS]; exact List.mem_append_right _ (mem_nblk_g _ _)
  · rw [hS]; exact List.mem_append_right _ (blk_nblk _ _ _ (by rw [hp]; simp [blk]))
def Slot (Hb H : Heap) (pv rv : Value) (S : List Nat) (k : Nat) : Prop :=
  (pv = .pointer none ∧ rv = .pointer none ∧ S = []) ∨ ∃ g g' P C, pv = .pointer (some ⟨g, 0, none⟩) ∧ rv = .pointer (some ⟨g', 0, none⟩) ∧ PairAt Hb H g g' P C S k
structure Two (Hb H : Heap) (ps rs : List Value) (Ss : List (List Nat)) (k : Nat) : Prop where
  lp : ps.length = 2
  lr : rs.length = 2
  lS : Ss.length = 2
  slot : ∀ (j : Nat) pv rv S, ps[j]? = some pv → rs[j]? = some rv → Ss[j]? = some S → Slot Hb H pv rv S k
  disj : ∀ (i j : Nat) S T, i ≠ j → Ss[i]? = some S → Ss[j]? = some T → ∀ b ∈ S, b ∉ T
theorem Two.live {Hb H : Heap} {ps rs : List Value} {Ss : List (List Nat)} {k : Nat} (W : Two Hb H ps rs Ss k) {j : Nat} {S : List Nat} (hS : Ss[j]? = some S) : ∀ b ∈ S, H b ≠ none := by
  have hj := (List.getElem?_eq_some_iff.1 hS).1
  have h1 := W.lp; have h2 := W.lr; have h3 := W.lS
  rcases W.slot j (ps[j]'(by omega)) (rs[j]'(by omega)) S (by simp) (by simp) hS with ⟨_, _, rfl⟩ | ⟨g, g', P, C, _, _, Q⟩
  · intro b hb; simp at hb
  · exact Q.live
theorem Slot.upd {Hb H H' : Heap} {pv rv : Value} {S T : List Nat} {k k' : Nat} (h : Slot Hb H pv rv S k) (hkk : k ≤ k') (u : Upd T H H') (hd : ∀ b ∈ T, b ∉ S) (hn : ∀ b ∈ T, Hb b = none) (h5 : ∀ b ∈ T, ∀ c f, H b ≠ some (.cells c 5 f)) : Slot Hb H' pv rv S k' := by
  rcases h with h | ⟨g, g', P, C, h1, h2, Q⟩
  · exact .inl h
  · exact .inr ⟨g, g', P, C, h1, h2, Q.upd hkk u hd hn h5⟩
theorem Two.upd0 {Hb H H' : Heap} {ps rs : List Value} {Ss : List (List Nat)} {k k' : Nat} (W : Two Hb H ps rs Ss k) (hkk : k ≤ k') (u : Upd [] H H') : Two Hb H' ps rs Ss k' :=
  ⟨W.lp, W.lr, W.lS, fun j pv rv S h1 h2 h3 => (W.slot j pv rv S h1 h2 h3).upd hkk u (by simp) (by simp) (by simp), W.disj⟩
theorem Two.updT {Hb H H' : Heap} {ps rs : List Value} {Ss : List (List Nat)} {k : Nat} {T : List Nat} (W : Two Hb H ps rs Ss k) (u : Upd T H H') (hd : ∀ (j : Nat) S, Ss[j]? = some S → ∀ b ∈ T, b ∉ S) (hn : ∀ b ∈ T, Hb b = none) (h5 : ∀ b ∈ T, ∀ c f, H b ≠ some (.cells c 5 f)) : Two Hb H' ps rs Ss k :=
  ⟨W.lp, W.lr, W.lS, fun j pv rv S h1 h2 h3 => (W.slot j pv rv S h1 h2 h3).upd (Nat.le_refl _) u (hd j S h3) hn h5, W.disj⟩
theorem Two.set {Hb H H' : Heap} {ps rs : List Value} {Ss : List (List Nat)} {k k' i : Nat} {pv rv : Value} {S S' : List Nat} (W : Two Hb H ps rs Ss k) (hkk : k ≤ k') (hi : i < 2) (hS : Ss[i]? = some S) (u : Upd S H H') (hn : ∀ b ∈ S, Hb b = none) (h5 : ∀ b ∈ S, ∀ c f, H b ≠ some (.cells c 5 f)) (s : Slot Hb H' pv rv S' k') (hS' : ∀ b ∈ S', b ∈ S ∨ H b = none) : Two Hb H' (ps.set i pv) (rs.set i rv) (Ss.set i S') k' := by
  have h1 := W.lp; have h2 := W.lr; have h3 := W.lS
  have hx : ∀ (j : Nat) T, i ≠ j → Ss[j]? = some T → ∀ b ∈ S', b ∉ T := fun j T hij hT b hb hb' => by
    rcases hS' b hb with h | h
    · exact W.disj i j S T hij hS hT b h hb'
    · exact W.live hT b hb' h
  refine ⟨by simp [h1], by simp [h2], by simp [h3], fun j pv' rv' T hp hr hT => ?_, fun j l T U hjl hT hU => ?_⟩
  · rw [List.getElem?_set] at hp hr hT
    split at hp
    · rename_i e; subst e
      rw [if_pos rfl] at hr hT
      rw [if_pos (by omega)] at hp hr hT
      cases hp; cases hr; cases hT; exact s
    · rename_i e
      rw [if_neg e] at hr hT
      exact (W.slot j pv' rv' T hp hr hT).upd hkk u (W.disj i j S T e hS hT) hn h5
  · rw [List.getElem?_set] at hT hU
    split at hT
    · rename_i e; subst e
      rw [if_neg hjl] at hU
      rw [if_pos (by omega)] at hT
      cases hT
      exact hx l U hjl hU
    · rename_i e
      split at hU
      · rename_i e'; subst e'
        rw [if_pos (by omega)] at hU
        cases hU
        intro b hb hb'
        exact hx j T e hT b hb' hb
      · exact W.disj j l T U hjl hT hU
theorem Two.notE {Hb H : Heap} {ps rs : List Value} {Ss : List (List Nat)} {k j : Nat} {S : List Nat} (W : Two Hb H ps rs Ss k) (hS : Ss[j]? = some S) {e : TypeId} (h1 : 61 ≠ e) (h2 : 33 ≠ e) (h3 : 66 ≠ e) (h4 : 67 ≠ e) : ∀ b ∈ S, ∀ c f, H b ≠ some (.cells c e f) := by
  have hj := (List.getElem?_eq_some_iff.1 hS).1
  have l1 := W.lp; have l2 := W.lr; have l3 := W.lS
  rcases W.slot j (ps[j]'(by omega)) (rs[j]'(by omega)) S (by simp) (by simp) hS with ⟨_, _, rfl⟩ | ⟨g, g', P, C, _, _, Q⟩
  · intro b hb; simp at hb
  · exact Q.notE h1 h2 h3 h4
theorem off_notE {H : Heap} {S : List Nat} {e : TypeId} {size n cap : Nat} {a : Option Addr} {xs : List Value} (r : OwnRow H e size a n cap xs) (h : ∀ b ∈ S, ∀ c f, H b ≠ some (.cells c e f)) : Off S a := fun p hp hb => by
  rcases r.ok with ⟨ha, _⟩ | ⟨g', cur, ha, hg, _⟩
  · rw [ha] at hp; cases hp
  · rw [ha] at hp; cases hp; exact h _ hb _ _ hg
end Go.Proofs.Ytefmplilhbbiaaa
