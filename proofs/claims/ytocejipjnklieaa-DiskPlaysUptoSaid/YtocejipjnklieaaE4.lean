import Derived.Test.YtocejipjnklieaaE3
namespace Go.Proofs.Ytocejipjnklieaa
open Go Hv
set_option linter.unusedVariables false
set_option linter.unusedSimpArgs false
set_option maxRecDepth 10000
set_option maxHeartbeats 2000000
/-! What is read off a disk and kept beside it. -/
theorem bytesLess_lt : ∀ (x y : List UInt8), Op.bytesLess x y = decide (x < y)
  | x, [] => by
    have h : ¬ x < [] := List.not_lt_nil x
    rw [decide_eq_false h]; cases x <;> rfl
  | [], b :: y => by
    have h : ([] : List UInt8) < b :: y := List.nil_lt_cons b y
    rw [decide_eq_true h]; rfl
  | a :: x, b :: y => by
    have ih := bytesLess_lt x y
    show (decide (a < b) || (a == b && Op.bytesLess x y)) = _
    rw [ih]
    by_cases h1 : a < b
    · have h : a :: x < b :: y := List.cons_lt_cons_iff.2 (.inl h1)
      rw [decide_eq_true h1, decide_eq_true h]; rfl
    · by_cases h2 : a = b
      · subst h2
        by_cases h3 : x < y
        · have h : a :: x < a :: y := List.cons_lt_cons_iff.2 (.inr ⟨rfl, h3⟩)
          rw [decide_eq_true h3, decide_eq_true h]; simp
        · have h : ¬ a :: x < a :: y := fun h => by
            rcases List.cons_lt_cons_iff.1 h with h | h
            · exact h1 h
            · exact h3 h.2
          rw [decide_eq_false h3, decide_eq_false h]; simp [h1]
      · have h : ¬ a :: x < b :: y := fun h => by
          rcases List.cons_lt_cons_iff.1 h with h | h
          · exact h1 h
          · exact h2 h.1
        rw [decide_eq_false h1, decide_eq_false h]; simp [h2]
theorem sltB_bs (a b : List UInt8) : sltB (bs a) (bs b) = decide (a < b) := by
  rw [sltB_eq, ByteArray.toList_eq, ByteArray.toList_eq]
  exact bytesLess_lt a b
theorem eqB_self (a : Int) : eqB a a = true := eqB_true.2 rfl
theorem HLoadN_row {H : Heap} {b off n : Nat} {vs : List Value} {K : List Value → Prop} (h : RowAt H (some ⟨b, off, none⟩) vs) (hl : vs.length = n) (hk : K vs) : HLoadN [H] b off n K :=
  ⟨vs, fun H' hH j v hv => by rw [List.mem_singleton.1 hH]; exact h.get hv, hl, hk⟩
theorem off_notin {S : List Nat} {a : Option Addr} (h : ∀ b ∈ blk a, b ∉ S) : Off S a := fun p hp hb => h p.block (by rw [hp]; simp [blk]) hb
structure Kept (Z : Nat → Prop) (H : Heap) (B : List Nat) (e size : Nat) (a : Option Addr) (n c : Nat) (xs : List Value) : Prop where
  own : OwnRow H e size a n c xs
  off : ∀ b ∈ blk a, b ∉ B
  new : ∀ b ∈ blk a, Z b
theorem Kept.live {Z : Nat → Prop} {H : Heap} {B : List Nat} {e size n c : Nat} {a : Option Addr} {xs : List Value} (k : Kept Z H B e size a n c xs) : ∀ b ∈ blk a, H b ≠ none := fun b hb => by
  obtain ⟨p, hp, rfl⟩ := blk_of hb; exact k.own.there hp
theorem Kept.stp {Z : Nat → Prop} {H H' : Heap} {g r e size n c : Nat} {fl fl' : List Fl} {a : Option Addr} {xs : List Value} (k : Kept Z H (dblk g r fl) e size a n c xs) (S : Stp H H' g r fl fl') : Kept Z H' (dblk g r fl') e size a n c xs :=
  ⟨k.own.upd S.upd (off_notin k.off), fun b hb hm => by
    rcases S.sub b hm with h | h
    · exact k.off b hb h
    · exact k.live b hb h, k.new⟩
theorem Kept.upd {Z : Nat → Prop} {H H' : Heap} {B T : List Nat} {e size n c : Nat} {a : Option Addr} {xs : List Value} (k : Kept Z H B e size a n c xs) (u : Upd T H H') (h : Off T a) : Kept Z H' B e size a n c xs := ⟨k.own.upd u h, k.off, k.new⟩
theorem Kept.made {Z : Nat → Prop} {H1 H H' : Heap} {g r e size n c : Nat} {s : St} {fl : List Fl} {a : Option Addr} {xs : List Value} (D : DiskAt H1 H g r s fl) (m : Made H H' e size a n c xs) (h0 : ∀ b, H b = none → Z b) : Kept Z H' (dblk g r fl) e size a n c xs :=
  ⟨m.own, fun b hb hm => by obtain ⟨p, hp, rfl⟩ := blk_of hb; exact D.phys.live _ hm (m.new p hp), fun b hb => by obtain ⟨p, hp, rfl⟩ := blk_of hb; exact h0 _ (m.new p hp)⟩
theorem DiskAt.offT {H1 H : Heap} {g r e size n c : Nat} {s : St} {fl : List Fl} {a : Option Addr} {xs : List Value} (D : DiskAt H1 H g r s fl) (o : OwnRow H e size a n c xs) (h1 : e ≠ 68) (h2 : e ≠ 74) (h3 : e ≠ 5) : ∀ b ∈ blk a, b ∉ dblk g r fl := fun b hb hm => by
  have P := D.phys
  rcases mem_dblk.1 hm with rfl | rfl | ⟨f, hf, rfl⟩ | ⟨f, hf, hv⟩
  · obtain ⟨c', z, e1⟩ := own_live P.obj; exact o.notT h1 b hb _ _ e1
  · obtain ⟨es, c', e1⟩ := P.mapc
    obtain ⟨p, hp, rfl⟩ := blk_of hb
    rcases o.ok with ⟨ha, _⟩ | ⟨g', cur, ha, hg, _⟩
    · rw [ha] at hp; cases hp
    · rw [ha] at hp; cases hp; rw [hg] at e1; cases e1
  · obtain ⟨c', z, e1⟩ := own_live (P.str f hf); exact o.notT h2 _ hb _ _ e1
  · obtain ⟨c', z, e1⟩ := P.vlive hf hv; exact o.notT h3 b hb _ _ e1
def bytesAt (s : St) (t : Txt) : List UInt8 := ((s.fs (bs t)).getD ([], 0)).1
/-- A slice that reads as what file t has. -/
def BytesV (s : St) (Z : Nat → Prop) (H : Heap) (B : List Nat) (v : Value) (t : Txt) : Prop := ∃ a c, v = .slice a (bytesAt s t).length c ∧ Kept Z H B 5 1 a (bytesAt s t).length c (u8s (bytesAt s t))
structure ShotR (Z : Nat → Prop) (H : Heap) (B : List Nat) (v : Value) (s : St) (ns : List Txt) : Prop where
  ex : ∃ (aN aB : Option Addr) (cN cB : Nat) (vs : List Value), v = .agg [.slice aN ns.length cN, .slice aB ns.length cB].toArray ∧ Kept Z H B 9 1 aN ns.length cN (txts ns) ∧ Kept Z H B 22 1 aB ns.length cB vs ∧ All2 (BytesV s Z H B) vs ns
/-- Not there at the start, or the disk's own then. -/
def Zn (Hs : Heap) (g r : Nat) (fls : List Fl) (b : Nat) : Prop := b ∈ dblk g r fls ∨ Hs b = none
theorem Zn.of {Hs H : Heap} {g r : Nat} {fls fl : List Fl} (S : Stp Hs H g r fls fl) {b : Nat} (h : H b = none) : Zn Hs g r fls b := by
  by_cases hd : b ∈ dblk g r fls
  · exact .inl hd
  · exact .inr (Classical.byContradiction fun hn => hn (by rw [← S.upd b hd hn]; exact h))
theorem Stp.fwdN {H0 H H' : Heap} {g r : Nat} {fl fl' : List Fl} {T : List Nat} (S : Stp H0 H g r fl fl') (u : Upd T H H') (hT : ∀ b ∈ T, Zn H0 g r fl b) : Stp H0 H' g r fl fl' :=
  ⟨fun k hk hn => by
    have e := S.upd k hk hn
    rw [u k (fun h => (hT k h).elim (fun h' => hk h') (fun h' => hn h')) (by rw [e]; exact hn)]; exact e, S.sub⟩
structure ShS (H1 Hs : Heap) (g r : Nat) (s : St) (fls : List Fl) (ns : List Txt) (aL : Option Addr) (cL b4 i j : Nat) (aN aB : Option Addr) (cN cB : Nat) (fl : List Fl) (H : Heap) : Prop where
  D : DiskAt H1 H g r s fl
  S : Stp Hs H g r fls fl
  L : Kept (Zn Hs g r fls) H (dblk g r fl) 9 1 aL ns.length cL (txts ns)
  o4 : OwnRow H 55 1 (some ⟨b4, 0, none⟩) 2 2 [.slice aN i cN, .slice aB j cB]
  n4 : Zn Hs g r fls b4
  N : Kept (Zn Hs g r fls) H (dblk g r fl) 9 1 aN i cN (txts (ns.take i))
  B : ∃ vs, Kept (Zn Hs g r fls) H (dblk g r fl) 22 1 aB j cB vs ∧ All2 (BytesV s (Zn Hs g r fls) H (dblk g r fl)) vs (ns.take j)
  LN : Off (blk aN) aL
  nb : ∀ b, Zn Hs g r fls b → H1 b = none
theorem BytesV.upd {s : St} {Z : Nat → Prop} {H H' : Heap} {B T : List Nat} {v : Value} {t : Txt} (h : BytesV s Z H B v t) (u : Upd T H H') (hT : ∀ b ∈ T, ∀ c f, H b ≠ some (.cells c 5 f)) : BytesV s Z H' B v t := by
  obtain ⟨a, c, e, k⟩ := h
  refine ⟨a, c, e, k.upd u (off_notin fun b hb hm => ?_)⟩
  obtain ⟨p, hp, rfl⟩ := blk_of hb
  rcases k.own.ok with ⟨ha, _⟩ | ⟨g', cur, ha, hg, _⟩
  · rw [ha] at hp; cases hp
  · rw [ha] at hp; cases hp; exact hT _ hm _ _ hg
theorem ShS.disk {H1 Hs : Heap} {g r : Nat} {s : St} {fls fl fl' : List Fl} {ns : List Txt} {aL aN aB : Option Addr} {cL b4 i j cN cB : Nat} {H H' : Heap} (q : ShS H1 Hs g r s fls ns aL cL b4 i j aN aB cN cB fl H) (D' : DiskAt H1 H' g r s fl') (S' : Stp H H' g r fl fl') : ShS H1 Hs g r s fls ns aL cL b4 i j aN aB cN cB fl' H' := by
  obtain ⟨vs, kB, al⟩ := q.B
  exact ⟨D', q.S.trans S', q.L.stp S', q.o4.upd S'.upd (off_notin (q.D.offT q.o4 (by decide) (by decide) (by decide))), q.n4, q.N.stp S', ⟨vs, kB.stp S', al.mono fun v t ⟨a, c, e, k⟩ => ⟨a, c, e, k.stp S'⟩⟩, q.LN, q.nb⟩
theorem ShS.upd0 {H1 Hs : Heap} {g r : Nat} {s : St} {fls fl : List Fl} {ns : List Txt} {aL aN aB : Option Addr} {cL b4 i j cN cB : Nat} {H H' : Heap} (q : ShS H1 Hs g r s fls ns aL cL b4 i j aN aB cN cB fl H) (u : Upd [] H H') : ShS H1 Hs g r s fls ns aL cL b4 i j aN aB cN cB fl H' := by
  obtain ⟨vs, kB, al⟩ := q.B
  exact ⟨q.D.upd0 u, q.S.fwd0 u, q.L.upd u (Off.nil _), q.o4.upd u (Off.nil _), q.n4, q.N.upd u (Off.nil _), ⟨vs, kB.upd u (Off.nil _), al.mono fun v t h => h.upd u (by simp)⟩, q.LN, q.nb⟩
section
variable {H1 Hs H : Heap} {g r : Nat} {s : St} {fls fl : List Fl} {ns : List Txt} {aL aN aB : Option Addr} {cL b4 i j cN cB : Nat}
/-- A name is appended, and the slice of names is stored. -/
theorem ShS.name {K : Value → Heap → Prop} {b c : Nat} {t : Txt} (q : ShS H1 Hs g r s fls ns aL cL b4 i j aN aB cN cB fl H) (ht : ns[i]? = some t) (hi : i ≤ 1000) (hy : RowAt H (some ⟨b, 0, none⟩) (txts [t]))
    (hk : ∀ aN' cN' H', Upd (blk aN) H H' → OwnRow H' 55 1 (some ⟨b4, 0, none⟩) 2 2 [.slice aN i cN, .slice aB j cB] → (∀ H'', OwnRow H'' 55 1 (some ⟨b4, 0, none⟩) 2 2 [.slice aN' (i + 1) cN', .slice aB j cB] → Upd [b4] H' H'' → ShS H1 Hs g r s fls ns aL cL b4 (i + 1) j aN' aB cN' cB fl H'') → K (.slice aN' (i + 1) cN') H') :
    HSem Try.prog (Builtin.append_ #[36, 36] 36 [.slice aN i cN, .slice (some ⟨b, 0, none⟩) 1 c].toArray) H K := by
  refine append_rows (ie := Try.t9) (z := .string ⟨#[]⟩) (xs := txts (ns.take i)) (ys := txts [t]) Try.underlying36 rfl rfl rfl (by decide) q.N.own hy rfl (by intro v hv; rw [List.mem_singleton.1 hv]; rfl) (by show (i + 1) * 16 ≤ _; omega) (by omega) fun a' c' H' o u f => ?_
  have e : txts (ns.take i) ++ txts [t] = txts (ns.take (i + 1)) := by
    rw [List.take_add_one, ht]; unfold txts; rw [List.map_append]; rfl
  rw [e] at o
  have h1n : ∀ b ∈ blk aN, H1 b = none := fun b hb => q.nb b (q.N.new b hb)
  obtain ⟨vs, kB, al⟩ := q.B
  have live : ∀ b ∈ blk a', b ∈ blk aN ∨ H b = none := fun b hb => by
    obtain ⟨p, hp, rfl⟩ := blk_of hb
    rcases f p hp with h | h
    · exact .inl (by rw [h]; simp [blk])
    · exact .inr h
  have D' := q.D.upd u (fun b hb => q.N.off b hb) h1n
  have o4 := q.o4.upd u (q.N.own.offT q.o4 (by decide))
  have nw : ∀ b ∈ blk a', b ∉ dblk g r fl ∧ Zn Hs g r fls b := fun b hb => by
    rcases live b hb with h | h
    · exact ⟨q.N.off b h, q.N.new b h⟩
    · exact ⟨fun hm => q.D.phys.live b hm h, Zn.of q.S h⟩
  have kB' := kB.upd u (q.N.own.offT kB.own (by decide))
  have al' := al.mono fun v t h => h.upd u fun b hb => q.N.own.notT (by decide) b hb
  have lo : Off (blk a') aL := off_notin fun b hb hm => by
    rcases live b hm with h | h
    · obtain ⟨p, hp, rfl⟩ := blk_of hb
      exact q.LN p hp h
    · exact q.L.live b hb h
  have oL := q.L.upd u q.LN
  refine hk a' c' H' u o4 fun H'' o5 u5 => ?_
  have d4 := D'.offT o4 (by decide) (by decide) (by decide)
  have z4 : ∀ b ∈ [b4], Zn Hs g r fls b := fun b hb => by rw [List.mem_singleton.1 hb]; exact q.n4
  refine ⟨D'.upd u5 (fun b hb => d4 b hb) (fun b hb => q.nb b (z4 b hb)), (q.S.fwdN u q.N.new).fwdN u5 z4, oL.upd u5 (OwnRow.offT (b := aL) o4 oL.own (by decide)), o5, q.n4, ⟨o.upd u5 (OwnRow.offT (b := a') o4 o (by decide)), fun b hb => (nw b hb).1, fun b hb => (nw b hb).2⟩,
    ⟨vs, kB'.upd u5 (OwnRow.offT (b := aB) o4 kB'.own (by decide)), al'.mono fun v t h => h.upd u5 fun b hb => o4.notT (by decide) b hb⟩, lo, q.nb⟩
/-- A row of bytes is appended, and the slice of rows is stored. -/
theorem ShS.bytes {K : Value → Heap → Prop} {b c c5 : Nat} {a5 : Option Addr} {t : Txt} (q : ShS H1 Hs g r s fls ns aL cL b4 i j aN aB cN cB fl H) (ht : ns[j]? = some t) (hi : j ≤ 1000) (hy : RowAt H (some ⟨b, 0, none⟩) [.slice a5 (bytesAt s t).length c5])
    (h5 : Kept (Zn Hs g r fls) H (dblk g r fl) 5 1 a5 (bytesAt s t).length c5 (u8s (bytesAt s t)))
    (hk : ∀ aB' cB' H', Upd (blk aB) H H' → OwnRow H' 55 1 (some ⟨b4, 0, none⟩) 2 2 [.slice aN i cN, .slice aB j cB] → (∀ H'', OwnRow H'' 55 1 (some ⟨b4, 0, none⟩) 2 2 [.slice aN i cN, .slice aB' (j + 1) cB'] → Upd [b4] H' H'' → ShS H1 Hs g r s fls ns aL cL b4 i (j + 1) aN aB' cN cB' fl H'') → K (.slice aB' (j + 1) cB') H') :
    HSem Try.prog (Builtin.append_ #[41, 41] 41 [.slice aB j cB, .slice (some ⟨b, 0, none⟩) 1 c].toArray) H K := by
  obtain ⟨vs, kB, al⟩ := q.B
  refine append_rows (ie := Try.t22) (z := .slice none 0 0) (xs := vs) (ys := [.slice a5 (bytesAt s t).length c5]) Try.underlying41 rfl rfl rfl (by decide) kB.own hy rfl (by intro v hv; rw [List.mem_singleton.1 hv]; rfl) (by show (j + 1) * 24 ≤ _; omega) (by omega) fun a' c' H' o u f => ?_
  have h1n : ∀ b ∈ blk aB, H1 b = none := fun b hb => q.nb b (kB.new b hb)
  have live : ∀ b ∈ blk a', b ∈ blk aB ∨ H b = none := fun b hb => by
    obtain ⟨p, hp, rfl⟩ := blk_of hb
    rcases f p hp with h | h
    · exact .inl (by rw [h]; simp [blk])
    · exact .inr h
  have D' := q.D.upd u (fun b hb => kB.off b hb) h1n
  have o4 := q.o4.upd u (kB.own.offT q.o4 (by decide))
  have nw : ∀ b ∈ blk a', b ∉ dblk g r fl ∧ Zn Hs g r fls b := fun b hb => by
    rcases live b hb with h | h
    · exact ⟨kB.off b h, kB.new b h⟩
    · exact ⟨fun hm => q.D.phys.live b hm h, Zn.of q.S h⟩
  have oL := q.L.upd u (kB.own.offT q.L.own (by decide))
  have oN := q.N.upd u (kB.own.offT q.N.own (by decide))
  have al' : All2 (BytesV s (Zn Hs g r fls) H' (dblk g r fl)) (vs ++ [.slice a5 (bytesAt s t).length c5]) (ns.take (j + 1)) := by
    rw [List.take_add_one, ht]
    exact All2.append (al.mono fun v t h => h.upd u fun b hb => kB.own.notT (by decide) b hb) ⟨⟨a5, c5, rfl, h5.upd u (kB.own.offT h5.own (by decide))⟩, trivial⟩
  refine hk a' c' H' u o4 fun H'' o5 u5 => ?_
  have d4 := D'.offT o4 (by decide) (by decide) (by decide)
  have z4 : ∀ b ∈ [b4], Zn Hs g r fls b := fun b hb => by rw [List.mem_singleton.1 hb]; exact q.n4
  refine ⟨D'.upd u5 (fun b hb => d4 b hb) (fun b hb => q.nb b (z4 b hb)), (q.S.fwdN u kB.new).fwdN u5 z4, oL.upd u5 (OwnRow.offT (b := aL) o4 oL.own (by decide)), o5, q.n4, oN.upd u5 (OwnRow.offT (b := aN) o4 oN.own (by decide)),
    ⟨_, ⟨o.upd u5 (OwnRow.offT (b := a') o4 o (by decide)), fun b hb => (nw b hb).1, fun b hb => (nw b hb).2⟩, al'.mono fun v t h => h.upd u5 fun b hb => o4.notT (by decide) b hb⟩, q.LN, q.nb⟩
end
end Go.Proofs.Ytocejipjnklieaa
