import Derived.Test.YtocejipjnklieaaE13
import Derived.Test.YtocejipjnklieaaE9
import Derived.Test.YtocejipjnklieaaP5
namespace Go.Proofs.Ytocejipjnklieaa
open Go Hv
set_option linter.unusedVariables false
set_option linter.unusedSimpArgs false
set_option maxRecDepth 10000
set_option maxHeartbeats 4000000
/-! DiskMemory. CUT2 -/
/-- A disk, and slices of bytes that were told, beside it. -/
structure Mm (H1 H : Heap) (g r : Nat) (s : St) (fl : List Fl) (vs : List Value) (ls : List (List UInt8)) : Prop where
  D : DiskAt H1 H g r s fl
  G : GrpM 5 H1 H vs ls
  ap : ∀ v ∈ vs, ∀ b ∈ vblk v, b ∉ dblk g r fl
section
variable {H1 H H' : Heap} {g r : Nat} {s s' : St} {fl fl' : List Fl} {vs : List Value} {ls : List (List UInt8)}
theorem Mm.disk (M : Mm H1 H g r s fl vs ls) (D' : DiskAt H1 H' g r s' fl') (S : Stp H H' g r fl fl') : Mm H1 H' g r s' fl' vs ls := by
  refine ⟨D', grpM_upd M.G S.upd M.ap (fun b hb => M.D.phys.old b hb), fun v hv b hb hm => ?_⟩
  rcases S.sub b hm with h | h
  · exact M.ap v hv b hb h
  · obtain ⟨k, hk⟩ := List.getElem?_of_mem hv
    obtain ⟨c, f, e⟩ := M.G.grp.live hk hb
    rw [h] at e; cases e
theorem Mm.upd0 (M : Mm H1 H g r s fl vs ls) (u : Upd [] H H') : Mm H1 H' g r s fl vs ls := ⟨M.D.upd0 u, M.G.step0 u, M.ap⟩
theorem Mm.add {a : Option Addr} {n c : Nat} {l : List UInt8} (M : Mm H1 H g r s fl vs ls) (m : Made H H' 5 1 a n c (u8s l)) (hn : l.length = n) : Mm H1 H' g r s fl (vs ++ [.slice a n c]) (ls ++ [l]) := by
  refine ⟨M.D.upd0 m.upd, M.G.add m hn, fun v hv b hb hm => ?_⟩
  rcases List.mem_append.1 hv with hv | hv
  · exact M.ap v hv b hb hm
  · rw [List.mem_singleton.1 hv, vblk_slice] at hb
    obtain ⟨p, hp, rfl⟩ := blk_of hb
    exact M.D.phys.live _ hm (m.new p hp)
/-- Rows that are off the disk by their type. -/
theorem Mm.offD {e size n c : Nat} {a : Option Addr} {xs : List Value} (M : Mm H1 H g r s fl vs ls) (o : OwnRow H e size a n c xs) (h1 : e ≠ 68) (h2 : e ≠ 74) (h3 : e ≠ 5) : Off (dblk g r fl) a := off_notin (M.D.offT o h1 h2 h3)
end
theorem m2_rA2 (x y : List UInt8) : ((m2 x y).readF nmA).2 = x := by rw [m2_readA]
theorem m2_rA1 (x y : List UInt8) : ((m2 x y).readF nmA).1 = 0 := by rw [m2_readA]
theorem m2_rB2 (x y : List UInt8) : ((m2 x y).readF nmB).2 = y := by rw [m2_readB]
theorem m2_rB1 (x y : List UInt8) : ((m2 x y).readF nmB).1 = 0 := by rw [m2_readB]
structure NoInv (H1 : Heap) (n m : Nat) (vs : List Value) (H' : Heap) : Prop where
  ex : ∃ i : Nat, vs = [.int .i64 (i : Int)] ∧ m + i = n ∧ H' = H1
structure N3S (aL aM aN : Option Addr) (cL cM cN : Nat) (tl tm tn : List Txt) (H' : Heap) : Prop where
  L : OwnRow H' 9 1 aL 2 cL (txts tl)
  M : OwnRow H' 9 1 aM 2 cM (txts tm)
  N : OwnRow H' 9 1 aN 2 cN (txts tn)
  LM : ∀ b ∈ blk aL, b ∉ blk aM
  LN : ∀ b ∈ blk aL, b ∉ blk aN
  MN : ∀ b ∈ blk aM, b ∉ blk aN
theorem N3S.upd {aL aM aN : Option Addr} {cL cM cN : Nat} {tl tm tn : List Txt} {H H' : Heap} {T : List Nat} (s : N3S aL aM aN cL cM cN tl tm tn H) (u : Upd T H H') (h1 : Off T aL) (h2 : Off T aM) (h3 : Off T aN) : N3S aL aM aN cL cM cN tl tm tn H' :=
  ⟨s.L.upd u h1, s.M.upd u h2, s.N.upd u h3, s.LM, s.LN, s.MN⟩
theorem blk_apart {H0 : Heap} {e size n c : Nat} {a b : Option Addr} {xs : List Value} (o : OwnRow H0 e size a n c xs) (h : ∀ p, b = some p → H0 p.block = none) : ∀ x ∈ blk a, x ∉ blk b := fun x hx hm => by
  obtain ⟨p, hp, rfl⟩ := blk_of hm
  obtain ⟨q, hq, e⟩ := blk_of hx
  have := o.there hq
  rw [e] at this
  exact this (h p hp)
def tls (c : Txt) : Nat → List Txt
  | 0 => [[97], [98]]
  | 1 => [c, [98]]
  | _ => [c, c]
theorem tls_set (c : Txt) {i : Nat} (h : i < 2) : (tls c i).set i c = tls c (i + 1) := by
  match i, h with
  | 0, _ => rfl
  | 1, _ => rfl
theorem txts_set (l : List Txt) (k : Nat) (s : Txt) : txts (l.set k s) = (txts l).set k (.string (bs s)) := by
  unfold txts; rw [List.map_set]
theorem txts_append (a b : List Txt) : txts (a ++ b) = txts a ++ txts b := by unfold txts; rw [List.map_append]
theorem plain_txts (l : List Txt) : ∀ v ∈ txts l, Value.plain v = true := fun v hv => by
  unfold txts at hv
  obtain ⟨s, _, rfl⟩ := List.mem_map.1 hv
  rfl
structure LzS (H1 : Heap) (g r : Nat) (s : St) (fl : List Fl) (gL gM gN cL cM cN : Nat) (tl tm tn : List Txt) (H : Heap) : Prop where
  D : DiskAt H1 H g r s fl
  S : N3S (some ⟨gL, 0, none⟩) (some ⟨gM, 0, none⟩) (some ⟨gN, 0, none⟩) cL cM cN tl tm tn H
  nL : H1 gL = none
  nM : H1 gM = none
  nN : H1 gN = none
theorem LzS.upd0 {H1 H H' : Heap} {g r : Nat} {s : St} {fl : List Fl} {gL gM gN cL cM cN : Nat} {tl tm tn : List Txt} (z : LzS H1 g r s fl gL gM gN cL cM cN tl tm tn H) (u : Upd [] H H') : LzS H1 g r s fl gL gM gN cL cM cN tl tm tn H' :=
  ⟨z.D.upd0 u, z.S.upd u (Off.nil _) (Off.nil _) (Off.nil _), z.nL, z.nM, z.nN⟩
section
variable {H1 H : Heap} {g r : Nat} {s : St} {fl : List Fl} {gL gM gN cL cM cN : Nat} {tl tm tn : List Txt} {i j : Nat} {t : Txt} {K : Heap → Prop}
theorem D1 {b n c : Nat} {xs : List Value} {H' : Heap} (D : DiskAt H1 H g r s fl) (o : OwnRow H 9 1 (some ⟨b, 0, none⟩) n c xs) (hn : H1 b = none) (u : Upd [b] H H') : DiskAt H1 H' g r s fl :=
  D.upd u (fun x hx => D.offT o (by decide) (by decide) (by decide) x hx) (fun x hx => by rw [List.mem_singleton.1 hx]; exact hn)
theorem LzS.stL (z : LzS H1 g r s fl gL gM gN cL cM cN tl tm tn H) (hi : i < 2) (hj : j = i) (hK : ∀ H', LzS H1 g r s fl gL gM gN cL cM cN (tl.set i t) tm tn H' → K H') : HStore H ⟨gL, j, none⟩ (.string (bs t)) K :=
  store_row z.S.L (v := .string (bs t)) rfl hi hj fun H' o u => hK H' ⟨D1 z.D z.S.L z.nL u, ⟨by rw [txts_set]; exact o, z.S.M.upd u (off_notin fun b hb hm => z.S.LM b hm hb), z.S.N.upd u (off_notin fun b hb hm => z.S.LN b hm hb), z.S.LM, z.S.LN, z.S.MN⟩, z.nL, z.nM, z.nN⟩
theorem LzS.stM (z : LzS H1 g r s fl gL gM gN cL cM cN tl tm tn H) (hi : i < 2) (hj : j = i) (hK : ∀ H', LzS H1 g r s fl gL gM gN cL cM cN tl (tm.set i t) tn H' → K H') : HStore H ⟨gM, j, none⟩ (.string (bs t)) K :=
  store_row z.S.M (v := .string (bs t)) rfl hi hj fun H' o u => hK H' ⟨D1 z.D z.S.M z.nM u, ⟨z.S.L.upd u (off_notin z.S.LM), by rw [txts_set]; exact o, z.S.N.upd u (off_notin fun b hb hm => z.S.MN b hm hb), z.S.LM, z.S.LN, z.S.MN⟩, z.nL, z.nM, z.nN⟩
theorem LzS.stN (z : LzS H1 g r s fl gL gM gN cL cM cN tl tm tn H) (hi : i < 2) (hj : j = i) (hK : ∀ H', LzS H1 g r s fl gL gM gN cL cM cN tl tm (tn.set i t) H' → K H') : HStore H ⟨gN, j, none⟩ (.string (bs t)) K :=
  store_row z.S.N (v := .string (bs t)) rfl hi hj fun H' o u => hK H' ⟨D1 z.D z.S.N z.nN u, ⟨z.S.L.upd u (off_notin z.S.LN), z.S.M.upd u (off_notin z.S.MN), by rw [txts_set]; exact o, z.S.LM, z.S.LN, z.S.MN⟩, z.nL, z.nM, z.nN⟩
end
/-- Three names are appended; the two stay as they were. -/
theorem app9 {H : Heap} {K : Value → Heap → Prop} {b c d : Nat} {a : Nat} {tl ys : List Txt} (o : OwnRow H 9 1 (some ⟨a, 0, none⟩) 2 c (txts tl)) (hy : RowAt H (some ⟨b, 0, none⟩) (txts ys)) (h3 : ys.length = 3)
    (hk : ∀ a' c' H', OwnRow H' 9 1 (some ⟨a, 0, none⟩) 2 c (txts tl) → RowAt H' a' (txts (tl ++ ys)) → Upd [a] H H' → (∀ x ∈ blk a', x = a ∨ H x = none) → K (.slice a' 5 c') H') :
    HSem Try.prog (Builtin.append_ #[36, 36] 36 [.slice (some ⟨a, 0, none⟩) 2 c, .slice (some ⟨b, 0, none⟩) 3 d].toArray) H K := by
  refine append_rows' (ie := Try.t9) (z := .string ⟨#[]⟩) (xs := txts tl) (ys := txts ys) Try.underlying36 rfl rfl rfl (by decide) o hy (by unfold txts; rw [List.length_map, h3]; rfl) (plain_txts _) (by decide) (by decide) fun a' c' H' o' u f ⟨h1, h2⟩ => ?_
  have hr := o'.rows
  rw [← txts_append] at hr
  have sub : ∀ x ∈ blk a', x = a ∨ H x = none := fun x hx => by
    obtain ⟨p, hp, rfl⟩ := blk_of hx
    rcases f p hp with h | h
    · cases h; exact .inl rfl
    · exact .inr h
  by_cases hc : 2 + 3 ≤ c
  · obtain ⟨rfl, rfl⟩ := h1 hc
    exact hk _ c' H' (OwnRow.pre (n := 2) (m := 3) o' o.len) hr u sub
  · obtain ⟨v0, nw⟩ := h2 hc
    exact hk a' c' H' (o.upd v0 (Off.nil _)) hr u sub
structure LyInv (H1 : Heap) (g r : Nat) (s : St) (fl : List Fl) (gL gM gN cL cM cN : Nat) (m : Nat) (vs : List Value) (H' : Heap) : Prop where
  ex : ∃ i : Nat, vs = [.int .i64 (i : Int)] ∧ m + i = 2 ∧ LzS H1 g r s fl gL gM gN cL cM cN (tls [108] i) (tls [109] i) (tls [110] i) H'
structure LdK (H1 : Heap) (vs : List Value) (H' : Heap) : Prop where
  ex : vs = [] ∧ H' = H1
structure LyJ (H1 : Heap) (g r : Nat) (s : St) (fl : List Fl) (gL gM gN cL cM cN : Nat) (vs : List Value) (H' : Heap) : Prop where
  ex : vs = [] ∧ LzS H1 g r s fl gL gM gN cL cM cN [[108], [108]] [[109], [109]] [[110], [110]] H'
section
variable {H : Heap} {K : Value → Heap → Prop}
theorem marks_n {H1 : Heap} {aL : Option Addr} {cL n : Nat} {vs0 : List Value} {ls0 : List (List UInt8)} (hl : vs0.length = n) (G : GrpM 5 H1 H vs0 ls0) (oL : OwnRow H 22 1 aL vs0.length cL vs0) (hn : vs0.length ≤ 100) (hb : ∀ l ∈ ls0, l.length ≤ 140737488351232)
    (hk : ∀ H', Upd [] H1 H' → K (.bool true) H') : HCalls Try.prog 23 [.slice aL n cL] H K := by
  subst hl
  exact marks_t G oL hn hb hk
theorem memory_t {a0 a1 : Option Addr} {n0 n1 c0 c1 : Nat} {x y : List UInt8} (hx : RowAt H a0 (u8s x)) (lx : x.length = n0) (hy : RowAt H a1 (u8s y)) (ly : y.length = n1) (bx : n0 ≤ 140737488351232) (by_ : n1 ≤ 140737488351232)
    (hk : ∀ H', Upd [] H H' → K (.bool true) H') : HCalls Try.prog 4 [.slice a0 n0 c0, .slice a1 n1 c1] H K := by
  refine hcalls (fn := Try.f4) [] mixed Try.func4 rfl rfl (by decide +kernel) ?_
  subst lx ly
  (repeat first | refine HReg.step ?_ | refine HCode.step ?_)
  refine HCall.mk ⟨Try.f9, Try.func9, by rfl, by rfl⟩ ?_
  refine alive_t fun H1 u1 => ?_
  have rx := hx.upd (S := []) u1 (.inr (Off.nil _))
  have ry := hy.upd (S := []) u1 (.inr (Off.nil _))
  (repeat first | refine HReg.step ?_ | refine HCode.step ?_)
  refine HCall.mk ⟨Try.f10, Try.func10, by rfl, by rfl⟩ ?_
  refine new_t fun g r H2 D2 u2 => ?_
  (repeat first | refine HReg.step ?_ | refine HCode.step ?_)
  refine HCall.mk ⟨Try.f12, Try.func12, by rfl, by rfl⟩ ?_
  refine own_t (rx.upd (S := []) D2.base (.inr (Off.nil _))) rfl (by omega) fun a3 c3 H3 m3 => ?_
  (repeat first | refine HReg.step ?_ | refine HCode.step ?_)
  refine HCall.mk ⟨Try.f11, Try.func11, by rfl, by rfl⟩ ?_
  refine append_t (n := nmA) (D2.upd0 m3.upd) m3.own.rows rfl (off_made D2 m3) (fun x' y' h => by cases h) (by omega) fun f4 H4 D4 S4 => ?_
  rw [m1_eq] at D4 ⊢
  (repeat first | refine HReg.step ?_ | refine HCode.step ?_)
  rw [eqB_self 0]
  (repeat first | refine HReg.step ?_ | refine HCode.step ?_)
  refine HCall.mk ⟨Try.f12, Try.func12, by rfl, by rfl⟩ ?_
  refine own_t (ry.upd (S := []) D4.base (.inr (Off.nil _))) rfl (by omega) fun a5 c5 H5 m5 => ?_
  (repeat first | refine HReg.step ?_ | refine HCode.step ?_)
  refine HCall.mk ⟨Try.f11, Try.func11, by rfl, by rfl⟩ ?_
  refine append_t (n := nmB) (D4.upd0 m5.upd) m5.own.rows rfl (off_made D4 m5) (fun x' y' h => by
    have h : (m1 x).fs nmB = some (x', y') := h
    simp [m1, neBA] at h) (by omega) fun f6 H6 D6 S6 => ?_
  have e2 : ((0, m1 x).2.append nmB y) = (0, m2 x y) := m2_eq x y
  rw [e2] at D6 ⊢
  have M6 : Mm H1 H6 g r (m2 x y) f6 [] [] := ⟨D6, ⟨Grp.nil 5 H6, fun v hv => by simp at hv, D6.base⟩, fun v hv => by simp at hv⟩
  clear m3 m5 D2 D4 S4 S6 D6 u2
  (repeat first | refine HReg.step ?_ | refine HCode.step ?_)
  rw [eqB_self 0]
  (repeat first | refine HReg.step ?_ | refine HCode.step ?_)
  refine HCall.mk ⟨Try.f18, Try.func18, by rfl, by rfl⟩ ?_
  refine read_f (n := nmA) M6.D fun a7 c7 f7 Q7 H7 D7 S7 m7 => ?_
  rw [m2_call] at D7
  rw [m2_rA2] at m7 ⊢
  rw [m2_rA1]
  have M7 := (M6.disk D7 S7).add m7 rfl
  (repeat first | refine HReg.step ?_ | refine HCode.step ?_)
  refine HCall.mk ⟨Try.f18, Try.func18, by rfl, by rfl⟩ ?_
  refine read_f (n := nmA) M7.D fun a8 c8 f8 Q8 H8 D8 S8 m8 => ?_
  rw [m2_call] at D8
  rw [m2_rA2] at m8 ⊢
  rw [m2_rA1]
  have M8 := (M7.disk D8 S8).add m8 rfl
  (repeat first | refine HReg.step ?_ | refine HCode.step ?_)
  refine HCall.mk ⟨Try.f18, Try.func18, by rfl, by rfl⟩ ?_
  refine read_f (n := nmB) M8.D fun a9 c9 f9 Q9 H9 D9 S9 m9 => ?_
  rw [m2_call] at D9
  rw [m2_rB2] at m9 ⊢
  rw [m2_rB1]
  have M9 := (M8.disk D9 S9).add m9 rfl
  (repeat first | refine HReg.step ?_ | refine HCode.step ?_)
  refine HCall.mk ⟨Try.f21, Try.func21, by rfl, by rfl⟩ ?_
  refine list_f M9.D (m2_ok (N := 140737488355328) (by omega) (by omega)) (fun h => by cases h) fun _ aL cL nsL f10 Q10 H10 D10 S10 nmL _ m10 => ?_
  rw [m2_call] at nmL D10
  have eL := m2_names nmL
  subst eL
  rw [show ([[97], [98]] : List Txt).length = 2 from rfl]
  have M10 := (M9.disk D10 S10).upd0 m10.upd
  have oL : OwnRow H10 9 1 aL 2 cL (txts [[97], [98]]) := m10.own
  have nwL : ∀ p, aL = some p → H1 p.block = none := fun p hp => Upd.none (S := []) D10.base (by simp) (m10.new p hp)
  (repeat first | refine HReg.step ?_ | refine HCode.step ?_)
  refine HCall.mk ⟨Try.f21, Try.func21, by rfl, by rfl⟩ ?_
  refine list_f M10.D (m2_ok (N := 140737488355328) (by omega) (by omega)) (fun h => by cases h) fun _ aM cM nsM f11 Q11 H11 D11 S11 nmM _ m11 => ?_
  rw [m2_call] at nmM D11
  have eM := m2_names nmM
  subst eM
  rw [show ([[97], [98]] : List Txt).length = 2 from rfl]
  have M11 := (M10.disk D11 S11).upd0 m11.upd
  have oLq := oL.upd S11.upd (M10.offD oL (by decide) (by decide) (by decide))
  have apLM := blk_apart oLq m11.new
  have oL := oLq.upd m11.upd (Off.nil _)
  have oM : OwnRow H11 9 1 aM 2 cM (txts [[97], [98]]) := m11.own
  have nwM : ∀ p, aM = some p → H1 p.block = none := fun p hp => Upd.none (S := []) D11.base (by simp) (m11.new p hp)
  (repeat first | refine HReg.step ?_ | refine HCode.step ?_)
  refine HCall.mk ⟨Try.f21, Try.func21, by rfl, by rfl⟩ ?_
  refine list_f M11.D (m2_ok (N := 140737488355328) (by omega) (by omega)) (fun h => by cases h) fun _ aN cN nsN f12 Q12 H12 D12 S12 nmN _ m12 => ?_
  rw [m2_call] at nmN D12
  have eN := m2_names nmN
  subst eN
  rw [show ([[97], [98]] : List Txt).length = 2 from rfl]
  have M12 := (M11.disk D12 S12).upd0 m12.upd
  have oLq := oL.upd S12.upd (M11.offD oL (by decide) (by decide) (by decide))
  have apLN := blk_apart oLq m12.new
  have oL := oLq.upd m12.upd (Off.nil _)
  have oMq := oM.upd S12.upd (M11.offD oM (by decide) (by decide) (by decide))
  have apMN := blk_apart oMq m12.new
  have oM := oMq.upd m12.upd (Off.nil _)
  have oN : OwnRow H12 9 1 aN 2 cN (txts [[97], [98]]) := m12.own
  have nwN : ∀ p, aN = some p → H1 p.block = none := fun p hp => Upd.none (S := []) D12.base (by simp) (m12.new p hp)
  (repeat first | refine HReg.step ?_ | refine HCode.step ?_)
  refine HCall.mk ⟨Try.f18, Try.func18, by rfl, by rfl⟩ ?_
  refine read_f (n := nmB) M12.D fun a13 c13 f13 Q13 H13 D13 S13 m13 => ?_
  rw [m2_call] at D13
  rw [m2_rB2] at m13 ⊢
  rw [m2_rB1]
  have M13 := (M12.disk D13 S13).add m13 rfl
  have oL := (oL.upd S13.upd (M12.offD oL (by decide) (by decide) (by decide))).upd m13.upd (Off.nil _)
  have oM := (oM.upd S13.upd (M12.offD oM (by decide) (by decide) (by decide))).upd m13.upd (Off.nil _)
  have oN := (oN.upd S13.upd (M12.offD oN (by decide) (by decide) (by decide))).upd m13.upd (Off.nil _)
  (repeat first | refine HReg.step ?_ | refine HCode.step ?_)
  refine HCall.mk ⟨Try.f18, Try.func18, by rfl, by rfl⟩ ?_
  refine read_f (n := nmA) M13.D fun a14 c14 f14 Q14 H14 D14 S14 m14 => ?_
  rw [m2_call] at D14
  rw [m2_rA2] at m14 ⊢
  rw [m2_rA1]
  have M14 := (M13.disk D14 S14).add m14 rfl
  have oL := (oL.upd S14.upd (M13.offD oL (by decide) (by decide) (by decide))).upd m14.upd (Off.nil _)
  have oM := (oM.upd S14.upd (M13.offD oM (by decide) (by decide) (by decide))).upd m14.upd (Off.nil _)
  have oN := (oN.upd S14.upd (M13.offD oN (by decide) (by decide) (by decide))).upd m14.upd (Off.nil _)
  have S3 : N3S aL aM aN cL cM cN [[97], [98]] [[97], [98]] [[97], [98]] H14 := ⟨oL, oM, oN, apLM, apLN, apMN⟩
  have M14 : Mm H1 H14 g r (m2 x y) f14 [.slice a7 x.length c7, .slice a8 x.length c8, .slice a9 y.length c9, .slice a13 y.length c13, .slice a14 x.length c14] [x, x, y, y, x] := M14
  have qx := rx.upd (S := []) M14.D.base (.inr (Off.nil _))
  have qy := ry.upd (S := []) M14.D.base (.inr (Off.nil _))
  have k0 := (M14.G.grp.own (i := 0) rfl rfl).2.rows
  have k1 := (M14.G.grp.own (i := 1) rfl rfl).2.rows
  have k2 := (M14.G.grp.own (i := 2) rfl rfl).2.rows
  have k3 := (M14.G.grp.own (i := 3) rfl rfl).2.rows
  have k4 := (M14.G.grp.own (i := 4) rfl rfl).2.rows
  clear M6 M7 M8 M9 M10 M11 M12 M13 m7 m8 m9 m10 m11 m12 m13 m14 S7 S8 S9 S10 S11 S12 S13 S14 D7 D8 D9 D10 D11 D12 D13 D14 oL oM oN oLq oMq nmL nmM nmN
  have sA : seqB (bs [97]) ⟨#[97]⟩ = true := by show seqB (bs [97]) (bs [97]) = true; rw [seqB_bs]; exact decide_eq_true rfl
  have sB : seqB (bs [98]) ⟨#[98]⟩ = true := by show seqB (bs [98]) (bs [98]) = true; rw [seqB_bs]; exact decide_eq_true rfl
  (repeat first | refine HReg.step ?_ | refine HCode.step ?_)
  refine HCall.mk ⟨Try.f19, Try.func19, by rfl, by rfl⟩ ?_
  refine same_eq k0 rfl qx rfl rfl ?_
  (repeat first | refine HReg.step ?_ | refine HCode.step ?_)
  refine HCall.mk ⟨Try.f19, Try.func19, by rfl, by rfl⟩ ?_
  refine same_eq k1 rfl qx rfl rfl ?_
  (repeat first | refine HReg.step ?_ | refine HCode.step ?_)
  refine HCall.mk ⟨Try.f19, Try.func19, by rfl, by rfl⟩ ?_
  refine same_eq k2 rfl qy rfl rfl ?_
  (repeat first | refine HReg.step ?_ | refine HCode.step ?_)
  refine HCall.mk ⟨Try.f19, Try.func19, by rfl, by rfl⟩ ?_
  refine same_eq k3 rfl qy rfl rfl ?_
  (repeat first | refine HReg.step ?_ | refine HCode.step ?_)
  refine HCall.mk ⟨Try.f19, Try.func19, by rfl, by rfl⟩ ?_
  refine same_eq k4 rfl qx rfl rfl ?_
  (repeat first | refine HReg.step ?_ | refine HCode.step ?_)
  rw [show eqB ((2 : Nat) : Int) 2 = true from eqB_self 2]
  (repeat first | refine HReg.step ?_ | refine HCode.step ?_)
  refine HCall.mk ⟨Try.f22, Try.func22, by rfl, by rfl⟩ ?_
  refine sameS_t S3.L.rows S3.M.rows rfl rfl (by decide) ?_
  (repeat first | refine HReg.step ?_ | refine HCode.step ?_)
  refine HCall.mk ⟨Try.f22, Try.func22, by rfl, by rfl⟩ ?_
  refine sameS_t S3.L.rows S3.N.rows rfl rfl (by decide) ?_
  obtain ⟨gL, rfl⟩ := S3.L.addr (by decide)
  obtain ⟨gM, rfl⟩ := S3.M.addr (by decide)
  obtain ⟨gN, rfl⟩ := S3.N.addr (by decide)
  (repeat first | refine HReg.step ?_ | refine HCode.step ?_)
  refine HReq.mk ⟨by decide, by decide⟩ ?_
  (repeat first | refine HReg.step ?_ | refine HCode.step ?_)
  refine HLoad.one (v := .string (bs [97])) (by exact S3.L.rows.get (i := 0) rfl) ?_
  (repeat first | refine HReg.step ?_ | refine HCode.step ?_)
  rw [sA]
  (repeat first | refine HReg.step ?_ | refine HCode.step ?_)
  refine HReq.mk ⟨by decide, by decide⟩ ?_
  (repeat first | refine HReg.step ?_ | refine HCode.step ?_)
  refine HLoad.one (v := .string (bs [98])) (by exact S3.L.rows.get (i := 1) rfl) ?_
  (repeat first | refine HReg.step ?_ | refine HCode.step ?_)
  rw [sB]
  (repeat first | refine HReg.step ?_ | refine HCode.step ?_)
  refine HReq.mk (by decide) ?_
  generalize hV0 : [Value.slice a7 x.length c7, .slice a8 x.length c8, .slice a9 y.length c9, .slice a13 y.length c13, .slice a14 x.length c14] = vs0 at M14
  have hV5 : vs0.length = 5 := by rw [← hV0]; rfl
  (repeat first | refine HReg.step ?_ | refine HCode.step ?_)
  refine HNew.as (o' := .cells vs0.toArray 22) (by rw [← hV0]) fun b15 hb15 => ?_
  have u15 : Upd [] H14 (H14.upd b15 (.cells vs0.toArray 22)) := Upd.new hb15 _
  have oV : OwnRow (H14.upd b15 (.cells vs0.toArray 22)) 22 1 (some ⟨b15, 0, none⟩) vs0.length 5 vs0 := by rw [hV5]; exact OwnRow.lit (upd_same _ _ _) (by rw [hV5])
  generalize H14.upd b15 (.cells vs0.toArray 22) = H15 at u15 oV ⊢
  have M15 := M14.upd0 u15
  have S3 := S3.upd u15 (Off.nil _) (Off.nil _) (Off.nil _)
  have G15 : GrpM 5 (lessH H15 (vs0.flatMap vblk)) H15 vs0 [x, x, y, y, x] := M15.G.base' (fun v hv b hb => lessH_none (List.mem_flatMap.2 ⟨v, hv, hb⟩)) (less_upd _ _)
  have hT5 : ∀ b ∈ vs0.flatMap vblk, ∃ c f, H15 b = some (.cells c 5 f) := fun b hb => by
    obtain ⟨v, hv, hb⟩ := List.mem_flatMap.1 hb
    obtain ⟨k, hk⟩ := List.getElem?_of_mem hv
    exact M15.G.grp.live hk hb
  have off9 : ∀ {a : Option Addr} {n c : Nat} {xs : List Value}, OwnRow H15 9 1 a n c xs → Off (vs0.flatMap vblk) a := fun o => off_notin fun b hb hm => by
    obtain ⟨c, f, e⟩ := hT5 b hm
    exact o.notT (by decide) b hb _ _ e
  have D15 := M15.D.upd (upd_less H15 (vs0.flatMap vblk)) (fun b hb => by
    obtain ⟨v, hv, hb⟩ := List.mem_flatMap.1 hb
    exact M15.ap v hv b hb) (fun b hb => by
    obtain ⟨v, hv, hb⟩ := List.mem_flatMap.1 hb
    exact M15.G.new v hv b hb)
  have S3 := S3.upd (upd_less H15 (vs0.flatMap vblk)) (off9 S3.L) (off9 S3.M) (off9 S3.N)
  (repeat first | refine HReg.step ?_ | refine HCode.step ?_)
  refine HCall.mk ⟨Try.f23, Try.func23, by rfl, by rfl⟩ ?_
  refine marks_n hV5 G15 oV (by omega) (fun l hl => by
    simp only [List.mem_cons, List.not_mem_nil, or_false] at hl
    rcases hl with rfl | rfl | rfl | rfl | rfl <;> omega) fun H16 u16 => ?_
  have D16 := D15.upd0 u16
  have S3 := S3.upd u16 (Off.nil _) (Off.nil _) (Off.nil _)
  clear M14 M15 G15 oV hT5 off9 D15 u15 u16 k0 k1 k2 k3 k4 qx qy hV0 hV5 sA sB
  have Z : LzS H1 g r (m2 x y) f14 gL gM gN cL cM cN [[97], [98]] [[97], [98]] [[97], [98]] H16 := ⟨D16, S3, nwL _ rfl, nwM _ rfl, nwN _ rfl⟩
  clear D16 S3
  ((repeat refine HReg.step ?_); first | (show HCode _ _ _ (Code.seq (Code.seq (Code.region _ _ _) (Code.block _ _)) _) _ _ _; refine hcutC (a := Code.seq (Code.region _ _ _) (Code.block _ _)) [22, 157, 158, 159, 160, 161, 162, 163, 164, 165, 166, 167, 168, 169] [] (LyJ H1 g r (m2 x y) f14 gL gM gN cL cM cN) rfl (by repeat' first | exact Resp.retD | exact Resp1.valuesK | refine Resp.blockD ?_ | refine Resp.thenD ?_ ?_ | refine Resp.hcode ?_) ?_ ?_) | (refine HCode.step ?_; (repeat refine HReg.step ?_); first | (show HCode _ _ _ (Code.seq (Code.seq (Code.region _ _ _) (Code.block _ _)) _) _ _ _; refine hcutC (a := Code.seq (Code.region _ _ _) (Code.block _ _)) [22, 157, 158, 159, 160, 161, 162, 163, 164, 165, 166, 167, 168, 169] [] (LyJ H1 g r (m2 x y) f14 gL gM gN cL cM cN) rfl (by repeat' first | exact Resp.retD | exact Resp1.valuesK | refine Resp.blockD ?_ | refine Resp.thenD ?_ ?_ | refine Resp.hcode ?_) ?_ ?_) | (refine HCode.step ?_; (repeat refine HReg.step ?_); first | (show HCode _ _ _ (Code.seq (Code.seq (Code.region _ _ _) (Code.block _ _)) _) _ _ _; refine hcutC (a := Code.seq (Code.region _ _ _) (Code.block _ _)) [22, 157, 158, 159, 160, 161, 162, 163, 164, 165, 166, 167, 168, 169] [] (LyJ H1 g r (m2 x y) f14 gL gM gN cL cM cN) rfl (by repeat' first | exact Resp.retD | exact Resp1.valuesK | refine Resp.blockD ?_ | refine Resp.thenD ?_ ?_ | refine Resp.hcode ?_) ?_ ?_) | (refine HCode.step ?_; (repeat refine HReg.step ?_); first | (show HCode _ _ _ (Code.seq (Code.seq (Code.region _ _ _) (Code.block _ _)) _) _ _ _; refine hcutC (a := Code.seq (Code.region _ _ _) (Code.block _ _)) [22, 157, 158, 159, 160, 161, 162, 163, 164, 165, 166, 167, 168, 169] [] (LyJ H1 g r (m2 x y) f14 gL gM gN cL cM cN) rfl (by repeat' first | exact Resp.retD | exact Resp1.valuesK | refine Resp.blockD ?_ | refine Resp.thenD ?_ ?_ | refine Resp.hcode ?_) ?_ ?_) | (refine HCode.step ?_; (repeat refine HReg.step ?_); first | (show HCode _ _ _ (Code.seq (Code.seq (Code.region _ _ _) (Code.block _ _)) _) _ _ _; refine hcutC (a := Code.seq (Code.region _ _ _) (Code.block _ _)) [22, 157, 158, 159, 160, 161, 162, 163, 164, 165, 166, 167, 168, 169] [] (LyJ H1 g r (m2 x y) f14 gL gM gN cL cM cN) rfl (by repeat' first | exact Resp.retD | exact Resp1.valuesK | refine Resp.blockD ?_ | refine Resp.thenD ?_ ?_ | refine Resp.hcode ?_) ?_ ?_) | (refine HCode.step ?_; (repeat refine HReg.step ?_); first | (show HCode _ _ _ (Code.seq (Code.seq (Code.region _ _ _) (Code.block _ _)) _) _ _ _; refine hcutC (a := Code.seq (Code.region _ _ _) (Code.block _ _)) [22, 157, 158, 159, 160, 161, 162, 163, 164, 165, 166, 167, 168, 169] [] (LyJ H1 g r (m2 x y) f14 gL gM gN cL cM cN) rfl (by repeat' first | exact Resp.retD | exact Resp1.valuesK | refine Resp.blockD ?_ | refine Resp.thenD ?_ ?_ | refine Resp.hcode ?_) ?_ ?_) | (refine HCode.step ?_; (repeat refine HReg.step ?_); first | (show HCode _ _ _ (Code.seq (Code.seq (Code.region _ _ _) (Code.block _ _)) _) _ _ _; refine hcutC (a := Code.seq (Code.region _ _ _) (Code.block _ _)) [22, 157, 158, 159, 160, 161, 162, 163, 164, 165, 166, 167, 168, 169] [] (LyJ H1 g r (m2 x y) f14 gL gM gN cL cM cN) rfl (by repeat' first | exact Resp.retD | exact Resp1.valuesK | refine Resp.blockD ?_ | refine Resp.thenD ?_ ?_ | refine Resp.hcode ?_) ?_ ?_) | (refine HCode.step ?_; (repeat refine HReg.step ?_); first | (show HCode _ _ _ (Code.seq (Code.seq (Code.region _ _ _) (Code.block _ _)) _) _ _ _; refine hcutC (a := Code.seq (Code.region _ _ _) (Code.block _ _)) [22, 157, 158, 159, 160, 161, 162, 163, 164, 165, 166, 167, 168, 169] [] (LyJ H1 g r (m2 x y) f14 gL gM gN cL cM cN) rfl (by repeat' first | exact Resp.retD | exact Resp1.valuesK | refine Resp.blockD ?_ | refine Resp.thenD ?_ ?_ | refine Resp.hcode ?_) ?_ ?_) | (refine HCode.step ?_; (repeat refine HReg.step ?_); first | (show HCode _ _ _ (Code.seq (Code.seq (Code.region _ _ _) (Code.block _ _)) _) _ _ _; refine hcutC (a := Code.seq (Code.region _ _ _) (Code.block _ _)) [22, 157, 158, 159, 160, 161, 162, 163, 164, 165, 166, 167, 168, 169] [] (LyJ H1 g r (m2 x y) f14 gL gM gN cL cM cN) rfl (by repeat' first | exact Resp.retD | exact Resp1.valuesK | refine Resp.blockD ?_ | refine Resp.thenD ?_ ?_ | refine Resp.hcode ?_) ?_ ?_) | (refine HCode.step ?_; (repeat refine HReg.step ?_); first | (show HCode _ _ _ (Code.seq (Code.seq (Code.region _ _ _) (Code.block _ _)) _) _ _ _; refine hcutC (a := Code.seq (Code.region _ _ _) (Code.block _ _)) [22, 157, 158, 159, 160, 161, 162, 163, 164, 165, 166, 167, 168, 169] [] (LyJ H1 g r (m2 x y) f14 gL gM gN cL cM cN) rfl (by repeat' first | exact Resp.retD | exact Resp1.valuesK | refine Resp.blockD ?_ | refine Resp.thenD ?_ ?_ | refine Resp.hcode ?_) ?_ ?_) | (refine HCode.step ?_; (repeat refine HReg.step ?_); first | (show HCode _ _ _ (Code.seq (Code.seq (Code.region _ _ _) (Code.block _ _)) _) _ _ _; refine hcutC (a := Code.seq (Code.region _ _ _) (Code.block _ _)) [22, 157, 158, 159, 160, 161, 162, 163, 164, 165, 166, 167, 168, 169] [] (LyJ H1 g r (m2 x y) f14 gL gM gN cL cM cN) rfl (by repeat' first | exact Resp.retD | exact Resp1.valuesK | refine Resp.blockD ?_ | refine Resp.thenD ?_ ?_ | refine Resp.hcode ?_) ?_ ?_) | (refine HCode.step ?_; (repeat refine HReg.step ?_); first | (show HCode _ _ _ (Code.seq (Code.seq (Code.region _ _ _) (Code.block _ _)) _) _ _ _; refine hcutC (a := Code.seq (Code.region _ _ _) (Code.block _ _)) [22, 157, 158, 159, 160, 161, 162, 163, 164, 165, 166, 167, 168, 169] [] (LyJ H1 g r (m2 x y) f14 gL gM gN cL cM cN) rfl (by repeat' first | exact Resp.retD | exact Resp1.valuesK | refine Resp.blockD ?_ | refine Resp.thenD ?_ ?_ | refine Resp.hcode ?_) ?_ ?_) | (refine HCode.step ?_; (repeat refine HReg.step ?_); first | (show HCode _ _ _ (Code.seq (Code.seq (Code.region _ _ _) (Code.block _ _)) _) _ _ _; refine hcutC (a := Code.seq (Code.region _ _ _) (Code.block _ _)) [22, 157, 158, 159, 160, 161, 162, 163, 164, 165, 166, 167, 168, 169] [] (LyJ H1 g r (m2 x y) f14 gL gM gN cL cM cN) rfl (by repeat' first | exact Resp.retD | exact Resp1.valuesK | refine Resp.blockD ?_ | refine Resp.thenD ?_ ?_ | refine Resp.hcode ?_) ?_ ?_) | (refine HCode.step ?_; (repeat refine HReg.step ?_); first | (show HCode _ _ _ (Code.seq (Code.seq (Code.region _ _ _) (Code.block _ _)) _) _ _ _; refine hcutC (a := Code.seq (Code.region _ _ _) (Code.block _ _)) [22, 157, 158, 159, 160, 161, 162, 163, 164, 165, 166, 167, 168, 169] [] (LyJ H1 g r (m2 x y) f14 gL gM gN cL cM cN) rfl (by repeat' first | exact Resp.retD | exact Resp1.valuesK | refine Resp.blockD ?_ | refine Resp.thenD ?_ ?_ | refine Resp.hcode ?_) ?_ ?_) | (refine HCode.step ?_; (repeat refine HReg.step ?_); first | (show HCode _ _ _ (Code.seq (Code.seq (Code.region _ _ _) (Code.block _ _)) _) _ _ _; refine hcutC (a := Code.seq (Code.region _ _ _) (Code.block _ _)) [22, 157, 158, 159, 160, 161, 162, 163, 164, 165, 166, 167, 168, 169] [] (LyJ H1 g r (m2 x y) f14 gL gM gN cL cM cN) rfl (by repeat' first | exact Resp.retD | exact Resp1.valuesK | refine Resp.blockD ?_ | refine Resp.thenD ?_ ?_ | refine Resp.hcode ?_) ?_ ?_) | (refine HCode.step ?_; (repeat refine HReg.step ?_); first | (show HCode _ _ _ (Code.seq (Code.seq (Code.region _ _ _) (Code.block _ _)) _) _ _ _; refine hcutC (a := Code.seq (Code.region _ _ _) (Code.block _ _)) [22, 157, 158, 159, 160, 161, 162, 163, 164, 165, 166, 167, 168, 169] [] (LyJ H1 g r (m2 x y) f14 gL gM gN cL cM cN) rfl (by repeat' first | exact Resp.retD | exact Resp1.valuesK | refine Resp.blockD ?_ | refine Resp.thenD ?_ ?_ | refine Resp.hcode ?_) ?_ ?_) | (refine HCode.step ?_; (repeat refine HReg.step ?_); first | (show HCode _ _ _ (Code.seq (Code.seq (Code.region _ _ _) (Code.block _ _)) _) _ _ _; refine hcutC (a := Code.seq (Code.region _ _ _) (Code.block _ _)) [22, 157, 158, 159, 160, 161, 162, 163, 164, 165, 166, 167, 168, 169] [] (LyJ H1 g r (m2 x y) f14 gL gM gN cL cM cN) rfl (by repeat' first | exact Resp.retD | exact Resp1.valuesK | refine Resp.blockD ?_ | refine Resp.thenD ?_ ?_ | refine Resp.hcode ?_) ?_ ?_) | (refine HCode.step ?_; (repeat refine HReg.step ?_); first | (show HCode _ _ _ (Code.seq (Code.seq (Code.region _ _ _) (Code.block _ _)) _) _ _ _; refine hcutC (a := Code.seq (Code.region _ _ _) (Code.block _ _)) [22, 157, 158, 159, 160, 161, 162, 163, 164, 165, 166, 167, 168, 169] [] (LyJ H1 g r (m2 x y) f14 gL gM gN cL cM cN) rfl (by repeat' first | exact Resp.retD | exact Resp1.valuesK | refine Resp.blockD ?_ | refine Resp.thenD ?_ ?_ | refine Resp.hcode ?_) ?_ ?_) | (refine HCode.step ?_; (repeat refine HReg.step ?_); first | (show HCode _ _ _ (Code.seq (Code.seq (Code.region _ _ _) (Code.block _ _)) _) _ _ _; refine hcutC (a := Code.seq (Code.region _ _ _) (Code.block _ _)) [22, 157, 158, 159, 160, 161, 162, 163, 164, 165, 166, 167, 168, 169] [] (LyJ H1 g r (m2 x y) f14 gL gM gN cL cM cN) rfl (by repeat' first | exact Resp.retD | exact Resp1.valuesK | refine Resp.blockD ?_ | refine Resp.thenD ?_ ?_ | refine Resp.hcode ?_) ?_ ?_) | (refine HCode.step ?_; (repeat refine HReg.step ?_); first | (show HCode _ _ _ (Code.seq (Code.seq (Code.region _ _ _) (Code.block _ _)) _) _ _ _; refine hcutC (a := Code.seq (Code.region _ _ _) (Code.block _ _)) [22, 157, 158, 159, 160, 161, 162, 163, 164, 165, 166, 167, 168, 169] [] (LyJ H1 g r (m2 x y) f14 gL gM gN cL cM cN) rfl (by repeat' first | exact Resp.retD | exact Resp1.valuesK | refine Resp.blockD ?_ | refine Resp.thenD ?_ ?_ | refine Resp.hcode ?_) ?_ ?_) | (refine HCode.step ?_; (repeat refine HReg.step ?_); (show HCode _ _ _ (Code.seq (Code.seq (Code.region _ _ _) (Code.block _ _)) _) _ _ _; refine hcutC (a := Code.seq (Code.region _ _ _) (Code.block _ _)) [22, 157, 158, 159, 160, 161, 162, 163, 164, 165, 166, 167, 168, 169] [] (LyJ H1 g r (m2 x y) f14 gL gM gN cL cM cN) rfl (by repeat' first | exact Resp.retD | exact Resp1.valuesK | refine Resp.blockD ?_ | refine Resp.thenD ?_ ?_ | refine Resp.hcode ?_) ?_ ?_))))))))))))))))))))))
  · (repeat first | refine HReg.step ?_ | refine HCode.step ?_)
    refine hloopC [22, 157, 158, 159, 160, 161, 162, 163, 164, 165, 166, 167, 168, 169] [22] (LyInv H1 g r (m2 x y) f14 gL gM gN cL cM cN) rfl (by repeat' first | exact Resp.retD | exact Resp1.valuesK | refine Resp.blockD ?_ | refine Resp.thenD ?_ ?_ | refine Resp.hcode ?_) ?_ ?_
    · exact ⟨2, LyInv.mk ⟨0, rfl, rfl, Z⟩⟩
    rintro m _ fe H17 ⟨i, rfl, hmi, z⟩
    have wi : wr .i64 ((i : Int) + 1) = ((i + 1 : Nat) : Int) := by rw [wr_i64 (by omega) (by omega)]; omega
    (repeat first | refine HReg.step ?_ | refine HCode.step ?_)
    refine hif (fun h1 => ?_) (fun h1 => ?_)
    · have h1 := ltB_true.1 h1
      have hi : i < 2 := by omega
      (repeat first | refine HReg.step ?_ | refine HCode.step ?_)
      refine HReq.mk ⟨by omega, by omega⟩ ?_
      (repeat first | refine HReg.step ?_ | refine HCode.step ?_)
      refine z.stL (t := [108]) hi (Nat.zero_add i) fun H18 z => ?_
      (repeat first | refine HReg.step ?_ | refine HCode.step ?_)
      refine HReq.mk ⟨by omega, by omega⟩ ?_
      (repeat first | refine HReg.step ?_ | refine HCode.step ?_)
      refine z.stM (t := [109]) hi (Nat.zero_add i) fun H19 z => ?_
      (repeat first | refine HReg.step ?_ | refine HCode.step ?_)
      refine HReq.mk ⟨by omega, by omega⟩ ?_
      (repeat first | refine HReg.step ?_ | refine HCode.step ?_)
      refine z.stN (t := [110]) hi (Nat.zero_add i) fun H20 z => ?_
      rw [tls_set _ hi, tls_set _ hi, tls_set _ hi] at z
      (repeat first | refine HReg.step ?_ | refine HCode.step ?_)
      rw [wi]
      exact ⟨m - 1, by omega, LyInv.mk ⟨i + 1, rfl, by omega, z⟩⟩
    · have h1 := ltB_false.1 h1
      (repeat first | refine HReg.step ?_ | refine HCode.step ?_)
      obtain rfl : i = 2 := by omega
      exact LyJ.mk ⟨rfl, z⟩
  rintro _ fe1 H17 ⟨rfl, z⟩
  (repeat first | refine HReg.step ?_ | refine HCode.step ?_)
  refine HReq.mk (by decide) ?_
  (repeat first | refine HReg.step ?_ | refine HCode.step ?_)
  refine HNew.as (o' := .cells (txts [[49], [50], [51]]).toArray 9) rfl fun bLx hbLx => ?_
  have vLx : Upd [] H17 (H17.upd bLx (.cells (txts [[49], [50], [51]]).toArray 9)) := Upd.new hbLx _
  have rLx : RowAt (H17.upd bLx (.cells (txts [[49], [50], [51]]).toArray 9)) (some ⟨bLx, 0, none⟩) (txts [[49], [50], [51]]) := RowAt.of_cells (upd_same _ _ _)
  generalize H17.upd bLx (.cells (txts [[49], [50], [51]]).toArray 9) = H18 at vLx rLx ⊢
  have z := z.upd0 vLx
  have yzML := z.S.M
  have yzNL := z.S.N
  (repeat first | refine HReg.step ?_ | refine HCode.step ?_)
  refine app9 z.S.L rLx rfl fun pL dL H19 oL wL xL sL => ?_
  have z : LzS H1 g r (m2 x y) f14 gL gM gN cL cM cN [[108], [108]] [[109], [109]] [[110], [110]] H19 := ⟨D1 z.D z.S.L z.nL xL, ⟨oL, z.S.M.upd xL (off_notin fun b hb hm => z.S.LM b hm hb), z.S.N.upd xL (off_notin fun b hb hm => z.S.LN b hm hb), z.S.LM, z.S.LN, z.S.MN⟩, z.nL, z.nM, z.nN⟩
  (repeat first | refine HReg.step ?_ | refine HCode.step ?_)
  refine HReq.mk (by decide) ?_
  (repeat first | refine HReg.step ?_ | refine HCode.step ?_)
  refine HNew.as (o' := .cells (txts [[52], [53], [54]]).toArray 9) rfl fun bMx hbMx => ?_
  have vMx : Upd [] H19 (H19.upd bMx (.cells (txts [[52], [53], [54]]).toArray 9)) := Upd.new hbMx _
  have rMx : RowAt (H19.upd bMx (.cells (txts [[52], [53], [54]]).toArray 9)) (some ⟨bMx, 0, none⟩) (txts [[52], [53], [54]]) := RowAt.of_cells (upd_same _ _ _)
  generalize H19.upd bMx (.cells (txts [[52], [53], [54]]).toArray 9) = H20 at vMx rMx ⊢
  have z := z.upd0 vMx
  have wL := wL.upd (S := []) vMx (.inr (Off.nil _))
  have ofLM : Off [gM] pL := off_notin fun k hk hm => by
    rw [List.mem_singleton.1 hm] at hk
    rcases sL _ hk with h | h
    · exact z.S.LM gM (by rw [← h]; simp [blk]) (by simp [blk])
    · obtain ⟨c0, f0, e0⟩ := own_live yzML
      rw [h] at e0; cases e0
  have yzNM := z.S.N
  (repeat first | refine HReg.step ?_ | refine HCode.step ?_)
  refine app9 z.S.M rMx rfl fun pM dM H21 oM wM xM sM => ?_
  have wL := wL.upd xM (.inr ofLM)
  have z : LzS H1 g r (m2 x y) f14 gL gM gN cL cM cN [[108], [108]] [[109], [109]] [[110], [110]] H21 := ⟨D1 z.D z.S.M z.nM xM, ⟨z.S.L.upd xM (off_notin z.S.LM), oM, z.S.N.upd xM (off_notin fun b hb hm => z.S.MN b hm hb), z.S.LM, z.S.LN, z.S.MN⟩, z.nL, z.nM, z.nN⟩
  (repeat first | refine HReg.step ?_ | refine HCode.step ?_)
  refine HReq.mk (by decide) ?_
  (repeat first | refine HReg.step ?_ | refine HCode.step ?_)
  refine HNew.as (o' := .cells (txts [[55], [56], [57]]).toArray 9) rfl fun bNx hbNx => ?_
  have vNx : Upd [] H21 (H21.upd bNx (.cells (txts [[55], [56], [57]]).toArray 9)) := Upd.new hbNx _
  have rNx : RowAt (H21.upd bNx (.cells (txts [[55], [56], [57]]).toArray 9)) (some ⟨bNx, 0, none⟩) (txts [[55], [56], [57]]) := RowAt.of_cells (upd_same _ _ _)
  generalize H21.upd bNx (.cells (txts [[55], [56], [57]]).toArray 9) = H22 at vNx rNx ⊢
  have z := z.upd0 vNx
  have wL := wL.upd (S := []) vNx (.inr (Off.nil _))
  have wM := wM.upd (S := []) vNx (.inr (Off.nil _))
  have ofLN : Off [gN] pL := off_notin fun k hk hm => by
    rw [List.mem_singleton.1 hm] at hk
    rcases sL _ hk with h | h
    · exact z.S.LN gN (by rw [← h]; simp [blk]) (by simp [blk])
    · obtain ⟨c0, f0, e0⟩ := own_live yzNL
      rw [h] at e0; cases e0
  have ofMN : Off [gN] pM := off_notin fun k hk hm => by
    rw [List.mem_singleton.1 hm] at hk
    rcases sM _ hk with h | h
    · exact z.S.MN gN (by rw [← h]; simp [blk]) (by simp [blk])
    · obtain ⟨c0, f0, e0⟩ := own_live yzNM
      rw [h] at e0; cases e0
  (repeat first | refine HReg.step ?_ | refine HCode.step ?_)
  refine app9 z.S.N rNx rfl fun pN dN H23 oN wN xN sN => ?_
  have wL := wL.upd xN (.inr ofLN)
  have wM := wM.upd xN (.inr ofMN)
  have z : LzS H1 g r (m2 x y) f14 gL gM gN cL cM cN [[108], [108]] [[109], [109]] [[110], [110]] H23 := ⟨D1 z.D z.S.N z.nN xN, ⟨z.S.L.upd xN (off_notin z.S.LN), z.S.M.upd xN (off_notin z.S.MN), oN, z.S.LM, z.S.LN, z.S.MN⟩, z.nL, z.nM, z.nN⟩
  obtain ⟨iL, jL, rfl, tL⟩ := wL 2 _ rfl
  obtain ⟨iM, jM, rfl, tM⟩ := wM 2 _ rfl
  obtain ⟨iN, jN, rfl, tN⟩ := wN 2 _ rfl
  have sq : ∀ l : Txt, seqB (bs l) (bs l) = true := fun l => by rw [seqB_bs]; exact decide_eq_true rfl
  ((repeat refine HReg.step ?_); first | (show HCode _ _ _ (Code.seq (Code.seq (Code.region _ _ _) (Code.block _ _)) _) _ _ _; refine hcutC (a := Code.seq (Code.region _ _ _) (Code.block _ _)) [4, 26, 179, 180, 181, 182, 183, 184, 185, 186, 187, 188, 189, 190, 191, 192, 193, 194, 195, 196, 197, 198, 199, 200, 201, 202, 203, 204, 205, 206, 207, 208, 209, 210, 211, 212, 213, 214, 215, 216, 217, 218, 219] [] (LdK H23) rfl (by repeat' first | exact Resp.retD | exact Resp1.valuesK | refine Resp.blockD ?_ | refine Resp.thenD ?_ ?_ | refine Resp.hcode ?_) ?_ ?_) | (refine HCode.step ?_; (repeat refine HReg.step ?_); first | (show HCode _ _ _ (Code.seq (Code.seq (Code.region _ _ _) (Code.block _ _)) _) _ _ _; refine hcutC (a := Code.seq (Code.region _ _ _) (Code.block _ _)) [4, 26, 179, 180, 181, 182, 183, 184, 185, 186, 187, 188, 189, 190, 191, 192, 193, 194, 195, 196, 197, 198, 199, 200, 201, 202, 203, 204, 205, 206, 207, 208, 209, 210, 211, 212, 213, 214, 215, 216, 217, 218, 219] [] (LdK H23) rfl (by repeat' first | exact Resp.retD | exact Resp1.valuesK | refine Resp.blockD ?_ | refine Resp.thenD ?_ ?_ | refine Resp.hcode ?_) ?_ ?_) | (refine HCode.step ?_; (repeat refine HReg.step ?_); first | (show HCode _ _ _ (Code.seq (Code.seq (Code.region _ _ _) (Code.block _ _)) _) _ _ _; refine hcutC (a := Code.seq (Code.region _ _ _) (Code.block _ _)) [4, 26, 179, 180, 181, 182, 183, 184, 185, 186, 187, 188, 189, 190, 191, 192, 193, 194, 195, 196, 197, 198, 199, 200, 201, 202, 203, 204, 205, 206, 207, 208, 209, 210, 211, 212, 213, 214, 215, 216, 217, 218, 219] [] (LdK H23) rfl (by repeat' first | exact Resp.retD | exact Resp1.valuesK | refine Resp.blockD ?_ | refine Resp.thenD ?_ ?_ | refine Resp.hcode ?_) ?_ ?_) | (refine HCode.step ?_; (repeat refine HReg.step ?_); first | (show HCode _ _ _ (Code.seq (Code.seq (Code.region _ _ _) (Code.block _ _)) _) _ _ _; refine hcutC (a := Code.seq (Code.region _ _ _) (Code.block _ _)) [4, 26, 179, 180, 181, 182, 183, 184, 185, 186, 187, 188, 189, 190, 191, 192, 193, 194, 195, 196, 197, 198, 199, 200, 201, 202, 203, 204, 205, 206, 207, 208, 209, 210, 211, 212, 213, 214, 215, 216, 217, 218, 219] [] (LdK H23) rfl (by repeat' first | exact Resp.retD | exact Resp1.valuesK | refine Resp.blockD ?_ | refine Resp.thenD ?_ ?_ | refine Resp.hcode ?_) ?_ ?_) | (refine HCode.step ?_; (repeat refine HReg.step ?_); first | (show HCode _ _ _ (Code.seq (Code.seq (Code.region _ _ _) (Code.block _ _)) _) _ _ _; refine hcutC (a := Code.seq (Code.region _ _ _) (Code.block _ _)) [4, 26, 179, 180, 181, 182, 183, 184, 185, 186, 187, 188, 189, 190, 191, 192, 193, 194, 195, 196, 197, 198, 199, 200, 201, 202, 203, 204, 205, 206, 207, 208, 209, 210, 211, 212, 213, 214, 215, 216, 217, 218, 219] [] (LdK H23) rfl (by repeat' first | exact Resp.retD | exact Resp1.valuesK | refine Resp.blockD ?_ | refine Resp.thenD ?_ ?_ | refine Resp.hcode ?_) ?_ ?_) | (refine HCode.step ?_; (repeat refine HReg.step ?_); first | (show HCode _ _ _ (Code.seq (Code.seq (Code.region _ _ _) (Code.block _ _)) _) _ _ _; refine hcutC (a := Code.seq (Code.region _ _ _) (Code.block _ _)) [4, 26, 179, 180, 181, 182, 183, 184, 185, 186, 187, 188, 189, 190, 191, 192, 193, 194, 195, 196, 197, 198, 199, 200, 201, 202, 203, 204, 205, 206, 207, 208, 209, 210, 211, 212, 213, 214, 215, 216, 217, 218, 219] [] (LdK H23) rfl (by repeat' first | exact Resp.retD | exact Resp1.valuesK | refine Resp.blockD ?_ | refine Resp.thenD ?_ ?_ | refine Resp.hcode ?_) ?_ ?_) | (refine HCode.step ?_; (repeat refine HReg.step ?_); first | (show HCode _ _ _ (Code.seq (Code.seq (Code.region _ _ _) (Code.block _ _)) _) _ _ _; refine hcutC (a := Code.seq (Code.region _ _ _) (Code.block _ _)) [4, 26, 179, 180, 181, 182, 183, 184, 185, 186, 187, 188, 189, 190, 191, 192, 193, 194, 195, 196, 197, 198, 199, 200, 201, 202, 203, 204, 205, 206, 207, 208, 209, 210, 211, 212, 213, 214, 215, 216, 217, 218, 219] [] (LdK H23) rfl (by repeat' first | exact Resp.retD | exact Resp1.valuesK | refine Resp.blockD ?_ | refine Resp.thenD ?_ ?_ | refine Resp.hcode ?_) ?_ ?_) | (refine HCode.step ?_; (repeat refine HReg.step ?_); first | (show HCode _ _ _ (Code.seq (Code.seq (Code.region _ _ _) (Code.block _ _)) _) _ _ _; refine hcutC (a := Code.seq (Code.region _ _ _) (Code.block _ _)) [4, 26, 179, 180, 181, 182, 183, 184, 185, 186, 187, 188, 189, 190, 191, 192, 193, 194, 195, 196, 197, 198, 199, 200, 201, 202, 203, 204, 205, 206, 207, 208, 209, 210, 211, 212, 213, 214, 215, 216, 217, 218, 219] [] (LdK H23) rfl (by repeat' first | exact Resp.retD | exact Resp1.valuesK | refine Resp.blockD ?_ | refine Resp.thenD ?_ ?_ | refine Resp.hcode ?_) ?_ ?_) | (refine HCode.step ?_; (repeat refine HReg.step ?_); first | (show HCode _ _ _ (Code.seq (Code.seq (Code.region _ _ _) (Code.block _ _)) _) _ _ _; refine hcutC (a := Code.seq (Code.region _ _ _) (Code.block _ _)) [4, 26, 179, 180, 181, 182, 183, 184, 185, 186, 187, 188, 189, 190, 191, 192, 193, 194, 195, 196, 197, 198, 199, 200, 201, 202, 203, 204, 205, 206, 207, 208, 209, 210, 211, 212, 213, 214, 215, 216, 217, 218, 219] [] (LdK H23) rfl (by repeat' first | exact Resp.retD | exact Resp1.valuesK | refine Resp.blockD ?_ | refine Resp.thenD ?_ ?_ | refine Resp.hcode ?_) ?_ ?_) | (refine HCode.step ?_; (repeat refine HReg.step ?_); first | (show HCode _ _ _ (Code.seq (Code.seq (Code.region _ _ _) (Code.block _ _)) _) _ _ _; refine hcutC (a := Code.seq (Code.region _ _ _) (Code.block _ _)) [4, 26, 179, 180, 181, 182, 183, 184, 185, 186, 187, 188, 189, 190, 191, 192, 193, 194, 195, 196, 197, 198, 199, 200, 201, 202, 203, 204, 205, 206, 207, 208, 209, 210, 211, 212, 213, 214, 215, 216, 217, 218, 219] [] (LdK H23) rfl (by repeat' first | exact Resp.retD | exact Resp1.valuesK | refine Resp.blockD ?_ | refine Resp.thenD ?_ ?_ | refine Resp.hcode ?_) ?_ ?_) | (refine HCode.step ?_; (repeat refine HReg.step ?_); first | (show HCode _ _ _ (Code.seq (Code.seq (Code.region _ _ _) (Code.block _ _)) _) _ _ _; refine hcutC (a := Code.seq (Code.region _ _ _) (Code.block _ _)) [4, 26, 179, 180, 181, 182, 183, 184, 185, 186, 187, 188, 189, 190, 191, 192, 193, 194, 195, 196, 197, 198, 199, 200, 201, 202, 203, 204, 205, 206, 207, 208, 209, 210, 211, 212, 213, 214, 215, 216, 217, 218, 219] [] (LdK H23) rfl (by repeat' first | exact Resp.retD | exact Resp1.valuesK | refine Resp.blockD ?_ | refine Resp.thenD ?_ ?_ | refine Resp.hcode ?_) ?_ ?_) | (refine HCode.step ?_; (repeat refine HReg.step ?_); first | (show HCode _ _ _ (Code.seq (Code.seq (Code.region _ _ _) (Code.block _ _)) _) _ _ _; refine hcutC (a := Code.seq (Code.region _ _ _) (Code.block _ _)) [4, 26, 179, 180, 181, 182, 183, 184, 185, 186, 187, 188, 189, 190, 191, 192, 193, 194, 195, 196, 197, 198, 199, 200, 201, 202, 203, 204, 205, 206, 207, 208, 209, 210, 211, 212, 213, 214, 215, 216, 217, 218, 219] [] (LdK H23) rfl (by repeat' first | exact Resp.retD | exact Resp1.valuesK | refine Resp.blockD ?_ | refine Resp.thenD ?_ ?_ | refine Resp.hcode ?_) ?_ ?_) | (refine HCode.step ?_; (repeat refine HReg.step ?_); first | (show HCode _ _ _ (Code.seq (Code.seq (Code.region _ _ _) (Code.block _ _)) _) _ _ _; refine hcutC (a := Code.seq (Code.region _ _ _) (Code.block _ _)) [4, 26, 179, 180, 181, 182, 183, 184, 185, 186, 187, 188, 189, 190, 191, 192, 193, 194, 195, 196, 197, 198, 199, 200, 201, 202, 203, 204, 205, 206, 207, 208, 209, 210, 211, 212, 213, 214, 215, 216, 217, 218, 219] [] (LdK H23) rfl (by repeat' first | exact Resp.retD | exact Resp1.valuesK | refine Resp.blockD ?_ | refine Resp.thenD ?_ ?_ | refine Resp.hcode ?_) ?_ ?_) | (refine HCode.step ?_; (repeat refine HReg.step ?_); first | (show HCode _ _ _ (Code.seq (Code.seq (Code.region _ _ _) (Code.block _ _)) _) _ _ _; refine hcutC (a := Code.seq (Code.region _ _ _) (Code.block _ _)) [4, 26, 179, 180, 181, 182, 183, 184, 185, 186, 187, 188, 189, 190, 191, 192, 193, 194, 195, 196, 197, 198, 199, 200, 201, 202, 203, 204, 205, 206, 207, 208, 209, 210, 211, 212, 213, 214, 215, 216, 217, 218, 219] [] (LdK H23) rfl (by repeat' first | exact Resp.retD | exact Resp1.valuesK | refine Resp.blockD ?_ | refine Resp.thenD ?_ ?_ | refine Resp.hcode ?_) ?_ ?_) | (refine HCode.step ?_; (repeat refine HReg.step ?_); first | (show HCode _ _ _ (Code.seq (Code.seq (Code.region _ _ _) (Code.block _ _)) _) _ _ _; refine hcutC (a := Code.seq (Code.region _ _ _) (Code.block _ _)) [4, 26, 179, 180, 181, 182, 183, 184, 185, 186, 187, 188, 189, 190, 191, 192, 193, 194, 195, 196, 197, 198, 199, 200, 201, 202, 203, 204, 205, 206, 207, 208, 209, 210, 211, 212, 213, 214, 215, 216, 217, 218, 219] [] (LdK H23) rfl (by repeat' first | exact Resp.retD | exact Resp1.valuesK | refine Resp.blockD ?_ | refine Resp.thenD ?_ ?_ | refine Resp.hcode ?_) ?_ ?_) | (refine HCode.step ?_; (repeat refine HReg.step ?_); first | (show HCode _ _ _ (Code.seq (Code.seq (Code.region _ _ _) (Code.block _ _)) _) _ _ _; refine hcutC (a := Code.seq (Code.region _ _ _) (Code.block _ _)) [4, 26, 179, 180, 181, 182, 183, 184, 185, 186, 187, 188, 189, 190, 191, 192, 193, 194, 195, 196, 197, 198, 199, 200, 201, 202, 203, 204, 205, 206, 207, 208, 209, 210, 211, 212, 213, 214, 215, 216, 217, 218, 219] [] (LdK H23) rfl (by repeat' first | exact Resp.retD | exact Resp1.valuesK | refine Resp.blockD ?_ | refine Resp.thenD ?_ ?_ | refine Resp.hcode ?_) ?_ ?_) | (refine HCode.step ?_; (repeat refine HReg.step ?_); first | (show HCode _ _ _ (Code.seq (Code.seq (Code.region _ _ _) (Code.block _ _)) _) _ _ _; refine hcutC (a := Code.seq (Code.region _ _ _) (Code.block _ _)) [4, 26, 179, 180, 181, 182, 183, 184, 185, 186, 187, 188, 189, 190, 191, 192, 193, 194, 195, 196, 197, 198, 199, 200, 201, 202, 203, 204, 205, 206, 207, 208, 209, 210, 211, 212, 213, 214, 215, 216, 217, 218, 219] [] (LdK H23) rfl (by repeat' first | exact Resp.retD | exact Resp1.valuesK | refine Resp.blockD ?_ | refine Resp.thenD ?_ ?_ | refine Resp.hcode ?_) ?_ ?_) | (refine HCode.step ?_; (repeat refine HReg.step ?_); first | (show HCode _ _ _ (Code.seq (Code.seq (Code.region _ _ _) (Code.block _ _)) _) _ _ _; refine hcutC (a := Code.seq (Code.region _ _ _) (Code.block _ _)) [4, 26, 179, 180, 181, 182, 183, 184, 185, 186, 187, 188, 189, 190, 191, 192, 193, 194, 195, 196, 197, 198, 199, 200, 201, 202, 203, 204, 205, 206, 207, 208, 209, 210, 211, 212, 213, 214, 215, 216, 217, 218, 219] [] (LdK H23) rfl (by repeat' first | exact Resp.retD | exact Resp1.valuesK | refine Resp.blockD ?_ | refine Resp.thenD ?_ ?_ | refine Resp.hcode ?_) ?_ ?_) | (refine HCode.step ?_; (repeat refine HReg.step ?_); first | (show HCode _ _ _ (Code.seq (Code.seq (Code.region _ _ _) (Code.block _ _)) _) _ _ _; refine hcutC (a := Code.seq (Code.region _ _ _) (Code.block _ _)) [4, 26, 179, 180, 181, 182, 183, 184, 185, 186, 187, 188, 189, 190, 191, 192, 193, 194, 195, 196, 197, 198, 199, 200, 201, 202, 203, 204, 205, 206, 207, 208, 209, 210, 211, 212, 213, 214, 215, 216, 217, 218, 219] [] (LdK H23) rfl (by repeat' first | exact Resp.retD | exact Resp1.valuesK | refine Resp.blockD ?_ | refine Resp.thenD ?_ ?_ | refine Resp.hcode ?_) ?_ ?_) | (refine HCode.step ?_; (repeat refine HReg.step ?_); first | (show HCode _ _ _ (Code.seq (Code.seq (Code.region _ _ _) (Code.block _ _)) _) _ _ _; refine hcutC (a := Code.seq (Code.region _ _ _) (Code.block _ _)) [4, 26, 179, 180, 181, 182, 183, 184, 185, 186, 187, 188, 189, 190, 191, 192, 193, 194, 195, 196, 197, 198, 199, 200, 201, 202, 203, 204, 205, 206, 207, 208, 209, 210, 211, 212, 213, 214, 215, 216, 217, 218, 219] [] (LdK H23) rfl (by repeat' first | exact Resp.retD | exact Resp1.valuesK | refine Resp.blockD ?_ | refine Resp.thenD ?_ ?_ | refine Resp.hcode ?_) ?_ ?_) | (refine HCode.step ?_; (repeat refine HReg.step ?_); (show HCode _ _ _ (Code.seq (Code.seq (Code.region _ _ _) (Code.block _ _)) _) _ _ _; refine hcutC (a := Code.seq (Code.region _ _ _) (Code.block _ _)) [4, 26, 179, 180, 181, 182, 183, 184, 185, 186, 187, 188, 189, 190, 191, 192, 193, 194, 195, 196, 197, 198, 199, 200, 201, 202, 203, 204, 205, 206, 207, 208, 209, 210, 211, 212, 213, 214, 215, 216, 217, 218, 219] [] (LdK H23) rfl (by repeat' first | exact Resp.retD | exact Resp1.valuesK | refine Resp.blockD ?_ | refine Resp.thenD ?_ ?_ | refine Resp.hcode ?_) ?_ ?_))))))))))))))))))))))
  · (repeat first | refine HReg.step ?_ | refine HCode.step ?_)
    refine hloopC [4, 26, 179, 180, 181, 182, 183, 184, 185, 186, 187, 188, 189, 190, 191, 192, 193, 194, 195, 196, 197, 198, 199, 200, 201, 202, 203, 204, 205, 206, 207, 208, 209, 210, 211, 212, 213, 214, 215, 216, 217, 218, 219] [26] (NoInv H23 2) rfl (by repeat' first | exact Resp.retD | exact Resp1.valuesK | refine Resp.blockD ?_ | refine Resp.thenD ?_ ?_ | refine Resp.hcode ?_) ?_ ?_
    · exact ⟨2, NoInv.mk ⟨0, rfl, rfl, rfl⟩⟩
    rintro m _ fe H24 ⟨i, rfl, hmi, hH⟩
    have hH := hH.symm
    subst hH
    have wi : wr .i64 ((i : Int) + 1) = ((i + 1 : Nat) : Int) := by rw [wr_i64 (by omega) (by omega)]; omega
    (repeat first | refine HReg.step ?_ | refine HCode.step ?_)
    refine hif (fun h1 => ?_) (fun h1 => ?_)
    · have h1 := ltB_true.1 h1
      have hi : i < 2 := by omega
      have two : ∀ c : Txt, (txts [c, c])[i]? = some (.string (bs c)) := fun c => by
        match i, hi with
        | 0, _ => rfl
        | 1, _ => rfl
      (repeat first | refine HReg.step ?_ | refine HCode.step ?_)
      refine HReq.mk ⟨by omega, by omega⟩ ?_
      (repeat first | refine HReg.step ?_ | refine HCode.step ?_)
      refine HLoad.one (v := .string (bs [108])) (by exact z.S.L.rows.get (two [108])) ?_
      (repeat first | refine HReg.step ?_ | refine HCode.step ?_)
      rw [show seqB (bs [108]) ⟨#[108]⟩ = true from sq _]
      (repeat first | refine HReg.step ?_ | refine HCode.step ?_)
      refine HReq.mk ⟨by omega, by omega⟩ ?_
      (repeat first | refine HReg.step ?_ | refine HCode.step ?_)
      refine HLoad.one (v := .string (bs [109])) (by exact z.S.M.rows.get (two [109])) ?_
      (repeat first | refine HReg.step ?_ | refine HCode.step ?_)
      rw [show seqB (bs [109]) ⟨#[109]⟩ = true from sq _]
      (repeat first | refine HReg.step ?_ | refine HCode.step ?_)
      refine HReq.mk ⟨by omega, by omega⟩ ?_
      (repeat first | refine HReg.step ?_ | refine HCode.step ?_)
      refine HLoad.one (v := .string (bs [110])) (by exact z.S.N.rows.get (two [110])) ?_
      (repeat first | refine HReg.step ?_ | refine HCode.step ?_)
      rw [show seqB (bs [110]) ⟨#[110]⟩ = true from sq _]
      (repeat first | refine HReg.step ?_ | refine HCode.step ?_)
      refine HReq.mk ⟨by decide, by decide⟩ ?_
      (repeat first | refine HReg.step ?_ | refine HCode.step ?_)
      refine HLoad.one (v := .string (bs [49])) (by exact tL) ?_
      (repeat first | refine HReg.step ?_ | refine HCode.step ?_)
      rw [show seqB (bs [49]) ⟨#[49]⟩ = true from sq _]
      (repeat first | refine HReg.step ?_ | refine HCode.step ?_)
      refine HReq.mk ⟨by decide, by decide⟩ ?_
      (repeat first | refine HReg.step ?_ | refine HCode.step ?_)
      refine HLoad.one (v := .string (bs [52])) (by exact tM) ?_
      (repeat first | refine HReg.step ?_ | refine HCode.step ?_)
      rw [show seqB (bs [52]) ⟨#[52]⟩ = true from sq _]
      (repeat first | refine HReg.step ?_ | refine HCode.step ?_)
      refine HReq.mk ⟨by decide, by decide⟩ ?_
      (repeat first | refine HReg.step ?_ | refine HCode.step ?_)
      refine HLoad.one (v := .string (bs [55])) (by exact tN) ?_
      (repeat first | refine HReg.step ?_ | refine HCode.step ?_)
      rw [show seqB (bs [55]) ⟨#[55]⟩ = true from sq _]
      (repeat first | refine HReg.step ?_ | refine HCode.step ?_)
      rw [wi]
      exact ⟨m - 1, by omega, NoInv.mk ⟨i + 1, rfl, by omega, rfl⟩⟩
    · (repeat first | refine HReg.step ?_ | refine HCode.step ?_)
      exact LdK.mk ⟨rfl, rfl⟩
  rintro _ fe2 H24 ⟨rfl, hH⟩
  have hH := hH.symm
  subst hH
  have D := z.D
  clear z wL wM wN tL tM tN
  (repeat first | refine HReg.step ?_ | refine HCode.step ?_)
  refine HReq.mk (by decide) ?_
  (repeat first | refine HReg.step ?_ | refine HCode.step ?_)
  refine HNew.mk fun b30 hb30 => ?_
  (repeat first | refine HReg.step ?_ | refine HCode.step ?_)
  refine conv_mark Try.underlying22 Try.underlying5 (upd_same _ _ _) fun f30 => ?_
  rw [upd_upd]
  have v30 : Upd [] H23 (H23.upd b30 (.cells [Value.int .u8 33].toArray 5 f30)) := Upd.new hb30 _
  (repeat first | refine HReg.step ?_ | refine HCode.step ?_)
  refine HCall.mk ⟨Try.f11, Try.func11, by rfl, by rfl⟩ ?_
  refine append_t (n := nmA) (D.upd0 v30) (ys := [33]) (row_lit (upd_same _ _ _) rfl) rfl (off_new (H' := H23) D hb30 rfl) (fun x' y' h => by
    have h : (m2 x y).fs nmA = some (x', y') := h
    simp [m2, neAB] at h
    rw [← h.1]
    omega) (by decide) fun f31 H31 D31 S31 => ?_
  rw [m3_eq] at D31
  have D31 : DiskAt H1 H31 g r (m2 (x ++ [33]) y) f31 := D31
  (repeat first | refine HReg.step ?_ | refine HCode.step ?_)
  refine HCall.mk ⟨Try.f18, Try.func18, by rfl, by rfl⟩ ?_
  refine read_f (n := nmA) D31 fun a32 c32 f32 Q32 H32 D32 S32 m32 => ?_
  rw [m2_call] at D32
  rw [m2_rA2] at m32 ⊢
  rw [m2_rA1]
  (repeat first | refine HReg.step ?_ | refine HCode.step ?_)
  refine HCall.mk ⟨Try.f18, Try.func18, by rfl, by rfl⟩ ?_
  have D32' := D32.upd0 m32.upd
  have k32 : Kept (fun _ => True) H32 (dblk g r f32) 5 1 a32 (x ++ [33]).length c32 (u8s (x ++ [33])) := Kept.made D32 m32 fun _ _ => trivial
  refine read_f (n := nmB) D32' fun a33 c33 f33 Q33 H33 D33 S33 m33 => ?_
  rw [m2_call] at D33
  rw [m2_rB2] at m33 ⊢
  rw [m2_rB1]
  have k32 := (k32.stp S33).upd m33.upd (Off.nil _)
  have k33 : Kept (fun _ => True) H33 (dblk g r f33) 5 1 a33 y.length c33 (u8s y) := Kept.made D33 m33 fun _ _ => trivial
  (repeat first | refine HReg.step ?_ | refine HCode.step ?_)
  refine HCall.mk ⟨Try.f21, Try.func21, by rfl, by rfl⟩ ?_
  refine list_f (D33.upd0 m33.upd) (m2_ok (N := 140737488355328) (by rw [List.length_append]; show x.length + 1 ≤ _; omega) (by omega)) (fun h => by cases h) fun _ aE cE nsE f34 Q34 H34 D34 S34 nmE _ m34 => ?_
  have eE := m2_names nmE
  subst eE
  rw [show ([[97], [98]] : List Txt).length = 2 from rfl]
  rw [m2_call] at D34
  have k32 := (k32.stp S34).upd m34.upd (Off.nil _)
  have k33 := (k33.stp S34).upd m34.upd (Off.nil _)
  have D34 := D34.upd0 m34.upd
  have oE : OwnRow H34 9 1 aE 2 cE (txts [[97], [98]]) := m34.own
  (repeat first | refine HReg.step ?_ | refine HCode.step ?_)
  refine HCall.mk ⟨Try.f12, Try.func12, by rfl, by rfl⟩ ?_
  refine own_t (rx.upd (S := []) D34.base (.inr (Off.nil _))) rfl (by omega) fun a35 c35 H35 m35 => ?_
  (repeat first | refine HReg.step ?_ | refine HCode.step ?_)
  refine HReq.mk (by decide) ?_
  (repeat first | refine HReg.step ?_ | refine HCode.step ?_)
  refine HNew.mk fun b36 hb36 => ?_
  have v36 : Upd [] H35 (H35.upd b36 (.cells [Value.int .u8 33].toArray 5)) := Upd.new hb36 _
  have r36 : RowAt (H35.upd b36 (.cells [Value.int .u8 33].toArray 5)) (some ⟨b36, 0, none⟩) (u8s [33]) := RowAt.of_cells (upd_same _ _ _)
  generalize H35.upd b36 (.cells [Value.int .u8 33].toArray 5) = H36 at v36 r36 ⊢
  (repeat first | refine HReg.step ?_ | refine HCode.step ?_)
  refine append_made (m35.step v36) r36 rfl (by omega) fun a37 c37 H37 m37 => ?_
  have k32 := k32.upd m37.upd (Off.nil _)
  have k33 := k33.upd m37.upd (Off.nil _)
  have oE := oE.upd m37.upd (Off.nil _)
  have D37 := D34.upd0 m37.upd
  (repeat first | refine HReg.step ?_ | refine HCode.step ?_)
  refine HCall.mk ⟨Try.f19, Try.func19, by rfl, by rfl⟩ ?_
  refine same_eq k32.own.rows rfl m37.own.rows (by rw [List.length_append]; rfl) rfl ?_
  (repeat first | refine HReg.step ?_ | refine HCode.step ?_)
  refine HCall.mk ⟨Try.f19, Try.func19, by rfl, by rfl⟩ ?_
  refine same_eq k33.own.rows rfl (ry.upd (S := []) D37.base (.inr (Off.nil _))) rfl rfl ?_
  (repeat first | refine HReg.step ?_ | refine HCode.step ?_)
  rw [show eqB ((2 : Nat) : Int) 2 = true from eqB_self 2]
  obtain ⟨gE, rfl⟩ := oE.addr (by decide)
  (repeat first | refine HReg.step ?_ | refine HCode.step ?_)
  refine HReq.mk ⟨by decide, by decide⟩ ?_
  (repeat first | refine HReg.step ?_ | refine HCode.step ?_)
  refine HLoad.one (v := .string (bs [97])) (by exact oE.rows.get (i := 0) rfl) ?_
  (repeat first | refine HReg.step ?_ | refine HCode.step ?_)
  rw [show seqB (bs [97]) ⟨#[97]⟩ = true from sq _]
  (repeat first | refine HReg.step ?_ | refine HCode.step ?_)
  refine HReq.mk ⟨by decide, by decide⟩ ?_
  (repeat first | refine HReg.step ?_ | refine HCode.step ?_)
  refine HLoad.one (v := .string (bs [98])) (by exact oE.rows.get (i := 1) rfl) ?_
  (repeat first | refine HReg.step ?_ | refine HCode.step ?_)
  rw [show seqB (bs [98]) ⟨#[98]⟩ = true from sq _]
  (repeat first | refine HReg.step ?_ | refine HCode.step ?_)
  exact hk H37 (u1.trans D37.base)
end
end Go.Proofs.Ytocejipjnklieaa
