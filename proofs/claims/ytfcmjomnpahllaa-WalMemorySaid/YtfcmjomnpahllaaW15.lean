import Derived.Test.YtfcmjomnpahllaaW14
namespace Go.Proofs.Ytfcmjomnpahllaa
open Go Hv
set_option linter.unusedVariables false
set_option linter.unusedSimpArgs false
set_option maxRecDepth 10000
set_option maxHeartbeats 4000000
/-! WalMemory, walked. CUT2 -/
theorem HNew.as {H : Heap} {o o' : Obj} {K : Nat → Heap → Prop} (e : o = o') (h : ∀ b, H b = none → K b (H.upd b o')) : HNew H o K := by rw [e]; exact HNew.mk h
section
variable {L H H' : Heap} {B B' : List Nat} {ss tt : List Slot} {s s' : Slot} {i : Nat}
theorem Slots.perm (S : Slots L B H ss) (h : ss.Perm tt) : Slots L B H tt :=
  ⟨fun s hs => S.own s (h.mem_iff.2 hs), fun s hs => S.off s (h.mem_iff.2 hs), fun s hs => S.new s (h.mem_iff.2 hs), (h.pairwise_iff (fun {a b} hab x hx hy => hab x hy hx)).1 S.apart, S.u⟩
/-- One of them is written by a call. -/
theorem Slots.stepC (S : Slots L B H ss) (hs : ss[i]? = some s) (u : Upd (blk s.a) (lessH H B) (lessH H' B')) (ow : s'.row (lessH H' B')) (ha : s'.a = s.a) : Slots L B' H' (ss.set i s') := by
  have hil := (List.getElem?_eq_some_iff.1 hs).1
  have hm := List.mem_of_getElem? hs
  have key : ∀ t ∈ ss.set i s', t = s' ∨ (t ∈ ss ∧ ∀ b ∈ blk s.a, b ∉ blk t.a) := fun t ht => by
    obtain ⟨j, hj⟩ := List.getElem?_of_mem ht
    rw [List.getElem?_set] at hj
    split at hj
    · cases hj; exact .inl rfl
    · rename_i hij
      exact .inr ⟨List.mem_of_getElem? hj, S.apart' hij hs hj⟩
  have rows : ∀ t ∈ ss.set i s', t.row (lessH H' B') := fun t ht => by
    rcases key t ht with rfl | ⟨h, o⟩
    · exact ow
    · exact (S.less h).upd u (off_notin fun b hb hb' => o b hb' hb)
  refine ⟨fun t ht => ownrow_up (rows t ht), fun t ht b hb => ?_, fun t ht => ?_, ?_, Upd.drop S.u u (S.new s hm)⟩
  · obtain ⟨p, hp, rfl⟩ := blk_of hb
    exact (less_ne ((rows t ht).there hp)).1
  · rcases key t ht with rfl | ⟨h, o⟩
    · rw [ha]; exact S.new s hm
    · exact S.new t h
  · have e : (ss.set i s').map Slot.a = ss.map Slot.a := by
      rw [List.map_set, ha]
      apply List.ext_getElem?
      intro j
      rw [List.getElem?_set]
      split
      · rename_i e; subst e
        rw [List.length_map, if_pos hil, List.getElem?_map, hs]; rfl
      · rfl
    have h1 : (ss.map Slot.a).Pairwise fun x y => ∀ b ∈ blk x, b ∉ blk y := List.pairwise_map.2 S.apart
    rw [← e] at h1
    exact List.pairwise_map.1 h1
end
theorem Slots.open_ {L H H' : Heap} {g r : Nat} {fl fl' : List Fl} {ss : List Slot} {a : Option Addr} {c : Nat} {q0 q1 : PRec} (S : Slots L (dblk g r fl) H ss) (u : Upd [] (offD H g r fl) (offD H' g r fl')) (R : RecsAt (offD H g r fl) (offD H' g r fl') [q0, q1] a c) :
    Slots L (dblk g r fl') H' (ss ++ [⟨28, 4, a, 2, c, q0.cells ++ recsV [q1]⟩, ⟨50, 2, q0.ap, q0.r.ps.length, q0.cp, pairsV q0.r.ps⟩, ⟨9, 1, q0.ak, q0.r.ks.length, q0.ck, txts q0.r.ks⟩]) := by
  have n0 := R.recs.each q0 (by simp)
  have ro : OwnRow (offD H' g r fl') 28 4 a 2 c (q0.cells ++ recsV [q1]) := R.row
  have po := n0.p
  have ko := n0.k
  refine S.adds u (fun s hs => ?_) (fun s hs b hb => ?_) ?_
  · simp only [List.mem_cons, List.not_mem_nil, or_false] at hs
    rcases hs with rfl | rfl | rfl
    · exact ro
    · exact po
    · exact ko
  · simp only [List.mem_cons, List.not_mem_nil, or_false] at hs
    rcases hs with rfl | rfl | rfl
    · exact R.new b hb
    · obtain ⟨p, hp, rfl⟩ := blk_of hb
      exact n0.pn p hp
    · obtain ⟨p, hp, rfl⟩ := blk_of hb
      exact n0.kn p hp
  · have key : ∀ {e size n c e' size' n' c' : Nat} {x y : Option Addr} {xs ys : List Value}, OwnRow (offD H' g r fl') e size x n c xs → OwnRow (offD H' g r fl') e' size' y n' c' ys → e ≠ e' → ∀ b ∈ blk x, b ∉ blk y := fun o1 o2 ne b hb hb' => by
      obtain ⟨p, hp, rfl⟩ := blk_of hb'
      exact (o1.offT o2 ne) p hp hb
    refine List.Pairwise.cons (fun s hs => ?_) (List.Pairwise.cons (fun s hs => ?_) (List.pairwise_singleton _ _))
    · simp only [List.mem_cons, List.not_mem_nil, or_false] at hs
      rcases hs with rfl | rfl
      · exact key ro po (by decide)
      · exact key ro ko (by decide)
    · rw [List.mem_singleton.1 hs]
      exact key po ko (by decide)
theorem perm5 {α : Type} (t a b c : List α) (x : α) : ((((t ++ a) ++ b) ++ c) ++ [x]).Perm (x :: (a ++ (c ++ (t ++ b)))) := by
  refine (List.perm_append_singleton x _).trans (List.Perm.cons x ?_)
  rw [List.append_assoc, List.append_assoc]
  refine (List.perm_append_comm_assoc t a (b ++ c)).trans ((List.Perm.refl a).append ?_)
  refine ((List.Perm.refl t).append List.perm_append_comm).trans (List.perm_append_comm_assoc t c b)
theorem Md.less {q : PRec} {j u v k p u' v' : Nat} (d : Md q j u v k p) (h1 : u' ≤ u) (h2 : v' ≤ v) : Md q j u' v' k p := ⟨d.lk, d.lp, fun y h h' => d.hk y (by omega) h', fun y h h' => d.hp y (by omega) h', d.tk, d.tp⟩
theorem Rst.rn {m : Sm} {j : Nat} {b : Bool} (h : Rst m j b) : m.rn = if b then 4 else 2 := by obtain ⟨_, _, _, _, _, h⟩ := h; exact h
section
variable {L H : Heap} {g r ga i n br bK : Nat} {s : St} {fl : List Fl} {tail : List Slot} {ms : Nat → Sm}
theorem Wm.sl' (w : Wm L g r s fl ga tail ms H) (hi : i < 2) (hbr : (ms i).ra = some ⟨br, 0, none⟩) (hrn : (ms i).rn = n) : H.cell? ⟨ga, 0 + i, none⟩ = some (.slice (some ⟨br, 0, none⟩) n (ms i).rc) := by
  rw [w.all hi]; unfold Sm.sl; rw [hbr, hrn]
theorem Wm.kc (w : Wm L g r s fl ga tail ms H) (hi : i < 2) (hbr : (ms i).ra = some ⟨br, 0, none⟩) (hb : (ms i).q.ak = some ⟨bK, 0, none⟩) (hl : (ms i).q.r.ks.length = n) : H.cell? ⟨br, 0 + 3, none⟩ = some (.slice (some ⟨bK, 0, none⟩) n (ms i).q.ck) := by
  have h := w.cell hi hbr (j := 3) rfl
  rw [h, hb, hl]
theorem Wm.pc (w : Wm L g r s fl ga tail ms H) (hi : i < 2) (hbr : (ms i).ra = some ⟨br, 0, none⟩) (hb : (ms i).q.ap = some ⟨bK, 0, none⟩) (hl : (ms i).q.r.ps.length = n) : H.cell? ⟨br, 0 + 2, none⟩ = some (.slice (some ⟨bK, 0, none⟩) n (ms i).q.cp) := by
  have h := w.cell hi hbr (j := 2) rfl
  rw [h, hb, hl]
theorem up_ne {C : Nat → Sm → Prop} {m : Sm} (h : ∀ j, j < 2 → j ≠ i → C j (ms j)) (h' : C i m) : ∀ j, j < 2 → C j (upM ms i m j) := fun j hj => by
  by_cases e : j = i
  · subst e; rw [upM_self]; exact h'
  · rw [upM_ne e]; exact h j hj e
theorem upM_two {m m' : Sm} : upM (upM ms i m) i m' = upM ms i m' := by
  funext j; unfold upM; split <;> rfl
end
theorem HLoad_four {H0 H1 H2 H3 : Heap} {a : Addr} {K : Value → Prop} {v : Value} (h0 : H0.cell? a = some v) (h1 : H1.cell? a = some v) (h2 : H2.cell? a = some v) (h3 : H3.cell? a = some v) (hk : K v) : HLoad [H0, H1, H2, H3] a K := ⟨v, fun Hx hx => by
  simp only [List.mem_cons, List.not_mem_nil, or_false] at hx
  rcases hx with rfl | rfl | rfl | rfl
  · exact h0
  · exact h1
  · exact h2
  · exact h3, hk⟩
theorem sl_cell {H : Heap} {ga i br n : Nat} {m : Sm} (h : H.cell? ⟨ga, 0 + i, none⟩ = some m.sl) (hbr : m.ra = some ⟨br, 0, none⟩) (hrn : m.rn = n) : H.cell? ⟨ga, 0 + i, none⟩ = some (.slice (some ⟨br, 0, none⟩) n m.rc) := by
  rw [h]; unfold Sm.sl; rw [hbr, hrn]
def mk2 (x y : Sm) : Nat → Sm
  | 0 => x
  | _ + 1 => y
structure A0 (P : (Nat → Sm) → Heap → Prop) (m : Nat) (vs : List Value) (H' : Heap) : Prop where
  ex : ∃ (i : Nat) (u : Nat → Nat) (ms : Nat → Sm), vs = [.int .i64 (i : Int)] ∧ m + i = 2 ∧ P ms H' ∧ (∀ j, j < i → 2 ≤ u j) ∧ ∀ j, j < 2 → Md (ms j).q j (u j) (u j) 0 0 ∧ Rst (ms j) j false
structure A0J (P : (Nat → Sm) → Heap → Prop) (vs : List Value) (H' : Heap) : Prop where
  ex : ∃ ms : Nat → Sm, vs = [] ∧ P ms H' ∧ ∀ j, j < 2 → Md (ms j).q j 2 2 0 0 ∧ Rst (ms j) j false
structure A1 (P : (Nat → Sm) → Heap → Prop) (i : Nat) (m : Nat) (vs : List Value) (H' : Heap) : Prop where
  ex : ∃ (k : Nat) (u : Nat → Nat) (ms : Nat → Sm), vs = [.int .i64 (k : Int)] ∧ m + k = 2 ∧ P ms H' ∧ (∀ j, j < i → 2 ≤ u j) ∧ u i = k ∧ ∀ j, j < 2 → Md (ms j).q j (u j) (u j) 0 0 ∧ Rst (ms j) j false
structure B0 (P : (Nat → Sm) → Heap → Prop) (m : Nat) (vs : List Value) (H' : Heap) : Prop where
  ex : ∃ (i : Nat) (e : Nat → Nat) (ms : Nat → Sm), vs = [.int .i64 (i : Int)] ∧ m + i = 2 ∧ P ms H' ∧ (∀ j, j < i → e j = 40) ∧ (∀ j, i ≤ j → e j = 0) ∧ ∀ j, j < 2 → Md (ms j).q j 2 2 (e j) (e j) ∧ Rst (ms j) j false
structure B0J (P : (Nat → Sm) → Heap → Prop) (vs : List Value) (H' : Heap) : Prop where
  ex : ∃ ms : Nat → Sm, vs = [] ∧ P ms H' ∧ ∀ j, j < 2 → Md (ms j).q j 2 2 40 40 ∧ Rst (ms j) j false
structure B1 (P : (Nat → Sm) → Heap → Prop) (i : Nat) (m : Nat) (vs : List Value) (H' : Heap) : Prop where
  ex : ∃ (k : Nat) (e : Nat → Nat) (ms : Nat → Sm), vs = [.int .i64 (k : Int)] ∧ m + k = 40 ∧ P ms H' ∧ (∀ j, j < i → e j = 40) ∧ e i = k ∧ (∀ j, i < j → e j = 0) ∧ ∀ j, j < 2 → Md (ms j).q j 2 2 (e j) (e j) ∧ Rst (ms j) j false
structure C0 (P : (Nat → Sm) → Heap → Prop) (m : Nat) (vs : List Value) (H' : Heap) : Prop where
  ex : ∃ (i : Nat) (d : Nat → Bool) (ms : Nat → Sm), vs = [.int .i64 (i : Int)] ∧ m + i = 2 ∧ P ms H' ∧ (∀ j, j < i → d j = true) ∧ (∀ j, i ≤ j → d j = false) ∧ ∀ j, j < 2 → Md (ms j).q j 2 2 40 40 ∧ Rst (ms j) j (d j)
structure C0J (P : (Nat → Sm) → Heap → Prop) (vs : List Value) (H' : Heap) : Prop where
  ex : ∃ ms : Nat → Sm, vs = [] ∧ P ms H' ∧ ∀ j, j < 2 → Md (ms j).q j 2 2 40 40 ∧ Rst (ms j) j true
structure D0i (P : Heap → Prop) (m : Nat) (vs : List Value) (H' : Heap) : Prop where
  ex : ∃ i : Nat, vs = [.int .i64 (i : Int)] ∧ m + i = 2 ∧ P H'
structure D0J (P : Heap → Prop) (vs : List Value) (H' : Heap) : Prop where
  ex : vs = [] ∧ P H'
structure D1i (P : Heap → Prop) (m : Nat) (vs : List Value) (H' : Heap) : Prop where
  ex : ∃ k : Nat, vs = [.int .i64 (k : Int)] ∧ m + k = 42 ∧ P H'
theorem tm_row (n i : Nat) (h : n + i < 256) : [Value.int .u8 (wr .u8 ((n + i : Nat) : Int))] = u8s (Tm n i) := by
  rw [wr_u8]
  show _ = [Value.int .u8 ((UInt8.ofNat (n + i)).toNat : Int)]
  rw [UInt8.toNat_ofNat']
  congr 2
def inR (q : Nat) : Rec := ⟨1, q * 65536, [([97], [49]), ([98], [50])], [[97], [98]]⟩
def fullR (q : Nat) : Rec := ⟨1, q * 65536, [([97], [49]), ([98], [50]), ([126, 50], [])], [[97], [98], [126, 49]]⟩
theorem in_good {q : Nat} (h1 : 1 ≤ q) (h2 : q ≤ 65536) : Good (inR q) := by
  have ris : Rising [[(97 : UInt8)], [98]] := by
    intro i a b ha hb
    match i, ha, hb with
    | 0, ha, hb => simp at ha hb; subst ha hb; decide
    | 1, ha, hb => simp at hb
    | (i + 2), ha, hb => simp at hb
  refine ⟨⟨by show 65536 ≤ q * 65536; omega, .inr ⟨rfl, ⟨?_, ris⟩, by simp [inR], ris, ?_⟩⟩, by show q * 65536 < _; omega, ?_⟩
  · refine ⟨by show 1 ≤ 2; decide, by show 2 ≤ 1024; decide, ?_⟩
    intro x hx
    simp [inR] at hx
    rcases hx with rfl | rfl <;> decide
  · intro p hp
    simp [inR] at hp
    rcases hp with rfl | rfl
    · exact ⟨by simp [inR], by decide⟩
    · exact ⟨by simp [inR], by decide⟩
  · have e := pay1 (r := inR q) rfl
    rw [e]
    simp only [List.length_append, num_length]
    have : (pairPieces (inR q).ps).flatten.length = 20 := by show (pairPieces [([97], [49]), ([98], [50])]).flatten.length = 20; decide
    have : (textsB (inR q).ks).length = 14 := by show (textsB [[97], [98]]).length = 14; decide
    omega
theorem seq_self (l : List UInt8) : seqB (bs l) ⟨l.toArray⟩ = true := by
  have h := seqB_bs l l
  rw [decide_eq_true rfl] at h
  exact h
theorem ne_off {b c : Nat} (h : b ≠ c) : Off [c] (some ⟨b, 0, none⟩) := off_notin fun x hx hx' => by
  have e1 : x = b := by simpa [blk] using hx
  have e2 : x = c := by simpa using hx'
  exact h (e1.symm.trans e2)
section
variable {H : Heap} {K : Value → Heap → Prop}
theorem walMemory_t {z : Int} (hz1 : -9223372036854775808 ≤ z) (hz2 : z ≤ 9223372036854775807) (hk : ∀ H', Upd [] H H' → K (.bool true) H') : HCalls Try.prog 4 [.int .i64 z] H K := by
  refine hcalls (fn := Try.f4) [(19, [(0, 0), (1, 0), (2, 0), (3, 0), (4, 0), (5, 0), (6, 0), (7, 0), (8, 0), (9, 0), (10, 0), (11, 0), (12, 0), (13, 0), (14, 0), (15, 0), (16, 0), (17, 0), (18, 0), (19, 0), (20, 0), (21, 0), (22, 0), (23, 0), (24, 0), (25, 0), (26, 0), (27, 0), (28, 0), (29, 0)]), (31, [(8, 0), (9, 0), (10, 0), (11, 0), (0, 1), (1, 1), (2, 1), (3, 1), (4, 1), (5, 1), (6, 1), (7, 1), (12, 0), (13, 0), (14, 0)]), (32, [(8, 0), (9, 0), (10, 0), (11, 0), (0, 1), (1, 1), (2, 1), (3, 1), (4, 1), (5, 1), (6, 1), (7, 1), (12, 0), (13, 0), (14, 0), (15, 0)]), (39, [(11, 0), (12, 0), (13, 0), (14, 0), (15, 0), (16, 0), (4, 2), (5, 2), (6, 2), (7, 2), (8, 2), (9, 2), (10, 2), (17, 0), (0, 3), (1, 3), (2, 3), (3, 3), (18, 0), (19, 0), (20, 0)]), (40, [(11, 0), (12, 0), (13, 0), (14, 0), (15, 0), (16, 0), (17, 0), (4, 2), (5, 2), (6, 2), (7, 2), (8, 2), (9, 2), (10, 2), (18, 0), (0, 3), (1, 3), (2, 3), (3, 3), (19, 0), (20, 0), (21, 0)]), (44, [(6, 0), (7, 0), (8, 0), (9, 1), (10, 1), (11, 0), (12, 0), (2, 3), (3, 3), (4, 3), (5, 3), (13, 0), (0, 4), (1, 4), (14, 0), (15, 0)]), (52, [(0, 0), (1, 0), (2, 0), (8, 0), (9, 0), (10, 0), (11, 0), (3, 1), (4, 1), (5, 1), (6, 1), (7, 1), (12, 0), (13, 0), (14, 0), (15, 0), (16, 0), (17, 0), (18, 0), (19, 0), (20, 0), (21, 0), (22, 0), (23, 0), (24, 0), (25, 0), (26, 0), (27, 0), (28, 0), (29, 0), (30, 0), (31, 0), (32, 0), (38, 0), (39, 0), (40, 0), (41, 0), (33, 1), (34, 1), (35, 1), (36, 1), (37, 1), (42, 0), (43, 0), (44, 0), (45, 0), (46, 0), (47, 0), (48, 0), (49, 0), (50, 0), (51, 0), (52, 0), (53, 0), (54, 0), (55, 0), (56, 0), (57, 0), (58, 0), (59, 0)]), (54, [(6, 0), (0, 1), (1, 1), (2, 1), (3, 1), (4, 1), (5, 1), (7, 0), (8, 0), (9, 0), (16, 0), (17, 0), (18, 0), (10, 1), (11, 1), (12, 1), (13, 1), (14, 1), (15, 1), (19, 0), (20, 0), (21, 0), (22, 0), (23, 0), (24, 0), (25, 0), (26, 0), (27, 0), (28, 0), (29, 0)]), (57, [(0, 0), (1, 0), (2, 0), (3, 0), (4, 0), (5, 0), (6, 0), (7, 0), (8, 0), (9, 0), (10, 0), (11, 0), (12, 0), (13, 0), (14, 0), (15, 0), (16, 0), (17, 0), (18, 0), (19, 0), (20, 0), (21, 0)])] mixed Try.func4 rfl rfl (by decide +kernel) ?_
  obtain ⟨q, hq, hq1, hq2⟩ : ∃ q : Nat, 1 + z % 65536 = (q : Int) ∧ 1 ≤ q ∧ q ≤ 65536 := ⟨(1 + z % 65536).toNat, by omega, by omega, by omega⟩
  have gR := in_good hq1 hq2
  have G9 : Good (commitR 9) := commit_good (by decide) (by decide)
  have ea : bitsS .and .i64 z 65535 = z % 65536 := and_mask z 16 (by decide)
  (repeat first | refine HReg.step ?_ | refine HCode.step ?_)
  refine HCall.mk ⟨Try.f7, Try.func7, by rfl, by rfl⟩ ?_
  refine alive_t fun H1 u1 => ?_
  (repeat first | refine HReg.step ?_ | refine HCode.step ?_)
  refine HCall.mk ⟨Try.f8, Try.func8, by rfl, by rfl⟩ ?_
  refine wnew_t fun g r H2 D2 u2 => ?_
  rw [one_zero lgN] at D2
  have w02 := u1.trans u2
  (repeat first | refine HReg.step ?_ | refine HCode.step ?_)
  refine HCall.mk ⟨Try.f13, Try.func13, by rfl, by rfl⟩ ?_
  refine open_w (n := lgN) D2 (by rw [one_readF rfl rfl]; exact Nat.zero_le _) (one_open_none rfl rfl) fun p3 a3 c3 qs3 fl3 H3 hq3 D3 u3 lg3 np3 R3 => ?_
  have hq3 : qs3 = [] := List.map_eq_nil_iff.1 hq3.symm
  subst hq3
  have S3 : Slots (offD H2 g r []) (dblk g r fl3) H3 [⟨86, 1, some ⟨p3, 0, none⟩, 3, 3, [.pointer (some ⟨g, 0, none⟩), .string lgN, .int .i64 ((0 : Nat) : Int)]⟩] :=
    Slots.adds (Slots.nil (Upd.refl _ _)) u3 (fun s hs => by rw [List.mem_singleton.1 hs]; exact lg3.row) (fun s hs b hb => by
      rw [List.mem_singleton.1 hs] at hb
      have e : b = p3 := by simpa [blk] using hb
      rw [e]; exact np3) (List.pairwise_singleton _ _)
  have live : ∀ {Hx : Heap}, DiskAt eH Hx g r (one d0 lgN none) fl3 → ∀ b ∈ dblk g r fl3, Hx b ≠ none := fun D => D.phys.live
  (repeat first | refine HReg.step ?_ | refine HCode.step ?_)
  rw [eqB_self 0]
  (repeat first | refine HReg.step ?_ | refine HCode.step ?_)
  rw [ea, wr_i64 (show -9223372036854775808 ≤ 1 + z % 65536 by omega) (by omega), hq]
  (repeat first | refine HReg.step ?_ | refine HCode.step ?_)
  refine HReq.mk (by decide) ?_
  (repeat first | refine HReg.step ?_ | refine HCode.step ?_)
  rw [shl16 (by omega)]
  refine HReq.mk (by decide) ?_
  (repeat first | refine HReg.step ?_ | refine HCode.step ?_)
  refine HNew.as (o' := .cells (txts (fullR q).ks).toArray 9) rfl fun bk hbk => ?_
  have mk : Made H3 (H3.upd bk (.cells (txts (fullR q).ks).toArray 9)) 9 1 (some ⟨bk, 0, none⟩) 3 3 (txts (fullR q).ks) := ⟨OwnRow.lit (upd_same _ _ _) rfl, Upd.new hbk _, fun q hq => by cases hq; exact hbk⟩
  generalize hH4 : H3.upd bk (.cells (txts (fullR q).ks).toArray 9) = H4 at mk
  have D4 := D3.upd0 mk.upd
  have S4 := S3.add mk (live D3)
  (repeat first | refine HReg.step ?_ | refine HCode.step ?_)
  refine HReq.mk (by decide) ?_
  (repeat first | refine HReg.step ?_ | refine HCode.step ?_)
  refine HNew.as (o' := .cells (pairsV (fullR q).ps).toArray 50) rfl fun bp hbp => ?_
  have mp : Made H4 (H4.upd bp (.cells (pairsV (fullR q).ps).toArray 50)) 50 2 (some ⟨bp, 0, none⟩) 3 3 (pairsV (fullR q).ps) := ⟨OwnRow.lit (upd_same _ _ _) rfl, Upd.new hbp _, fun q hq => by cases hq; exact hbp⟩
  generalize hH5 : H4.upd bp (.cells (pairsV (fullR q).ps).toArray 50) = H5 at mp
  have D5 := D4.upd0 mp.upd
  have S5 := S4.add mp (live D4)
  (repeat first | refine HReg.step ?_ | refine HCode.step ?_)
  refine HNew.mk fun b8 hb8 => ?_
  (repeat first | refine HReg.step ?_ | refine HCode.step ?_)
  refine store_rec (x := fullR q) (ap := some ⟨bp, 0, none⟩) (cp := 3) (ak := some ⟨bk, 0, none⟩) (ck := 3) (OwnRow.lit (upd_same _ _ _) rfl) rfl fun H6 o8 u8_ => ?_
  have v6 : Upd [] H5 H6 := Upd.drop (Upd.new hb8 _) u8_ (fun q hq => by rw [List.mem_singleton.1 hq]; exact hb8)
  (repeat first | refine HReg.step ?_ | refine HCode.step ?_)
  refine HLoadN_row o8.rows rfl ?_
  (repeat first | refine HReg.step ?_ | refine HCode.step ?_)
  refine HNew.mk fun b9 hb9 => ?_
  have v7 : Upd [] H6 (H6.upd b9 (.cells [Value.int .i64 0, .int .u64 0, .slice none 0 0, .slice none 0 0].toArray 28)) := Upd.new hb9 _
  have o9 : OwnRow (H6.upd b9 (.cells [Value.int .i64 0, .int .u64 0, .slice none 0 0, .slice none 0 0].toArray 28)) 28 1 (some ⟨b9, 0, none⟩) 4 4 [Value.int .i64 0, .int .u64 0, .slice none 0 0, .slice none 0 0] := OwnRow.lit (upd_same _ _ _) rfl
  generalize hH7 : H6.upd b9 (.cells [Value.int .i64 0, .int .u64 0, .slice none 0 0, .slice none 0 0].toArray 28) = H7 at v7 o9
  (repeat first | refine HReg.step ?_ | refine HCode.step ?_)
  refine store_rec (x := fullR q) (ap := some ⟨bp, 0, none⟩) (cp := 3) (ak := some ⟨bk, 0, none⟩) (ck := 3) o9 rfl fun H8 o9 u9 => ?_
  have ne89 : b8 ≠ b9 := fun e => by subst e; exact o8.there rfl hb9
  have o8 : OwnRow H8 28 1 (some ⟨b8, 0, none⟩) 4 4 (rcells (fullR q) (some ⟨bp, 0, none⟩) 3 (some ⟨bk, 0, none⟩) 3) := (o8.upd v7 (Off.nil _)).upd u9 (off_notin fun b hb hb' => by
    have e1 : b = b8 := by simpa [blk] using hb
    have e2 : b = b9 := by simpa using hb'
    exact ne89 (e1.symm.trans e2))
  have v8 : Upd [] H5 H8 := Upd.drop (v6.trans v7) u9 (fun q hq => by rw [List.mem_singleton.1 hq]; exact Upd.none (S := []) v6 (by simp) hb9)
  (repeat first | refine HReg.step ?_ | refine HCode.step ?_)
  refine HLoad.one (v := .slice (some ⟨bk, 0, none⟩) 3 3) (by exact o8.rows.get (i := 3) rfl) ?_
  (repeat first | refine HReg.step ?_ | refine HCode.step ?_)
  refine HReq.mk ⟨by decide, by decide⟩ ?_
  (repeat first | refine HReg.step ?_ | refine HCode.step ?_)
  refine store_row o9 (v := .slice (some ⟨bk, 0, none⟩) 2 3) rfl (i := 3) (by decide) (by rfl) fun H9 o9 u9' => ?_
  have o8 := o8.upd u9' (off_notin fun b hb hb' => by
    have e1 : b = b8 := by simpa [blk] using hb
    have e2 : b = b9 := by simpa using hb'
    exact ne89 (e1.symm.trans e2))
  (repeat first | refine HReg.step ?_ | refine HCode.step ?_)
  refine HLoad.one (v := .slice (some ⟨bp, 0, none⟩) 3 3) (by exact o8.rows.get (i := 2) rfl) ?_
  (repeat first | refine HReg.step ?_ | refine HCode.step ?_)
  refine HReq.mk ⟨by decide, by decide⟩ ?_
  (repeat first | refine HReg.step ?_ | refine HCode.step ?_)
  refine store_row o9 (v := .slice (some ⟨bp, 0, none⟩) 2 3) rfl (i := 2) (by decide) (by rfl) fun H10 o9 u9'' => ?_
  have o8 := o8.upd u9'' (off_notin fun b hb hb' => by
    have e1 : b = b8 := by simpa [blk] using hb
    have e2 : b = b9 := by simpa using hb'
    exact ne89 (e1.symm.trans e2))
  have nb9 : H5 b9 = none := Upd.none (S := []) v6 (by simp) hb9
  have v10 : Upd [] H5 H10 := Upd.drop v8 (u9'.trans u9'') (fun q hq => by rw [List.mem_singleton.1 hq]; exact nb9)
  change OwnRow H10 28 1 (some ⟨b9, 0, none⟩) 4 4 (rcells (inR q) (some ⟨bp, 0, none⟩) 3 (some ⟨bk, 0, none⟩) 3) at o9
  have D10 := D5.upd0 v10
  have n8 : b8 ∉ dblk g r fl3 := fun h => live D5 b8 h hb8
  have n9 : b9 ∉ dblk g r fl3 := fun h => live D5 b9 h nb9
  have S10 := S5.adds (less0 v10) (tt := [⟨28, 1, some ⟨b8, 0, none⟩, 4, 4, rcells (fullR q) (some ⟨bp, 0, none⟩) 3 (some ⟨bk, 0, none⟩) 3⟩, ⟨28, 1, some ⟨b9, 0, none⟩, 4, 4, rcells (inR q) (some ⟨bp, 0, none⟩) 3 (some ⟨bk, 0, none⟩) 3⟩]) (fun s hs => by
    simp only [List.mem_cons, List.not_mem_nil, or_false] at hs
    rcases hs with rfl | rfl
    · exact o8.less fun b hb => by
        have e : b = b8 := by simpa [blk] using hb
        rw [e]; exact n8
    · exact o9.less fun b hb => by
        have e : b = b9 := by simpa [blk] using hb
        rw [e]; exact n9) (fun s hs b hb => by
    simp only [List.mem_cons, List.not_mem_nil, or_false] at hs
    rcases hs with rfl | rfl
    · have e : b = b8 := by simpa [blk] using hb
      rw [e]; exact less_nn hb8
    · have e : b = b9 := by simpa [blk] using hb
      rw [e]; exact less_nn nb9) (List.Pairwise.cons (fun s hs => by
        rw [List.mem_singleton.1 hs]
        intro b hb hb'
        have e1 : b = b8 := by simpa [blk] using hb
        have e2 : b = b9 := by simpa [blk] using hb'
        exact ne89 (e1.symm.trans e2)) (List.pairwise_singleton _ _))
  clear S3 S4 S5 o8 o9 lg3
  simp only [List.cons_append, List.nil_append] at S10
  have inI : ∀ {Hx : Heap} {Bx : List Nat} {s0 : Slot} {tt : List Slot}, Slots (offD H2 g r []) Bx Hx (s0 :: ⟨9, 1, some ⟨bk, 0, none⟩, 3, 3, txts (fullR q).ks⟩ :: ⟨50, 2, some ⟨bp, 0, none⟩, 3, 3, pairsV (fullR q).ps⟩ :: tt) → RecIn (lessH Hx Bx) (inR q) (some ⟨bp, 0, none⟩) (some ⟨bk, 0, none⟩) := fun S =>
    ⟨(OwnRow.rows (S.less (s := ⟨50, 2, some ⟨bp, 0, none⟩, 3, 3, pairsV (fullR q).ps⟩) (by simp))).take 4, (OwnRow.rows (S.less (s := ⟨9, 1, some ⟨bk, 0, none⟩, 3, 3, txts (fullR q).ks⟩) (by simp))).take 2, by show 2 ≤ _; decide, by show 2 ≤ _; decide⟩
  (repeat first | refine HReg.step ?_ | refine HCode.step ?_)
  refine HLoadN_row (OwnRow.rows (S10.get (i := 4) rfl)) rfl ?_
  (repeat first | refine HReg.step ?_ | refine HCode.step ?_)
  refine HCall.mk ⟨Try.f10, Try.func10, by rfl, by rfl⟩ ?_
  refine own_t (RecIn.up (inI S10)) fun ap dp ak dk H11 O11 u11 => ?_
  have D11 := D10.upd0 u11
  have S11 := S10.adds (less0 u11) (tt := [⟨50, 2, ap, 2, dp, pairsV (inR q).ps⟩, ⟨9, 1, ak, 2, dk, txts (inR q).ks⟩]) (fun s hs => by
    simp only [List.mem_cons, List.not_mem_nil, or_false] at hs
    rcases hs with rfl | rfl
    · exact O11.p.less fun b hb h => live D10 b h (O11.pn b hb)
    · exact O11.k.less fun b hb h => live D10 b h (O11.kn b hb)) (fun s hs b hb => by
    simp only [List.mem_cons, List.not_mem_nil, or_false] at hs
    rcases hs with rfl | rfl
    · exact less_nn (O11.pn b hb)
    · exact less_nn (O11.kn b hb)) (List.Pairwise.cons (fun s hs => by
        rw [List.mem_singleton.1 hs]
        intro b hb hb'
        obtain ⟨p, hp, rfl⟩ := blk_of hb'
        exact (O11.p.offT O11.k (by decide)) p hp hb) (List.pairwise_singleton _ _))
  (repeat first | refine HReg.step ?_ | refine HCode.step ?_)
  refine HNew.mk fun b10 hb10 => ?_
  (repeat first | refine HReg.step ?_ | refine HCode.step ?_)
  refine store_rec (x := inR q) (ap := ap) (cp := dp) (ak := ak) (ck := dk) (OwnRow.lit (upd_same _ _ _) rfl) rfl fun H12 o12 u12 => ?_
  have m12 : Made H11 H12 28 1 (some ⟨b10, 0, none⟩) 4 4 (rcells (inR q) ap dp ak dk) := ⟨o12, Upd.drop (Upd.new hb10 _) u12 (fun q hq => by rw [List.mem_singleton.1 hq]; exact hb10), fun p hp => by cases hp; exact hb10⟩
  have D12 := D11.upd0 m12.upd
  have S12 := S11.add m12 (live D11)
  simp only [List.cons_append, List.nil_append] at S12
  clear S10 S11
  (repeat first | refine HReg.step ?_ | refine HCode.step ?_)
  refine HLoadN_row (OwnRow.rows (S12.get (i := 4) rfl)) rfl ?_
  (repeat first | refine HReg.step ?_ | refine HCode.step ?_)
  refine HCall.mk ⟨Try.f17, Try.func17, by rfl, by rfl⟩ ?_
  have lg12 : LogAt (offD H12 g r fl3) p3 g lgN 0 := ⟨S12.less List.mem_cons_self⟩
  refine appendL_w (x := inR q) D12 lg12 (inI S12) (fun y z h => by rw [one_call rfl, one_fs] at h; cases h) (by decide) (one_appendW (c := []) rfl rfl (by decide) lgN_ok gR rfl) fun fl13 H13 D13 u13 lg13 => ?_
  have S13 := S12.stepC (i := 0) rfl u13 (s' := ⟨86, 1, some ⟨p3, 0, none⟩, 3, 3, [.pointer (some ⟨g, 0, none⟩), .string lgN, .int .i64 ((0 + (frameR (pay (inR q))).length : Nat) : Int)]⟩) lg13.row rfl
  simp only [List.set] at S13
  have l1 : (frameR (pay (inR q))).length ≤ 1048584 := by have := gR.len; rw [frame_len]; omega
  rw [List.nil_append] at D13
  generalize hF1 : frameR (pay (inR q)) = F1 at D13 S13 l1
  have l9 : (frameR (pay (commitR 9))).length = 17 := commit_len 9
  generalize hF9 : frameR (pay (commitR 9)) = F9 at l9
  (repeat first | refine HReg.step ?_ | refine HCode.step ?_)
  rw [eqB_self 0]
  (repeat first | refine HReg.step ?_ | refine HCode.step ?_)
  refine HCall.mk ⟨Try.f12, Try.func12, by rfl, by rfl⟩ ?_
  refine commit_t (q := 9) (by decide) fun H14 u14 => ?_
  have D14 := D13.upd0 u14
  have S14 := S13.upd0 u14
  (repeat first | refine HReg.step ?_ | refine HCode.step ?_)
  refine HCall.mk ⟨Try.f17, Try.func17, by rfl, by rfl⟩ ?_
  have lg14 : LogAt (offD H14 g r fl13) p3 g lgN (0 + F1.length) := ⟨S14.less List.mem_cons_self⟩
  refine appendL_w (x := commitR 9) D14 lg14 ⟨RowAt.nil _ _, RowAt.nil _ _, Nat.zero_le _, Nat.zero_le _⟩ (fun y z h => by rw [one_call rfl, one_fs] at h; cases h; omega) (by omega) (one_appendW (c := F1) rfl rfl (by decide) lgN_ok G9 rfl) fun fl15 H15 D15 u15 lg15 => ?_
  have S15 := S14.stepC (i := 0) rfl u15 (s' := ⟨86, 1, some ⟨p3, 0, none⟩, 3, 3, [.pointer (some ⟨g, 0, none⟩), .string lgN, .int .i64 ((0 + F1.length + (frameR (pay (commitR 9))).length : Nat) : Int)]⟩) lg15.row rfl
  simp only [List.set] at S15
  rw [hF9] at D15
  have hsc : scanR (F1 ++ F9) = ([inR q, commitR 9], (F1 ++ F9).length) := by
    have := scan_two gR G9
    rw [hF1, hF9] at this; exact this
  have hFl : (F1 ++ F9).length ≤ 1048584 + 17 := by rw [List.length_append]; omega
  generalize hF : F1 ++ F9 = F at D15 hsc hFl
  obtain ⟨sD, hsD⟩ : ∃ s, s = one d0 lgN (some (F, F.length)) := ⟨_, rfl⟩
  rw [← hsD] at D15
  have hop : openW sD lgN = (0, ([inR q, commitR 9], F.length), sD) := by
    have h := one_open (d := d0) (n := lgN) (y := F.length) rfl rfl hsc (Nat.le_refl _) (Nat.le_refl _)
    rw [List.take_length, Nat.min_self] at h
    rw [hsD]; exact h
  have hrd : (sD.readF lgN).2.length ≤ 17592186044416 := by rw [hsD, one_readF rfl rfl]; show F.length ≤ _; omega
  clear S12 S13 S14 lg12 lg13 lg14 lg15 inI hsD
  (repeat first | refine HReg.step ?_ | refine HCode.step ?_)
  rw [eqB_self 0]
  (repeat first | refine HReg.step ?_ | refine HCode.step ?_)
  refine HLoadN_row (OwnRow.rows (S15.get (i := 4) rfl)) rfl ?_
  (repeat first | refine HReg.step ?_ | refine HCode.step ?_)
  refine HLoadN_row (OwnRow.rows (S15.get (i := 7) rfl)) rfl ?_
  (repeat first | refine HReg.step ?_ | refine HCode.step ?_)
  refine HCall.mk ⟨Try.f18, Try.func18, by rfl, by rfl⟩ ?_
  have wantI : ∀ {Hx : Heap} {Bx : List Nat} {s0 s1 s2 s3 s4 : Slot} {tt : List Slot}, Slots (offD H2 g r []) Bx Hx (s0 :: s1 :: s2 :: s3 :: s4 :: ⟨50, 2, ap, 2, dp, pairsV (inR q).ps⟩ :: ⟨9, 1, ak, 2, dk, txts (inR q).ks⟩ :: tt) → RecIn Hx (inR q) ap ak := fun S =>
    ⟨OwnRow.rows (S.get (i := 5) rfl), OwnRow.rows (S.get (i := 6) rfl), by show 2 ≤ _; decide, by show 2 ≤ _; decide⟩
  refine sameR_t (x := inR q) ⟨(OwnRow.rows (S15.get (i := 2) rfl)).take 4, (OwnRow.rows (S15.get (i := 1) rfl)).take 2, by show 2 ≤ _; decide, by show 2 ≤ _; decide⟩ (wantI S15) fun H16 u16 => ?_
  have D16 := D15.upd0 u16
  have S16 := S15.upd0 u16
  (repeat first | refine HReg.step ?_ | refine HCode.step ?_)
  refine HLoad.one (v := .slice (some ⟨bk, 0, none⟩) 3 3) (by exact (OwnRow.rows (S16.get (i := 3) rfl)).get (i := 3) rfl) ?_
  (repeat first | refine HReg.step ?_ | refine HCode.step ?_)
  refine HReq.mk ⟨by decide, by decide⟩ ?_
  (repeat first | refine HReg.step ?_ | refine HCode.step ?_)
  refine HLoad.one (v := .string (bs [126, 49])) (by exact (OwnRow.rows (S16.get (i := 1) rfl)).get (i := 2) rfl) ?_
  (repeat first | refine HReg.step ?_ | refine HCode.step ?_)
  rw [show seqB (bs [126, 49]) ⟨#[126, 49]⟩ = true from seq_self [126, 49]]
  (repeat first | refine HReg.step ?_ | refine HCode.step ?_)
  refine HLoad.one (v := .slice (some ⟨bp, 0, none⟩) 3 3) (by exact (OwnRow.rows (S16.get (i := 3) rfl)).get (i := 2) rfl) ?_
  (repeat first | refine HReg.step ?_ | refine HCode.step ?_)
  refine HReq.mk ⟨by decide, by decide⟩ ?_
  (repeat first | refine HReg.step ?_ | refine HCode.step ?_)
  refine HLoad.one (v := .string (bs [126, 50])) (by exact (OwnRow.rows (S16.get (i := 2) rfl)).get (i := 4) rfl) ?_
  (repeat first | refine HReg.step ?_ | refine HCode.step ?_)
  rw [show seqB (bs [126, 50]) ⟨#[126, 50]⟩ = true from seq_self [126, 50]]
  (repeat first | refine HReg.step ?_ | refine HCode.step ?_)
  refine HLoad.one (v := .slice (some ⟨bk, 0, none⟩) 2 3) (by exact (OwnRow.rows (S16.get (i := 4) rfl)).get (i := 3) rfl) ?_
  (repeat first | refine HReg.step ?_ | refine HCode.step ?_)
  refine HReq.mk ⟨by decide, by decide⟩ ?_
  (repeat first | refine HReg.step ?_ | refine HCode.step ?_)
  refine Wm.store D16 S16 (i := 1) rfl rfl rfl (k := 0) (by show 0 < 3; decide) (by rfl) fun H17 D17 S17 => ?_
  simp only [List.set] at S17
  (repeat first | refine HReg.step ?_ | refine HCode.step ?_)
  refine HLoad.one (v := .slice (some ⟨bp, 0, none⟩) 2 3) (by exact (OwnRow.rows (S17.get (i := 4) rfl)).get (i := 2) rfl) ?_
  (repeat first | refine HReg.step ?_ | refine HCode.step ?_)
  refine HReq.mk ⟨by decide, by decide⟩ ?_
  (repeat first | refine HReg.step ?_ | refine HCode.step ?_)
  refine Wm.store D17 S17 (i := 2) rfl rfl rfl (k := 3) (by show 3 < 6; decide) (by rfl) fun H18 D18 S18 => ?_
  simp only [List.set] at S18
  clear S15 S16 S17 D11 D12 D13 D14 D15 D16 D17
  (repeat first | refine HReg.step ?_ | refine HCode.step ?_)
  refine HCall.mk ⟨Try.f13, Try.func13, by rfl, by rfl⟩ ?_
  refine open_w (n := lgN) D18 hrd hop fun p19 aa ca qa fl19 H19 hqa D19 u19 lg19 np19 Ra => ?_
  obtain ⟨qa0, qa1, rfl, hqa0, hqa1⟩ := map_two hqa
  have S19 := S18.open_ u19 Ra
  (repeat first | refine HReg.step ?_ | refine HCode.step ?_)
  refine HCall.mk ⟨Try.f13, Try.func13, by rfl, by rfl⟩ ?_
  refine open_w (n := lgN) D19 hrd hop fun p20 ab cb qb fl20 H20 hqb D20 u20 lg20 np20 Rb => ?_
  obtain ⟨qb0, qb1, rfl, hqb0, hqb1⟩ := map_two hqb
  have S20 := S19.open_ u20 Rb
  have ra20 : Recs H20 aa [qa0, qa1] := (Ra.recs'.upd0 u20).upd0 (offD_up H20)
  have rb20 : Recs H20 ab [qb0, qb1] := Rb.recs'.upd0 (offD_up H20)
  obtain ⟨ga, rfl⟩ := (S20.get (i := 8) rfl).addr (show 0 < 2 by decide)
  obtain ⟨gb, rfl⟩ := (S20.get (i := 11) rfl).addr (show 0 < 2 by decide)
  (repeat first | refine HReg.step ?_ | refine HCode.step ?_)
  rw [eqB_self 0]
  (repeat first | refine HReg.step ?_ | refine HCode.step ?_)
  rw [eqB_self 0]
  (repeat first | refine HReg.step ?_ | refine HCode.step ?_)
  rw [show eqB ((([qa0, qa1] : List PRec).length : Nat) : Int) 2 = true from eqB_true.2 rfl]
  (repeat first | refine HReg.step ?_ | refine HCode.step ?_)
  rw [show eqB ((([qb0, qb1] : List PRec).length : Nat) : Int) 2 = true from eqB_true.2 rfl]
  (repeat first | refine HReg.step ?_ | refine HCode.step ?_)
  refine HReq.mk ⟨by decide, by show (0 : Int) < ((2 : Nat) : Int); decide⟩ ?_
  (repeat first | refine HReg.step ?_ | refine HCode.step ?_)
  refine HLoadN_rec (i := 0) ra20.row rfl ?_
  (repeat first | refine HReg.step ?_ | refine HCode.step ?_)
  refine HLoadN_row (OwnRow.rows (S20.get (i := 7) rfl)) rfl ?_
  (repeat first | refine HReg.step ?_ | refine HCode.step ?_)
  refine HCall.mk ⟨Try.f18, Try.func18, by rfl, by rfl⟩ ?_
  refine same_q hqa0 (ra20.each _ (by simp)) (wantI S20) fun H21 u21 => ?_
  (repeat first | refine HReg.step ?_ | refine HCode.step ?_)
  refine HCall.mk ⟨Try.f15, Try.func15, by rfl, by rfl⟩ ?_
  refine sameRs_t (ra20.upd0 u21) (rb20.upd0 u21) rfl rfl (by show (2 : Nat) ≤ _; decide) (by simp [hqa0, hqa1, hqb0, hqb1]) fun H22 u22 => ?_
  have D22 := D20.upd0 (u21.trans u22)
  have S22 := S20.upd0 (u21.trans u22)
  have ra22 := (ra20.upd0 u21).upd0 u22
  (repeat first | refine HReg.step ?_ | refine HCode.step ?_)
  refine HCall.mk ⟨Try.f13, Try.func13, by rfl, by rfl⟩ ?_
  refine open_w (n := lgN) D22 hrd hop fun p23 ac cc qc fl23 H23 hqc D23 u23 lg23 np23 Rc => ?_
  obtain ⟨qc0, qc1, rfl, hqc0, hqc1⟩ := map_two hqc
  have S23 := S22.open_ u23 Rc
  have ra23 : Recs H23 (some ⟨ga, 0, none⟩) [qa0, qa1] := (((Ra.recs'.upd0 u20).upd0 (less0 (B := dblk g r fl20) (u21.trans u22))).upd0 u23).upd0 (offD_up H23)
  have rc23 : Recs H23 ac [qc0, qc1] := Rc.recs'.upd0 (offD_up H23)
  (repeat first | refine HReg.step ?_ | refine HCode.step ?_)
  rw [eqB_self 0]
  (repeat first | refine HReg.step ?_ | refine HCode.step ?_)
  refine HCall.mk ⟨Try.f15, Try.func15, by rfl, by rfl⟩ ?_
  refine sameRs_t rc23 ra23 rfl rfl (by show (2 : Nat) ≤ _; decide) (by simp [hqa0, hqa1, hqc0, hqc1]) fun H24 u24 => ?_
  have D24 := D23.upd0 u24
  have S24 := S23.upd0 u24
  (repeat first | refine HReg.step ?_ | refine HCode.step ?_)
  refine HReq.mk (by decide) ?_
  (repeat first | refine HReg.step ?_ | refine HCode.step ?_)
  refine HNew.mk fun b25 hb25 => ?_
  have m25 : Made H24 (H24.upd b25 (.cells [Value.slice (some ⟨ga, 0, none⟩) 2 ca, .slice ac 2 cc].toArray 22)) 22 1 (some ⟨b25, 0, none⟩) 2 2 [Value.slice (some ⟨ga, 0, none⟩) 2 ca, .slice ac 2 cc] := ⟨OwnRow.lit (upd_same _ _ _) rfl, Upd.new hb25 _, fun p hp => by cases hp; exact hb25⟩
  have hH' : H24.upd b25 (.cells [Value.slice (some ⟨ga, 0, none⟩) [qa0, qa1].length ca, .slice ac [qc0, qc1].length cc].toArray 22) = H24.upd b25 (.cells [Value.slice (some ⟨ga, 0, none⟩) 2 ca, .slice ac 2 cc].toArray 22) := rfl
  rw [hH']
  generalize hH25 : H24.upd b25 (.cells [Value.slice (some ⟨ga, 0, none⟩) 2 ca, .slice ac 2 cc].toArray 22) = H25 at m25
  have D25 := D24.upd0 m25.upd
  have S25 := S24.add m25 D24.phys.live
  obtain ⟨tail, htail⟩ : ∃ tail : List Slot, tail = [⟨86, 1, some ⟨p3, 0, none⟩, 3, 3, [.pointer (some ⟨g, 0, none⟩), .string lgN, .int .i64 ((0 + F1.length + (frameR (pay (commitR 9))).length : Nat) : Int)]⟩,
      ⟨9, 1, some ⟨bk, 0, none⟩, 3, 3, (txts (fullR q).ks).set 0 (.string ⟨#[119]⟩)⟩, ⟨50, 2, some ⟨bp, 0, none⟩, 3, 3, (pairsV (fullR q).ps).set 3 (.string ⟨#[119]⟩)⟩,
      ⟨28, 1, some ⟨b8, 0, none⟩, 4, 4, rcells (fullR q) (some ⟨bp, 0, none⟩) 3 (some ⟨bk, 0, none⟩) 3⟩, ⟨28, 1, some ⟨b9, 0, none⟩, 4, 4, rcells (inR q) (some ⟨bp, 0, none⟩) 3 (some ⟨bk, 0, none⟩) 3⟩,
      ⟨50, 2, ap, 2, dp, pairsV (inR q).ps⟩, ⟨9, 1, ak, 2, dk, txts (inR q).ks⟩, ⟨28, 1, some ⟨b10, 0, none⟩, 4, 4, rcells (inR q) ap dp ak dk⟩] ++
      [⟨28, 4, some ⟨gb, 0, none⟩, 2, cb, qb0.cells ++ recsV [qb1]⟩, ⟨50, 2, qb0.ap, qb0.r.ps.length, qb0.cp, pairsV qb0.r.ps⟩, ⟨9, 1, qb0.ak, qb0.r.ks.length, qb0.ck, txts qb0.r.ks⟩] := ⟨_, rfl⟩
  have W0 : Wm (offD H2 g r []) g r sD fl23 b25 tail (mk2 ⟨qa0, some ⟨ga, 0, none⟩, 2, ca, recsV [qa1]⟩ ⟨qc0, ac, 2, cc, recsV [qc1]⟩) H25 := ⟨D25, by
    rw [htail]
    exact S25.perm (perm5 _ _ _ _ _)⟩
  clear S18 S19 S20 S22 S23 S24 S25 D18 D19 D20 D22 D23 D24 D25 Ra Rb Rc ra20 rb20 ra22 ra23 rc23
  have md0 : ∀ {x : PRec} (j : Nat), x.r = inR q → Md x j 0 0 0 0 := fun {x} j h =>
    ⟨by rw [h]; rfl, by rw [h]; rfl, fun y h1 _ => absurd h1 (Nat.not_lt_zero _), fun y h1 _ => absurd h1 (Nat.not_lt_zero _), fun y h1 h2 => by omega, fun y h1 h2 => by omega⟩
  have rs0 : ∀ {x : PRec} {y : Sm} (j : Nat), x.r = commitR 9 → y.rest = recsV [x] → y.rn = 2 → Rst y j false := fun {x y} j h1 h2 h3 => by
    obtain ⟨rx, px, cx, kx, dx⟩ := x
    have h1 : rx = commitR 9 := h1
    subst h1
    exact ⟨px, cx, kx, dx, h2, h3⟩
  have init : ∀ j, j < 2 → Md (mk2 ⟨qa0, some ⟨ga, 0, none⟩, 2, ca, recsV [qa1]⟩ ⟨qc0, ac, 2, cc, recsV [qc1]⟩ j).q j 0 0 0 0 ∧ Rst (mk2 ⟨qa0, some ⟨ga, 0, none⟩, 2, ca, recsV [qa1]⟩ ⟨qc0, ac, 2, cc, recsV [qc1]⟩ j) j false := fun j hj => by
    rcases lt2 hj with rfl | rfl
    · exact ⟨md0 0 hqa0, rs0 0 hqa1 rfl rfl⟩
    · exact ⟨md0 1 hqc0, rs0 1 hqc1 rfl rfl⟩
  generalize mk2 ⟨qa0, some ⟨ga, 0, none⟩, 2, ca, recsV [qa1]⟩ ⟨qc0, ac, 2, cc, recsV [qc1]⟩ = ms0 at W0 init
  generalize hP : (fun (ms : Nat → Sm) (Hx : Heap) => Wm (offD H2 g r []) g r sD fl23 b25 tail ms Hx) = P
  have W0' : P ms0 H25 := by rw [← hP]; exact W0
  ((repeat refine HReg.step ?_); first | (show HCode _ _ _ (Code.seq (Code.seq (Code.region _ _ _) (Code.block _ _)) _) _ _ _; refine hcutC (a := Code.seq (Code.region _ _ _) (Code.block _ _)) [21, 22, 167, 168, 169, 170, 171, 172, 173, 174, 175, 176, 177, 178, 179, 180, 181, 182, 183, 184, 185, 186, 187, 188, 189, 190, 191, 192, 193, 194, 195, 196, 197, 198, 199, 200, 201, 202, 203] [] (A0J P) rfl (by repeat' first | exact Resp.retD | exact Resp1.valuesK | refine Resp.blockD ?_ | refine Resp.thenD ?_ ?_ | refine Resp.hcode ?_) ?_ ?_) | (refine HCode.step ?_; (repeat refine HReg.step ?_); first | (show HCode _ _ _ (Code.seq (Code.seq (Code.region _ _ _) (Code.block _ _)) _) _ _ _; refine hcutC (a := Code.seq (Code.region _ _ _) (Code.block _ _)) [21, 22, 167, 168, 169, 170, 171, 172, 173, 174, 175, 176, 177, 178, 179, 180, 181, 182, 183, 184, 185, 186, 187, 188, 189, 190, 191, 192, 193, 194, 195, 196, 197, 198, 199, 200, 201, 202, 203] [] (A0J P) rfl (by repeat' first | exact Resp.retD | exact Resp1.valuesK | refine Resp.blockD ?_ | refine Resp.thenD ?_ ?_ | refine Resp.hcode ?_) ?_ ?_) | (refine HCode.step ?_; (repeat refine HReg.step ?_); first | (show HCode _ _ _ (Code.seq (Code.seq (Code.region _ _ _) (Code.block _ _)) _) _ _ _; refine hcutC (a := Code.seq (Code.region _ _ _) (Code.block _ _)) [21, 22, 167, 168, 169, 170, 171, 172, 173, 174, 175, 176, 177, 178, 179, 180, 181, 182, 183, 184, 185, 186, 187, 188, 189, 190, 191, 192, 193, 194, 195, 196, 197, 198, 199, 200, 201, 202, 203] [] (A0J P) rfl (by repeat' first | exact Resp.retD | exact Resp1.valuesK | refine Resp.blockD ?_ | refine Resp.thenD ?_ ?_ | refine Resp.hcode ?_) ?_ ?_) | (refine HCode.step ?_; (repeat refine HReg.step ?_); first | (show HCode _ _ _ (Code.seq (Code.seq (Code.region _ _ _) (Code.block _ _)) _) _ _ _; refine hcutC (a := Code.seq (Code.region _ _ _) (Code.block _ _)) [21, 22, 167, 168, 169, 170, 171, 172, 173, 174, 175, 176, 177, 178, 179, 180, 181, 182, 183, 184, 185, 186, 187, 188, 189, 190, 191, 192, 193, 194, 195, 196, 197, 198, 199, 200, 201, 202, 203] [] (A0J P) rfl (by repeat' first | exact Resp.retD | exact Resp1.valuesK | refine Resp.blockD ?_ | refine Resp.thenD ?_ ?_ | refine Resp.hcode ?_) ?_ ?_) | (refine HCode.step ?_; (repeat refine HReg.step ?_); first | (show HCode _ _ _ (Code.seq (Code.seq (Code.region _ _ _) (Code.block _ _)) _) _ _ _; refine hcutC (a := Code.seq (Code.region _ _ _) (Code.block _ _)) [21, 22, 167, 168, 169, 170, 171, 172, 173, 174, 175, 176, 177, 178, 179, 180, 181, 182, 183, 184, 185, 186, 187, 188, 189, 190, 191, 192, 193, 194, 195, 196, 197, 198, 199, 200, 201, 202, 203] [] (A0J P) rfl (by repeat' first | exact Resp.retD | exact Resp1.valuesK | refine Resp.blockD ?_ | refine Resp.thenD ?_ ?_ | refine Resp.hcode ?_) ?_ ?_) | (refine HCode.step ?_; (repeat refine HReg.step ?_); first | (show HCode _ _ _ (Code.seq (Code.seq (Code.region _ _ _) (Code.block _ _)) _) _ _ _; refine hcutC (a := Code.seq (Code.region _ _ _) (Code.block _ _)) [21, 22, 167, 168, 169, 170, 171, 172, 173, 174, 175, 176, 177, 178, 179, 180, 181, 182, 183, 184, 185, 186, 187, 188, 189, 190, 191, 192, 193, 194, 195, 196, 197, 198, 199, 200, 201, 202, 203] [] (A0J P) rfl (by repeat' first | exact Resp.retD | exact Resp1.valuesK | refine Resp.blockD ?_ | refine Resp.thenD ?_ ?_ | refine Resp.hcode ?_) ?_ ?_) | (refine HCode.step ?_; (repeat refine HReg.step ?_); first | (show HCode _ _ _ (Code.seq (Code.seq (Code.region _ _ _) (Code.block _ _)) _) _ _ _; refine hcutC (a := Code.seq (Code.region _ _ _) (Code.block _ _)) [21, 22, 167, 168, 169, 170, 171, 172, 173, 174, 175, 176, 177, 178, 179, 180, 181, 182, 183, 184, 185, 186, 187, 188, 189, 190, 191, 192, 193, 194, 195, 196, 197, 198, 199, 200, 201, 202, 203] [] (A0J P) rfl (by repeat' first | exact Resp.retD | exact Resp1.valuesK | refine Resp.blockD ?_ | refine Resp.thenD ?_ ?_ | refine Resp.hcode ?_) ?_ ?_) | (refine HCode.step ?_; (repeat refine HReg.step ?_); first | (show HCode _ _ _ (Code.seq (Code.seq (Code.region _ _ _) (Code.block _ _)) _) _ _ _; refine hcutC (a := Code.seq (Code.region _ _ _) (Code.block _ _)) [21, 22, 167, 168, 169, 170, 171, 172, 173, 174, 175, 176, 177, 178, 179, 180, 181, 182, 183, 184, 185, 186, 187, 188, 189, 190, 191, 192, 193, 194, 195, 196, 197, 198, 199, 200, 201, 202, 203] [] (A0J P) rfl (by repeat' first | exact Resp.retD | exact Resp1.valuesK | refine Resp.blockD ?_ | refine Resp.thenD ?_ ?_ | refine Resp.hcode ?_) ?_ ?_) | (refine HCode.step ?_; (repeat refine HReg.step ?_); first | (show HCode _ _ _ (Code.seq (Code.seq (Code.region _ _ _) (Code.block _ _)) _) _ _ _; refine hcutC (a := Code.seq (Code.region _ _ _) (Code.block _ _)) [21, 22, 167, 168, 169, 170, 171, 172, 173, 174, 175, 176, 177, 178, 179, 180, 181, 182, 183, 184, 185, 186, 187, 188, 189, 190, 191, 192, 193, 194, 195, 196, 197, 198, 199, 200, 201, 202, 203] [] (A0J P) rfl (by repeat' first | exact Resp.retD | exact Resp1.valuesK | refine Resp.blockD ?_ | refine Resp.thenD ?_ ?_ | refine Resp.hcode ?_) ?_ ?_) | (refine HCode.step ?_; (repeat refine HReg.step ?_); first | (show HCode _ _ _ (Code.seq (Code.seq (Code.region _ _ _) (Code.block _ _)) _) _ _ _; refine hcutC (a := Code.seq (Code.region _ _ _) (Code.block _ _)) [21, 22, 167, 168, 169, 170, 171, 172, 173, 174, 175, 176, 177, 178, 179, 180, 181, 182, 183, 184, 185, 186, 187, 188, 189, 190, 191, 192, 193, 194, 195, 196, 197, 198, 199, 200, 201, 202, 203] [] (A0J P) rfl (by repeat' first | exact Resp.retD | exact Resp1.valuesK | refine Resp.blockD ?_ | refine Resp.thenD ?_ ?_ | refine Resp.hcode ?_) ?_ ?_) | (refine HCode.step ?_; (repeat refine HReg.step ?_); first | (show HCode _ _ _ (Code.seq (Code.seq (Code.region _ _ _) (Code.block _ _)) _) _ _ _; refine hcutC (a := Code.seq (Code.region _ _ _) (Code.block _ _)) [21, 22, 167, 168, 169, 170, 171, 172, 173, 174, 175, 176, 177, 178, 179, 180, 181, 182, 183, 184, 185, 186, 187, 188, 189, 190, 191, 192, 193, 194, 195, 196, 197, 198, 199, 200, 201, 202, 203] [] (A0J P) rfl (by repeat' first | exact Resp.retD | exact Resp1.valuesK | refine Resp.blockD ?_ | refine Resp.thenD ?_ ?_ | refine Resp.hcode ?_) ?_ ?_) | (refine HCode.step ?_; (repeat refine HReg.step ?_); first | (show HCode _ _ _ (Code.seq (Code.seq (Code.region _ _ _) (Code.block _ _)) _) _ _ _; refine hcutC (a := Code.seq (Code.region _ _ _) (Code.block _ _)) [21, 22, 167, 168, 169, 170, 171, 172, 173, 174, 175, 176, 177, 178, 179, 180, 181, 182, 183, 184, 185, 186, 187, 188, 189, 190, 191, 192, 193, 194, 195, 196, 197, 198, 199, 200, 201, 202, 203] [] (A0J P) rfl (by repeat' first | exact Resp.retD | exact Resp1.valuesK | refine Resp.blockD ?_ | refine Resp.thenD ?_ ?_ | refine Resp.hcode ?_) ?_ ?_) | (refine HCode.step ?_; (repeat refine HReg.step ?_); first | (show HCode _ _ _ (Code.seq (Code.seq (Code.region _ _ _) (Code.block _ _)) _) _ _ _; refine hcutC (a := Code.seq (Code.region _ _ _) (Code.block _ _)) [21, 22, 167, 168, 169, 170, 171, 172, 173, 174, 175, 176, 177, 178, 179, 180, 181, 182, 183, 184, 185, 186, 187, 188, 189, 190, 191, 192, 193, 194, 195, 196, 197, 198, 199, 200, 201, 202, 203] [] (A0J P) rfl (by repeat' first | exact Resp.retD | exact Resp1.valuesK | refine Resp.blockD ?_ | refine Resp.thenD ?_ ?_ | refine Resp.hcode ?_) ?_ ?_) | (refine HCode.step ?_; (repeat refine HReg.step ?_); first | (show HCode _ _ _ (Code.seq (Code.seq (Code.region _ _ _) (Code.block _ _)) _) _ _ _; refine hcutC (a := Code.seq (Code.region _ _ _) (Code.block _ _)) [21, 22, 167, 168, 169, 170, 171, 172, 173, 174, 175, 176, 177, 178, 179, 180, 181, 182, 183, 184, 185, 186, 187, 188, 189, 190, 191, 192, 193, 194, 195, 196, 197, 198, 199, 200, 201, 202, 203] [] (A0J P) rfl (by repeat' first | exact Resp.retD | exact Resp1.valuesK | refine Resp.blockD ?_ | refine Resp.thenD ?_ ?_ | refine Resp.hcode ?_) ?_ ?_) | (refine HCode.step ?_; (repeat refine HReg.step ?_); first | (show HCode _ _ _ (Code.seq (Code.seq (Code.region _ _ _) (Code.block _ _)) _) _ _ _; refine hcutC (a := Code.seq (Code.region _ _ _) (Code.block _ _)) [21, 22, 167, 168, 169, 170, 171, 172, 173, 174, 175, 176, 177, 178, 179, 180, 181, 182, 183, 184, 185, 186, 187, 188, 189, 190, 191, 192, 193, 194, 195, 196, 197, 198, 199, 200, 201, 202, 203] [] (A0J P) rfl (by repeat' first | exact Resp.retD | exact Resp1.valuesK | refine Resp.blockD ?_ | refine Resp.thenD ?_ ?_ | refine Resp.hcode ?_) ?_ ?_) | (refine HCode.step ?_; (repeat refine HReg.step ?_); first | (show HCode _ _ _ (Code.seq (Code.seq (Code.region _ _ _) (Code.block _ _)) _) _ _ _; refine hcutC (a := Code.seq (Code.region _ _ _) (Code.block _ _)) [21, 22, 167, 168, 169, 170, 171, 172, 173, 174, 175, 176, 177, 178, 179, 180, 181, 182, 183, 184, 185, 186, 187, 188, 189, 190, 191, 192, 193, 194, 195, 196, 197, 198, 199, 200, 201, 202, 203] [] (A0J P) rfl (by repeat' first | exact Resp.retD | exact Resp1.valuesK | refine Resp.blockD ?_ | refine Resp.thenD ?_ ?_ | refine Resp.hcode ?_) ?_ ?_) | (refine HCode.step ?_; (repeat refine HReg.step ?_); first | (show HCode _ _ _ (Code.seq (Code.seq (Code.region _ _ _) (Code.block _ _)) _) _ _ _; refine hcutC (a := Code.seq (Code.region _ _ _) (Code.block _ _)) [21, 22, 167, 168, 169, 170, 171, 172, 173, 174, 175, 176, 177, 178, 179, 180, 181, 182, 183, 184, 185, 186, 187, 188, 189, 190, 191, 192, 193, 194, 195, 196, 197, 198, 199, 200, 201, 202, 203] [] (A0J P) rfl (by repeat' first | exact Resp.retD | exact Resp1.valuesK | refine Resp.blockD ?_ | refine Resp.thenD ?_ ?_ | refine Resp.hcode ?_) ?_ ?_) | (refine HCode.step ?_; (repeat refine HReg.step ?_); first | (show HCode _ _ _ (Code.seq (Code.seq (Code.region _ _ _) (Code.block _ _)) _) _ _ _; refine hcutC (a := Code.seq (Code.region _ _ _) (Code.block _ _)) [21, 22, 167, 168, 169, 170, 171, 172, 173, 174, 175, 176, 177, 178, 179, 180, 181, 182, 183, 184, 185, 186, 187, 188, 189, 190, 191, 192, 193, 194, 195, 196, 197, 198, 199, 200, 201, 202, 203] [] (A0J P) rfl (by repeat' first | exact Resp.retD | exact Resp1.valuesK | refine Resp.blockD ?_ | refine Resp.thenD ?_ ?_ | refine Resp.hcode ?_) ?_ ?_) | (refine HCode.step ?_; (repeat refine HReg.step ?_); first | (show HCode _ _ _ (Code.seq (Code.seq (Code.region _ _ _) (Code.block _ _)) _) _ _ _; refine hcutC (a := Code.seq (Code.region _ _ _) (Code.block _ _)) [21, 22, 167, 168, 169, 170, 171, 172, 173, 174, 175, 176, 177, 178, 179, 180, 181, 182, 183, 184, 185, 186, 187, 188, 189, 190, 191, 192, 193, 194, 195, 196, 197, 198, 199, 200, 201, 202, 203] [] (A0J P) rfl (by repeat' first | exact Resp.retD | exact Resp1.valuesK | refine Resp.blockD ?_ | refine Resp.thenD ?_ ?_ | refine Resp.hcode ?_) ?_ ?_) | (refine HCode.step ?_; (repeat refine HReg.step ?_); first | (show HCode _ _ _ (Code.seq (Code.seq (Code.region _ _ _) (Code.block _ _)) _) _ _ _; refine hcutC (a := Code.seq (Code.region _ _ _) (Code.block _ _)) [21, 22, 167, 168, 169, 170, 171, 172, 173, 174, 175, 176, 177, 178, 179, 180, 181, 182, 183, 184, 185, 186, 187, 188, 189, 190, 191, 192, 193, 194, 195, 196, 197, 198, 199, 200, 201, 202, 203] [] (A0J P) rfl (by repeat' first | exact Resp.retD | exact Resp1.valuesK | refine Resp.blockD ?_ | refine Resp.thenD ?_ ?_ | refine Resp.hcode ?_) ?_ ?_) | (refine HCode.step ?_; (repeat refine HReg.step ?_); (show HCode _ _ _ (Code.seq (Code.seq (Code.region _ _ _) (Code.block _ _)) _) _ _ _; refine hcutC (a := Code.seq (Code.region _ _ _) (Code.block _ _)) [21, 22, 167, 168, 169, 170, 171, 172, 173, 174, 175, 176, 177, 178, 179, 180, 181, 182, 183, 184, 185, 186, 187, 188, 189, 190, 191, 192, 193, 194, 195, 196, 197, 198, 199, 200, 201, 202, 203] [] (A0J P) rfl (by repeat' first | exact Resp.retD | exact Resp1.valuesK | refine Resp.blockD ?_ | refine Resp.thenD ?_ ?_ | refine Resp.hcode ?_) ?_ ?_))))))))))))))))))))))
  · (repeat first | refine HReg.step ?_ | refine HCode.step ?_)
    refine hloopC [21, 22, 167, 168, 169, 170, 171, 172, 173, 174, 175, 176, 177, 178, 179, 180, 181, 182, 183, 184, 185, 186, 187, 188, 189, 190, 191, 192, 193, 194, 195, 196, 197, 198, 199, 200, 201, 202, 203] [21] (A0 P) rfl (by repeat' first | exact Resp.retD | exact Resp1.valuesK | refine Resp.blockD ?_ | refine Resp.thenD ?_ ?_ | refine Resp.hcode ?_) ?_ ?_
    · exact ⟨2, A0.mk ⟨0, fun _ => 0, ms0, rfl, rfl, W0', fun j hj => absurd hj (Nat.not_lt_zero _), init⟩⟩
    rintro m _ fe H26 ⟨i, u, ms, rfl, hmi, w, hu, hm⟩
    have wi : wr .i64 ((i : Int) + 1) = ((i + 1 : Nat) : Int) := by rw [wr_i64 (by omega) (by omega)]; omega
    (repeat first | refine HReg.step ?_ | refine HCode.step ?_)
    refine hif (fun h1 => ?_) (fun h1 => ?_)
    · have h1 := ltB_true.1 h1
      have hi2 : i < 2 := by omega
      (repeat first | refine HReg.step ?_ | refine HCode.step ?_)
      refine hloopC [22, 171, 172, 173, 174, 175, 176, 177, 178, 179, 180, 181, 182, 183, 184, 185, 186, 187, 188, 189, 190, 191, 192, 193, 194, 195, 196, 197, 198, 199, 200, 201, 202, 203] [22] (A1 P i) rfl (by repeat' first | exact Resp.retD | exact Resp1.valuesK | refine Resp.blockD ?_ | refine Resp.thenD ?_ ?_ | refine Resp.hcode ?_) ?_ ?_
      · refine ⟨2, A1.mk ⟨0, fun j => if j = i then 0 else u j, ms, rfl, rfl, w, fun j hj => ?_, if_pos rfl, fun j hj => ⟨?_, (hm j hj).2⟩⟩⟩
        · show 2 ≤ if j = i then 0 else u j
          rw [if_neg (by omega)]; exact hu j hj
        · show Md (ms j).q j (if j = i then 0 else u j) (if j = i then 0 else u j) 0 0
          split
          · exact (hm j hj).1.less (Nat.zero_le _) (Nat.zero_le _)
          · exact (hm j hj).1
      rintro m2 _ fe2 H27 ⟨k, u, ms, rfl, hmk, w, hu, huk, hm⟩
      have wk : wr .i64 ((k : Int) + 1) = ((k + 1 : Nat) : Int) := by rw [wr_i64 (by omega) (by omega)]; omega
      (repeat first | refine HReg.step ?_ | refine HCode.step ?_)
      refine hif (fun h2 => ?_) (fun h2 => ?_)
      · have h2 := ltB_true.1 h2
        have hk2 : k < 2 := by omega
        rw [← hP] at w
        obtain ⟨dm, dr⟩ := hm i hi2
        have lks := dm.lk
        have lps := dm.lp
        have hrn := dr.rn
        obtain ⟨br, hbr⟩ := (w.row hi2).addr (by rw [hrn]; decide)
        obtain ⟨bK, hbK⟩ := (w.keys hi2).addr (by omega)
        obtain ⟨bP, hbP⟩ := (w.pairs hi2).addr (by omega)
        have w33 : wr .i64 (33 + (i : Int)) = ((33 + i : Nat) : Int) := by rw [wr_i64 (by omega) (by omega)]; omega
        (repeat first | refine HReg.step ?_ | refine HCode.step ?_)
        refine HReq.mk (by decide) ?_
        (repeat first | refine HReg.step ?_ | refine HCode.step ?_)
        rw [w33]
        refine HNew.as (o' := .cells (u8s (Tm 33 i)).toArray 5) (by rw [tm_row 33 i (by omega)]) fun b28 hb28 => ?_
        have v28 : Upd [] H27 (H27.upd b28 (.cells (u8s (Tm 33 i)).toArray 5)) := Upd.new hb28 _
        have r28 : RowAt (H27.upd b28 (.cells (u8s (Tm 33 i)).toArray 5)) (some ⟨b28, 0, none⟩) (u8s (Tm 33 i)) := RowAt.of_cells (upd_same _ _ _)
        generalize hH28 : H27.upd b28 (.cells (u8s (Tm 33 i)).toArray 5) = H28 at v28 r28
        have w28 := w.upd0 v28
        (repeat first | refine HReg.step ?_ | refine HCode.step ?_)
        refine HReq.mk ⟨by omega, by omega⟩ ?_
        (repeat first | refine HReg.step ?_ | refine HCode.step ?_)
        refine HLoad_two (w28.sl' hi2 hbr hrn) (w.sl' hi2 hbr hrn) ?_
        (repeat first | refine HReg.step ?_ | refine HCode.step ?_)
        refine HReq.mk ⟨by decide, by decide⟩ ?_
        (repeat first | refine HReg.step ?_ | refine HCode.step ?_)
        refine HLoad_two (w28.kc hi2 hbr hbK lks) (w.kc hi2 hbr hbK lks) ?_
        (repeat first | refine HReg.step ?_ | refine HCode.step ?_)
        refine HBytes.row (Tm 33 i) rfl (fun Hx hx => by
          rw [List.mem_singleton.1 hx]; exact r28) ?_ (by simp)
        (repeat first | refine HReg.step ?_ | refine HCode.step ?_)
        refine HReq.mk ⟨by omega, by omega⟩ ?_
        (repeat first | refine HReg.step ?_ | refine HCode.step ?_)
        refine w28.storeK hi2 hbK (by omega) (Nat.zero_add k) fun H29 w29 => ?_
        have dm1 := dm.setK (m := ms i) (by omega)
        rw [huk] at dm1
        obtain ⟨m1, hm1⟩ : ∃ m1, m1 = (ms i).setK k (Tm 33 i) := ⟨_, rfl⟩
        rw [← hm1] at w29 dm1
        have e1 : upM ms i m1 i = m1 := upM_self _ _ _
        have hbr1 : (upM ms i m1 i).ra = some ⟨br, 0, none⟩ := by rw [e1, hm1]; exact hbr
        have hrn1 : (upM ms i m1 i).rn = 2 := by rw [e1, hm1]; exact hrn
        have hbP1 : (upM ms i m1 i).q.ap = some ⟨bP, 0, none⟩ := by rw [e1, hm1]; exact hbP
        have lps1 : (upM ms i m1 i).q.r.ps.length = 2 := by rw [e1]; exact dm1.lp
        have hp1 : (upM ms i m1 i).q.r.ps[k]? = some ((upM ms i m1 i).q.r.ps[k]'(by omega)) := List.getElem?_eq_getElem _
        generalize (upM ms i m1 i).q.r.ps[k]'(by omega) = pk at hp1
        (repeat first | refine HReg.step ?_ | refine HCode.step ?_)
        refine HReq.mk (by decide) ?_
        (repeat first | refine HReg.step ?_ | refine HCode.step ?_)
        rw [w33]
        refine HNew.as (o' := .cells (u8s (Tm 33 i)).toArray 5) (by rw [tm_row 33 i (by omega)]) fun b30 hb30 => ?_
        have v30 : Upd [] H29 (H29.upd b30 (.cells (u8s (Tm 33 i)).toArray 5)) := Upd.new hb30 _
        have r30 : RowAt (H29.upd b30 (.cells (u8s (Tm 33 i)).toArray 5)) (some ⟨b30, 0, none⟩) (u8s (Tm 33 i)) := RowAt.of_cells (upd_same _ _ _)
        generalize hH30 : H29.upd b30 (.cells (u8s (Tm 33 i)).toArray 5) = H30 at v30 r30
        have w30 := w29.upd0 v30
        (repeat first | refine HReg.step ?_ | refine HCode.step ?_)
        refine HReq.mk ⟨by omega, by omega⟩ ?_
        (repeat first | refine HReg.step ?_ | refine HCode.step ?_)
        refine HLoad_two (w30.sl' hi2 hbr1 hrn1) (w29.sl' hi2 hbr1 hrn1) ?_
        (repeat first | refine HReg.step ?_ | refine HCode.step ?_)
        refine HReq.mk ⟨by decide, by decide⟩ ?_
        (repeat first | refine HReg.step ?_ | refine HCode.step ?_)
        refine HLoad_two (w30.pc hi2 hbr1 hbP1 lps1) (w29.pc hi2 hbr1 hbP1 lps1) ?_
        (repeat first | refine HReg.step ?_ | refine HCode.step ?_)
        refine HBytes.row (Tm 33 i) rfl (fun Hx hx => by
          rw [List.mem_singleton.1 hx]; exact r30) ?_ (by simp)
        (repeat first | refine HReg.step ?_ | refine HCode.step ?_)
        refine HReq.mk ⟨by omega, by omega⟩ ?_
        (repeat first | refine HReg.step ?_ | refine HCode.step ?_)
        refine w30.storeV hi2 hbP1 hp1 (by
          show 0 + offMul (Int.toNat (k : Int)) 2 + 1 = k * 2 + 1
          rw [offMul_eq, Int.toNat_natCast]; omega) fun H31 w31 => ?_
        (repeat first | refine HReg.step ?_ | refine HCode.step ?_)
        rw [wk]
        refine ⟨m2 - 1, by omega, A1.mk ⟨k + 1, fun j => if j = i then k + 1 else u j, _, rfl, by omega, by rw [← hP]; exact w31, fun j hj => ?_, if_pos rfl, ?_⟩⟩
        · show 2 ≤ if j = i then k + 1 else u j
          rw [if_neg (by omega)]; exact hu j hj
        · rw [upM_two]
          refine up_ne (C := fun j m => Md m.q j (if j = i then k + 1 else u j) (if j = i then k + 1 else u j) 0 0 ∧ Rst m j false) (fun j hj hne => ?_) ?_
          · rw [if_neg hne]; exact hm j hj
          · rw [if_pos rfl, e1]
            refine ⟨dm1.setP hk2, ?_⟩
            rw [hm1]; exact dr
      · have h2 := ltB_false.1 h2
        (repeat first | refine HReg.step ?_ | refine HCode.step ?_)
        rw [wi]
        refine ⟨m - 1, by omega, A0.mk ⟨i + 1, u, ms, rfl, by omega, w, fun j hj => ?_, hm⟩⟩
        by_cases e : j = i
        · rw [e, huk]; omega
        · exact hu j (by omega)
    · have h1 := ltB_false.1 h1
      (repeat first | refine HReg.step ?_ | refine HCode.step ?_)
      obtain rfl : i = 2 := by omega
      exact A0J.mk ⟨ms, rfl, w, fun j hj => ⟨(hm j hj).1.less (hu j hj) (hu j hj), (hm j hj).2⟩⟩
  rintro _ fe1 H26 ⟨ms, rfl, w, hm⟩
  ((repeat refine HReg.step ?_); first | (show HCode _ _ _ (Code.seq (Code.seq (Code.region _ _ _) (Code.block _ _)) _) _ _ _; refine hcutC (a := Code.seq (Code.region _ _ _) (Code.block _ _)) [23, 24, 204, 205, 206, 207, 208, 209, 210, 211, 212, 213, 214, 215, 216, 217, 218, 219, 220, 221, 222, 223, 224, 225, 226, 227, 228, 229, 230, 231, 232, 233, 234, 235, 236, 237, 238, 239, 240, 241, 242, 243, 244, 245, 246, 247, 248, 249, 250, 251, 252] [] (B0J P) rfl (by repeat' first | exact Resp.retD | exact Resp1.valuesK | refine Resp.blockD ?_ | refine Resp.thenD ?_ ?_ | refine Resp.hcode ?_) ?_ ?_) | (refine HCode.step ?_; (repeat refine HReg.step ?_); first | (show HCode _ _ _ (Code.seq (Code.seq (Code.region _ _ _) (Code.block _ _)) _) _ _ _; refine hcutC (a := Code.seq (Code.region _ _ _) (Code.block _ _)) [23, 24, 204, 205, 206, 207, 208, 209, 210, 211, 212, 213, 214, 215, 216, 217, 218, 219, 220, 221, 222, 223, 224, 225, 226, 227, 228, 229, 230, 231, 232, 233, 234, 235, 236, 237, 238, 239, 240, 241, 242, 243, 244, 245, 246, 247, 248, 249, 250, 251, 252] [] (B0J P) rfl (by repeat' first | exact Resp.retD | exact Resp1.valuesK | refine Resp.blockD ?_ | refine Resp.thenD ?_ ?_ | refine Resp.hcode ?_) ?_ ?_) | (refine HCode.step ?_; (repeat refine HReg.step ?_); first | (show HCode _ _ _ (Code.seq (Code.seq (Code.region _ _ _) (Code.block _ _)) _) _ _ _; refine hcutC (a := Code.seq (Code.region _ _ _) (Code.block _ _)) [23, 24, 204, 205, 206, 207, 208, 209, 210, 211, 212, 213, 214, 215, 216, 217, 218, 219, 220, 221, 222, 223, 224, 225, 226, 227, 228, 229, 230, 231, 232, 233, 234, 235, 236, 237, 238, 239, 240, 241, 242, 243, 244, 245, 246, 247, 248, 249, 250, 251, 252] [] (B0J P) rfl (by repeat' first | exact Resp.retD | exact Resp1.valuesK | refine Resp.blockD ?_ | refine Resp.thenD ?_ ?_ | refine Resp.hcode ?_) ?_ ?_) | (refine HCode.step ?_; (repeat refine HReg.step ?_); first | (show HCode _ _ _ (Code.seq (Code.seq (Code.region _ _ _) (Code.block _ _)) _) _ _ _; refine hcutC (a := Code.seq (Code.region _ _ _) (Code.block _ _)) [23, 24, 204, 205, 206, 207, 208, 209, 210, 211, 212, 213, 214, 215, 216, 217, 218, 219, 220, 221, 222, 223, 224, 225, 226, 227, 228, 229, 230, 231, 232, 233, 234, 235, 236, 237, 238, 239, 240, 241, 242, 243, 244, 245, 246, 247, 248, 249, 250, 251, 252] [] (B0J P) rfl (by repeat' first | exact Resp.retD | exact Resp1.valuesK | refine Resp.blockD ?_ | refine Resp.thenD ?_ ?_ | refine Resp.hcode ?_) ?_ ?_) | (refine HCode.step ?_; (repeat refine HReg.step ?_); first | (show HCode _ _ _ (Code.seq (Code.seq (Code.region _ _ _) (Code.block _ _)) _) _ _ _; refine hcutC (a := Code.seq (Code.region _ _ _) (Code.block _ _)) [23, 24, 204, 205, 206, 207, 208, 209, 210, 211, 212, 213, 214, 215, 216, 217, 218, 219, 220, 221, 222, 223, 224, 225, 226, 227, 228, 229, 230, 231, 232, 233, 234, 235, 236, 237, 238, 239, 240, 241, 242, 243, 244, 245, 246, 247, 248, 249, 250, 251, 252] [] (B0J P) rfl (by repeat' first | exact Resp.retD | exact Resp1.valuesK | refine Resp.blockD ?_ | refine Resp.thenD ?_ ?_ | refine Resp.hcode ?_) ?_ ?_) | (refine HCode.step ?_; (repeat refine HReg.step ?_); first | (show HCode _ _ _ (Code.seq (Code.seq (Code.region _ _ _) (Code.block _ _)) _) _ _ _; refine hcutC (a := Code.seq (Code.region _ _ _) (Code.block _ _)) [23, 24, 204, 205, 206, 207, 208, 209, 210, 211, 212, 213, 214, 215, 216, 217, 218, 219, 220, 221, 222, 223, 224, 225, 226, 227, 228, 229, 230, 231, 232, 233, 234, 235, 236, 237, 238, 239, 240, 241, 242, 243, 244, 245, 246, 247, 248, 249, 250, 251, 252] [] (B0J P) rfl (by repeat' first | exact Resp.retD | exact Resp1.valuesK | refine Resp.blockD ?_ | refine Resp.thenD ?_ ?_ | refine Resp.hcode ?_) ?_ ?_) | (refine HCode.step ?_; (repeat refine HReg.step ?_); first | (show HCode _ _ _ (Code.seq (Code.seq (Code.region _ _ _) (Code.block _ _)) _) _ _ _; refine hcutC (a := Code.seq (Code.region _ _ _) (Code.block _ _)) [23, 24, 204, 205, 206, 207, 208, 209, 210, 211, 212, 213, 214, 215, 216, 217, 218, 219, 220, 221, 222, 223, 224, 225, 226, 227, 228, 229, 230, 231, 232, 233, 234, 235, 236, 237, 238, 239, 240, 241, 242, 243, 244, 245, 246, 247, 248, 249, 250, 251, 252] [] (B0J P) rfl (by repeat' first | exact Resp.retD | exact Resp1.valuesK | refine Resp.blockD ?_ | refine Resp.thenD ?_ ?_ | refine Resp.hcode ?_) ?_ ?_) | (refine HCode.step ?_; (repeat refine HReg.step ?_); first | (show HCode _ _ _ (Code.seq (Code.seq (Code.region _ _ _) (Code.block _ _)) _) _ _ _; refine hcutC (a := Code.seq (Code.region _ _ _) (Code.block _ _)) [23, 24, 204, 205, 206, 207, 208, 209, 210, 211, 212, 213, 214, 215, 216, 217, 218, 219, 220, 221, 222, 223, 224, 225, 226, 227, 228, 229, 230, 231, 232, 233, 234, 235, 236, 237, 238, 239, 240, 241, 242, 243, 244, 245, 246, 247, 248, 249, 250, 251, 252] [] (B0J P) rfl (by repeat' first | exact Resp.retD | exact Resp1.valuesK | refine Resp.blockD ?_ | refine Resp.thenD ?_ ?_ | refine Resp.hcode ?_) ?_ ?_) | (refine HCode.step ?_; (repeat refine HReg.step ?_); first | (show HCode _ _ _ (Code.seq (Code.seq (Code.region _ _ _) (Code.block _ _)) _) _ _ _; refine hcutC (a := Code.seq (Code.region _ _ _) (Code.block _ _)) [23, 24, 204, 205, 206, 207, 208, 209, 210, 211, 212, 213, 214, 215, 216, 217, 218, 219, 220, 221, 222, 223, 224, 225, 226, 227, 228, 229, 230, 231, 232, 233, 234, 235, 236, 237, 238, 239, 240, 241, 242, 243, 244, 245, 246, 247, 248, 249, 250, 251, 252] [] (B0J P) rfl (by repeat' first | exact Resp.retD | exact Resp1.valuesK | refine Resp.blockD ?_ | refine Resp.thenD ?_ ?_ | refine Resp.hcode ?_) ?_ ?_) | (refine HCode.step ?_; (repeat refine HReg.step ?_); first | (show HCode _ _ _ (Code.seq (Code.seq (Code.region _ _ _) (Code.block _ _)) _) _ _ _; refine hcutC (a := Code.seq (Code.region _ _ _) (Code.block _ _)) [23, 24, 204, 205, 206, 207, 208, 209, 210, 211, 212, 213, 214, 215, 216, 217, 218, 219, 220, 221, 222, 223, 224, 225, 226, 227, 228, 229, 230, 231, 232, 233, 234, 235, 236, 237, 238, 239, 240, 241, 242, 243, 244, 245, 246, 247, 248, 249, 250, 251, 252] [] (B0J P) rfl (by repeat' first | exact Resp.retD | exact Resp1.valuesK | refine Resp.blockD ?_ | refine Resp.thenD ?_ ?_ | refine Resp.hcode ?_) ?_ ?_) | (refine HCode.step ?_; (repeat refine HReg.step ?_); first | (show HCode _ _ _ (Code.seq (Code.seq (Code.region _ _ _) (Code.block _ _)) _) _ _ _; refine hcutC (a := Code.seq (Code.region _ _ _) (Code.block _ _)) [23, 24, 204, 205, 206, 207, 208, 209, 210, 211, 212, 213, 214, 215, 216, 217, 218, 219, 220, 221, 222, 223, 224, 225, 226, 227, 228, 229, 230, 231, 232, 233, 234, 235, 236, 237, 238, 239, 240, 241, 242, 243, 244, 245, 246, 247, 248, 249, 250, 251, 252] [] (B0J P) rfl (by repeat' first | exact Resp.retD | exact Resp1.valuesK | refine Resp.blockD ?_ | refine Resp.thenD ?_ ?_ | refine Resp.hcode ?_) ?_ ?_) | (refine HCode.step ?_; (repeat refine HReg.step ?_); first | (show HCode _ _ _ (Code.seq (Code.seq (Code.region _ _ _) (Code.block _ _)) _) _ _ _; refine hcutC (a := Code.seq (Code.region _ _ _) (Code.block _ _)) [23, 24, 204, 205, 206, 207, 208, 209, 210, 211, 212, 213, 214, 215, 216, 217, 218, 219, 220, 221, 222, 223, 224, 225, 226, 227, 228, 229, 230, 231, 232, 233, 234, 235, 236, 237, 238, 239, 240, 241, 242, 243, 244, 245, 246, 247, 248, 249, 250, 251, 252] [] (B0J P) rfl (by repeat' first | exact Resp.retD | exact Resp1.valuesK | refine Resp.blockD ?_ | refine Resp.thenD ?_ ?_ | refine Resp.hcode ?_) ?_ ?_) | (refine HCode.step ?_; (repeat refine HReg.step ?_); first | (show HCode _ _ _ (Code.seq (Code.seq (Code.region _ _ _) (Code.block _ _)) _) _ _ _; refine hcutC (a := Code.seq (Code.region _ _ _) (Code.block _ _)) [23, 24, 204, 205, 206, 207, 208, 209, 210, 211, 212, 213, 214, 215, 216, 217, 218, 219, 220, 221, 222, 223, 224, 225, 226, 227, 228, 229, 230, 231, 232, 233, 234, 235, 236, 237, 238, 239, 240, 241, 242, 243, 244, 245, 246, 247, 248, 249, 250, 251, 252] [] (B0J P) rfl (by repeat' first | exact Resp.retD | exact Resp1.valuesK | refine Resp.blockD ?_ | refine Resp.thenD ?_ ?_ | refine Resp.hcode ?_) ?_ ?_) | (refine HCode.step ?_; (repeat refine HReg.step ?_); first | (show HCode _ _ _ (Code.seq (Code.seq (Code.region _ _ _) (Code.block _ _)) _) _ _ _; refine hcutC (a := Code.seq (Code.region _ _ _) (Code.block _ _)) [23, 24, 204, 205, 206, 207, 208, 209, 210, 211, 212, 213, 214, 215, 216, 217, 218, 219, 220, 221, 222, 223, 224, 225, 226, 227, 228, 229, 230, 231, 232, 233, 234, 235, 236, 237, 238, 239, 240, 241, 242, 243, 244, 245, 246, 247, 248, 249, 250, 251, 252] [] (B0J P) rfl (by repeat' first | exact Resp.retD | exact Resp1.valuesK | refine Resp.blockD ?_ | refine Resp.thenD ?_ ?_ | refine Resp.hcode ?_) ?_ ?_) | (refine HCode.step ?_; (repeat refine HReg.step ?_); first | (show HCode _ _ _ (Code.seq (Code.seq (Code.region _ _ _) (Code.block _ _)) _) _ _ _; refine hcutC (a := Code.seq (Code.region _ _ _) (Code.block _ _)) [23, 24, 204, 205, 206, 207, 208, 209, 210, 211, 212, 213, 214, 215, 216, 217, 218, 219, 220, 221, 222, 223, 224, 225, 226, 227, 228, 229, 230, 231, 232, 233, 234, 235, 236, 237, 238, 239, 240, 241, 242, 243, 244, 245, 246, 247, 248, 249, 250, 251, 252] [] (B0J P) rfl (by repeat' first | exact Resp.retD | exact Resp1.valuesK | refine Resp.blockD ?_ | refine Resp.thenD ?_ ?_ | refine Resp.hcode ?_) ?_ ?_) | (refine HCode.step ?_; (repeat refine HReg.step ?_); first | (show HCode _ _ _ (Code.seq (Code.seq (Code.region _ _ _) (Code.block _ _)) _) _ _ _; refine hcutC (a := Code.seq (Code.region _ _ _) (Code.block _ _)) [23, 24, 204, 205, 206, 207, 208, 209, 210, 211, 212, 213, 214, 215, 216, 217, 218, 219, 220, 221, 222, 223, 224, 225, 226, 227, 228, 229, 230, 231, 232, 233, 234, 235, 236, 237, 238, 239, 240, 241, 242, 243, 244, 245, 246, 247, 248, 249, 250, 251, 252] [] (B0J P) rfl (by repeat' first | exact Resp.retD | exact Resp1.valuesK | refine Resp.blockD ?_ | refine Resp.thenD ?_ ?_ | refine Resp.hcode ?_) ?_ ?_) | (refine HCode.step ?_; (repeat refine HReg.step ?_); first | (show HCode _ _ _ (Code.seq (Code.seq (Code.region _ _ _) (Code.block _ _)) _) _ _ _; refine hcutC (a := Code.seq (Code.region _ _ _) (Code.block _ _)) [23, 24, 204, 205, 206, 207, 208, 209, 210, 211, 212, 213, 214, 215, 216, 217, 218, 219, 220, 221, 222, 223, 224, 225, 226, 227, 228, 229, 230, 231, 232, 233, 234, 235, 236, 237, 238, 239, 240, 241, 242, 243, 244, 245, 246, 247, 248, 249, 250, 251, 252] [] (B0J P) rfl (by repeat' first | exact Resp.retD | exact Resp1.valuesK | refine Resp.blockD ?_ | refine Resp.thenD ?_ ?_ | refine Resp.hcode ?_) ?_ ?_) | (refine HCode.step ?_; (repeat refine HReg.step ?_); first | (show HCode _ _ _ (Code.seq (Code.seq (Code.region _ _ _) (Code.block _ _)) _) _ _ _; refine hcutC (a := Code.seq (Code.region _ _ _) (Code.block _ _)) [23, 24, 204, 205, 206, 207, 208, 209, 210, 211, 212, 213, 214, 215, 216, 217, 218, 219, 220, 221, 222, 223, 224, 225, 226, 227, 228, 229, 230, 231, 232, 233, 234, 235, 236, 237, 238, 239, 240, 241, 242, 243, 244, 245, 246, 247, 248, 249, 250, 251, 252] [] (B0J P) rfl (by repeat' first | exact Resp.retD | exact Resp1.valuesK | refine Resp.blockD ?_ | refine Resp.thenD ?_ ?_ | refine Resp.hcode ?_) ?_ ?_) | (refine HCode.step ?_; (repeat refine HReg.step ?_); first | (show HCode _ _ _ (Code.seq (Code.seq (Code.region _ _ _) (Code.block _ _)) _) _ _ _; refine hcutC (a := Code.seq (Code.region _ _ _) (Code.block _ _)) [23, 24, 204, 205, 206, 207, 208, 209, 210, 211, 212, 213, 214, 215, 216, 217, 218, 219, 220, 221, 222, 223, 224, 225, 226, 227, 228, 229, 230, 231, 232, 233, 234, 235, 236, 237, 238, 239, 240, 241, 242, 243, 244, 245, 246, 247, 248, 249, 250, 251, 252] [] (B0J P) rfl (by repeat' first | exact Resp.retD | exact Resp1.valuesK | refine Resp.blockD ?_ | refine Resp.thenD ?_ ?_ | refine Resp.hcode ?_) ?_ ?_) | (refine HCode.step ?_; (repeat refine HReg.step ?_); first | (show HCode _ _ _ (Code.seq (Code.seq (Code.region _ _ _) (Code.block _ _)) _) _ _ _; refine hcutC (a := Code.seq (Code.region _ _ _) (Code.block _ _)) [23, 24, 204, 205, 206, 207, 208, 209, 210, 211, 212, 213, 214, 215, 216, 217, 218, 219, 220, 221, 222, 223, 224, 225, 226, 227, 228, 229, 230, 231, 232, 233, 234, 235, 236, 237, 238, 239, 240, 241, 242, 243, 244, 245, 246, 247, 248, 249, 250, 251, 252] [] (B0J P) rfl (by repeat' first | exact Resp.retD | exact Resp1.valuesK | refine Resp.blockD ?_ | refine Resp.thenD ?_ ?_ | refine Resp.hcode ?_) ?_ ?_) | (refine HCode.step ?_; (repeat refine HReg.step ?_); (show HCode _ _ _ (Code.seq (Code.seq (Code.region _ _ _) (Code.block _ _)) _) _ _ _; refine hcutC (a := Code.seq (Code.region _ _ _) (Code.block _ _)) [23, 24, 204, 205, 206, 207, 208, 209, 210, 211, 212, 213, 214, 215, 216, 217, 218, 219, 220, 221, 222, 223, 224, 225, 226, 227, 228, 229, 230, 231, 232, 233, 234, 235, 236, 237, 238, 239, 240, 241, 242, 243, 244, 245, 246, 247, 248, 249, 250, 251, 252] [] (B0J P) rfl (by repeat' first | exact Resp.retD | exact Resp1.valuesK | refine Resp.blockD ?_ | refine Resp.thenD ?_ ?_ | refine Resp.hcode ?_) ?_ ?_))))))))))))))))))))))
  · (repeat first | refine HReg.step ?_ | refine HCode.step ?_)
    refine hloopC [23, 24, 204, 205, 206, 207, 208, 209, 210, 211, 212, 213, 214, 215, 216, 217, 218, 219, 220, 221, 222, 223, 224, 225, 226, 227, 228, 229, 230, 231, 232, 233, 234, 235, 236, 237, 238, 239, 240, 241, 242, 243, 244, 245, 246, 247, 248, 249, 250, 251, 252] [23] (B0 P) rfl (by repeat' first | exact Resp.retD | exact Resp1.valuesK | refine Resp.blockD ?_ | refine Resp.thenD ?_ ?_ | refine Resp.hcode ?_) ?_ ?_
    · exact ⟨2, B0.mk ⟨0, fun _ => 0, ms, rfl, rfl, w, fun j hj => absurd hj (Nat.not_lt_zero _), fun _ _ => rfl, hm⟩⟩
    rintro m _ fe H26 ⟨i, e, ms, rfl, hmi, w, he1, he2, hm⟩
    have wi : wr .i64 ((i : Int) + 1) = ((i + 1 : Nat) : Int) := by rw [wr_i64 (by omega) (by omega)]; omega
    (repeat first | refine HReg.step ?_ | refine HCode.step ?_)
    refine hif (fun h1 => ?_) (fun h1 => ?_)
    · have h1 := ltB_true.1 h1
      have hi2 : i < 2 := by omega
      (repeat first | refine HReg.step ?_ | refine HCode.step ?_)
      refine hloopC [24, 208, 209, 210, 211, 212, 213, 214, 215, 216, 217, 218, 219, 220, 221, 222, 223, 224, 225, 226, 227, 228, 229, 230, 231, 232, 233, 234, 235, 236, 237, 238, 239, 240, 241, 242, 243, 244, 245, 246, 247, 248, 249, 250, 251, 252] [24] (B1 P i) rfl (by repeat' first | exact Resp.retD | exact Resp1.valuesK | refine Resp.blockD ?_ | refine Resp.thenD ?_ ?_ | refine Resp.hcode ?_) ?_ ?_
      · exact ⟨40, B1.mk ⟨0, e, ms, rfl, rfl, w, he1, he2 i (Nat.le_refl _), fun j hj => he2 j (by omega), hm⟩⟩
      rintro m2 _ fe2 H27 ⟨k, e, ms, rfl, hmk, w, he1, hek, he2, hm⟩
      have wk : wr .i64 ((k : Int) + 1) = ((k + 1 : Nat) : Int) := by rw [wr_i64 (by omega) (by omega)]; omega
      (repeat first | refine HReg.step ?_ | refine HCode.step ?_)
      refine hif (fun h2 => ?_) (fun h2 => ?_)
      · have h2 := ltB_true.1 h2
        rw [← hP] at w
        obtain ⟨dm, dr⟩ := hm i hi2
        rw [hek] at dm
        have lks := dm.lk
        have lps := dm.lp
        have hrn := dr.rn
        obtain ⟨br, hbr⟩ := (w.row hi2).addr (by rw [hrn]; decide)
        obtain ⟨bK, hbK⟩ := (w.keys hi2).addr (by omega)
        obtain ⟨bP, hbP⟩ := (w.pairs hi2).addr (by omega)
        have w97 : wr .i64 (97 + (i : Int)) = ((97 + i : Nat) : Int) := by rw [wr_i64 (by omega) (by omega)]; omega
        (repeat first | refine HReg.step ?_ | refine HCode.step ?_)
        refine HReq.mk (by decide) ?_
        (repeat first | refine HReg.step ?_ | refine HCode.step ?_)
        rw [w97]
        refine HNew.as (o' := .cells (u8s (Tm 97 i)).toArray 5) (by rw [tm_row 97 i (by omega)]) fun b28 hb28 => ?_
        have v28 : Upd [] H27 (H27.upd b28 (.cells (u8s (Tm 97 i)).toArray 5)) := Upd.new hb28 _
        have r28 : RowAt (H27.upd b28 (.cells (u8s (Tm 97 i)).toArray 5)) (some ⟨b28, 0, none⟩) (u8s (Tm 97 i)) := RowAt.of_cells (upd_same _ _ _)
        generalize hH28 : H27.upd b28 (.cells (u8s (Tm 97 i)).toArray 5) = H28 at v28 r28
        have w28 := w.upd0 v28
        (repeat first | refine HReg.step ?_ | refine HCode.step ?_)
        refine HBytes.row (Tm 97 i) rfl (fun Hx hx => by
          rw [List.mem_singleton.1 hx]; exact r28) ?_ (by simp)
        (repeat first | refine HReg.step ?_ | refine HCode.step ?_)
        refine HReq.mk (by decide) ?_
        (repeat first | refine HReg.step ?_ | refine HCode.step ?_)
        refine HNew.as (o' := .cells (txts [Tm 97 i]).toArray 9) rfl fun b29 hb29 => ?_
        have v29 : Upd [] H28 (H28.upd b29 (.cells (txts [Tm 97 i]).toArray 9)) := Upd.new hb29 _
        have r29 : RowAt (H28.upd b29 (.cells (txts [Tm 97 i]).toArray 9)) (some ⟨b29, 0, none⟩) (txts [Tm 97 i]) := RowAt.of_cells (upd_same _ _ _)
        generalize hH29 : H28.upd b29 (.cells (txts [Tm 97 i]).toArray 9) = H29 at v29 r29
        have w29 := w28.upd0 v29
        (repeat first | refine HReg.step ?_ | refine HCode.step ?_)
        refine HReq.mk ⟨by omega, by omega⟩ ?_
        (repeat first | refine HReg.step ?_ | refine HCode.step ?_)
        refine HLoad_three (w29.sl' hi2 hbr hrn) (w28.sl' hi2 hbr hrn) (w.sl' hi2 hbr hrn) ?_
        (repeat first | refine HReg.step ?_ | refine HCode.step ?_)
        refine HReq.mk ⟨by decide, by decide⟩ ?_
        (repeat first | refine HReg.step ?_ | refine HCode.step ?_)
        refine HLoad_three (w29.kc hi2 hbr hbK rfl) (w28.kc hi2 hbr hbK rfl) (w.kc hi2 hbr hbK rfl) ?_
        rw [← hbK]
        (repeat first | refine HReg.step ?_ | refine HCode.step ?_)
        refine w29.appK hi2 r29 (by omega) (by rw [hrn]; decide) fun a' c' H30 hal hst => ?_
        (repeat first | refine HReg.step ?_ | refine HCode.step ?_)
        refine HReq.mk ⟨by omega, by omega⟩ ?_
        (repeat first | refine HReg.step ?_ | refine HCode.step ?_)
        refine HLoad_four (sl_cell hal hbr hrn) (w29.sl' hi2 hbr hrn) (w28.sl' hi2 hbr hrn) (w.sl' hi2 hbr hrn) ?_
        (repeat first | refine HReg.step ?_ | refine HCode.step ?_)
        refine HReq.mk ⟨by decide, by decide⟩ ?_
        (repeat first | refine HReg.step ?_ | refine HCode.step ?_)
        refine hst _ br hbr fun H31 w31 => ?_
        obtain ⟨m1, hm1⟩ : ∃ m1, m1 = (ms i).addK (Tm 97 i) a' c' := ⟨_, rfl⟩
        have dm1 := dm.addK (m := ms i) (a := a') (c := c')
        rw [← hm1] at w31 dm1
        have e1 : upM ms i m1 i = m1 := upM_self _ _ _
        have hbr1 : (upM ms i m1 i).ra = some ⟨br, 0, none⟩ := by rw [e1, hm1]; exact hbr
        have hrn1 : (upM ms i m1 i).rn = 2 := by rw [e1, hm1]; exact hrn
        have hbP1 : (upM ms i m1 i).q.ap = some ⟨bP, 0, none⟩ := by rw [e1, hm1]; exact hbP
        have lps1 : (upM ms i m1 i).q.r.ps.length = 2 + k := by rw [e1]; exact dm1.lp
        (repeat first | refine HReg.step ?_ | refine HCode.step ?_)
        refine HReq.mk (by decide) ?_
        (repeat first | refine HReg.step ?_ | refine HCode.step ?_)
        rw [w97]
        refine HNew.as (o' := .cells (u8s (Tm 97 i)).toArray 5) (by rw [tm_row 97 i (by omega)]) fun b32 hb32 => ?_
        have v32 : Upd [] H31 (H31.upd b32 (.cells (u8s (Tm 97 i)).toArray 5)) := Upd.new hb32 _
        have r32 : RowAt (H31.upd b32 (.cells (u8s (Tm 97 i)).toArray 5)) (some ⟨b32, 0, none⟩) (u8s (Tm 97 i)) := RowAt.of_cells (upd_same _ _ _)
        generalize hH32 : H31.upd b32 (.cells (u8s (Tm 97 i)).toArray 5) = H32 at v32 r32
        have w32 := w31.upd0 v32
        (repeat first | refine HReg.step ?_ | refine HCode.step ?_)
        refine HBytes.row (Tm 97 i) rfl (fun Hx hx => by
          rw [List.mem_singleton.1 hx]; exact r32) ?_ (by simp)
        (repeat first | refine HReg.step ?_ | refine HCode.step ?_)
        refine HReq.mk (by decide) ?_
        (repeat first | refine HReg.step ?_ | refine HCode.step ?_)
        refine HNew.as (o' := .cells (pairsV [(Tm 97 i, [])]).toArray 50) rfl fun b33 hb33 => ?_
        have v33 : Upd [] H32 (H32.upd b33 (.cells (pairsV [(Tm 97 i, [])]).toArray 50)) := Upd.new hb33 _
        have r33 : RowAt (H32.upd b33 (.cells (pairsV [(Tm 97 i, [])]).toArray 50)) (some ⟨b33, 0, none⟩) (pairsV [(Tm 97 i, [])]) := RowAt.of_cells (upd_same _ _ _)
        generalize hH33 : H32.upd b33 (.cells (pairsV [(Tm 97 i, [])]).toArray 50) = H33 at v33 r33
        have w33 := w32.upd0 v33
        (repeat first | refine HReg.step ?_ | refine HCode.step ?_)
        refine HReq.mk ⟨by omega, by omega⟩ ?_
        (repeat first | refine HReg.step ?_ | refine HCode.step ?_)
        refine HLoad_three (w33.sl' hi2 hbr1 hrn1) (w32.sl' hi2 hbr1 hrn1) (w31.sl' hi2 hbr1 hrn1) ?_
        (repeat first | refine HReg.step ?_ | refine HCode.step ?_)
        refine HReq.mk ⟨by decide, by decide⟩ ?_
        (repeat first | refine HReg.step ?_ | refine HCode.step ?_)
        refine HLoad_three (w33.pc hi2 hbr1 hbP1 rfl) (w32.pc hi2 hbr1 hbP1 rfl) (w31.pc hi2 hbr1 hbP1 rfl) ?_
        rw [← hbP1]
        (repeat first | refine HReg.step ?_ | refine HCode.step ?_)
        refine w33.appP hi2 r33 (by omega) (by rw [hrn1]; decide) fun a'' c'' H34 hal hst => ?_
        (repeat first | refine HReg.step ?_ | refine HCode.step ?_)
        refine HReq.mk ⟨by omega, by omega⟩ ?_
        (repeat first | refine HReg.step ?_ | refine HCode.step ?_)
        refine HLoad_four (sl_cell hal hbr1 hrn1) (w33.sl' hi2 hbr1 hrn1) (w32.sl' hi2 hbr1 hrn1) (w31.sl' hi2 hbr1 hrn1) ?_
        (repeat first | refine HReg.step ?_ | refine HCode.step ?_)
        refine HReq.mk ⟨by decide, by decide⟩ ?_
        (repeat first | refine HReg.step ?_ | refine HCode.step ?_)
        refine hst _ br hbr1 fun H35 w35 => ?_
        (repeat first | refine HReg.step ?_ | refine HCode.step ?_)
        rw [wk]
        refine ⟨m2 - 1, by omega, B1.mk ⟨k + 1, fun j => if j = i then k + 1 else e j, _, rfl, by omega, by rw [← hP]; exact w35, fun j hj => ?_, if_pos rfl, fun j hj => ?_, ?_⟩⟩
        · show (if j = i then k + 1 else e j) = 40
          rw [if_neg (by omega)]; exact he1 j hj
        · show (if j = i then k + 1 else e j) = 0
          rw [if_neg (by omega)]; exact he2 j hj
        · rw [upM_two]
          refine up_ne (C := fun j m => Md m.q j 2 2 (if j = i then k + 1 else e j) (if j = i then k + 1 else e j) ∧ Rst m j false) (fun j hj hne => ?_) ?_
          · rw [if_neg hne]; exact hm j hj
          · rw [if_pos rfl, e1]
            refine ⟨dm1.addP, ?_⟩
            rw [hm1]; exact dr
      · have h2 := ltB_false.1 h2
        (repeat first | refine HReg.step ?_ | refine HCode.step ?_)
        rw [wi]
        refine ⟨m - 1, by omega, B0.mk ⟨i + 1, e, ms, rfl, by omega, w, fun j hj => ?_, fun j hj => he2 j (by omega), hm⟩⟩
        by_cases h : j = i
        · rw [h, hek]; omega
        · exact he1 j (by omega)
    · have h1 := ltB_false.1 h1
      (repeat first | refine HReg.step ?_ | refine HCode.step ?_)
      obtain rfl : i = 2 := by omega
      refine B0J.mk ⟨ms, rfl, w, fun j hj => ?_⟩
      have := hm j hj
      rw [he1 j hj] at this
      exact this
  rintro _ fe2 H26 ⟨ms, rfl, w, hm⟩
  ((repeat refine HReg.step ?_); first | (show HCode _ _ _ (Code.seq (Code.seq (Code.region _ _ _) (Code.block _ _)) _) _ _ _; refine hcutC (a := Code.seq (Code.region _ _ _) (Code.block _ _)) [25, 253, 254, 255, 256, 257, 258, 259, 260, 261, 262, 263, 264, 265, 266, 267, 268, 269, 270, 271] [] (C0J P) rfl (by repeat' first | exact Resp.retD | exact Resp1.valuesK | refine Resp.blockD ?_ | refine Resp.thenD ?_ ?_ | refine Resp.hcode ?_) ?_ ?_) | (refine HCode.step ?_; (repeat refine HReg.step ?_); first | (show HCode _ _ _ (Code.seq (Code.seq (Code.region _ _ _) (Code.block _ _)) _) _ _ _; refine hcutC (a := Code.seq (Code.region _ _ _) (Code.block _ _)) [25, 253, 254, 255, 256, 257, 258, 259, 260, 261, 262, 263, 264, 265, 266, 267, 268, 269, 270, 271] [] (C0J P) rfl (by repeat' first | exact Resp.retD | exact Resp1.valuesK | refine Resp.blockD ?_ | refine Resp.thenD ?_ ?_ | refine Resp.hcode ?_) ?_ ?_) | (refine HCode.step ?_; (repeat refine HReg.step ?_); first | (show HCode _ _ _ (Code.seq (Code.seq (Code.region _ _ _) (Code.block _ _)) _) _ _ _; refine hcutC (a := Code.seq (Code.region _ _ _) (Code.block _ _)) [25, 253, 254, 255, 256, 257, 258, 259, 260, 261, 262, 263, 264, 265, 266, 267, 268, 269, 270, 271] [] (C0J P) rfl (by repeat' first | exact Resp.retD | exact Resp1.valuesK | refine Resp.blockD ?_ | refine Resp.thenD ?_ ?_ | refine Resp.hcode ?_) ?_ ?_) | (refine HCode.step ?_; (repeat refine HReg.step ?_); first | (show HCode _ _ _ (Code.seq (Code.seq (Code.region _ _ _) (Code.block _ _)) _) _ _ _; refine hcutC (a := Code.seq (Code.region _ _ _) (Code.block _ _)) [25, 253, 254, 255, 256, 257, 258, 259, 260, 261, 262, 263, 264, 265, 266, 267, 268, 269, 270, 271] [] (C0J P) rfl (by repeat' first | exact Resp.retD | exact Resp1.valuesK | refine Resp.blockD ?_ | refine Resp.thenD ?_ ?_ | refine Resp.hcode ?_) ?_ ?_) | (refine HCode.step ?_; (repeat refine HReg.step ?_); first | (show HCode _ _ _ (Code.seq (Code.seq (Code.region _ _ _) (Code.block _ _)) _) _ _ _; refine hcutC (a := Code.seq (Code.region _ _ _) (Code.block _ _)) [25, 253, 254, 255, 256, 257, 258, 259, 260, 261, 262, 263, 264, 265, 266, 267, 268, 269, 270, 271] [] (C0J P) rfl (by repeat' first | exact Resp.retD | exact Resp1.valuesK | refine Resp.blockD ?_ | refine Resp.thenD ?_ ?_ | refine Resp.hcode ?_) ?_ ?_) | (refine HCode.step ?_; (repeat refine HReg.step ?_); first | (show HCode _ _ _ (Code.seq (Code.seq (Code.region _ _ _) (Code.block _ _)) _) _ _ _; refine hcutC (a := Code.seq (Code.region _ _ _) (Code.block _ _)) [25, 253, 254, 255, 256, 257, 258, 259, 260, 261, 262, 263, 264, 265, 266, 267, 268, 269, 270, 271] [] (C0J P) rfl (by repeat' first | exact Resp.retD | exact Resp1.valuesK | refine Resp.blockD ?_ | refine Resp.thenD ?_ ?_ | refine Resp.hcode ?_) ?_ ?_) | (refine HCode.step ?_; (repeat refine HReg.step ?_); first | (show HCode _ _ _ (Code.seq (Code.seq (Code.region _ _ _) (Code.block _ _)) _) _ _ _; refine hcutC (a := Code.seq (Code.region _ _ _) (Code.block _ _)) [25, 253, 254, 255, 256, 257, 258, 259, 260, 261, 262, 263, 264, 265, 266, 267, 268, 269, 270, 271] [] (C0J P) rfl (by repeat' first | exact Resp.retD | exact Resp1.valuesK | refine Resp.blockD ?_ | refine Resp.thenD ?_ ?_ | refine Resp.hcode ?_) ?_ ?_) | (refine HCode.step ?_; (repeat refine HReg.step ?_); first | (show HCode _ _ _ (Code.seq (Code.seq (Code.region _ _ _) (Code.block _ _)) _) _ _ _; refine hcutC (a := Code.seq (Code.region _ _ _) (Code.block _ _)) [25, 253, 254, 255, 256, 257, 258, 259, 260, 261, 262, 263, 264, 265, 266, 267, 268, 269, 270, 271] [] (C0J P) rfl (by repeat' first | exact Resp.retD | exact Resp1.valuesK | refine Resp.blockD ?_ | refine Resp.thenD ?_ ?_ | refine Resp.hcode ?_) ?_ ?_) | (refine HCode.step ?_; (repeat refine HReg.step ?_); first | (show HCode _ _ _ (Code.seq (Code.seq (Code.region _ _ _) (Code.block _ _)) _) _ _ _; refine hcutC (a := Code.seq (Code.region _ _ _) (Code.block _ _)) [25, 253, 254, 255, 256, 257, 258, 259, 260, 261, 262, 263, 264, 265, 266, 267, 268, 269, 270, 271] [] (C0J P) rfl (by repeat' first | exact Resp.retD | exact Resp1.valuesK | refine Resp.blockD ?_ | refine Resp.thenD ?_ ?_ | refine Resp.hcode ?_) ?_ ?_) | (refine HCode.step ?_; (repeat refine HReg.step ?_); first | (show HCode _ _ _ (Code.seq (Code.seq (Code.region _ _ _) (Code.block _ _)) _) _ _ _; refine hcutC (a := Code.seq (Code.region _ _ _) (Code.block _ _)) [25, 253, 254, 255, 256, 257, 258, 259, 260, 261, 262, 263, 264, 265, 266, 267, 268, 269, 270, 271] [] (C0J P) rfl (by repeat' first | exact Resp.retD | exact Resp1.valuesK | refine Resp.blockD ?_ | refine Resp.thenD ?_ ?_ | refine Resp.hcode ?_) ?_ ?_) | (refine HCode.step ?_; (repeat refine HReg.step ?_); first | (show HCode _ _ _ (Code.seq (Code.seq (Code.region _ _ _) (Code.block _ _)) _) _ _ _; refine hcutC (a := Code.seq (Code.region _ _ _) (Code.block _ _)) [25, 253, 254, 255, 256, 257, 258, 259, 260, 261, 262, 263, 264, 265, 266, 267, 268, 269, 270, 271] [] (C0J P) rfl (by repeat' first | exact Resp.retD | exact Resp1.valuesK | refine Resp.blockD ?_ | refine Resp.thenD ?_ ?_ | refine Resp.hcode ?_) ?_ ?_) | (refine HCode.step ?_; (repeat refine HReg.step ?_); first | (show HCode _ _ _ (Code.seq (Code.seq (Code.region _ _ _) (Code.block _ _)) _) _ _ _; refine hcutC (a := Code.seq (Code.region _ _ _) (Code.block _ _)) [25, 253, 254, 255, 256, 257, 258, 259, 260, 261, 262, 263, 264, 265, 266, 267, 268, 269, 270, 271] [] (C0J P) rfl (by repeat' first | exact Resp.retD | exact Resp1.valuesK | refine Resp.blockD ?_ | refine Resp.thenD ?_ ?_ | refine Resp.hcode ?_) ?_ ?_) | (refine HCode.step ?_; (repeat refine HReg.step ?_); first | (show HCode _ _ _ (Code.seq (Code.seq (Code.region _ _ _) (Code.block _ _)) _) _ _ _; refine hcutC (a := Code.seq (Code.region _ _ _) (Code.block _ _)) [25, 253, 254, 255, 256, 257, 258, 259, 260, 261, 262, 263, 264, 265, 266, 267, 268, 269, 270, 271] [] (C0J P) rfl (by repeat' first | exact Resp.retD | exact Resp1.valuesK | refine Resp.blockD ?_ | refine Resp.thenD ?_ ?_ | refine Resp.hcode ?_) ?_ ?_) | (refine HCode.step ?_; (repeat refine HReg.step ?_); first | (show HCode _ _ _ (Code.seq (Code.seq (Code.region _ _ _) (Code.block _ _)) _) _ _ _; refine hcutC (a := Code.seq (Code.region _ _ _) (Code.block _ _)) [25, 253, 254, 255, 256, 257, 258, 259, 260, 261, 262, 263, 264, 265, 266, 267, 268, 269, 270, 271] [] (C0J P) rfl (by repeat' first | exact Resp.retD | exact Resp1.valuesK | refine Resp.blockD ?_ | refine Resp.thenD ?_ ?_ | refine Resp.hcode ?_) ?_ ?_) | (refine HCode.step ?_; (repeat refine HReg.step ?_); first | (show HCode _ _ _ (Code.seq (Code.seq (Code.region _ _ _) (Code.block _ _)) _) _ _ _; refine hcutC (a := Code.seq (Code.region _ _ _) (Code.block _ _)) [25, 253, 254, 255, 256, 257, 258, 259, 260, 261, 262, 263, 264, 265, 266, 267, 268, 269, 270, 271] [] (C0J P) rfl (by repeat' first | exact Resp.retD | exact Resp1.valuesK | refine Resp.blockD ?_ | refine Resp.thenD ?_ ?_ | refine Resp.hcode ?_) ?_ ?_) | (refine HCode.step ?_; (repeat refine HReg.step ?_); first | (show HCode _ _ _ (Code.seq (Code.seq (Code.region _ _ _) (Code.block _ _)) _) _ _ _; refine hcutC (a := Code.seq (Code.region _ _ _) (Code.block _ _)) [25, 253, 254, 255, 256, 257, 258, 259, 260, 261, 262, 263, 264, 265, 266, 267, 268, 269, 270, 271] [] (C0J P) rfl (by repeat' first | exact Resp.retD | exact Resp1.valuesK | refine Resp.blockD ?_ | refine Resp.thenD ?_ ?_ | refine Resp.hcode ?_) ?_ ?_) | (refine HCode.step ?_; (repeat refine HReg.step ?_); first | (show HCode _ _ _ (Code.seq (Code.seq (Code.region _ _ _) (Code.block _ _)) _) _ _ _; refine hcutC (a := Code.seq (Code.region _ _ _) (Code.block _ _)) [25, 253, 254, 255, 256, 257, 258, 259, 260, 261, 262, 263, 264, 265, 266, 267, 268, 269, 270, 271] [] (C0J P) rfl (by repeat' first | exact Resp.retD | exact Resp1.valuesK | refine Resp.blockD ?_ | refine Resp.thenD ?_ ?_ | refine Resp.hcode ?_) ?_ ?_) | (refine HCode.step ?_; (repeat refine HReg.step ?_); first | (show HCode _ _ _ (Code.seq (Code.seq (Code.region _ _ _) (Code.block _ _)) _) _ _ _; refine hcutC (a := Code.seq (Code.region _ _ _) (Code.block _ _)) [25, 253, 254, 255, 256, 257, 258, 259, 260, 261, 262, 263, 264, 265, 266, 267, 268, 269, 270, 271] [] (C0J P) rfl (by repeat' first | exact Resp.retD | exact Resp1.valuesK | refine Resp.blockD ?_ | refine Resp.thenD ?_ ?_ | refine Resp.hcode ?_) ?_ ?_) | (refine HCode.step ?_; (repeat refine HReg.step ?_); first | (show HCode _ _ _ (Code.seq (Code.seq (Code.region _ _ _) (Code.block _ _)) _) _ _ _; refine hcutC (a := Code.seq (Code.region _ _ _) (Code.block _ _)) [25, 253, 254, 255, 256, 257, 258, 259, 260, 261, 262, 263, 264, 265, 266, 267, 268, 269, 270, 271] [] (C0J P) rfl (by repeat' first | exact Resp.retD | exact Resp1.valuesK | refine Resp.blockD ?_ | refine Resp.thenD ?_ ?_ | refine Resp.hcode ?_) ?_ ?_) | (refine HCode.step ?_; (repeat refine HReg.step ?_); first | (show HCode _ _ _ (Code.seq (Code.seq (Code.region _ _ _) (Code.block _ _)) _) _ _ _; refine hcutC (a := Code.seq (Code.region _ _ _) (Code.block _ _)) [25, 253, 254, 255, 256, 257, 258, 259, 260, 261, 262, 263, 264, 265, 266, 267, 268, 269, 270, 271] [] (C0J P) rfl (by repeat' first | exact Resp.retD | exact Resp1.valuesK | refine Resp.blockD ?_ | refine Resp.thenD ?_ ?_ | refine Resp.hcode ?_) ?_ ?_) | (refine HCode.step ?_; (repeat refine HReg.step ?_); (show HCode _ _ _ (Code.seq (Code.seq (Code.region _ _ _) (Code.block _ _)) _) _ _ _; refine hcutC (a := Code.seq (Code.region _ _ _) (Code.block _ _)) [25, 253, 254, 255, 256, 257, 258, 259, 260, 261, 262, 263, 264, 265, 266, 267, 268, 269, 270, 271] [] (C0J P) rfl (by repeat' first | exact Resp.retD | exact Resp1.valuesK | refine Resp.blockD ?_ | refine Resp.thenD ?_ ?_ | refine Resp.hcode ?_) ?_ ?_))))))))))))))))))))))
  · (repeat first | refine HReg.step ?_ | refine HCode.step ?_)
    refine hloopC [25, 253, 254, 255, 256, 257, 258, 259, 260, 261, 262, 263, 264, 265, 266, 267, 268, 269, 270, 271] [25] (C0 P) rfl (by repeat' first | exact Resp.retD | exact Resp1.valuesK | refine Resp.blockD ?_ | refine Resp.thenD ?_ ?_ | refine Resp.hcode ?_) ?_ ?_
    · exact ⟨2, C0.mk ⟨0, fun _ => false, ms, rfl, rfl, w, fun j hj => absurd hj (Nat.not_lt_zero _), fun _ _ => rfl, hm⟩⟩
    rintro m _ fe H27 ⟨i, d, ms, rfl, hmi, w, hd1, hd2, hm⟩
    have wi : wr .i64 ((i : Int) + 1) = ((i + 1 : Nat) : Int) := by rw [wr_i64 (by omega) (by omega)]; omega
    (repeat first | refine HReg.step ?_ | refine HCode.step ?_)
    refine hif (fun h1 => ?_) (fun h1 => ?_)
    · have h1 := ltB_true.1 h1
      have hi2 : i < 2 := by omega
      rw [← hP] at w
      obtain ⟨dm, dr⟩ := hm i hi2
      rw [hd2 i (Nat.le_refl _)] at dr
      have hrn := dr.rn
      have w11 : wr .i64 (11 + (i : Int)) = ((11 + i : Nat) : Int) := by rw [wr_i64 (by omega) (by omega)]; omega
      (repeat first | refine HReg.step ?_ | refine HCode.step ?_)
      rw [w11]
      refine HCall.mk ⟨Try.f12, Try.func12, by rfl, by rfl⟩ ?_
      refine commit_t (q := 11 + i) (by omega) fun H28 v28 => ?_
      have w28 := w.upd0 v28
      (repeat first | refine HReg.step ?_ | refine HCode.step ?_)
      rw [w11]
      refine HCall.mk ⟨Try.f12, Try.func12, by rfl, by rfl⟩ ?_
      refine commit_t (q := 11 + i) (by omega) fun H29 v29 => ?_
      have w29 := w28.upd0 v29
      (repeat first | refine HReg.step ?_ | refine HCode.step ?_)
      refine HReq.mk (by decide) ?_
      (repeat first | refine HReg.step ?_ | refine HCode.step ?_)
      refine HNew.as (o' := .cells (recsV [⟨commitR (11 + i), none, 0, none, 0⟩, ⟨commitR (11 + i), none, 0, none, 0⟩]).toArray 28) rfl fun b30 hb30 => ?_
      have v30 : Upd [] H29 (H29.upd b30 (.cells (recsV [⟨commitR (11 + i), none, 0, none, 0⟩, ⟨commitR (11 + i), none, 0, none, 0⟩]).toArray 28)) := Upd.new hb30 _
      have r30 : RowAt (H29.upd b30 (.cells (recsV [⟨commitR (11 + i), none, 0, none, 0⟩, ⟨commitR (11 + i), none, 0, none, 0⟩]).toArray 28)) (some ⟨b30, 0, none⟩) (recsV [⟨commitR (11 + i), none, 0, none, 0⟩, ⟨commitR (11 + i), none, 0, none, 0⟩]) := RowAt.of_cells (upd_same _ _ _)
      generalize hH30 : H29.upd b30 (.cells (recsV [⟨commitR (11 + i), none, 0, none, 0⟩, ⟨commitR (11 + i), none, 0, none, 0⟩]).toArray 28) = H30 at v30 r30
      have w30 := w29.upd0 v30
      (repeat first | refine HReg.step ?_ | refine HCode.step ?_)
      refine HReq.mk ⟨by omega, by omega⟩ ?_
      (repeat first | refine HReg.step ?_ | refine HCode.step ?_)
      refine HLoad_four (v := .slice (ms i).ra (ms i).rn (ms i).rc) (w30.all hi2) (w29.all hi2) (w28.all hi2) (w.all hi2) ?_
      (repeat first | refine HReg.step ?_ | refine HCode.step ?_)
      refine w30.appR hi2 r30 rfl (by rw [hrn]; decide) fun a' c' H31 hal hst => ?_
      (repeat first | refine HReg.step ?_ | refine HCode.step ?_)
      refine HReq.mk ⟨by omega, by omega⟩ ?_
      (repeat first | refine HReg.step ?_ | refine HCode.step ?_)
      refine hst _ fun H32 w32 => ?_
      (repeat first | refine HReg.step ?_ | refine HCode.step ?_)
      rw [wi]
      refine ⟨m - 1, by omega, C0.mk ⟨i + 1, fun j => if j = i then true else d j, _, rfl, by omega, by rw [← hP]; exact w32, fun j hj => ?_, fun j hj => ?_, ?_⟩⟩
      · show (if j = i then true else d j) = true
        split
        · rfl
        · exact hd1 j (by omega)
      · show (if j = i then true else d j) = false
        rw [if_neg (by omega)]; exact hd2 j (by omega)
      · refine up_ne (C := fun j m => Md m.q j 2 2 40 40 ∧ Rst m j (if j = i then true else d j)) (fun j hj hne => ?_) ?_
        · rw [if_neg hne]; exact hm j hj
        · rw [if_pos rfl]
          refine ⟨dm, ?_⟩
          obtain ⟨p9, c9, k9, d9, hr, _⟩ := dr
          refine ⟨p9, c9, k9, d9, ?_, ?_⟩
          · show (ms i).rest ++ _ = _
            rw [hr, ← recsV_append]; rfl
          · show (ms i).rn + 2 = _
            rw [hrn]; rfl
    · have h1 := ltB_false.1 h1
      (repeat first | refine HReg.step ?_ | refine HCode.step ?_)
      obtain rfl : i = 2 := by omega
      refine C0J.mk ⟨ms, rfl, w, fun j hj => ?_⟩
      have := hm j hj
      rw [hd1 j hj] at this
      exact this
  rintro _ fe3 H26 ⟨ms, rfl, w, hm⟩
  ((repeat refine HReg.step ?_); first | (show HCode _ _ _ (Code.seq (Code.seq (Code.region _ _ _) (Code.block _ _)) _) _ _ _; refine hcutC (a := Code.seq (Code.region _ _ _) (Code.block _ _)) [2, 26, 27, 28, 272, 273, 274, 275, 276, 277, 278, 279, 280, 281, 282, 283, 284, 285, 286, 287, 288, 289, 290, 291, 292, 293, 294, 295, 296, 297, 298, 299, 300, 301, 302, 303, 304, 305, 306, 307, 308, 309, 310, 311, 312, 313, 314, 315, 316, 317, 318, 319, 320, 321, 322, 323, 324, 325, 326, 327, 328, 329, 330, 331, 332, 333, 334, 335, 336, 337, 338, 339, 340, 341, 342, 343, 344, 345, 346, 347, 348, 349, 350, 351, 352, 353, 354, 355, 356, 357, 358, 359, 360, 361, 362, 363, 364, 365, 366, 367, 368, 369, 370, 371, 372, 373, 374, 375] [] (D0J (P ms)) rfl (by repeat' first | exact Resp.retD | exact Resp1.valuesK | refine Resp.blockD ?_ | refine Resp.thenD ?_ ?_ | refine Resp.hcode ?_) ?_ ?_) | (refine HCode.step ?_; (repeat refine HReg.step ?_); first | (show HCode _ _ _ (Code.seq (Code.seq (Code.region _ _ _) (Code.block _ _)) _) _ _ _; refine hcutC (a := Code.seq (Code.region _ _ _) (Code.block _ _)) [2, 26, 27, 28, 272, 273, 274, 275, 276, 277, 278, 279, 280, 281, 282, 283, 284, 285, 286, 287, 288, 289, 290, 291, 292, 293, 294, 295, 296, 297, 298, 299, 300, 301, 302, 303, 304, 305, 306, 307, 308, 309, 310, 311, 312, 313, 314, 315, 316, 317, 318, 319, 320, 321, 322, 323, 324, 325, 326, 327, 328, 329, 330, 331, 332, 333, 334, 335, 336, 337, 338, 339, 340, 341, 342, 343, 344, 345, 346, 347, 348, 349, 350, 351, 352, 353, 354, 355, 356, 357, 358, 359, 360, 361, 362, 363, 364, 365, 366, 367, 368, 369, 370, 371, 372, 373, 374, 375] [] (D0J (P ms)) rfl (by repeat' first | exact Resp.retD | exact Resp1.valuesK | refine Resp.blockD ?_ | refine Resp.thenD ?_ ?_ | refine Resp.hcode ?_) ?_ ?_) | (refine HCode.step ?_; (repeat refine HReg.step ?_); first | (show HCode _ _ _ (Code.seq (Code.seq (Code.region _ _ _) (Code.block _ _)) _) _ _ _; refine hcutC (a := Code.seq (Code.region _ _ _) (Code.block _ _)) [2, 26, 27, 28, 272, 273, 274, 275, 276, 277, 278, 279, 280, 281, 282, 283, 284, 285, 286, 287, 288, 289, 290, 291, 292, 293, 294, 295, 296, 297, 298, 299, 300, 301, 302, 303, 304, 305, 306, 307, 308, 309, 310, 311, 312, 313, 314, 315, 316, 317, 318, 319, 320, 321, 322, 323, 324, 325, 326, 327, 328, 329, 330, 331, 332, 333, 334, 335, 336, 337, 338, 339, 340, 341, 342, 343, 344, 345, 346, 347, 348, 349, 350, 351, 352, 353, 354, 355, 356, 357, 358, 359, 360, 361, 362, 363, 364, 365, 366, 367, 368, 369, 370, 371, 372, 373, 374, 375] [] (D0J (P ms)) rfl (by repeat' first | exact Resp.retD | exact Resp1.valuesK | refine Resp.blockD ?_ | refine Resp.thenD ?_ ?_ | refine Resp.hcode ?_) ?_ ?_) | (refine HCode.step ?_; (repeat refine HReg.step ?_); first | (show HCode _ _ _ (Code.seq (Code.seq (Code.region _ _ _) (Code.block _ _)) _) _ _ _; refine hcutC (a := Code.seq (Code.region _ _ _) (Code.block _ _)) [2, 26, 27, 28, 272, 273, 274, 275, 276, 277, 278, 279, 280, 281, 282, 283, 284, 285, 286, 287, 288, 289, 290, 291, 292, 293, 294, 295, 296, 297, 298, 299, 300, 301, 302, 303, 304, 305, 306, 307, 308, 309, 310, 311, 312, 313, 314, 315, 316, 317, 318, 319, 320, 321, 322, 323, 324, 325, 326, 327, 328, 329, 330, 331, 332, 333, 334, 335, 336, 337, 338, 339, 340, 341, 342, 343, 344, 345, 346, 347, 348, 349, 350, 351, 352, 353, 354, 355, 356, 357, 358, 359, 360, 361, 362, 363, 364, 365, 366, 367, 368, 369, 370, 371, 372, 373, 374, 375] [] (D0J (P ms)) rfl (by repeat' first | exact Resp.retD | exact Resp1.valuesK | refine Resp.blockD ?_ | refine Resp.thenD ?_ ?_ | refine Resp.hcode ?_) ?_ ?_) | (refine HCode.step ?_; (repeat refine HReg.step ?_); first | (show HCode _ _ _ (Code.seq (Code.seq (Code.region _ _ _) (Code.block _ _)) _) _ _ _; refine hcutC (a := Code.seq (Code.region _ _ _) (Code.block _ _)) [2, 26, 27, 28, 272, 273, 274, 275, 276, 277, 278, 279, 280, 281, 282, 283, 284, 285, 286, 287, 288, 289, 290, 291, 292, 293, 294, 295, 296, 297, 298, 299, 300, 301, 302, 303, 304, 305, 306, 307, 308, 309, 310, 311, 312, 313, 314, 315, 316, 317, 318, 319, 320, 321, 322, 323, 324, 325, 326, 327, 328, 329, 330, 331, 332, 333, 334, 335, 336, 337, 338, 339, 340, 341, 342, 343, 344, 345, 346, 347, 348, 349, 350, 351, 352, 353, 354, 355, 356, 357, 358, 359, 360, 361, 362, 363, 364, 365, 366, 367, 368, 369, 370, 371, 372, 373, 374, 375] [] (D0J (P ms)) rfl (by repeat' first | exact Resp.retD | exact Resp1.valuesK | refine Resp.blockD ?_ | refine Resp.thenD ?_ ?_ | refine Resp.hcode ?_) ?_ ?_) | (refine HCode.step ?_; (repeat refine HReg.step ?_); first | (show HCode _ _ _ (Code.seq (Code.seq (Code.region _ _ _) (Code.block _ _)) _) _ _ _; refine hcutC (a := Code.seq (Code.region _ _ _) (Code.block _ _)) [2, 26, 27, 28, 272, 273, 274, 275, 276, 277, 278, 279, 280, 281, 282, 283, 284, 285, 286, 287, 288, 289, 290, 291, 292, 293, 294, 295, 296, 297, 298, 299, 300, 301, 302, 303, 304, 305, 306, 307, 308, 309, 310, 311, 312, 313, 314, 315, 316, 317, 318, 319, 320, 321, 322, 323, 324, 325, 326, 327, 328, 329, 330, 331, 332, 333, 334, 335, 336, 337, 338, 339, 340, 341, 342, 343, 344, 345, 346, 347, 348, 349, 350, 351, 352, 353, 354, 355, 356, 357, 358, 359, 360, 361, 362, 363, 364, 365, 366, 367, 368, 369, 370, 371, 372, 373, 374, 375] [] (D0J (P ms)) rfl (by repeat' first | exact Resp.retD | exact Resp1.valuesK | refine Resp.blockD ?_ | refine Resp.thenD ?_ ?_ | refine Resp.hcode ?_) ?_ ?_) | (refine HCode.step ?_; (repeat refine HReg.step ?_); first | (show HCode _ _ _ (Code.seq (Code.seq (Code.region _ _ _) (Code.block _ _)) _) _ _ _; refine hcutC (a := Code.seq (Code.region _ _ _) (Code.block _ _)) [2, 26, 27, 28, 272, 273, 274, 275, 276, 277, 278, 279, 280, 281, 282, 283, 284, 285, 286, 287, 288, 289, 290, 291, 292, 293, 294, 295, 296, 297, 298, 299, 300, 301, 302, 303, 304, 305, 306, 307, 308, 309, 310, 311, 312, 313, 314, 315, 316, 317, 318, 319, 320, 321, 322, 323, 324, 325, 326, 327, 328, 329, 330, 331, 332, 333, 334, 335, 336, 337, 338, 339, 340, 341, 342, 343, 344, 345, 346, 347, 348, 349, 350, 351, 352, 353, 354, 355, 356, 357, 358, 359, 360, 361, 362, 363, 364, 365, 366, 367, 368, 369, 370, 371, 372, 373, 374, 375] [] (D0J (P ms)) rfl (by repeat' first | exact Resp.retD | exact Resp1.valuesK | refine Resp.blockD ?_ | refine Resp.thenD ?_ ?_ | refine Resp.hcode ?_) ?_ ?_) | (refine HCode.step ?_; (repeat refine HReg.step ?_); first | (show HCode _ _ _ (Code.seq (Code.seq (Code.region _ _ _) (Code.block _ _)) _) _ _ _; refine hcutC (a := Code.seq (Code.region _ _ _) (Code.block _ _)) [2, 26, 27, 28, 272, 273, 274, 275, 276, 277, 278, 279, 280, 281, 282, 283, 284, 285, 286, 287, 288, 289, 290, 291, 292, 293, 294, 295, 296, 297, 298, 299, 300, 301, 302, 303, 304, 305, 306, 307, 308, 309, 310, 311, 312, 313, 314, 315, 316, 317, 318, 319, 320, 321, 322, 323, 324, 325, 326, 327, 328, 329, 330, 331, 332, 333, 334, 335, 336, 337, 338, 339, 340, 341, 342, 343, 344, 345, 346, 347, 348, 349, 350, 351, 352, 353, 354, 355, 356, 357, 358, 359, 360, 361, 362, 363, 364, 365, 366, 367, 368, 369, 370, 371, 372, 373, 374, 375] [] (D0J (P ms)) rfl (by repeat' first | exact Resp.retD | exact Resp1.valuesK | refine Resp.blockD ?_ | refine Resp.thenD ?_ ?_ | refine Resp.hcode ?_) ?_ ?_) | (refine HCode.step ?_; (repeat refine HReg.step ?_); first | (show HCode _ _ _ (Code.seq (Code.seq (Code.region _ _ _) (Code.block _ _)) _) _ _ _; refine hcutC (a := Code.seq (Code.region _ _ _) (Code.block _ _)) [2, 26, 27, 28, 272, 273, 274, 275, 276, 277, 278, 279, 280, 281, 282, 283, 284, 285, 286, 287, 288, 289, 290, 291, 292, 293, 294, 295, 296, 297, 298, 299, 300, 301, 302, 303, 304, 305, 306, 307, 308, 309, 310, 311, 312, 313, 314, 315, 316, 317, 318, 319, 320, 321, 322, 323, 324, 325, 326, 327, 328, 329, 330, 331, 332, 333, 334, 335, 336, 337, 338, 339, 340, 341, 342, 343, 344, 345, 346, 347, 348, 349, 350, 351, 352, 353, 354, 355, 356, 357, 358, 359, 360, 361, 362, 363, 364, 365, 366, 367, 368, 369, 370, 371, 372, 373, 374, 375] [] (D0J (P ms)) rfl (by repeat' first | exact Resp.retD | exact Resp1.valuesK | refine Resp.blockD ?_ | refine Resp.thenD ?_ ?_ | refine Resp.hcode ?_) ?_ ?_) | (refine HCode.step ?_; (repeat refine HReg.step ?_); first | (show HCode _ _ _ (Code.seq (Code.seq (Code.region _ _ _) (Code.block _ _)) _) _ _ _; refine hcutC (a := Code.seq (Code.region _ _ _) (Code.block _ _)) [2, 26, 27, 28, 272, 273, 274, 275, 276, 277, 278, 279, 280, 281, 282, 283, 284, 285, 286, 287, 288, 289, 290, 291, 292, 293, 294, 295, 296, 297, 298, 299, 300, 301, 302, 303, 304, 305, 306, 307, 308, 309, 310, 311, 312, 313, 314, 315, 316, 317, 318, 319, 320, 321, 322, 323, 324, 325, 326, 327, 328, 329, 330, 331, 332, 333, 334, 335, 336, 337, 338, 339, 340, 341, 342, 343, 344, 345, 346, 347, 348, 349, 350, 351, 352, 353, 354, 355, 356, 357, 358, 359, 360, 361, 362, 363, 364, 365, 366, 367, 368, 369, 370, 371, 372, 373, 374, 375] [] (D0J (P ms)) rfl (by repeat' first | exact Resp.retD | exact Resp1.valuesK | refine Resp.blockD ?_ | refine Resp.thenD ?_ ?_ | refine Resp.hcode ?_) ?_ ?_) | (refine HCode.step ?_; (repeat refine HReg.step ?_); first | (show HCode _ _ _ (Code.seq (Code.seq (Code.region _ _ _) (Code.block _ _)) _) _ _ _; refine hcutC (a := Code.seq (Code.region _ _ _) (Code.block _ _)) [2, 26, 27, 28, 272, 273, 274, 275, 276, 277, 278, 279, 280, 281, 282, 283, 284, 285, 286, 287, 288, 289, 290, 291, 292, 293, 294, 295, 296, 297, 298, 299, 300, 301, 302, 303, 304, 305, 306, 307, 308, 309, 310, 311, 312, 313, 314, 315, 316, 317, 318, 319, 320, 321, 322, 323, 324, 325, 326, 327, 328, 329, 330, 331, 332, 333, 334, 335, 336, 337, 338, 339, 340, 341, 342, 343, 344, 345, 346, 347, 348, 349, 350, 351, 352, 353, 354, 355, 356, 357, 358, 359, 360, 361, 362, 363, 364, 365, 366, 367, 368, 369, 370, 371, 372, 373, 374, 375] [] (D0J (P ms)) rfl (by repeat' first | exact Resp.retD | exact Resp1.valuesK | refine Resp.blockD ?_ | refine Resp.thenD ?_ ?_ | refine Resp.hcode ?_) ?_ ?_) | (refine HCode.step ?_; (repeat refine HReg.step ?_); first | (show HCode _ _ _ (Code.seq (Code.seq (Code.region _ _ _) (Code.block _ _)) _) _ _ _; refine hcutC (a := Code.seq (Code.region _ _ _) (Code.block _ _)) [2, 26, 27, 28, 272, 273, 274, 275, 276, 277, 278, 279, 280, 281, 282, 283, 284, 285, 286, 287, 288, 289, 290, 291, 292, 293, 294, 295, 296, 297, 298, 299, 300, 301, 302, 303, 304, 305, 306, 307, 308, 309, 310, 311, 312, 313, 314, 315, 316, 317, 318, 319, 320, 321, 322, 323, 324, 325, 326, 327, 328, 329, 330, 331, 332, 333, 334, 335, 336, 337, 338, 339, 340, 341, 342, 343, 344, 345, 346, 347, 348, 349, 350, 351, 352, 353, 354, 355, 356, 357, 358, 359, 360, 361, 362, 363, 364, 365, 366, 367, 368, 369, 370, 371, 372, 373, 374, 375] [] (D0J (P ms)) rfl (by repeat' first | exact Resp.retD | exact Resp1.valuesK | refine Resp.blockD ?_ | refine Resp.thenD ?_ ?_ | refine Resp.hcode ?_) ?_ ?_) | (refine HCode.step ?_; (repeat refine HReg.step ?_); first | (show HCode _ _ _ (Code.seq (Code.seq (Code.region _ _ _) (Code.block _ _)) _) _ _ _; refine hcutC (a := Code.seq (Code.region _ _ _) (Code.block _ _)) [2, 26, 27, 28, 272, 273, 274, 275, 276, 277, 278, 279, 280, 281, 282, 283, 284, 285, 286, 287, 288, 289, 290, 291, 292, 293, 294, 295, 296, 297, 298, 299, 300, 301, 302, 303, 304, 305, 306, 307, 308, 309, 310, 311, 312, 313, 314, 315, 316, 317, 318, 319, 320, 321, 322, 323, 324, 325, 326, 327, 328, 329, 330, 331, 332, 333, 334, 335, 336, 337, 338, 339, 340, 341, 342, 343, 344, 345, 346, 347, 348, 349, 350, 351, 352, 353, 354, 355, 356, 357, 358, 359, 360, 361, 362, 363, 364, 365, 366, 367, 368, 369, 370, 371, 372, 373, 374, 375] [] (D0J (P ms)) rfl (by repeat' first | exact Resp.retD | exact Resp1.valuesK | refine Resp.blockD ?_ | refine Resp.thenD ?_ ?_ | refine Resp.hcode ?_) ?_ ?_) | (refine HCode.step ?_; (repeat refine HReg.step ?_); first | (show HCode _ _ _ (Code.seq (Code.seq (Code.region _ _ _) (Code.block _ _)) _) _ _ _; refine hcutC (a := Code.seq (Code.region _ _ _) (Code.block _ _)) [2, 26, 27, 28, 272, 273, 274, 275, 276, 277, 278, 279, 280, 281, 282, 283, 284, 285, 286, 287, 288, 289, 290, 291, 292, 293, 294, 295, 296, 297, 298, 299, 300, 301, 302, 303, 304, 305, 306, 307, 308, 309, 310, 311, 312, 313, 314, 315, 316, 317, 318, 319, 320, 321, 322, 323, 324, 325, 326, 327, 328, 329, 330, 331, 332, 333, 334, 335, 336, 337, 338, 339, 340, 341, 342, 343, 344, 345, 346, 347, 348, 349, 350, 351, 352, 353, 354, 355, 356, 357, 358, 359, 360, 361, 362, 363, 364, 365, 366, 367, 368, 369, 370, 371, 372, 373, 374, 375] [] (D0J (P ms)) rfl (by repeat' first | exact Resp.retD | exact Resp1.valuesK | refine Resp.blockD ?_ | refine Resp.thenD ?_ ?_ | refine Resp.hcode ?_) ?_ ?_) | (refine HCode.step ?_; (repeat refine HReg.step ?_); first | (show HCode _ _ _ (Code.seq (Code.seq (Code.region _ _ _) (Code.block _ _)) _) _ _ _; refine hcutC (a := Code.seq (Code.region _ _ _) (Code.block _ _)) [2, 26, 27, 28, 272, 273, 274, 275, 276, 277, 278, 279, 280, 281, 282, 283, 284, 285, 286, 287, 288, 289, 290, 291, 292, 293, 294, 295, 296, 297, 298, 299, 300, 301, 302, 303, 304, 305, 306, 307, 308, 309, 310, 311, 312, 313, 314, 315, 316, 317, 318, 319, 320, 321, 322, 323, 324, 325, 326, 327, 328, 329, 330, 331, 332, 333, 334, 335, 336, 337, 338, 339, 340, 341, 342, 343, 344, 345, 346, 347, 348, 349, 350, 351, 352, 353, 354, 355, 356, 357, 358, 359, 360, 361, 362, 363, 364, 365, 366, 367, 368, 369, 370, 371, 372, 373, 374, 375] [] (D0J (P ms)) rfl (by repeat' first | exact Resp.retD | exact Resp1.valuesK | refine Resp.blockD ?_ | refine Resp.thenD ?_ ?_ | refine Resp.hcode ?_) ?_ ?_) | (refine HCode.step ?_; (repeat refine HReg.step ?_); first | (show HCode _ _ _ (Code.seq (Code.seq (Code.region _ _ _) (Code.block _ _)) _) _ _ _; refine hcutC (a := Code.seq (Code.region _ _ _) (Code.block _ _)) [2, 26, 27, 28, 272, 273, 274, 275, 276, 277, 278, 279, 280, 281, 282, 283, 284, 285, 286, 287, 288, 289, 290, 291, 292, 293, 294, 295, 296, 297, 298, 299, 300, 301, 302, 303, 304, 305, 306, 307, 308, 309, 310, 311, 312, 313, 314, 315, 316, 317, 318, 319, 320, 321, 322, 323, 324, 325, 326, 327, 328, 329, 330, 331, 332, 333, 334, 335, 336, 337, 338, 339, 340, 341, 342, 343, 344, 345, 346, 347, 348, 349, 350, 351, 352, 353, 354, 355, 356, 357, 358, 359, 360, 361, 362, 363, 364, 365, 366, 367, 368, 369, 370, 371, 372, 373, 374, 375] [] (D0J (P ms)) rfl (by repeat' first | exact Resp.retD | exact Resp1.valuesK | refine Resp.blockD ?_ | refine Resp.thenD ?_ ?_ | refine Resp.hcode ?_) ?_ ?_) | (refine HCode.step ?_; (repeat refine HReg.step ?_); first | (show HCode _ _ _ (Code.seq (Code.seq (Code.region _ _ _) (Code.block _ _)) _) _ _ _; refine hcutC (a := Code.seq (Code.region _ _ _) (Code.block _ _)) [2, 26, 27, 28, 272, 273, 274, 275, 276, 277, 278, 279, 280, 281, 282, 283, 284, 285, 286, 287, 288, 289, 290, 291, 292, 293, 294, 295, 296, 297, 298, 299, 300, 301, 302, 303, 304, 305, 306, 307, 308, 309, 310, 311, 312, 313, 314, 315, 316, 317, 318, 319, 320, 321, 322, 323, 324, 325, 326, 327, 328, 329, 330, 331, 332, 333, 334, 335, 336, 337, 338, 339, 340, 341, 342, 343, 344, 345, 346, 347, 348, 349, 350, 351, 352, 353, 354, 355, 356, 357, 358, 359, 360, 361, 362, 363, 364, 365, 366, 367, 368, 369, 370, 371, 372, 373, 374, 375] [] (D0J (P ms)) rfl (by repeat' first | exact Resp.retD | exact Resp1.valuesK | refine Resp.blockD ?_ | refine Resp.thenD ?_ ?_ | refine Resp.hcode ?_) ?_ ?_) | (refine HCode.step ?_; (repeat refine HReg.step ?_); first | (show HCode _ _ _ (Code.seq (Code.seq (Code.region _ _ _) (Code.block _ _)) _) _ _ _; refine hcutC (a := Code.seq (Code.region _ _ _) (Code.block _ _)) [2, 26, 27, 28, 272, 273, 274, 275, 276, 277, 278, 279, 280, 281, 282, 283, 284, 285, 286, 287, 288, 289, 290, 291, 292, 293, 294, 295, 296, 297, 298, 299, 300, 301, 302, 303, 304, 305, 306, 307, 308, 309, 310, 311, 312, 313, 314, 315, 316, 317, 318, 319, 320, 321, 322, 323, 324, 325, 326, 327, 328, 329, 330, 331, 332, 333, 334, 335, 336, 337, 338, 339, 340, 341, 342, 343, 344, 345, 346, 347, 348, 349, 350, 351, 352, 353, 354, 355, 356, 357, 358, 359, 360, 361, 362, 363, 364, 365, 366, 367, 368, 369, 370, 371, 372, 373, 374, 375] [] (D0J (P ms)) rfl (by repeat' first | exact Resp.retD | exact Resp1.valuesK | refine Resp.blockD ?_ | refine Resp.thenD ?_ ?_ | refine Resp.hcode ?_) ?_ ?_) | (refine HCode.step ?_; (repeat refine HReg.step ?_); first | (show HCode _ _ _ (Code.seq (Code.seq (Code.region _ _ _) (Code.block _ _)) _) _ _ _; refine hcutC (a := Code.seq (Code.region _ _ _) (Code.block _ _)) [2, 26, 27, 28, 272, 273, 274, 275, 276, 277, 278, 279, 280, 281, 282, 283, 284, 285, 286, 287, 288, 289, 290, 291, 292, 293, 294, 295, 296, 297, 298, 299, 300, 301, 302, 303, 304, 305, 306, 307, 308, 309, 310, 311, 312, 313, 314, 315, 316, 317, 318, 319, 320, 321, 322, 323, 324, 325, 326, 327, 328, 329, 330, 331, 332, 333, 334, 335, 336, 337, 338, 339, 340, 341, 342, 343, 344, 345, 346, 347, 348, 349, 350, 351, 352, 353, 354, 355, 356, 357, 358, 359, 360, 361, 362, 363, 364, 365, 366, 367, 368, 369, 370, 371, 372, 373, 374, 375] [] (D0J (P ms)) rfl (by repeat' first | exact Resp.retD | exact Resp1.valuesK | refine Resp.blockD ?_ | refine Resp.thenD ?_ ?_ | refine Resp.hcode ?_) ?_ ?_) | (refine HCode.step ?_; (repeat refine HReg.step ?_); first | (show HCode _ _ _ (Code.seq (Code.seq (Code.region _ _ _) (Code.block _ _)) _) _ _ _; refine hcutC (a := Code.seq (Code.region _ _ _) (Code.block _ _)) [2, 26, 27, 28, 272, 273, 274, 275, 276, 277, 278, 279, 280, 281, 282, 283, 284, 285, 286, 287, 288, 289, 290, 291, 292, 293, 294, 295, 296, 297, 298, 299, 300, 301, 302, 303, 304, 305, 306, 307, 308, 309, 310, 311, 312, 313, 314, 315, 316, 317, 318, 319, 320, 321, 322, 323, 324, 325, 326, 327, 328, 329, 330, 331, 332, 333, 334, 335, 336, 337, 338, 339, 340, 341, 342, 343, 344, 345, 346, 347, 348, 349, 350, 351, 352, 353, 354, 355, 356, 357, 358, 359, 360, 361, 362, 363, 364, 365, 366, 367, 368, 369, 370, 371, 372, 373, 374, 375] [] (D0J (P ms)) rfl (by repeat' first | exact Resp.retD | exact Resp1.valuesK | refine Resp.blockD ?_ | refine Resp.thenD ?_ ?_ | refine Resp.hcode ?_) ?_ ?_) | (refine HCode.step ?_; (repeat refine HReg.step ?_); (show HCode _ _ _ (Code.seq (Code.seq (Code.region _ _ _) (Code.block _ _)) _) _ _ _; refine hcutC (a := Code.seq (Code.region _ _ _) (Code.block _ _)) [2, 26, 27, 28, 272, 273, 274, 275, 276, 277, 278, 279, 280, 281, 282, 283, 284, 285, 286, 287, 288, 289, 290, 291, 292, 293, 294, 295, 296, 297, 298, 299, 300, 301, 302, 303, 304, 305, 306, 307, 308, 309, 310, 311, 312, 313, 314, 315, 316, 317, 318, 319, 320, 321, 322, 323, 324, 325, 326, 327, 328, 329, 330, 331, 332, 333, 334, 335, 336, 337, 338, 339, 340, 341, 342, 343, 344, 345, 346, 347, 348, 349, 350, 351, 352, 353, 354, 355, 356, 357, 358, 359, 360, 361, 362, 363, 364, 365, 366, 367, 368, 369, 370, 371, 372, 373, 374, 375] [] (D0J (P ms)) rfl (by repeat' first | exact Resp.retD | exact Resp1.valuesK | refine Resp.blockD ?_ | refine Resp.thenD ?_ ?_ | refine Resp.hcode ?_) ?_ ?_))))))))))))))))))))))
  · (repeat first | refine HReg.step ?_ | refine HCode.step ?_)
    refine hloopC [2, 26, 27, 28, 272, 273, 274, 275, 276, 277, 278, 279, 280, 281, 282, 283, 284, 285, 286, 287, 288, 289, 290, 291, 292, 293, 294, 295, 296, 297, 298, 299, 300, 301, 302, 303, 304, 305, 306, 307, 308, 309, 310, 311, 312, 313, 314, 315, 316, 317, 318, 319, 320, 321, 322, 323, 324, 325, 326, 327, 328, 329, 330, 331, 332, 333, 334, 335, 336, 337, 338, 339, 340, 341, 342, 343, 344, 345, 346, 347, 348, 349, 350, 351, 352, 353, 354, 355, 356, 357, 358, 359, 360, 361, 362, 363, 364, 365, 366, 367, 368, 369, 370, 371, 372, 373, 374, 375] [26] (D0i (P ms)) rfl (by repeat' first | exact Resp.retD | exact Resp1.valuesK | refine Resp.blockD ?_ | refine Resp.thenD ?_ ?_ | refine Resp.hcode ?_) ?_ ?_
    · exact ⟨2, D0i.mk ⟨0, rfl, rfl, w⟩⟩
    rintro m _ fe H27 ⟨i, rfl, hmi, w⟩
    have wi : wr .i64 ((i : Int) + 1) = ((i + 1 : Nat) : Int) := by rw [wr_i64 (by omega) (by omega)]; omega
    (repeat first | refine HReg.step ?_ | refine HCode.step ?_)
    refine hif (fun h1 => ?_) (fun h1 => ?_)
    · have h1 := ltB_true.1 h1
      have hi2 : i < 2 := by omega
      rw [← hP] at w
      obtain ⟨dm, dr⟩ := hm i hi2
      have lks := dm.lk
      have lps := dm.lp
      have hrn := dr.rn
      obtain ⟨br, hbr⟩ := (w.row hi2).addr (by rw [hrn]; decide)
      obtain ⟨bK, hbK⟩ := (w.keys hi2).addr (by omega)
      obtain ⟨bP, hbP⟩ := (w.pairs hi2).addr (by omega)
      have hrow := (w.row hi2).rows
      rw [hbr] at hrow
      (repeat first | refine HReg.step ?_ | refine HCode.step ?_)
      refine HReq.mk ⟨by omega, by omega⟩ ?_
      (repeat first | refine HReg.step ?_ | refine HCode.step ?_)
      refine HLoad.one (w.sl' hi2 hbr hrn) ?_
      (repeat first | refine HReg.step ?_ | refine HCode.step ?_)
      refine HReq.mk ⟨by decide, by decide⟩ ?_
      (repeat first | refine HReg.step ?_ | refine HCode.step ?_)
      refine HLoadN_row (vs := (ms i).q.cells) (hrow.take 4) rfl ?_
      (repeat first | refine HReg.step ?_ | refine HCode.step ?_)
      refine HNew.mk fun b27 hb27 => ?_
      (repeat first | refine HReg.step ?_ | refine HCode.step ?_)
      refine store_rec (x := (ms i).q.r) (ap := (ms i).q.ap) (cp := (ms i).q.cp) (ak := (ms i).q.ak) (ck := (ms i).q.ck) (OwnRow.lit (upd_same _ _ _) rfl) rfl fun H28 o28 u28 => ?_
      have v28 : Upd [] H27 H28 := Upd.drop (Upd.new hb27 _) u28 (fun q hq => by rw [List.mem_singleton.1 hq]; exact hb27)
      have w28 := w.upd0 v28
      (repeat first | refine HReg.step ?_ | refine HCode.step ?_)
      refine hloopC [2, 28, 282, 283, 284, 285, 286, 287, 288, 289, 290, 291, 292, 293, 294, 295, 296, 297, 298, 299, 300, 301, 302, 303, 304, 305, 306, 307, 308, 309, 310, 311, 312, 313, 314, 315, 316, 317, 318, 319, 320, 321, 322, 323, 324, 325, 326, 327, 328, 329, 330, 331, 332, 333, 334, 335, 336, 337, 338, 339, 340, 341, 342, 343, 344, 345] [28] (D1i fun Hx => Wm (offD H2 g r []) g r sD fl23 b25 tail ms Hx ∧ OwnRow Hx 28 1 (some ⟨b27, 0, none⟩) 4 4 (ms i).q.cells) rfl (by repeat' first | exact Resp.retD | exact Resp1.valuesK | refine Resp.blockD ?_ | refine Resp.thenD ?_ ?_ | refine Resp.hcode ?_) ?_ ?_
      · exact ⟨42, D1i.mk ⟨0, rfl, rfl, w28, o28⟩⟩
      rintro m2 _ fe2 H29 ⟨k, rfl, hmk, w, o⟩
      have wk : wr .i64 ((k : Int) + 1) = ((k + 1 : Nat) : Int) := by rw [wr_i64 (by omega) (by omega)]; omega
      (repeat first | refine HReg.step ?_ | refine HCode.step ?_)
      refine hif (fun h2 => ?_) (fun h2 => ?_)
      · have h2 := ltB_true.1 h2
        have cK : ∀ {Hx : Heap}, OwnRow Hx 28 1 (some ⟨b27, 0, none⟩) 4 4 (ms i).q.cells → Hx.cell? ⟨b27, 0 + 3, none⟩ = some (.slice (some ⟨bK, 0, none⟩) 42 (ms i).q.ck) := fun o => by
          have h := o.rows.get (i := 3) (v := .slice (ms i).q.ak (ms i).q.r.ks.length (ms i).q.ck) rfl
          rw [h, hbK, lks]
        have cP : ∀ {Hx : Heap}, OwnRow Hx 28 1 (some ⟨b27, 0, none⟩) 4 4 (ms i).q.cells → Hx.cell? ⟨b27, 0 + 2, none⟩ = some (.slice (some ⟨bP, 0, none⟩) 42 (ms i).q.cp) := fun o => by
          have h := o.rows.get (i := 2) (v := .slice (ms i).q.ap (ms i).q.r.ps.length (ms i).q.cp) rfl
          rw [h, hbP, lps]
        have rK : ∀ {Hx : Heap} {s : Txt}, Wm (offD H2 g r []) g r sD fl23 b25 tail ms Hx → (ms i).q.r.ks[k]? = some s → Hx.cell? ⟨bK, 0 + k, none⟩ = some (.string (bs s)) := fun w hs => by
          have h := (w.keys hi2).rows
          rw [hbK] at h
          exact h.get (txts_get hs)
        have rP : ∀ {Hx : Heap} {s : Txt × Txt}, Wm (offD H2 g r []) g r sD fl23 b25 tail ms Hx → (ms i).q.r.ps[k]? = some s → RowAt Hx (some ⟨bP, 0 + k * 2, none⟩) [.string (bs s.1), .string (bs s.2)] := fun w hs => by
          have h := (w.pairs hi2).rows
          rw [hbP] at h
          obtain ⟨h1, h2⟩ := pairsV_get hs
          intro j v hv
          match j, hv with
          | 0, hv => cases hv; exact ⟨bP, 0 + k * 2, rfl, h.get h1⟩
          | 1, hv => cases hv; exact ⟨bP, 0 + k * 2, rfl, by rw [Nat.add_assoc]; exact h.get h2⟩
        by_cases hk2 : k < 2
        · have hs := dm.hk k hk2 hk2
          obtain ⟨x, hx⟩ := dm.hp k hk2 hk2
          have w33 : wr .i64 (33 + (i : Int)) = ((33 + i : Nat) : Int) := by rw [wr_i64 (by omega) (by omega)]; omega
          (repeat first | refine HReg.step ?_ | refine HCode.step ?_)
          rw [show ltB (k : Int) 2 = true from ltB_true.2 (by omega)]
          (repeat first | refine HReg.step ?_ | refine HCode.step ?_)
          rw [w33]
          refine HReq.mk (by decide) ?_
          (repeat first | refine HReg.step ?_ | refine HCode.step ?_)
          refine HNew.as (o' := .cells (u8s (Tm 33 i)).toArray 5) (by rw [tm_row 33 i (by omega)]) fun b30 hb30 => ?_
          have v30 : Upd [] H29 (H29.upd b30 (.cells (u8s (Tm 33 i)).toArray 5)) := Upd.new hb30 _
          have r30 : RowAt (H29.upd b30 (.cells (u8s (Tm 33 i)).toArray 5)) (some ⟨b30, 0, none⟩) (u8s (Tm 33 i)) := RowAt.of_cells (upd_same _ _ _)
          generalize hH30 : H29.upd b30 (.cells (u8s (Tm 33 i)).toArray 5) = H30 at v30 r30
          have w30 := w.upd0 v30
          have o30 := o.upd v30 (Off.nil _)
          (repeat first | refine HReg.step ?_ | refine HCode.step ?_)
          refine HLoad_two (cK o30) (cK o) ?_
          (repeat first | refine HReg.step ?_ | refine HCode.step ?_)
          refine HReq.mk ⟨by omega, by omega⟩ ?_
          (repeat first | refine HReg.step ?_ | refine HCode.step ?_)
          refine HLoad_two (rK w30 hs) (rK w hs) ?_
          (repeat first | refine HReg.step ?_ | refine HCode.step ?_)
          refine HBytes.row (Tm 33 i) rfl (fun Hx hx => by
            rw [List.mem_singleton.1 hx]; exact r30) ?_ (by simp)
          (repeat first | refine HReg.step ?_ | refine HCode.step ?_)
          rw [seqB_bs, decide_eq_true rfl]
          (repeat first | refine HReg.step ?_ | refine HCode.step ?_)
          refine HLoad.one (cP o30) ?_
          (repeat first | refine HReg.step ?_ | refine HCode.step ?_)
          refine HReq.mk ⟨by omega, by omega⟩ ?_
          (repeat first | refine HReg.step ?_ | refine HCode.step ?_)
          refine HLoad.one ((rP w30 hx).get (i := 1) rfl) ?_
          (repeat first | refine HReg.step ?_ | refine HCode.step ?_)
          refine HLoad.one (cK o30) ?_
          (repeat first | refine HReg.step ?_ | refine HCode.step ?_)
          refine HReq.mk ⟨by omega, by omega⟩ ?_
          (repeat first | refine HReg.step ?_ | refine HCode.step ?_)
          refine HLoad.one (rK w30 hs) ?_
          (repeat first | refine HReg.step ?_ | refine HCode.step ?_)
          rw [seqB_bs, decide_eq_true rfl]
          (repeat first | refine HReg.step ?_ | refine HCode.step ?_)
          rw [show ltB (k : Int) 2 = true from ltB_true.2 (by omega)]
          (repeat first | refine HReg.step ?_ | refine HCode.step ?_)
          rw [wk]
          exact ⟨m2 - 1, by omega, D1i.mk ⟨k + 1, rfl, by omega, w30, o30⟩⟩
        · have hs := dm.tk k (by omega) (by omega)
          have hx := dm.tp k (by omega) (by omega)
          have w97 : wr .i64 (97 + (i : Int)) = ((97 + i : Nat) : Int) := by rw [wr_i64 (by omega) (by omega)]; omega
          (repeat first | refine HReg.step ?_ | refine HCode.step ?_)
          rw [show ltB (k : Int) 2 = false from ltB_false.2 (by omega)]
          (repeat first | refine HReg.step ?_ | refine HCode.step ?_)
          rw [show ltB (k : Int) 2 = false from ltB_false.2 (by omega)]
          (repeat first | refine HReg.step ?_ | refine HCode.step ?_)
          rw [w97]
          refine HReq.mk (by decide) ?_
          (repeat first | refine HReg.step ?_ | refine HCode.step ?_)
          refine HNew.as (o' := .cells (u8s (Tm 97 i)).toArray 5) (by rw [tm_row 97 i (by omega)]) fun b30 hb30 => ?_
          have v30 : Upd [] H29 (H29.upd b30 (.cells (u8s (Tm 97 i)).toArray 5)) := Upd.new hb30 _
          have r30 : RowAt (H29.upd b30 (.cells (u8s (Tm 97 i)).toArray 5)) (some ⟨b30, 0, none⟩) (u8s (Tm 97 i)) := RowAt.of_cells (upd_same _ _ _)
          generalize hH30 : H29.upd b30 (.cells (u8s (Tm 97 i)).toArray 5) = H30 at v30 r30
          have w30 := w.upd0 v30
          have o30 := o.upd v30 (Off.nil _)
          (repeat first | refine HReg.step ?_ | refine HCode.step ?_)
          refine HLoad_two (cK o30) (cK o) ?_
          (repeat first | refine HReg.step ?_ | refine HCode.step ?_)
          refine HReq.mk ⟨by omega, by omega⟩ ?_
          (repeat first | refine HReg.step ?_ | refine HCode.step ?_)
          refine HLoad_two (rK w30 hs) (rK w hs) ?_
          (repeat first | refine HReg.step ?_ | refine HCode.step ?_)
          refine HBytes.row (Tm 97 i) rfl (fun Hx hx => by
            rw [List.mem_singleton.1 hx]; exact r30) ?_ (by simp)
          (repeat first | refine HReg.step ?_ | refine HCode.step ?_)
          rw [seqB_bs, decide_eq_true rfl]
          (repeat first | refine HReg.step ?_ | refine HCode.step ?_)
          refine HLoad.one (cP o30) ?_
          (repeat first | refine HReg.step ?_ | refine HCode.step ?_)
          refine HReq.mk ⟨by omega, by omega⟩ ?_
          (repeat first | refine HReg.step ?_ | refine HCode.step ?_)
          refine HLoad.one ((rP w30 hx).get (i := 0) rfl) ?_
          (repeat first | refine HReg.step ?_ | refine HCode.step ?_)
          refine HLoad.one (cK o30) ?_
          (repeat first | refine HReg.step ?_ | refine HCode.step ?_)
          refine HReq.mk ⟨by omega, by omega⟩ ?_
          (repeat first | refine HReg.step ?_ | refine HCode.step ?_)
          refine HLoad.one (rK w30 hs) ?_
          (repeat first | refine HReg.step ?_ | refine HCode.step ?_)
          rw [seqB_bs, decide_eq_true rfl]
          (repeat first | refine HReg.step ?_ | refine HCode.step ?_)
          rw [wk]
          exact ⟨m2 - 1, by omega, D1i.mk ⟨k + 1, rfl, by omega, w30, o30⟩⟩
      · have h2 := ltB_false.1 h2
        have w11 : wr .i64 (11 + (i : Int)) = ((11 + i : Nat) : Int) := by rw [wr_i64 (by omega) (by omega)]; omega
        have dr' := hm i hi2
        obtain ⟨p9, c9, k9, d9, hr, hrn4⟩ := dr'.2
        have rR : ∀ {Hx : Heap}, Wm (offD H2 g r []) g r sD fl23 b25 tail ms Hx → RowAt Hx (some ⟨br, 0, none⟩) (recsV [(ms i).q, ⟨commitR 9, p9, c9, k9, d9⟩, ⟨commitR (11 + i), none, 0, none, 0⟩, ⟨commitR (11 + i), none, 0, none, 0⟩]) := fun w => by
          have h := (w.row hi2).rows
          rw [hbr, hr] at h
          exact h
        have ri : ∀ (H : Heap) q ap ak, RecIn H (commitR q) ap ak := fun H q ap ak => ⟨RowAt.nil _ _, RowAt.nil _ _, Nat.zero_le _, Nat.zero_le _⟩
        (repeat first | refine HReg.step ?_ | refine HCode.step ?_)
        refine HCall.mk ⟨Try.f12, Try.func12, by rfl, by rfl⟩ ?_
        refine commit_t (q := 9) (by decide) fun H30 v30 => ?_
        have w30 := w.upd0 v30
        (repeat first | refine HReg.step ?_ | refine HCode.step ?_)
        refine HReq.mk ⟨by omega, by omega⟩ ?_
        (repeat first | refine HReg.step ?_ | refine HCode.step ?_)
        refine HLoad_two (w30.sl' hi2 hbr hrn) (w.sl' hi2 hbr hrn) ?_
        (repeat first | refine HReg.step ?_ | refine HCode.step ?_)
        refine HReq.mk ⟨by decide, by decide⟩ ?_
        (repeat first | refine HReg.step ?_ | refine HCode.step ?_)
        refine HLoadN_rows (vs := PRec.cells ⟨commitR 9, p9, c9, k9, d9⟩) (fun Hx hx => ?_) rfl ?_
        · have hx : Hx ∈ [H30, H29] := hx
          simp only [List.mem_cons, List.not_mem_nil, or_false] at hx
          rcases hx with rfl | rfl
          · exact recs_at (i := 1) (rR w30) rfl
          · exact recs_at (i := 1) (rR w) rfl
        (repeat first | refine HReg.step ?_ | refine HCode.step ?_)
        refine HCall.mk ⟨Try.f18, Try.func18, by rfl, by rfl⟩ ?_
        refine same_q rfl (ri _ _ _ _) (ri _ _ _ _) fun H31 v31 => ?_
        have w31 := w30.upd0 v31
        (repeat first | refine HReg.step ?_ | refine HCode.step ?_)
        rw [w11]
        refine HCall.mk ⟨Try.f12, Try.func12, by rfl, by rfl⟩ ?_
        refine commit_t (q := 11 + i) (by omega) fun H32 v32 => ?_
        have w32 := w31.upd0 v32
        (repeat first | refine HReg.step ?_ | refine HCode.step ?_)
        refine HReq.mk ⟨by omega, by omega⟩ ?_
        (repeat first | refine HReg.step ?_ | refine HCode.step ?_)
        refine HLoad_two (w32.sl' hi2 hbr hrn) (w31.sl' hi2 hbr hrn) ?_
        (repeat first | refine HReg.step ?_ | refine HCode.step ?_)
        refine HReq.mk ⟨by decide, by decide⟩ ?_
        (repeat first | refine HReg.step ?_ | refine HCode.step ?_)
        refine HLoadN_rows (vs := PRec.cells ⟨commitR (11 + i), none, 0, none, 0⟩) (fun Hx hx => ?_) rfl ?_
        · have hx : Hx ∈ [H32, H31] := hx
          simp only [List.mem_cons, List.not_mem_nil, or_false] at hx
          rcases hx with rfl | rfl
          · exact recs_at (i := 2) (rR w32) rfl
          · exact recs_at (i := 2) (rR w31) rfl
        (repeat first | refine HReg.step ?_ | refine HCode.step ?_)
        refine HCall.mk ⟨Try.f18, Try.func18, by rfl, by rfl⟩ ?_
        refine same_q rfl (ri _ _ _ _) (ri _ _ _ _) fun H33 v33 => ?_
        have w33 := w32.upd0 v33
        (repeat first | refine HReg.step ?_ | refine HCode.step ?_)
        refine HReq.mk ⟨by omega, by omega⟩ ?_
        (repeat first | refine HReg.step ?_ | refine HCode.step ?_)
        refine HLoad.one (w33.sl' hi2 hbr hrn) ?_
        (repeat first | refine HReg.step ?_ | refine HCode.step ?_)
        rw [show eqB (((if true = true then 4 else 2 : Nat) : Nat) : Int) 4 = true from eqB_true.2 rfl]
        (repeat first | refine HReg.step ?_ | refine HCode.step ?_)
        rw [wi]
        exact ⟨m - 1, by omega, D0i.mk ⟨i + 1, rfl, by omega, by rw [← hP]; exact w33⟩⟩
    · have h1 := ltB_false.1 h1
      (repeat first | refine HReg.step ?_ | refine HCode.step ?_)
      obtain rfl : i = 2 := by omega
      exact D0J.mk ⟨rfl, w⟩
  rintro _ fe4 H26 ⟨rfl, w⟩
  rw [← hP] at w
  (repeat first | refine HReg.step ?_ | refine HCode.step ?_)
  refine HCall.mk ⟨Try.f13, Try.func13, by rfl, by rfl⟩ ?_
  refine open_w (n := lgN) w.D hrd hop fun p40 ad cd qd fl40 H40 hqd D40 u40 lg40 np40 Rd => ?_
  obtain ⟨qd0, qd1, rfl, hqd0, hqd1⟩ := map_two hqd
  have S40 := w.S.step u40
  have rd40 : Recs H40 ad [qd0, qd1] := Rd.recs'.upd0 (offD_up H40)
  obtain ⟨gd, rfl⟩ := (show OwnRow _ 28 4 ad 2 cd _ from Rd.row).addr (by decide)
  rw [htail] at S40
  have wa : ∀ {Hx : Heap} {Bx : List Nat} {tt : List Slot}, Slots (offD H2 g r []) Bx Hx tt → tt[12]? = some ⟨50, 2, ap, 2, dp, pairsV (inR q).ps⟩ → tt[13]? = some ⟨9, 1, ak, 2, dk, txts (inR q).ks⟩ → RecIn Hx (inR q) ap ak := fun S h1 h2 => ⟨OwnRow.rows (S.get h1), OwnRow.rows (S.get h2), by show 2 ≤ _; decide, by show 2 ≤ _; decide⟩
  (repeat first | refine HReg.step ?_ | refine HCode.step ?_)
  rw [eqB_self 0]
  (repeat first | refine HReg.step ?_ | refine HCode.step ?_)
  rw [show eqB ((([qd0, qd1] : List PRec).length : Nat) : Int) 2 = true from eqB_true.2 rfl]
  (repeat first | refine HReg.step ?_ | refine HCode.step ?_)
  refine HReq.mk ⟨by decide, by show (0 : Int) < ((2 : Nat) : Int); decide⟩ ?_
  (repeat first | refine HReg.step ?_ | refine HCode.step ?_)
  refine HLoadN_rec (i := 0) rd40.row rfl ?_
  (repeat first | refine HReg.step ?_ | refine HCode.step ?_)
  refine HLoadN_row (OwnRow.rows (S40.get (i := 14) rfl)) rfl ?_
  (repeat first | refine HReg.step ?_ | refine HCode.step ?_)
  refine HCall.mk ⟨Try.f18, Try.func18, by rfl, by rfl⟩ ?_
  refine same_q hqd0 (rd40.each _ (by simp)) (wa S40 rfl rfl) fun H41 u41 => ?_
  have S41 := S40.upd0 u41
  (repeat first | refine HReg.step ?_ | refine HCode.step ?_)
  refine HReq.mk ⟨by decide, by show (0 : Int) < ((2 : Nat) : Int); decide⟩ ?_
  (repeat first | refine HReg.step ?_ | refine HCode.step ?_)
  refine HLoadN_row (vs := qb0.cells) ((OwnRow.rows (S41.get (i := 15) rfl)).take 4) rfl ?_
  (repeat first | refine HReg.step ?_ | refine HCode.step ?_)
  refine HLoadN_row (OwnRow.rows (S41.get (i := 14) rfl)) rfl ?_
  (repeat first | refine HReg.step ?_ | refine HCode.step ?_)
  refine HCall.mk ⟨Try.f18, Try.func18, by rfl, by rfl⟩ ?_
  refine same_q hqb0 ⟨OwnRow.rows (S41.get (i := 16) rfl), OwnRow.rows (S41.get (i := 17) rfl), by rw [hqb0]; show 2 ≤ _; decide, by rw [hqb0]; show 2 ≤ _; decide⟩ (wa S41 rfl rfl) fun H42 u42 => ?_
  (repeat first | refine HReg.step ?_ | refine HCode.step ?_)
  exact hk H42 (((w02.trans S41.u).trans (less_upd _ _)).trans u42)
end
end Go.Proofs.Ytfcmjomnpahllaa
