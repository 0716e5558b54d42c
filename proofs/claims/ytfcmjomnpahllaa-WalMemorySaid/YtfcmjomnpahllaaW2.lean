import Derived.Test.YtfcmjomnpahllaaWp1
namespace Go.Proofs.Ytfcmjomnpahllaa
open Go Hv
set_option linter.unusedVariables false
set_option linter.unusedSimpArgs false
set_option maxRecDepth 10000
set_option maxHeartbeats 4000000
/-! A log on a disk: what lies beside the disk is carried in the heap without its blocks. CUT2 -/
def eH : Heap := fun _ => none
theorem eH_upd (H : Heap) : Upd [] eH H := fun k _ h => absurd rfl h
def lessH (H : Heap) (B : List Nat) : Heap := fun b => if b ∈ B then none else H b
theorem lessH_none {H : Heap} {B : List Nat} {b : Nat} (h : b ∈ B) : lessH H B b = none := if_pos h
theorem lessH_of {H : Heap} {B : List Nat} {b : Nat} (h : b ∉ B) : lessH H B b = H b := if_neg h
theorem less_ne {H : Heap} {B : List Nat} {b : Nat} (h : lessH H B b ≠ none) : b ∉ B ∧ H b ≠ none := by
  unfold lessH at h
  by_cases hb : b ∈ B
  · rw [if_pos hb] at h; exact absurd rfl h
  · rw [if_neg hb] at h; exact ⟨hb, h⟩
theorem less_nn {H : Heap} {B : List Nat} {b : Nat} (h : H b = none) : lessH H B b = none := by
  unfold lessH; split
  · rfl
  · exact h
theorem less_upd (H : Heap) (B : List Nat) : Upd [] (lessH H B) H := fun k _ h => by rw [lessH_of (less_ne h).1]
theorem less0 {S : List Nat} {H H' : Heap} {B : List Nat} (u : Upd S H H') : Upd S (lessH H B) (lessH H' B) := fun k hk h => by
  obtain ⟨h1, h2⟩ := less_ne h
  rw [lessH_of h1, lessH_of h1, u k hk h2]
theorem Hv.OwnRow.less {H : Heap} {e : TypeId} {size n c : Nat} {a : Option Addr} {xs : List Value} {B : List Nat} (o : OwnRow H e size a n c xs) (h : ∀ b ∈ blk a, b ∉ B) : OwnRow (lessH H B) e size a n c xs := by
  refine ⟨o.len, ?_⟩
  rcases o.ok with h1 | ⟨g, cur, ha, hg, h1, h2, h3⟩
  · exact .inl h1
  · exact .inr ⟨g, cur, ha, by rw [lessH_of (h g (by rw [ha]; simp [blk]))]; exact hg, h1, h2, h3⟩
def offD (H : Heap) (g r : Nat) (fl : List Fl) : Heap := lessH H (dblk g r fl)
section
variable {H H' H1 H2 : Heap} {g r : Nat} {s s' : St} {fl fl' : List Fl} {K : Value → Heap → Prop}
theorem dstep (st : Stp H H' g r fl fl') : Upd [] (offD H g r fl) (offD H' g r fl') := fun k _ h => by
  obtain ⟨h1, h2⟩ := less_ne h
  have h3 : k ∉ dblk g r fl' := fun hk => by
    rcases st.sub k hk with h | h
    · exact h1 h
    · exact h2 h
  unfold offD
  rw [lessH_of h1, lessH_of h3, st.upd k h1 h2]
theorem DiskAt.fresh (D : DiskAt H1 H g r s fl) {b : Nat} (h : H b = none) : b ∉ dblk g r fl := fun hb => D.phys.live b hb h
theorem off_live (D : DiskAt H1 H g r s fl) {b : Nat} (h : offD H g r fl b ≠ none) : b ∉ dblk g r fl ∧ H b ≠ none := less_ne h
/-- What a call has made beside the disk. -/
theorem Hv.Made.offD {e : TypeId} {size n c : Nat} {a : Option Addr} {xs : List Value} (m : Made H H' e size a n c xs) (D : DiskAt H1 H g r s fl) : Made (offD H g r fl) (offD H' g r fl) e size a n c xs :=
  ⟨m.own.less fun b hb => by
    obtain ⟨p, hp, rfl⟩ := blk_of hb
    exact D.fresh (m.new p hp), less0 m.upd, fun p hp => less_nn (m.new p hp)⟩
end
structure LogAt (L : Heap) (p g : Nat) (n : ByteArray) (k : Nat) : Prop where
  row : OwnRow L 86 1 (some ⟨p, 0, none⟩) 3 3 [.pointer (some ⟨g, 0, none⟩), .string n, .int .i64 (k : Int)]
theorem LogAt.upd0 {L L' : Heap} {p g k : Nat} {n : ByteArray} (h : LogAt L p g n k) (u : Upd [] L L') : LogAt L' p g n k := ⟨h.row.upd u (Off.nil _)⟩
structure RecsAt (L L' : Heap) (qs : List PRec) (a : Option Addr) (c : Nat) : Prop where
  row : OwnRow L' 28 4 a qs.length c (recsV qs)
  new : ∀ b ∈ blk a, L b = none
  recs : RecsNew L L' qs
theorem RecsAt.upd0 {L L1 L2 : Heap} {qs : List PRec} {a : Option Addr} {c : Nat} (h : RecsAt L L1 qs a c) (u : Upd [] L1 L2) : RecsAt L L2 qs a c := ⟨h.row.upd u (Off.nil _), h.new, h.recs.upd u fun q hq b hb => by simp⟩
theorem RecsAt.recIn {L L1 : Heap} {qs : List PRec} {a : Option Addr} {c : Nat} (h : RecsAt L L1 qs a c) {q : PRec} (hq : q ∈ qs) : RecIn L1 q.r q.ap q.ak := (h.recs.each q hq).recIn
theorem RecsNew.offD {H1 H H' : Heap} {g r : Nat} {s : St} {fl : List Fl} {qs : List PRec} (h : RecsNew H H' qs) (D : DiskAt H1 H g r s fl) : RecsNew (offD H g r fl) (offD H' g r fl) qs :=
  ⟨fun q hq => by
    have n := h.each q hq
    refine ⟨n.p.less fun b hb => ?_, n.k.less fun b hb => ?_, fun p hp => less_nn (n.pn p hp), fun p hp => less_nn (n.kn p hp), n.np, n.nk⟩
    · obtain ⟨p, hp, rfl⟩ := blk_of hb
      exact D.fresh (n.pn p hp)
    · obtain ⟨p, hp, rfl⟩ := blk_of hb
      exact D.fresh (n.kn p hp), h.apart⟩
noncomputable def openW (s : St) (n : ByteArray) : Int × (List Rec × Nat) × St :=
  if (s.readF n).1 = 0 then
    if (scanR (s.readF n).2).2 < (s.readF n).2.length then
      if (s.call.cut n ((scanR (s.readF n).2).2 : Int)).1 = 0 then (0, scanR (s.readF n).2, (s.call.cut n ((scanR (s.readF n).2).2 : Int)).2)
      else ((s.call.cut n ((scanR (s.readF n).2).2 : Int)).1, ([], 0), (s.call.cut n ((scanR (s.readF n).2).2 : Int)).2)
    else (0, scanR (s.readF n).2, s.call)
  else if (s.readF n).1 = 61 then (0, ([], 0), s.call) else ((s.readF n).1, ([], 0), s.call)
section
variable {H : Heap} {g r : Nat} {s : St} {fl : List Fl} {n : ByteArray} {K : Value → Heap → Prop}
theorem open_t (D : DiskAt eH H g r s fl) (hsz : (s.readF n).2.length ≤ 17592186044416)
    (hno : ∀ e fl' H', e ≠ 0 → (openW s n).1 = e → DiskAt eH H' g r (openW s n).2.2 fl' → Upd [] (offD H g r fl) (offD H' g r fl') → K (.tuple #[.pointer none, .slice none 0 0, .int .i64 e]) H')
    (hyes : ∀ p a c qs fl' H', (openW s n).1 = 0 → (openW s n).2.1.1 = qs.map PRec.r → DiskAt eH H' g r (openW s n).2.2 fl' → Upd [] (offD H g r fl) (offD H' g r fl') →
      LogAt (offD H' g r fl') p g n (openW s n).2.1.2 → offD H g r fl p = none → RecsAt (offD H g r fl) (offD H' g r fl') qs a c → K (.tuple #[.pointer (some ⟨p, 0, none⟩), .slice a qs.length c, .int .i64 0]) H') :
    HCalls Try.prog 13 [.pointer (some ⟨g, 0, none⟩), .string n] H K := by
  refine hcalls (fn := Try.f13) [] mixed Try.func13 rfl rfl (by decide +kernel) ?_
  (repeat first | refine HReg.step ?_ | refine HCode.step ?_)
  refine HCall.mk ⟨Try.f27, Try.func27, by rfl, by rfl⟩ ?_
  refine read_f D fun a c fl1 H1 H2 D1 st1 m2 => ?_
  have D2 := D1.upd0 m2.upd
  have u1 := dstep st1
  have u12 : Upd [] (offD H1 g r fl1) (offD H2 g r fl1) := less0 m2.upd
  have u02 := u1.trans u12
  obtain ⟨E, l, hrd⟩ : ∃ E l, s.readF n = (E, l) := ⟨_, _, rfl⟩
  rw [hrd] at m2 hsz ⊢
  dsimp only at m2 hsz ⊢
  (repeat first | refine HReg.step ?_ | refine HCode.step ?_)
  by_cases h0 : E = 0
  · subst h0
    rw [eqB_self 0]
    (repeat first | refine HReg.step ?_ | refine HCode.step ?_)
    refine HCall.mk ⟨Try.f37, Try.func37, by rfl, by rfl⟩ ?_
    refine scan_t m2.own.rows rfl m2.own.le hsz fun a3 c3 qs H3 o3 f3 n3 u3 hqs => ?_
    have D3 := D2.upd0 u3
    have u23 : Upd [] (offD H2 g r fl1) (offD H3 g r fl1) := less0 u3
    have u03 := u02.trans u23
    have hk2 : (scanR l).2 ≤ 9223372036854775807 ∨ True := .inr trivial
    have rec3 : RecsAt (offD H g r fl) (offD H3 g r fl1) qs a3 c3 := by
      have n3' := n3.offD D2
      refine ⟨o3.less fun b hb => ?_, fun b hb => ?_, ⟨fun q hq => (n3'.each q hq).back u02, n3'.apart⟩⟩
      · obtain ⟨p, hp, rfl⟩ := blk_of hb
        exact D2.fresh (f3 p hp)
      · obtain ⟨p, hp, rfl⟩ := blk_of hb
        exact Upd.none (S := []) u02 (by simp) (less_nn (f3 p hp))
    (repeat first | refine HReg.step ?_ | refine HCode.step ?_)
    refine hif (fun h1 => ?_) (fun h1 => ?_)
    · have h1 := ltB_true.1 h1
      have h1' : (scanR l).2 < l.length := by omega
      (repeat first | refine HReg.step ?_ | refine HCode.step ?_)
      refine HCall.mk ⟨Try.f38, Try.func38, by rfl, by rfl⟩ ?_
      refine cut_t D3 fun fl4 H4 D4 st4 => ?_
      have u34 := dstep st4
      have u04 := u03.trans u34
      obtain ⟨e4, s4, hc4⟩ : ∃ e t, s.call.cut n ((scanR l).2 : Int) = (e, t) := ⟨_, _, rfl⟩
      rw [hc4] at D4 ⊢
      dsimp only at D4 ⊢
      (repeat first | refine HReg.step ?_ | refine HCode.step ?_)
      by_cases h4 : e4 = 0
      · subst h4
        have hw : openW s n = (0, scanR l, s4) := by unfold openW; rw [hrd]; dsimp only; rw [if_pos rfl, if_pos h1', hc4]; rfl
        simp only [hw] at hno hyes
        rw [eqB_self 0]
        (repeat first | refine HReg.step ?_ | refine HCode.step ?_)
        refine HNew.mk fun p hp => ?_
        have u45 : Upd [] H4 (H4.upd p (.cells [Value.pointer (some ⟨g, 0, none⟩), .string n, .int .i64 ((scanR l).2 : Int)].toArray 86)) := Upd.new hp _
        have m5 : Made H4 (H4.upd p (.cells [Value.pointer (some ⟨g, 0, none⟩), .string n, .int .i64 ((scanR l).2 : Int)].toArray 86)) 86 1 (some ⟨p, 0, none⟩) 3 3 [.pointer (some ⟨g, 0, none⟩), .string n, .int .i64 ((scanR l).2 : Int)] := ⟨OwnRow.lit (upd_same _ _ _) rfl, u45, fun x hx => by cases hx; exact hp⟩
        generalize hH5 : H4.upd p (.cells [Value.pointer (some ⟨g, 0, none⟩), .string n, .int .i64 ((scanR l).2 : Int)].toArray 86) = H5 at u45 m5
        (repeat first | refine HReg.step ?_ | refine HCode.step ?_)
        have m5' := m5.offD D4
        exact hyes p a3 c3 qs fl4 H5 trivial hqs.symm (D4.upd0 u45) (u04.trans m5'.upd) ⟨m5'.own⟩ (Upd.none (S := []) u04 (by simp) (m5'.new _ rfl)) ((rec3.upd0 u34).upd0 m5'.upd)
      · have hw : openW s n = (e4, ([], 0), s4) := by unfold openW; rw [hrd]; dsimp only; rw [if_pos rfl, if_pos h1', hc4]; dsimp only; rw [if_neg h4]
        simp only [hw] at hno hyes
        rw [show eqB e4 0 = false from eqB_false.2 h4]
        (repeat first | refine HReg.step ?_ | refine HCode.step ?_)
        exact hno e4 fl4 H4 h4 rfl D4 u04
    · have h1 := ltB_false.1 h1
      have h1' : ¬ (scanR l).2 < l.length := by omega
      have hw : openW s n = (0, scanR l, s.call) := by unfold openW; rw [hrd]; dsimp only; rw [if_pos rfl, if_neg h1']
      simp only [hw] at hno hyes
      (repeat first | refine HReg.step ?_ | refine HCode.step ?_)
      refine HNew.mk fun p hp => ?_
      have u45 : Upd [] H3 (H3.upd p (.cells [Value.pointer (some ⟨g, 0, none⟩), .string n, .int .i64 ((scanR l).2 : Int)].toArray 86)) := Upd.new hp _
      have m5 : Made H3 (H3.upd p (.cells [Value.pointer (some ⟨g, 0, none⟩), .string n, .int .i64 ((scanR l).2 : Int)].toArray 86)) 86 1 (some ⟨p, 0, none⟩) 3 3 [.pointer (some ⟨g, 0, none⟩), .string n, .int .i64 ((scanR l).2 : Int)] := ⟨OwnRow.lit (upd_same _ _ _) rfl, u45, fun x hx => by cases hx; exact hp⟩
      generalize hH5 : H3.upd p (.cells [Value.pointer (some ⟨g, 0, none⟩), .string n, .int .i64 ((scanR l).2 : Int)].toArray 86) = H5 at u45 m5
      (repeat first | refine HReg.step ?_ | refine HCode.step ?_)
      have m5' := m5.offD D3
      exact hyes p a3 c3 qs fl1 H5 trivial hqs.symm (D3.upd0 u45) (u03.trans m5'.upd) ⟨m5'.own⟩ (Upd.none (S := []) u03 (by simp) (m5'.new _ rfl)) (rec3.upd0 m5'.upd)
  · rw [show eqB E 0 = false from eqB_false.2 h0]
    (repeat first | refine HReg.step ?_ | refine HCode.step ?_)
    by_cases h61 : E = 61
    · subst h61
      have hw : openW s n = (0, ([], 0), s.call) := by unfold openW; rw [hrd]; dsimp only; rw [if_neg h0, if_pos rfl]
      simp only [hw] at hno hyes
      rw [eqB_self 61]
      (repeat first | refine HReg.step ?_ | refine HCode.step ?_)
      refine HNew.mk fun p hp => ?_
      have u45 : Upd [] H2 (H2.upd p (.cells [Value.pointer (some ⟨g, 0, none⟩), .string n, .int .i64 0].toArray 86)) := Upd.new hp _
      have m5 : Made H2 (H2.upd p (.cells [Value.pointer (some ⟨g, 0, none⟩), .string n, .int .i64 0].toArray 86)) 86 1 (some ⟨p, 0, none⟩) 3 3 [.pointer (some ⟨g, 0, none⟩), .string n, .int .i64 0] := ⟨OwnRow.lit (upd_same _ _ _) rfl, u45, fun x hx => by cases hx; exact hp⟩
      generalize hH5 : H2.upd p (.cells [Value.pointer (some ⟨g, 0, none⟩), .string n, .int .i64 0].toArray 86) = H5 at u45 m5
      (repeat first | refine HReg.step ?_ | refine HCode.step ?_)
      have m5' := m5.offD D2
      exact hyes p none 0 [] fl1 H5 trivial rfl (D2.upd0 u45) (u02.trans m5'.upd) ⟨m5'.own⟩ (Upd.none (S := []) u02 (by simp) (m5'.new _ rfl)) ⟨OwnRow.nil _ _ _, fun b hb => by simp [blk] at hb, RecsNew.nil _ _⟩
    · have hw : openW s n = (E, ([], 0), s.call) := by unfold openW; rw [hrd]; dsimp only; rw [if_neg h0, if_neg h61]
      simp only [hw] at hno hyes
      rw [show eqB E 61 = false from eqB_false.2 h61]
      (repeat first | refine HReg.step ?_ | refine HCode.step ?_)
      exact hno E fl1 H2 h0 rfl D2 u02
end
end Go.Proofs.Ytfcmjomnpahllaa
