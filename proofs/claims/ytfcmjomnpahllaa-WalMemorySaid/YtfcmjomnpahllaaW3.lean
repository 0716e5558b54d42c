import Derived.Test.YtfcmjomnpahllaaW2
namespace Go.Proofs.Ytfcmjomnpahllaa
open Go Hv
set_option linter.unusedVariables false
set_option linter.unusedSimpArgs false
set_option maxRecDepth 10000
set_option maxHeartbeats 4000000
/-! Append to a log. CUT2 -/
noncomputable def appendW (s : St) (n : ByteArray) (k : Nat) (x : Rec) : Int × Nat × St :=
  if (buildR x).2 ≠ 0 then ((buildR x).2, k, s)
  else if (s.append n (buildR x).1).1 ≠ 0 then ((s.append n (buildR x).1).1, k, (s.append n (buildR x).1).2)
  else if ((s.append n (buildR x).1).2.sync n).1 ≠ 0 then (((s.append n (buildR x).1).2.sync n).1, k, ((s.append n (buildR x).1).2.sync n).2)
  else (0, k + (buildR x).1.length, ((s.append n (buildR x).1).2.sync n).2)
theorem build_len (x : Rec) : (buildR x).1.length ≤ 1048584 := by
  unfold buildR
  split
  · exact Nat.zero_le _
  · split
    · exact Nat.zero_le _
    · show (frameR (pay x)).length ≤ _
      rw [frame_len]; omega
theorem RecIn.up {H : Heap} {B : List Nat} {x : Rec} {ap ak : Option Addr} (h : RecIn (lessH H B) x ap ak) : RecIn H x ap ak := h.upd0 (less_upd _ _)
theorem Hv.RowAt.up {H : Heap} {B : List Nat} {a : Option Addr} {xs : List Value} (h : RowAt (lessH H B) a xs) : RowAt H a xs := h.upd (S := []) (less_upd _ _) (.inr (Off.nil _))
section
variable {H : Heap} {g r p k : Nat} {s : St} {fl : List Fl} {n : ByteArray} {K : Value → Heap → Prop}
theorem LogAt.off (l : LogAt (offD H g r fl) p g n k) : p ∉ dblk g r fl := (less_ne (l.row.there rfl)).1
theorem LogAt.up (l : LogAt (offD H g r fl) p g n k) : RowAt H (some ⟨p, 0, none⟩) [.pointer (some ⟨g, 0, none⟩), .string n, .int .i64 (k : Int)] := RowAt.up (l.row.rows)
theorem ownrow_up {H : Heap} {B : List Nat} {e : TypeId} {size n c : Nat} {a : Option Addr} {xs : List Value} (o : OwnRow (lessH H B) e size a n c xs) : OwnRow H e size a n c xs := o.upd (less_upd _ _) (Off.nil _)
theorem appendL_t {x : Rec} {ap ak : Option Addr} {cp ck : Nat} (D : DiskAt eH H g r s fl) (lg : LogAt (offD H g r fl) p g n k) (hr : RecIn (offD H g r fl) x ap ak) (hsz : ∀ y z, s.call.fs n = some (y, z) → y.length ≤ 70368744177664) (hkb : k ≤ 70368744177664)
    (hk : ∀ fl' H', DiskAt eH H' g r (appendW s n k x).2.2 fl' → Upd [p] (offD H g r fl) (offD H' g r fl') → LogAt (offD H' g r fl') p g n (appendW s n k x).2.1 → K (.int .i64 (appendW s n k x).1) H') :
    HCalls Try.prog 17 [.pointer (some ⟨p, 0, none⟩), rv x ap cp ak ck] H K := by
  refine hcalls (fn := Try.f17) [(4, [(0, 0), (1, 0), (2, 0), (3, 0), (4, 0), (5, 0), (6, 0), (7, 0), (8, 0), (9, 0), (10, 0)]), (7, [(0, 0), (1, 0), (2, 0), (3, 0), (4, 0), (5, 0), (6, 0), (7, 0), (8, 0), (9, 0)])] mixed Try.func17 rfl rfl (by decide +kernel) ?_
  have hbl := build_len x
  (repeat first | refine HReg.step ?_ | refine HCode.step ?_)
  refine HNew.mk fun b1 hb1 => ?_
  have hH' : H.upd b1 (.cells [Value.int .i64 x.kind, .int .u64 (x.id : Int), .slice ap x.ps.length cp, .slice ak x.ks.length ck].toArray 28) = H.upd b1 (.cells (rcells x ap cp ak ck).toArray 28) := rfl
  have m1 : Made H (H.upd b1 (.cells (rcells x ap cp ak ck).toArray 28)) 28 1 (some ⟨b1, 0, none⟩) 4 4 (rcells x ap cp ak ck) := ⟨OwnRow.lit (upd_same _ _ _) rfl, Upd.new hb1 _, fun q hq => by cases hq; exact hb1⟩
  rw [hH']
  generalize hH1 : H.upd b1 (.cells (rcells x ap cp ak ck).toArray 28) = H1 at m1
  have D1 := D.upd0 m1.upd
  have u01 : Upd [] (offD H g r fl) (offD H1 g r fl) := less0 m1.upd
  (repeat first | refine HReg.step ?_ | refine HCode.step ?_)
  refine HLoadN_row m1.own.rows rfl ?_
  (repeat first | refine HReg.step ?_ | refine HCode.step ?_)
  refine HCall.mk ⟨Try.f9, Try.func9, by rfl, by rfl⟩ ?_
  refine build_t ((hr.up).upd0 m1.upd) fun a2 c2 H2 m2 => ?_
  have D2 := D1.upd0 m2.upd
  have u12 : Upd [] (offD H1 g r fl) (offD H2 g r fl) := less0 m2.upd
  have u02 := u01.trans u12
  have lg2 := lg.upd0 u02
  obtain ⟨b, e, hbe⟩ : ∃ b e, buildR x = (b, e) := ⟨_, _, rfl⟩
  rw [hbe] at m2 hbl ⊢
  dsimp only at m2 hbl ⊢
  (repeat first | refine HReg.step ?_ | refine HCode.step ?_)
  by_cases he : e = 0
  rotate_left
  · have hw : appendW s n k x = (e, k, s) := by unfold appendW; rw [hbe]; dsimp only; rw [if_pos he]
    rw [hw] at hk
    rw [show eqB e 0 = false from eqB_false.2 he]
    (repeat first | refine HReg.step ?_ | refine HCode.step ?_)
    exact hk fl H2 D2 (u02.mono (by simp)) lg2
  subst he
  rw [eqB_self 0]
  (repeat first | refine HReg.step ?_ | refine HCode.step ?_)
  refine HLoad.one (v := .pointer (some ⟨g, 0, none⟩)) (by exact lg2.up.get (i := 0) rfl) ?_
  (repeat first | refine HReg.step ?_ | refine HCode.step ?_)
  refine HLoad.one (v := .string n) (by exact lg2.up.get (i := 1) rfl) ?_
  (repeat first | refine HReg.step ?_ | refine HCode.step ?_)
  refine HCall.mk ⟨Try.f11, Try.func11, by rfl, by rfl⟩ ?_
  refine append_t D2 m2.own.rows rfl (fun q hq hb => D.fresh (Upd.none (S := []) m1.upd (by simp) (m2.new q hq)) hb) (fun y z hyz => by have := hsz y z hyz; omega) (by omega) fun fl3 H3 D3 st3 => ?_
  have u23 := dstep st3
  have lg3 := lg2.upd0 u23
  have u03 := u02.trans u23
  obtain ⟨e3, s3, h3⟩ : ∃ e t, s.append n b = (e, t) := ⟨_, _, rfl⟩
  rw [h3] at D3 ⊢
  dsimp only at D3 ⊢
  (repeat first | refine HReg.step ?_ | refine HCode.step ?_)
  by_cases he3 : e3 = 0
  rotate_left
  · have hw : appendW s n k x = (e3, k, s3) := by unfold appendW; rw [hbe]; dsimp only; rw [if_neg (fun h => h rfl), h3]; dsimp only; rw [if_pos he3]
    rw [hw] at hk
    rw [show eqB e3 0 = false from eqB_false.2 he3]
    (repeat first | refine HReg.step ?_ | refine HCode.step ?_)
    exact hk fl3 H3 D3 (u03.mono (by simp)) lg3
  subst he3
  rw [eqB_self 0]
  (repeat first | refine HReg.step ?_ | refine HCode.step ?_)
  refine HLoad.one (v := .pointer (some ⟨g, 0, none⟩)) (by exact lg3.up.get (i := 0) rfl) ?_
  (repeat first | refine HReg.step ?_ | refine HCode.step ?_)
  refine HLoad.one (v := .string n) (by exact lg3.up.get (i := 1) rfl) ?_
  (repeat first | refine HReg.step ?_ | refine HCode.step ?_)
  refine HCall.mk ⟨Try.f39, Try.func39, by rfl, by rfl⟩ ?_
  refine sync_f D3 fun fl4 H4 D4 st4 => ?_
  have u34 := dstep st4
  have lg4 := lg3.upd0 u34
  have u04 := u03.trans u34
  obtain ⟨e4, s4, h4⟩ : ∃ e t, s3.sync n = (e, t) := ⟨_, _, rfl⟩
  rw [h4] at D4 ⊢
  dsimp only at D4 ⊢
  (repeat first | refine HReg.step ?_ | refine HCode.step ?_)
  by_cases he4 : e4 = 0
  rotate_left
  · have hw : appendW s n k x = (e4, k, s4) := by unfold appendW; rw [hbe]; dsimp only; rw [if_neg (fun h => h rfl), h3]; dsimp only; rw [if_neg (fun h => h rfl), h4]; dsimp only; rw [if_pos he4]
    rw [hw] at hk
    rw [show eqB e4 0 = false from eqB_false.2 he4]
    (repeat first | refine HReg.step ?_ | refine HCode.step ?_)
    exact hk fl4 H4 D4 (u04.mono (by simp)) lg4
  subst he4
  have hw : appendW s n k x = (0, k + b.length, s4) := by unfold appendW; rw [hbe]; dsimp only; rw [if_neg (fun h => h rfl), h3]; dsimp only; rw [if_neg (fun h => h rfl), h4]; dsimp only; rw [if_neg (fun h => h rfl)]
  rw [hw] at hk
  rw [eqB_self 0]
  have o4 := ownrow_up lg4.row
  have wk : wr .i64 ((k : Int) + (b.length : Int)) = ((k + b.length : Nat) : Int) := by rw [wr_i64 (by omega) (by omega)]; omega
  (repeat first | refine HReg.step ?_ | refine HCode.step ?_)
  refine HLoad.one (v := .int .i64 (k : Int)) (by exact o4.rows.get (i := 2) rfl) ?_
  (repeat first | refine HReg.step ?_ | refine HCode.step ?_)
  rw [wk]
  refine store_row o4 (v := .int .i64 ((k + b.length : Nat) : Int)) rfl (i := 2) (by decide) (by rfl) fun H5 o5 u5 => ?_
  have hp4 := lg4.off
  (repeat first | refine HReg.step ?_ | refine HCode.step ?_)
  refine hk fl4 H5 (D4.upd u5 (fun q hq => by rw [List.mem_singleton.1 hq]; exact hp4) (fun q hq => rfl)) ((u04.mono (by simp)).trans (less0 u5)) ⟨?_⟩
  exact o5.less fun q hq => by
    have e : q = p := by simpa [blk] using hq
    rw [e]; exact hp4
theorem sizeL_t (lg : LogAt (offD H g r fl) p g n k) (hk : K (.int .i64 (k : Int)) H) : HCalls Try.prog 16 [.pointer (some ⟨p, 0, none⟩)] H K := by
  refine hcalls (fn := Try.f16) [] mixed Try.func16 rfl rfl (by decide +kernel) ?_
  (repeat first | refine HReg.step ?_ | refine HCode.step ?_)
  refine HLoad.one (v := .int .i64 (k : Int)) (by exact lg.up.get (i := 2) rfl) ?_
  (repeat first | refine HReg.step ?_ | refine HCode.step ?_)
  exact hk
theorem nameL_t (lg : LogAt (offD H g r fl) p g n k) (hk : K (.string n) H) : HCalls Try.prog 26 [.pointer (some ⟨p, 0, none⟩)] H K := by
  refine hcalls (fn := Try.f26) [] mixed Try.func26 rfl rfl (by decide +kernel) ?_
  (repeat first | refine HReg.step ?_ | refine HCode.step ?_)
  refine HLoad.one (v := .string n) (by exact lg.up.get (i := 1) rfl) ?_
  (repeat first | refine HReg.step ?_ | refine HCode.step ?_)
  exact hk
end
end Go.Proofs.Ytfcmjomnpahllaa
