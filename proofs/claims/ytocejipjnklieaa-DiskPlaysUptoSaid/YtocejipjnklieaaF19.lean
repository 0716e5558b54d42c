import Derived.Test.YtocejipjnklieaaF18
import Derived.Test.YtocejipjnklieaaE7
namespace Go.Proofs.Ytocejipjnklieaa
open Go Hv
set_option linter.unusedVariables false
set_option linter.unusedSimpArgs false
set_option maxRecDepth 10000
set_option maxHeartbeats 4000000
/-! A disk and the document's, side by side; plays. CUT2 -/
structure Two (H1 H : Heap) (g r : Nat) (fl : List Fl) (q : Nat) (B : List Nat) (s : St) : Prop where
  p : DiskAt H1 H g r s fl
  d : RAt H1 H q s B
  ap : ∀ b ∈ dblk g r fl, b ∉ B
theorem row_off {H1 : Heap} {a : Option Addr} {cs : List Value} {B : List Nat} (h : RowAt H1 a cs) (hB : ∀ b ∈ B, H1 b = none) : cs = [] ∨ Off B a := by
  cases cs with
  | nil => exact .inl rfl
  | cons v cs =>
    refine .inr fun p hp hb => ?_
    obtain ⟨b, off, ha, hc⟩ := h 0 v rfl
    rw [hp] at ha
    cases ha
    have hb : H1 b = none := hB b hb
    unfold Heap.cell? at hc
    rw [show (⟨b, off + 0, none⟩ : Addr).block = b from rfl] at hc
    rw [hb] at hc
    cases hc
section
variable {H1 H H' : Heap} {g r q : Nat} {fl fl' : List Fl} {B B' : List Nat} {s s' : St} {K : Value → Heap → Prop}
theorem Two.upd {S : List Nat} (T : Two H1 H g r fl q B s) (u : Upd S H H') (h1 : ∀ b ∈ S, b ∉ dblk g r fl) (h2 : ∀ b ∈ S, b ∉ B) (hn : ∀ b ∈ S, H1 b = none) : Two H1 H' g r fl q B s := ⟨T.p.upd u h1 hn, T.d.upd u h2 hn, T.ap⟩
theorem Two.upd0 (T : Two H1 H g r fl q B s) (u : Upd [] H H') : Two H1 H' g r fl q B s := ⟨T.p.upd0 u, T.d.upd0 u, T.ap⟩
/-- The program's disk has made a call: the document's is as it was. -/
theorem Two.prog (T : Two H1 H g r fl q B s) (S : Stp H H' g r fl fl') : RAt H1 H' q s B ∧ ∀ b ∈ dblk g r fl', b ∉ B :=
  ⟨T.d.upd S.upd T.ap T.p.phys.old, fun b hb hB => by
    rcases S.sub b hb with h | h
    · exact T.ap b h hB
    · exact T.d.live b hB h⟩
theorem two_ref (P : DiskAt H1 H g r s' fl) (R : RAt H1 H q s B) (ap : ∀ b ∈ dblk g r fl, b ∉ B) (R' : RAt H1 H' q s' B') (S : Stq H H' B B') : Two H1 H' g r fl q B' s' :=
  ⟨P.upd S.upd (fun b hb h => ap b h hb) R.old, R', fun b hb hB => by
    rcases S.sub b hB with h | h
    · exact ap b hb h
    · exact P.phys.live b hb h⟩
/-- A change inside of the blocks of the two. -/
theorem two_stq {H2 : Heap} {fl'' : List Fl} (S : Stp H H2 g r fl fl') (Q : Stq H2 H' B B') (hB : ∀ b ∈ B, H b ≠ none → True) : Stq H H' (dblk g r fl ++ B) (dblk g r fl' ++ B') := by
  refine ⟨fun b hb hn => ?_, fun b hb => ?_⟩
  · have h1 : b ∉ dblk g r fl := fun h => hb (List.mem_append_left _ h)
    have h2 : b ∉ B := fun h => hb (List.mem_append_right _ h)
    have e1 := S.upd b h1 hn
    rw [Q.upd b h2 (by rw [e1]; exact hn), e1]
  · rcases List.mem_append.1 hb with h | h
    · rcases S.sub b h with h | h
      · exact .inl (List.mem_append_left _ h)
      · exact .inr h
    · rcases Q.sub b h with h | h
      · exact .inl (List.mem_append_right _ h)
      · by_cases h1 : b ∈ dblk g r fl
        · exact .inl (List.mem_append_left _ h1)
        · exact .inr (Classical.byContradiction fun hn => hn (by rw [← S.upd b h1 hn]; exact h))
/-- The two, in their blocks. -/
def TAt (H1 H : Heap) (g r q : Nat) (s : St) (W : List Nat) : Prop := ∃ fl B, Two H1 H g r fl q B s ∧ W = dblk g r fl ++ B
theorem TAt.upd0 {W : List Nat} (T : TAt H1 H g r q s W) (u : Upd [] H H') : TAt H1 H' g r q s W := by obtain ⟨fl, B, t, e⟩ := T; exact ⟨fl, B, t.upd0 u, e⟩
theorem TAt.upd {S W : List Nat} (T : TAt H1 H g r q s W) (u : Upd S H H') (h : ∀ b ∈ S, b ∉ W) (hn : ∀ b ∈ S, H1 b = none) : TAt H1 H' g r q s W := by
  obtain ⟨fl, B, t, rfl⟩ := T
  exact ⟨fl, B, t.upd u (fun b hb h' => h b hb (List.mem_append_left _ h')) (fun b hb h' => h b hb (List.mem_append_right _ h')) hn, rfl⟩
theorem TAt.live {W : List Nat} (T : TAt H1 H g r q s W) : ∀ b ∈ W, H b ≠ none := by
  obtain ⟨fl, B, t, rfl⟩ := T
  intro b hb
  rcases List.mem_append.1 hb with h | h
  · exact t.p.phys.live b h
  · exact t.d.live b h
theorem TAt.old {W : List Nat} (T : TAt H1 H g r q s W) : ∀ b ∈ W, H1 b = none := by
  obtain ⟨fl, B, t, rfl⟩ := T
  intro b hb
  rcases List.mem_append.1 hb with h | h
  · exact t.p.phys.old b h
  · exact t.d.old b h
theorem TAt.base {W : List Nat} (T : TAt H1 H g r q s W) : Upd [] H1 H := by obtain ⟨fl, B, t, rfl⟩ := T; exact t.d.base
structure PmInv (H1 H5 : Heap) (g r q : Nat) (s : St) (W : List Nat) (b5 n c : Nat) (m : Nat) (vs : List Value) (H' : Heap) : Prop where
  ex : ∃ (i : Nat) (l : List UInt8), vs = [.int .i64 (i : Int)] ∧ m + i = n ∧ l.length = n ∧ OwnRow H' 5 1 (some ⟨b5, 0, none⟩) n c (u8s l) ∧ TAt H1 H' g r q s W ∧ Upd [b5] H5 H'
theorem cell_up {S : List Nat} {H H' : Heap} {b : Nat} {xs : List Value} (h : RowAt H (some ⟨b, 0, none⟩) xs) (u : Upd S H H') (hb : b ∉ S) : RowAt H' (some ⟨b, 0, none⟩) xs := h.upd u (.inr fun p hp hm => by cases hp; exact hb hm)
theorem plays_t {o : Opc} {a : Option Addr} {c N : Nat} {W : List Nat} (T0 : TAt H1 H g r q s W) (ok : s.Ok N) (hb1 : RowAt H1 a (u8s o.b)) (hN : N + o.b.length ≤ 1073741824) (hf : o.Fits) (hkl : -9223372036854775808 ≤ s.d.keep) (hkh : s.d.keep ≤ 9223372036854775807)
    (hk : ∀ W' H', TAt H1 H' g r q (s.does o).2 W' → Stq H H' W W' → K (.bool true) H') : HCalls Try.prog 25 [.pointer (some ⟨g, 0, none⟩), .pointer (some ⟨q, 0, none⟩), .agg (o.cells a c).toArray] H K := by
  refine hcalls (fn := Try.f25) [(4, [(0, 0), (1, 0), (2, 0), (3, 0), (4, 0), (5, 0), (6, 0), (7, 0), (8, 0), (9, 0)]), (12, [(0, 0), (1, 0), (2, 0), (3, 0), (4, 1), (5, 1), (6, 1), (7, 0), (8, 0), (9, 0)]), (22, [(0, 0), (1, 0), (2, 0), (3, 0), (4, 0), (5, 0), (6, 1), (7, 1), (8, 1), (9, 1), (10, 1), (11, 0), (12, 0), (13, 0)]), (24, [(0, 0), (1, 0), (2, 0), (3, 0), (4, 1), (5, 1), (6, 1), (7, 0), (8, 0), (9, 0)]), (26, [(0, 0), (1, 0), (2, 0), (3, 0), (4, 0), (5, 0), (6, 1), (7, 1), (8, 1), (9, 1), (10, 1), (11, 0), (12, 0), (13, 0)])] mixed Try.func25 rfl rfl (by decide +kernel) ?_
  (repeat first | refine HReg.step ?_ | refine HCode.step ?_)
  refine HNew.as (o' := .cells (o.cells a c).toArray 48) rfl fun b3 hb3 => ?_
  have u3 : Upd [] H (H.upd b3 (.cells (o.cells a c).toArray 48)) := Upd.new hb3 _
  have o3 : OwnRow (H.upd b3 (.cells (o.cells a c).toArray 48)) 48 1 (some ⟨b3, 0, none⟩) 7 7 (o.cells a c) := OwnRow.lit (upd_same _ _ _) rfl
  have b3W : b3 ∉ W := fun h => T0.live b3 h hb3
  have T3 := T0.upd0 u3
  generalize H.upd b3 (.cells (o.cells a c).toArray 48) = H3 at u3 o3 T3 ⊢
  obtain ⟨fl, B, T, rfl⟩ := T3
  have b3d : b3 ∉ dblk g r fl := fun h => b3W (List.mem_append_left _ h)
  have b3B : b3 ∉ B := fun h => b3W (List.mem_append_right _ h)
  have c0 : Cok s N := ⟨hkl, hkh, T.p.lo, ok, by omega⟩
  have hofB := row_off hb1 T.d.old
  have r3 := o3.rows
  have kd := r3.get (i := 0) rfl
  have fin : ∀ {H2 H4 : Heap} {fl' : List Fl} {B' : List Nat} {s' : St}, (s.does o).2 = s' → DiskAt H1 H2 g r s' fl' → Stp H3 H2 g r fl fl' → RAt H1 H2 q s B → (∀ b ∈ dblk g r fl', b ∉ B) → RAt H1 H4 q s' B' → Stq H2 H4 B B' → K (.bool true) H4 := fun {H2 H4 fl' B' s'} e P S R ap R' Q => by
    have t := two_ref P R ap R' Q
    refine hk _ H4 (by rw [e]; exact ⟨_, _, t, rfl⟩) ?_
    have st := two_stq (fl'' := fl) S Q (fun _ _ _ => trivial)
    exact Stq.trans (Stq.new0 u3) st
  have tail : ∀ {H4 : Heap} {s' : St} {fl' : List Fl} {B' : List Nat}, Two H1 H4 g r fl' q B' s' → True := fun _ => trivial
  (repeat first | refine HReg.step ?_ | refine HCode.step ?_)
  refine HLoad.one (v := .int .i64 o.kind) (by exact kd) ?_
  (repeat first | refine HReg.step ?_ | refine HCode.step ?_)
  by_cases h1 : o.kind = 1
  · have e : (s.does o).2 = (s.append (bs o.name) o.b).2 := by unfold St.does; rw [if_pos h1]
    rw [show eqB o.kind 1 = true from eqB_true.2 h1]
    (repeat first | refine HReg.step ?_ | refine HCode.step ?_)
    refine HLoad.one (v := .slice a o.b.length c) (by exact r3.get (i := 4) rfl) ?_
    (repeat first | refine HReg.step ?_ | refine HCode.step ?_)
    refine HCall.mk ⟨Try.f12, Try.func12, by rfl, by rfl⟩ ?_
    refine own_t (hb1.upd (S := []) T.d.base (.inr (Off.nil _))) rfl (by omega) fun a4 c4 H4 m4 => ?_
    (repeat first | refine HReg.step ?_ | refine HCode.step ?_)
    refine HReq.mk (by decide) ?_
    (repeat first | refine HReg.step ?_ | refine HCode.step ?_)
    refine HNew.mk fun b5 hb5 => ?_
    have u5 : Upd [] H4 (H4.upd b5 (.cells [Value.int .u8 165, .int .u8 166].toArray 5)) := Upd.new hb5 _
    have r5 : RowAt (H4.upd b5 (.cells [Value.int .u8 165, .int .u8 166].toArray 5)) (some ⟨b5, 0, none⟩) (u8s [165, 166]) := RowAt.of_cells (upd_same _ _ _)
    generalize hH5 : H4.upd b5 (.cells [Value.int .u8 165, .int .u8 166].toArray 5) = H5 at u5 r5
    (repeat first | refine HReg.step ?_ | refine HCode.step ?_)
    refine append_own (m4.own.upd u5 (Off.nil _)) r5 (m := 2) rfl (by omega) fun a6 c6 H6 o6 u6 f6 => ?_
    have u35 : Upd [] H3 H5 := m4.upd.trans u5
    have n4 : ∀ b ∈ blk a4, H3 b = none := fun b hb => by obtain ⟨p, hp, rfl⟩ := blk_of hb; exact m4.new p hp
    have u36 : Upd [] H3 H6 := Upd.drop u35 u6 n4
    have n6 : ∀ b ∈ blk a6, H3 b = none := fun b hb => by
      obtain ⟨p, hp, rfl⟩ := blk_of hb
      rcases f6 p hp with h | h
      · exact n4 _ (by rw [h]; simp [blk])
      · exact Upd.none (S := []) u35 (by simp) h
    have m6 : Made H3 H6 5 1 a6 (o.b.length + 2) c6 (u8s (o.b ++ [165, 166])) := ⟨o6, u36, fun p hp => n6 _ (by rw [hp]; simp [blk])⟩
    have T6 := T.upd0 u36
    have r6 := r3.upd (S := []) u36 (.inr (Off.nil _))
    have hle6 := o6.le
    (repeat first | refine HReg.step ?_ | refine HCode.step ?_)
    refine HLoad.one (v := .string (bs o.name)) (by exact r6.get (i := 2) rfl) ?_
    (repeat first | refine HReg.step ?_ | refine HCode.step ?_)
    refine HLoad.one (v := .slice a o.b.length c) (by exact r6.get (i := 4) rfl) ?_
    (repeat first | refine HReg.step ?_ | refine HCode.step ?_)
    refine HReq.mk ⟨by omega, by omega⟩ ?_
    (repeat first | refine HReg.step ?_ | refine HCode.step ?_)
    have rowP : RowAt H6 a6 (u8s o.b) := by
      have h := o6.rows.take o.b.length
      rw [← u8s_take, List.take_append_of_le_length (Nat.le_refl _), List.take_of_length_le (Nat.le_refl _)] at h
      exact h
    refine HCall.mk ⟨Try.f11, Try.func11, by rfl, by rfl⟩ ?_
    refine append_t T6.p rowP rfl (off_made T.p m6) (fun x y hx => by have := (ok.call.le _ _ hx).1; simp only at this; omega) (by omega) fun fl7 H7 P7 S7 => ?_
    obtain ⟨R7, ap7⟩ := T6.prog S7
    have r7 := cell_up r6 S7.upd b3d
    have o7 := o6.upd S7.upd (off_made T.p m6)
    (repeat first | refine HReg.step ?_ | refine HCode.step ?_)
    refine HLoad.one (v := .string (bs o.name)) (by exact r7.get (i := 2) rfl) ?_
    (repeat first | refine HReg.step ?_ | refine HCode.step ?_)
    refine HLoad.one (v := .slice a o.b.length c) (by exact r7.get (i := 4) rfl) ?_
    (repeat first | refine HReg.step ?_ | refine HCode.step ?_)
    refine HCall.mk ⟨Try.f42, Try.func42, by rfl, by rfl⟩ ?_
    refine rlay_t R7 c0 (hb1.upd (S := []) R7.base (.inr (Off.nil _))) rfl hofB (fun x y hx => by have := (ok.call.le _ _ hx).1; simp only at this; omega) (by omega) fun H8 B8 R8 S8 => ?_
    have t8 := two_ref P7 R7 ap7 R8 S8
    have r8 := cell_up r7 S8.upd b3B
    have a6B : Off B a6 := fun p hp hb => T.d.live _ hb (m6.new p hp)
    have o8 := o7.upd S8.upd a6B
    (repeat first | refine HReg.step ?_ | refine HCode.step ?_)
    rw [eqB_self (s.append (bs o.name) o.b).1]
    (repeat first | refine HReg.step ?_ | refine HCode.step ?_)
    refine HLoad.one (v := .slice a o.b.length c) (by exact r8.get (i := 4) rfl) ?_
    (repeat first | refine HReg.step ?_ | refine HCode.step ?_)
    refine HCall.mk ⟨Try.f12, Try.func12, by rfl, by rfl⟩ ?_
    refine own_t (hb1.upd (S := []) R8.base (.inr (Off.nil _))) rfl (by omega) fun a9 c9 H9 m9 => ?_
    (repeat first | refine HReg.step ?_ | refine HCode.step ?_)
    refine HReq.mk (by decide) ?_
    (repeat first | refine HReg.step ?_ | refine HCode.step ?_)
    refine HNew.mk fun b10 hb10 => ?_
    have u10 : Upd [] H9 (H9.upd b10 (.cells [Value.int .u8 165, .int .u8 166].toArray 5)) := Upd.new hb10 _
    have r10 : RowAt (H9.upd b10 (.cells [Value.int .u8 165, .int .u8 166].toArray 5)) (some ⟨b10, 0, none⟩) (u8s [165, 166]) := RowAt.of_cells (upd_same _ _ _)
    generalize hH10 : H9.upd b10 (.cells [Value.int .u8 165, .int .u8 166].toArray 5) = H10 at u10 r10
    (repeat first | refine HReg.step ?_ | refine HCode.step ?_)
    refine append_made (m9.step u10) r10 rfl (by omega) fun a11 c11 H11 m11 => ?_
    have o11 := o8.upd m11.upd (Off.nil _)
    have t11 := t8.upd0 m11.upd
    have hl2 : (o.b ++ [165, 166]).length = o.b.length + 2 := by simp
    (repeat first | refine HReg.step ?_ | refine HCode.step ?_)
    refine HCall.mk ⟨Try.f19, Try.func19, by rfl, by rfl⟩ ?_
    refine same_t o11.rows hl2 m11.own.rows hl2 ?_
    rw [decide_eq_true rfl]
    (repeat first | refine HReg.step ?_ | refine HCode.step ?_)
    obtain ⟨b6, rfl⟩ := o11.addr (by omega)
    have b6n : H3 b6 = none := m6.new _ rfl
    have b6W : b6 ∉ dblk g r fl7 ++ B8 := fun hb => by
      have hb6 : H6 b6 ≠ none := o6.there rfl
      rcases List.mem_append.1 hb with h | h
      · rcases S7.sub b6 h with h | h
        · exact T.p.phys.live b6 h b6n
        · exact hb6 h
      · rcases S8.sub b6 h with h | h
        · exact T.d.live b6 h b6n
        · exact o7.there rfl h
    have T11 : TAt H1 H11 g r q (s.append (bs o.name) o.b).2 (dblk g r fl7 ++ B8) := ⟨fl7, B8, t11, rfl⟩
    have b6old : H1 b6 = none := Upd.none (S := []) T.d.base (by simp) b6n
    refine hloopC [10, 58, 59, 60, 61, 62, 63, 64, 65, 66] [10] (PmInv H1 H11 g r q (s.append (bs o.name) o.b).2 (dblk g r fl7 ++ B8) b6 (o.b.length + 2) c6) rfl (by repeat' first | exact Resp.retD | exact Resp1.valuesK | refine Resp.blockD ?_ | refine Resp.thenD ?_ ?_ | refine Resp.hcode ?_) ?_ ?_
    · exact ⟨o.b.length + 2, PmInv.mk ⟨0, _, rfl, rfl, hl2, o11, T11, Upd.refl _ _⟩⟩
    rintro m _ fe H12 ⟨i, l, rfl, hmi, hll, o12, T12, u12⟩
    (repeat first | refine HReg.step ?_ | refine HCode.step ?_)
    refine hif (fun h2 => ?_) (fun h2 => ?_)
    · have h2 := ltB_true.1 h2
      have wi : wr .i64 ((i : Int) + 1) = ((i + 1 : Nat) : Int) := by rw [wr_i64 (by omega) (by omega)]; omega
      (repeat first | refine HReg.step ?_ | refine HCode.step ?_)
      refine HReq.mk ⟨by omega, by omega⟩ ?_
      (repeat first | refine HReg.step ?_ | refine HCode.step ?_)
      refine store_row o12 (v := u8 238) rfl (i := i) (by omega) (by show 0 + (i : Int).toNat = _; omega) fun H13 o13 u13 => ?_
      have e13 : (u8s l).set i (u8 238) = u8s (l.set i 238) := by unfold u8s; rw [List.map_set]
      rw [e13] at o13
      (repeat first | refine HReg.step ?_ | refine HCode.step ?_)
      rw [wi]
      exact ⟨m - 1, by omega, PmInv.mk ⟨i + 1, l.set i 238, rfl, by omega, by rw [List.length_set]; exact hll, o13, T12.upd u13 (fun b hb h => b6W (by rw [← List.mem_singleton.1 hb]; exact h)) (fun b hb => by rw [List.mem_singleton.1 hb]; exact b6old), u12.trans u13⟩⟩
    · have h2 := ltB_false.1 h2
      (repeat first | refine HReg.step ?_ | refine HCode.step ?_)
      refine hk _ H12 (by rw [e]; exact T12) ?_
      have s1 := (Stq.new0 (B := dblk g r fl ++ B) (u3.trans u36)).trans (two_stq (fl'' := fl) S7 S8 (fun _ _ _ => trivial))
      refine ⟨upd_join (s1.upd.trans (m11.upd.mono (by simp))) u12 (fun b hb => .inr ?_), s1.sub⟩
      rw [List.mem_singleton.1 hb]
      exact Upd.none (S := []) u3 (by simp) b6n
  rw [show eqB o.kind 1 = false from eqB_false.2 h1]
  (repeat first | refine HReg.step ?_ | refine HCode.step ?_)
  by_cases h2 : o.kind = 2
  · have e : (s.does o).2 = (s.sync (bs o.name)).2 := by unfold St.does; rw [if_neg h1, if_pos h2]
    rw [show eqB o.kind 2 = true from eqB_true.2 h2]
    (repeat first | refine HReg.step ?_ | refine HCode.step ?_)
    refine HLoad.one (v := .string (bs o.name)) (by exact r3.get (i := 2) rfl) ?_
    (repeat first | refine HReg.step ?_ | refine HCode.step ?_)
    refine HCall.mk ⟨Try.f13, Try.func13, by rfl, by rfl⟩ ?_
    refine sync_f T.p fun fl4 H4 P4 S4 => ?_
    obtain ⟨R4, ap4⟩ := T.prog S4
    have r4 := cell_up r3 S4.upd b3d
    (repeat first | refine HReg.step ?_ | refine HCode.step ?_)
    refine HLoad_two (v := .string (bs o.name)) (by exact r4.get (i := 2) rfl) (by exact r3.get (i := 2) rfl) ?_
    (repeat first | refine HReg.step ?_ | refine HCode.step ?_)
    refine HCall.mk ⟨Try.f43, Try.func43, by rfl, by rfl⟩ ?_
    refine rsync_t R4 c0 fun H5 B5 R5 S5 => ?_
    (repeat first | refine HReg.step ?_ | refine HCode.step ?_)
    rw [eqB_self (s.sync (bs o.name)).1]
    (repeat first | refine HReg.step ?_ | refine HCode.step ?_)
    exact fin e P4 S4 R4 ap4 R5 S5
  rw [show eqB o.kind 2 = false from eqB_false.2 h2]
  (repeat first | refine HReg.step ?_ | refine HCode.step ?_)
  by_cases h3 : o.kind = 3
  · have e : (s.does o).2 = s.call := by unfold St.does; rw [if_neg h1, if_neg h2, if_pos h3]
    rw [show eqB o.kind 3 = true from eqB_true.2 h3]
    (repeat first | refine HReg.step ?_ | refine HCode.step ?_)
    refine HLoad.one (v := .string (bs o.name)) (by exact r3.get (i := 2) rfl) ?_
    (repeat first | refine HReg.step ?_ | refine HCode.step ?_)
    refine HCall.mk ⟨Try.f18, Try.func18, by rfl, by rfl⟩ ?_
    refine read_f T.p fun a4 c4 fl4 H4 H5 P4 S4 m5 => ?_
    obtain ⟨R4, ap4⟩ := T.prog S4
    have r5 := (cell_up r3 S4.upd b3d).upd (S := []) m5.upd (.inr (Off.nil _))
    have R5 := R4.upd0 m5.upd
    (repeat first | refine HReg.step ?_ | refine HCode.step ?_)
    refine HLoad.one (v := .string (bs o.name)) (by exact r5.get (i := 2) rfl) ?_
    (repeat first | refine HReg.step ?_ | refine HCode.step ?_)
    refine HCall.mk ⟨Try.f44, Try.func44, by rfl, by rfl⟩ ?_
    refine rread_t R5 c0 fun a6 c6 H6 R6 S6 o6 n6 => ?_
    have w5 := m5.own.rows.upd S6.upd (.inr fun p hp hb => R4.live _ hb (m5.new p hp))
    (repeat first | refine HReg.step ?_ | refine HCode.step ?_)
    refine HCall.mk ⟨Try.f19, Try.func19, by rfl, by rfl⟩ ?_
    refine same_t w5 rfl o6.rows rfl ?_
    rw [decide_eq_true rfl]
    (repeat first | refine HReg.step ?_ | refine HCode.step ?_)
    rw [eqB_self (s.readF (bs o.name)).1]
    (repeat first | refine HReg.step ?_ | refine HCode.step ?_)
    exact fin e (P4.upd0 m5.upd) (S4.fwd0 m5.upd) R5 ap4 R6 S6
  rw [show eqB o.kind 3 = false from eqB_false.2 h3]
  (repeat first | refine HReg.step ?_ | refine HCode.step ?_)
  by_cases h4 : o.kind = 4
  · have e : (s.does o).2 = s.call := by unfold St.does; rw [if_neg h1, if_neg h2, if_neg h3, if_pos h4]
    rw [show eqB o.kind 4 = true from eqB_true.2 h4]
    (repeat first | refine HReg.step ?_ | refine HCode.step ?_)
    refine HLoad.one (v := .string (bs o.name)) (by exact r3.get (i := 2) rfl) ?_
    (repeat first | refine HReg.step ?_ | refine HCode.step ?_)
    refine HCall.mk ⟨Try.f34, Try.func34, by rfl, by rfl⟩ ?_
    refine size_f T.p fun fl4 H4 P4 S4 => ?_
    obtain ⟨R4, ap4⟩ := T.prog S4
    have r4 := cell_up r3 S4.upd b3d
    (repeat first | refine HReg.step ?_ | refine HCode.step ?_)
    refine HLoad.one (v := .string (bs o.name)) (by exact r4.get (i := 2) rfl) ?_
    (repeat first | refine HReg.step ?_ | refine HCode.step ?_)
    refine HCall.mk ⟨Try.f45, Try.func45, by rfl, by rfl⟩ ?_
    refine rsize_t R4 c0 fun H6 R6 S6 => ?_
    (repeat first | refine HReg.step ?_ | refine HCode.step ?_)
    rw [eqB_self ((s.readF (bs o.name)).2.length : Int)]
    (repeat first | refine HReg.step ?_ | refine HCode.step ?_)
    rw [eqB_self (s.readF (bs o.name)).1]
    (repeat first | refine HReg.step ?_ | refine HCode.step ?_)
    exact fin e P4 S4 R4 ap4 R6 S6
  rw [show eqB o.kind 4 = false from eqB_false.2 h4]
  (repeat first | refine HReg.step ?_ | refine HCode.step ?_)
  by_cases h5 : o.kind = 5
  · have e : (s.does o).2 = (s.cut (bs o.name) o.n).2 := by unfold St.does; rw [if_neg h1, if_neg h2, if_neg h3, if_neg h4, if_pos h5]
    rw [show eqB o.kind 5 = true from eqB_true.2 h5]
    (repeat first | refine HReg.step ?_ | refine HCode.step ?_)
    refine HLoad.one (v := .string (bs o.name)) (by exact r3.get (i := 2) rfl) ?_
    (repeat first | refine HReg.step ?_ | refine HCode.step ?_)
    refine HLoad.one (v := .int .i64 o.n) (by exact r3.get (i := 5) rfl) ?_
    (repeat first | refine HReg.step ?_ | refine HCode.step ?_)
    refine HCall.mk ⟨Try.f35, Try.func35, by rfl, by rfl⟩ ?_
    refine cut_t T.p fun fl4 H4 P4 S4 => ?_
    obtain ⟨R4, ap4⟩ := T.prog S4
    have r4 := cell_up r3 S4.upd b3d
    (repeat first | refine HReg.step ?_ | refine HCode.step ?_)
    refine HLoad_two (v := .string (bs o.name)) (by exact r4.get (i := 2) rfl) (by exact r3.get (i := 2) rfl) ?_
    (repeat first | refine HReg.step ?_ | refine HCode.step ?_)
    refine HLoad_two (v := .int .i64 o.n) (by exact r4.get (i := 5) rfl) (by exact r3.get (i := 5) rfl) ?_
    (repeat first | refine HReg.step ?_ | refine HCode.step ?_)
    refine HCall.mk ⟨Try.f46, Try.func46, by rfl, by rfl⟩ ?_
    refine rcut_t R4 c0 fun H5 B5 R5 S5 => ?_
    (repeat first | refine HReg.step ?_ | refine HCode.step ?_)
    rw [eqB_self (s.cut (bs o.name) o.n).1]
    (repeat first | refine HReg.step ?_ | refine HCode.step ?_)
    exact fin e P4 S4 R4 ap4 R5 S5
  rw [show eqB o.kind 5 = false from eqB_false.2 h5]
  (repeat first | refine HReg.step ?_ | refine HCode.step ?_)
  by_cases h6 : o.kind = 6
  · have e : (s.does o).2 = (s.delete (bs o.name)).2 := by unfold St.does; rw [if_neg h1, if_neg h2, if_neg h3, if_neg h4, if_neg h5, if_pos h6]
    rw [show eqB o.kind 6 = true from eqB_true.2 h6]
    (repeat first | refine HReg.step ?_ | refine HCode.step ?_)
    refine HLoad.one (v := .string (bs o.name)) (by exact r3.get (i := 2) rfl) ?_
    (repeat first | refine HReg.step ?_ | refine HCode.step ?_)
    refine HCall.mk ⟨Try.f16, Try.func16, by rfl, by rfl⟩ ?_
    refine delete_t T.p fun fl4 H4 P4 S4 => ?_
    obtain ⟨R4, ap4⟩ := T.prog S4
    have r4 := cell_up r3 S4.upd b3d
    (repeat first | refine HReg.step ?_ | refine HCode.step ?_)
    refine HLoad_two (v := .string (bs o.name)) (by exact r4.get (i := 2) rfl) (by exact r3.get (i := 2) rfl) ?_
    (repeat first | refine HReg.step ?_ | refine HCode.step ?_)
    refine HCall.mk ⟨Try.f47, Try.func47, by rfl, by rfl⟩ ?_
    refine rdelete_t R4 c0 fun H5 B5 R5 S5 => ?_
    (repeat first | refine HReg.step ?_ | refine HCode.step ?_)
    rw [eqB_self (s.delete (bs o.name)).1]
    (repeat first | refine HReg.step ?_ | refine HCode.step ?_)
    exact fin e P4 S4 R4 ap4 R5 S5
  rw [show eqB o.kind 6 = false from eqB_false.2 h6]
  (repeat first | refine HReg.step ?_ | refine HCode.step ?_)
  by_cases h7 : o.kind = 7
  · have e : (s.does o).2 = (s.rename (bs o.name) (bs o.to)).2 := by unfold St.does; rw [if_neg h1, if_neg h2, if_neg h3, if_neg h4, if_neg h5, if_neg h6, if_pos h7]
    rw [show eqB o.kind 7 = true from eqB_true.2 h7]
    (repeat first | refine HReg.step ?_ | refine HCode.step ?_)
    refine HLoad.one (v := .string (bs o.name)) (by exact r3.get (i := 2) rfl) ?_
    (repeat first | refine HReg.step ?_ | refine HCode.step ?_)
    refine HLoad.one (v := .string (bs o.to)) (by exact r3.get (i := 3) rfl) ?_
    (repeat first | refine HReg.step ?_ | refine HCode.step ?_)
    refine HCall.mk ⟨Try.f15, Try.func15, by rfl, by rfl⟩ ?_
    refine rename_t T.p fun fl4 H4 P4 S4 => ?_
    obtain ⟨R4, ap4⟩ := T.prog S4
    have r4 := cell_up r3 S4.upd b3d
    (repeat first | refine HReg.step ?_ | refine HCode.step ?_)
    refine HLoad_two (v := .string (bs o.name)) (by exact r4.get (i := 2) rfl) (by exact r3.get (i := 2) rfl) ?_
    (repeat first | refine HReg.step ?_ | refine HCode.step ?_)
    refine HLoad_two (v := .string (bs o.to)) (by exact r4.get (i := 3) rfl) (by exact r3.get (i := 3) rfl) ?_
    (repeat first | refine HReg.step ?_ | refine HCode.step ?_)
    refine HCall.mk ⟨Try.f48, Try.func48, by rfl, by rfl⟩ ?_
    refine rrename_t R4 c0 fun H5 B5 R5 S5 => ?_
    (repeat first | refine HReg.step ?_ | refine HCode.step ?_)
    rw [eqB_self (s.rename (bs o.name) (bs o.to)).1]
    (repeat first | refine HReg.step ?_ | refine HCode.step ?_)
    exact fin e P4 S4 R4 ap4 R5 S5
  rw [show eqB o.kind 7 = false from eqB_false.2 h7]
  (repeat first | refine HReg.step ?_ | refine HCode.step ?_)
  by_cases h8 : o.kind = 8
  · have e : (s.does o).2 = s.call := by unfold St.does; rw [if_neg h1, if_neg h2, if_neg h3, if_neg h4, if_neg h5, if_neg h6, if_neg h7, if_pos h8]
    rw [show eqB o.kind 8 = true from eqB_true.2 h8]
    (repeat first | refine HReg.step ?_ | refine HCode.step ?_)
    refine HCall.mk ⟨Try.f21, Try.func21, by rfl, by rfl⟩ ?_
    refine list_f T.p ok (fun ho fl4 H4 P4 S4 => ?_) (fun ho a5 c5 ns fl4 H4 H5 P4 S4 nm hn16 m5 => ?_)
    · obtain ⟨R4, ap4⟩ := T.prog S4
      (repeat first | refine HReg.step ?_ | refine HCode.step ?_)
      refine HCall.mk ⟨Try.f49, Try.func49, by rfl, by rfl⟩ ?_
      refine rlist_t R4 c0 (fun _ H6 R6 S6 => ?_) (fun hf' => by rw [ho] at hf'; cases hf')
      (repeat first | refine HReg.step ?_ | refine HCode.step ?_)
      refine HCall.mk ⟨Try.f22, Try.func22, by rfl, by rfl⟩ ?_
      refine sameS_t (l := []) (OwnRow.nil H6 9 1).rows (OwnRow.nil H6 9 1).rows rfl rfl (by decide) ?_
      (repeat first | refine HReg.step ?_ | refine HCode.step ?_)
      rw [eqB_self 62]
      (repeat first | refine HReg.step ?_ | refine HCode.step ?_)
      exact fin e P4 S4 R4 ap4 R6 S6
    · obtain ⟨R4, ap4⟩ := T.prog S4
      have R5 := R4.upd0 m5.upd
      (repeat first | refine HReg.step ?_ | refine HCode.step ?_)
      refine HCall.mk ⟨Try.f49, Try.func49, by rfl, by rfl⟩ ?_
      refine rlist_t R5 c0 (fun hf' => by rw [ho] at hf'; cases hf') (fun _ a7 c7 ns2 H6 H7 R6 S6 nm2 _ m7 => ?_)
      have en : ns2 = ns := Nms.uniq nm2 nm (fun k => Iff.rfl)
      subst en
      have w5 := (m5.own.rows.upd S6.upd (.inr fun p hp hb => R4.live _ hb (m5.new p hp))).upd (S := []) m7.upd (.inr (Off.nil _))
      (repeat first | refine HReg.step ?_ | refine HCode.step ?_)
      refine HCall.mk ⟨Try.f22, Try.func22, by rfl, by rfl⟩ ?_
      refine sameS_t w5 m7.own.rows rfl rfl (by omega) ?_
      (repeat first | refine HReg.step ?_ | refine HCode.step ?_)
      rw [eqB_self 0]
      (repeat first | refine HReg.step ?_ | refine HCode.step ?_)
      exact fin e (P4.upd0 m5.upd) (S4.fwd0 m5.upd) R5 ap4 (R6.upd0 m7.upd) ⟨S6.upd.trans (m7.upd.mono (by simp)), S6.sub⟩
  rw [show eqB o.kind 8 = false from eqB_false.2 h8]
  (repeat first | refine HReg.step ?_ | refine HCode.step ?_)
  by_cases h9 : o.kind = 9
  · have e : (s.does o).2 = s.crash o.n := by unfold St.does; rw [if_neg h1, if_neg h2, if_neg h3, if_neg h4, if_neg h5, if_neg h6, if_neg h7, if_neg h8, if_pos h9]
    rw [show eqB o.kind 9 = true from eqB_true.2 h9]
    (repeat first | refine HReg.step ?_ | refine HCode.step ?_)
    refine HLoad.one (v := .int .i64 o.n) (by exact r3.get (i := 5) rfl) ?_
    (repeat first | refine HReg.step ?_ | refine HCode.step ?_)
    refine HCall.mk ⟨Try.f31, Try.func31, by rfl, by rfl⟩ ?_
    refine crash_t (keep := o.n) T.p fun fl4 H4 P4 S4 => ?_
    obtain ⟨R4, ap4⟩ := T.prog S4
    have r4 := cell_up r3 S4.upd b3d
    (repeat first | refine HReg.step ?_ | refine HCode.step ?_)
    refine HLoad.one (v := .int .i64 o.n) (by exact r4.get (i := 5) rfl) ?_
    (repeat first | refine HReg.step ?_ | refine HCode.step ?_)
    refine HCall.mk ⟨Try.f50, Try.func50, by rfl, by rfl⟩ ?_
    refine rcrash_t R4 hf.lo hf.hi (fun k x hx => by have := (ok.le k x hx).1; omega) (by have := ok.few; omega) fun H5 R5 S5 => ?_
    have t5 := two_ref P4 R4 ap4 R5 S5
    (repeat first | refine HReg.step ?_ | refine HCode.step ?_)
    refine HCall.mk ⟨Try.f26, Try.func26, by rfl, by rfl⟩ ?_
    refine down_t t5.p ?_
    (repeat first | refine HReg.step ?_ | refine HCode.step ?_)
    refine HCall.mk ⟨Try.f27, Try.func27, by rfl, by rfl⟩ ?_
    refine rdown_t t5.d ?_
    (repeat first | refine HReg.step ?_ | refine HCode.step ?_)
    rw [beq_self_eq_true]
    (repeat first | refine HReg.step ?_ | refine HCode.step ?_)
    exact fin e P4 S4 R4 ap4 R5 S5
  rw [show eqB o.kind 9 = false from eqB_false.2 h9]
  (repeat first | refine HReg.step ?_ | refine HCode.step ?_)
  by_cases h10 : o.kind = 10
  · have e : (s.does o).2 = s.upp := by unfold St.does; rw [if_neg h1, if_neg h2, if_neg h3, if_neg h4, if_neg h5, if_neg h6, if_neg h7, if_neg h8, if_neg h9, if_pos h10]
    rw [show eqB o.kind 10 = true from eqB_true.2 h10]
    (repeat first | refine HReg.step ?_ | refine HCode.step ?_)
    refine HCall.mk ⟨Try.f17, Try.func17, by rfl, by rfl⟩ ?_
    refine up_t T.p fun H4 P4 S4 => ?_
    obtain ⟨R4, ap4⟩ := T.prog S4
    have r4 := cell_up r3 S4.upd b3d
    (repeat first | refine HReg.step ?_ | refine HCode.step ?_)
    refine HCall.mk ⟨Try.f51, Try.func51, by rfl, by rfl⟩ ?_
    refine rup_t R4 fun H5 R5 S5 => ?_
    have t5 := two_ref P4 R4 ap4 R5 S5
    (repeat first | refine HReg.step ?_ | refine HCode.step ?_)
    refine HCall.mk ⟨Try.f26, Try.func26, by rfl, by rfl⟩ ?_
    refine down_t t5.p ?_
    (repeat first | refine HReg.step ?_ | refine HCode.step ?_)
    refine HCall.mk ⟨Try.f27, Try.func27, by rfl, by rfl⟩ ?_
    refine rdown_t t5.d ?_
    (repeat first | refine HReg.step ?_ | refine HCode.step ?_)
    rw [beq_self_eq_true]
    (repeat first | refine HReg.step ?_ | refine HCode.step ?_)
    exact fin e P4 S4 R4 ap4 R5 S5
  rw [show eqB o.kind 10 = false from eqB_false.2 h10]
  (repeat first | refine HReg.step ?_ | refine HCode.step ?_)
  by_cases h11 : o.kind = 11
  · have e : (s.does o).2 = s.full o.n := by unfold St.does; rw [if_neg h1, if_neg h2, if_neg h3, if_neg h4, if_neg h5, if_neg h6, if_neg h7, if_neg h8, if_neg h9, if_neg h10, if_pos h11]
    rw [show eqB o.kind 11 = true from eqB_true.2 h11]
    (repeat first | refine HReg.step ?_ | refine HCode.step ?_)
    refine HLoad.one (v := .int .i64 o.n) (by exact r3.get (i := 5) rfl) ?_
    (repeat first | refine HReg.step ?_ | refine HCode.step ?_)
    refine HCall.mk ⟨Try.f33, Try.func33, by rfl, by rfl⟩ ?_
    refine full_t T.p hf.hi fun H4 P4 S4 => ?_
    obtain ⟨R4, ap4⟩ := T.prog S4
    have r4 := cell_up r3 S4.upd b3d
    (repeat first | refine HReg.step ?_ | refine HCode.step ?_)
    refine HLoad.one (v := .int .i64 o.n) (by exact r4.get (i := 5) rfl) ?_
    (repeat first | refine HReg.step ?_ | refine HCode.step ?_)
    refine HCall.mk ⟨Try.f52, Try.func52, by rfl, by rfl⟩ ?_
    refine rfull_t R4 hf.hi fun H5 R5 S5 => ?_
    have t5 := two_ref P4 R4 ap4 R5 S5
    (repeat first | refine HReg.step ?_ | refine HCode.step ?_)
    refine HCall.mk ⟨Try.f26, Try.func26, by rfl, by rfl⟩ ?_
    refine down_t t5.p ?_
    (repeat first | refine HReg.step ?_ | refine HCode.step ?_)
    refine HCall.mk ⟨Try.f27, Try.func27, by rfl, by rfl⟩ ?_
    refine rdown_t t5.d ?_
    (repeat first | refine HReg.step ?_ | refine HCode.step ?_)
    rw [beq_self_eq_true]
    (repeat first | refine HReg.step ?_ | refine HCode.step ?_)
    exact fin e P4 S4 R4 ap4 R5 S5
  rw [show eqB o.kind 11 = false from eqB_false.2 h11]
  (repeat first | refine HReg.step ?_ | refine HCode.step ?_)
  by_cases h12 : o.kind = 12
  · have e : (s.does o).2 = s.arms o.n o.k := by unfold St.does; rw [if_neg h1, if_neg h2, if_neg h3, if_neg h4, if_neg h5, if_neg h6, if_neg h7, if_neg h8, if_neg h9, if_neg h10, if_neg h11, if_pos h12]
    rw [show eqB o.kind 12 = true from eqB_true.2 h12]
    (repeat first | refine HReg.step ?_ | refine HCode.step ?_)
    refine HLoad.one (v := .int .i64 o.n) (by exact r3.get (i := 5) rfl) ?_
    (repeat first | refine HReg.step ?_ | refine HCode.step ?_)
    refine HLoad.one (v := .int .i64 o.k) (by exact r3.get (i := 6) rfl) ?_
    (repeat first | refine HReg.step ?_ | refine HCode.step ?_)
    refine HCall.mk ⟨Try.f14, Try.func14, by rfl, by rfl⟩ ?_
    refine arm_t T.p hf.lo hf.hi fun H4 P4 S4 => ?_
    obtain ⟨R4, ap4⟩ := T.prog S4
    have r4 := cell_up r3 S4.upd b3d
    (repeat first | refine HReg.step ?_ | refine HCode.step ?_)
    refine HLoad.one (v := .int .i64 o.n) (by exact r4.get (i := 5) rfl) ?_
    (repeat first | refine HReg.step ?_ | refine HCode.step ?_)
    refine HLoad.one (v := .int .i64 o.k) (by exact r4.get (i := 6) rfl) ?_
    (repeat first | refine HReg.step ?_ | refine HCode.step ?_)
    refine HCall.mk ⟨Try.f53, Try.func53, by rfl, by rfl⟩ ?_
    refine rarm_t R4 hf.hi fun H5 R5 S5 => ?_
    have t5 := two_ref P4 R4 ap4 R5 S5
    (repeat first | refine HReg.step ?_ | refine HCode.step ?_)
    refine HCall.mk ⟨Try.f26, Try.func26, by rfl, by rfl⟩ ?_
    refine down_t t5.p ?_
    (repeat first | refine HReg.step ?_ | refine HCode.step ?_)
    refine HCall.mk ⟨Try.f27, Try.func27, by rfl, by rfl⟩ ?_
    refine rdown_t t5.d ?_
    (repeat first | refine HReg.step ?_ | refine HCode.step ?_)
    rw [beq_self_eq_true]
    (repeat first | refine HReg.step ?_ | refine HCode.step ?_)
    exact fin e P4 S4 R4 ap4 R5 S5
  rw [show eqB o.kind 12 = false from eqB_false.2 h12]
  (repeat first | refine HReg.step ?_ | refine HCode.step ?_)
  have e : (s.does o).2 = s := by unfold St.does; rw [if_neg h1, if_neg h2, if_neg h3, if_neg h4, if_neg h5, if_neg h6, if_neg h7, if_neg h8, if_neg h9, if_neg h10, if_neg h11, if_neg h12]
  refine HCall.mk ⟨Try.f26, Try.func26, by rfl, by rfl⟩ ?_
  refine down_t T.p ?_
  (repeat first | refine HReg.step ?_ | refine HCode.step ?_)
  refine HCall.mk ⟨Try.f27, Try.func27, by rfl, by rfl⟩ ?_
  refine rdown_t T.d ?_
  (repeat first | refine HReg.step ?_ | refine HCode.step ?_)
  rw [beq_self_eq_true]
  (repeat first | refine HReg.step ?_ | refine HCode.step ?_)
  exact fin e T.p (Stp.refl H3 g r fl) T.d T.ap T.d (Stq.refl H3 B)
end
end Go.Proofs.Ytocejipjnklieaa
