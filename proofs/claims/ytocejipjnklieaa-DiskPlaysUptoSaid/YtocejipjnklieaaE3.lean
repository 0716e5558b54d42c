import Derived.Test.YtocejipjnklieaaE2
namespace Go.Proofs.Ytocejipjnklieaa
open Go Hv
set_option linter.unusedVariables false
set_option linter.unusedSimpArgs false
set_option maxRecDepth 10000
set_option maxHeartbeats 2000000
/-! One call of a script on a disk. CUT2 -/
structure Opc where
  kind : Int
  who : Int
  name : Txt
  to : Txt
  b : List UInt8
  n : Int
  k : Int
def Opc.cells (o : Opc) (a : Option Addr) (c : Nat) : List Value := [.int .i64 o.kind, .int .i64 o.who, .string (bs o.name), .string (bs o.to), .slice a o.b.length c, .int .i64 o.n, .int .i64 o.k]
structure Opc.Fits (o : Opc) : Prop where
  lo : -9223372036854775808 ≤ o.n
  hi : o.n ≤ 9223372036854775807
  klo : -9223372036854775808 ≤ o.k
  khi : o.k ≤ 9223372036854775807
def St.does (s : St) (o : Opc) : Int × St :=
  if o.kind = 1 then s.append (bs o.name) o.b
  else if o.kind = 2 then s.sync (bs o.name)
  else if o.kind = 3 then ((s.readF (bs o.name)).1, s.call)
  else if o.kind = 4 then ((s.readF (bs o.name)).1, s.call)
  else if o.kind = 5 then s.cut (bs o.name) o.n
  else if o.kind = 6 then s.delete (bs o.name)
  else if o.kind = 7 then s.rename (bs o.name) (bs o.to)
  else if o.kind = 8 then ((if s.call.d.off then 62 else 0), s.call)
  else if o.kind = 9 then (0, s.crash o.n)
  else if o.kind = 10 then (0, s.upp)
  else if o.kind = 11 then (0, s.full o.n)
  else if o.kind = 12 then (0, s.arms o.n o.k)
  else (0, s)
theorem St.Ok.does {N : Nat} {s : St} (h : s.Ok N) (o : Opc) : (s.does o).2.Ok (N + o.b.length) := by
  have hm := Nat.le_add_right N o.b.length
  unfold St.does
  by_cases h1 : o.kind = 1
  · rw [if_pos h1]; exact h.append _ _
  rw [if_neg h1]
  by_cases h2 : o.kind = 2
  · rw [if_pos h2]; exact (h.sync _).mono hm
  rw [if_neg h2]
  by_cases h3 : o.kind = 3
  · rw [if_pos h3]; exact h.call.mono hm
  rw [if_neg h3]
  by_cases h4 : o.kind = 4
  · rw [if_pos h4]; exact h.call.mono hm
  rw [if_neg h4]
  by_cases h5 : o.kind = 5
  · rw [if_pos h5]; exact (h.cut _ _).mono hm
  rw [if_neg h5]
  by_cases h6 : o.kind = 6
  · rw [if_pos h6]; exact (h.delete _).mono hm
  rw [if_neg h6]
  by_cases h7 : o.kind = 7
  · rw [if_pos h7]; exact (h.rename _ _).mono hm
  rw [if_neg h7]
  by_cases h8 : o.kind = 8
  · rw [if_pos h8]; exact h.call.mono hm
  rw [if_neg h8]
  by_cases h9 : o.kind = 9
  · rw [if_pos h9]; exact (h.crash _).mono hm
  rw [if_neg h9]
  by_cases h10 : o.kind = 10
  · rw [if_pos h10]; exact h.upp.mono hm
  rw [if_neg h10]
  by_cases h11 : o.kind = 11
  · rw [if_pos h11]; exact (h.full _).mono hm
  rw [if_neg h11]
  by_cases h12 : o.kind = 12
  · rw [if_pos h12]; exact (h.arms _ _).mono hm
  rw [if_neg h12]; exact h.mono hm
theorem Stp.base {H H' : Heap} {g r : Nat} {fl fl' : List Fl} {H1 : Heap} {s : St} (D : DiskAt H1 H' g r s fl') : Upd [] H1 H' := D.base
theorem HNew.as {H : Heap} {o o' : Obj} {K : Nat → Heap → Prop} (e : o = o') (h : ∀ b, H b = none → K b (H.upd b o')) : HNew H o K := by rw [e]; exact HNew.mk h
section
variable {H1 H : Heap} {g r N : Nat} {s : St} {fl : List Fl} {K : Value → Heap → Prop}
theorem size_f {n : ByteArray} (D : DiskAt H1 H g r s fl) (hk : ∀ fl' H', DiskAt H1 H' g r s.call fl' → Stp H H' g r fl fl' → K (.tuple #[.int .i64 ((s.readF n).2.length : Int), .int .i64 (s.readF n).1]) H') : HCalls Try.prog 34 [.pointer (some ⟨g, 0, none⟩), .string n] H K := by
  refine size_t D (fun e fl' H' D' S' h => ?_) (fun x y fl' H' ho hx D' S' => ?_)
  · rcases h with ⟨ho, rfl⟩ | ⟨ho, hn, rfl⟩
    · have e1 : s.readF n = (62, []) := by unfold St.readF; rw [if_pos ho]
      have := hk fl' H' D' S'
      rw [e1] at this; exact this
    · have e1 : s.readF n = (61, []) := by unfold St.readF; rw [if_neg (by rw [ho]; decide), hn]
      have := hk fl' H' D' S'
      rw [e1] at this; exact this
  · have e1 : s.readF n = (0, x) := by unfold St.readF; rw [if_neg (by rw [ho]; decide), hx]
    have := hk fl' H' D' S'
    rw [e1] at this; exact this
theorem does_t {o : Opc} {a : Option Addr} {c : Nat} (D : DiskAt H1 H g r s fl) (ok : s.Ok N) (hb : RowAt H a (u8s o.b)) (hN : N + o.b.length ≤ 140737488355328) (hf : o.Fits)
    (hk : ∀ fl' H', DiskAt H1 H' g r (s.does o).2 fl' → Stp H H' g r fl fl' → K (.int .i64 (s.does o).1) H') : HCalls Try.prog 29 [.pointer (some ⟨g, 0, none⟩), .agg (o.cells a c).toArray] H K := by
  refine hcalls (fn := Try.f29) [(4, [(3, 0), (4, 0), (5, 0), (0, 1), (1, 1), (2, 1), (6, 0), (7, 0)])] mixed Try.func29 rfl rfl (by decide +kernel) ?_
  (repeat first | refine HReg.step ?_ | refine HCode.step ?_)
  refine HNew.as (o' := .cells (o.cells a c).toArray 48) rfl fun b3 hb3 => ?_
  have u3 : Upd [] H (H.upd b3 (.cells (o.cells a c).toArray 48)) := Upd.new hb3 _
  have o3 : OwnRow (H.upd b3 (.cells (o.cells a c).toArray 48)) 48 1 (some ⟨b3, 0, none⟩) 7 7 (o.cells a c) := OwnRow.lit (upd_same _ _ _) rfl
  generalize H.upd b3 (.cells (o.cells a c).toArray 48) = H3 at u3 o3 ⊢
  have D3 := D.upd0 u3
  have hb := hb.upd (S := []) u3 (.inr (Off.nil _))
  have kd := o3.rows.get (i := 0) rfl
  have nm := o3.rows.get (i := 2) rfl
  have tt := o3.rows.get (i := 3) rfl
  have bb := o3.rows.get (i := 4) rfl
  have nn := o3.rows.get (i := 5) rfl
  have kk := o3.rows.get (i := 6) rfl
  (repeat first | refine HReg.step ?_ | refine HCode.step ?_)
  refine HLoad.one (v := .int .i64 o.kind) (by exact kd) ?_
  (repeat first | refine HReg.step ?_ | refine HCode.step ?_)
  refine hif (fun h1 => ?_) (fun h1 => ?_)
  · have e : s.does o = s.append (bs o.name) o.b := by unfold St.does; rw [if_pos (eqB_true.1 h1)]
    rw [e] at hk
    (repeat first | refine HReg.step ?_ | refine HCode.step ?_)
    refine HLoad.one (v := .slice a o.b.length c) (by exact bb) ?_
    (repeat first | refine HReg.step ?_ | refine HCode.step ?_)
    refine HCall.mk ⟨Try.f12, Try.func12, by rfl, by rfl⟩ ?_
    refine own_t hb rfl (by omega) fun a4 c4 H4 m4 => ?_
    (repeat first | refine HReg.step ?_ | refine HCode.step ?_)
    refine HLoad_two (v := .string (bs o.name)) (by exact cell_upd m4.upd (by simp) nm) (by exact nm) ?_
    (repeat first | refine HReg.step ?_ | refine HCode.step ?_)
    refine HCall.mk ⟨Try.f11, Try.func11, by rfl, by rfl⟩ ?_
    refine append_t (D3.upd0 m4.upd) m4.own.rows rfl (off_made D3 m4) (fun x y hx => by have := (ok.call.le _ _ hx).1; simp only at this; omega) (by omega) fun fl' H' D' S' => ?_
    (repeat first | refine HReg.step ?_ | refine HCode.step ?_)
    exact hk fl' H' D' (S'.back0 (u3.trans m4.upd))
  have h1 := eqB_false.1 h1
  (repeat first | refine HReg.step ?_ | refine HCode.step ?_)
  refine hif (fun h2 => ?_) (fun h2 => ?_)
  · have e : s.does o = s.sync (bs o.name) := by unfold St.does; rw [if_neg h1, if_pos (eqB_true.1 h2)]
    rw [e] at hk
    (repeat first | refine HReg.step ?_ | refine HCode.step ?_)
    refine HLoad.one (v := .string (bs o.name)) (by exact nm) ?_
    (repeat first | refine HReg.step ?_ | refine HCode.step ?_)
    refine HCall.mk ⟨Try.f13, Try.func13, by rfl, by rfl⟩ ?_
    refine sync_f D3 fun fl' H' D' S' => ?_
    (repeat first | refine HReg.step ?_ | refine HCode.step ?_)
    exact hk fl' H' D' (S'.back0 u3)
  have h2 := eqB_false.1 h2
  (repeat first | refine HReg.step ?_ | refine HCode.step ?_)
  refine hif (fun h3 => ?_) (fun h3 => ?_)
  · have e : s.does o = ((s.readF (bs o.name)).1, s.call) := by unfold St.does; rw [if_neg h1, if_neg h2, if_pos (eqB_true.1 h3)]
    rw [e] at hk
    (repeat first | refine HReg.step ?_ | refine HCode.step ?_)
    refine HLoad.one (v := .string (bs o.name)) (by exact nm) ?_
    (repeat first | refine HReg.step ?_ | refine HCode.step ?_)
    refine HCall.mk ⟨Try.f18, Try.func18, by rfl, by rfl⟩ ?_
    refine read_f D3 fun a4 c4 fl' H2 H' D' S' m' => ?_
    (repeat first | refine HReg.step ?_ | refine HCode.step ?_)
    exact hk fl' H' (D'.upd0 m'.upd) ((S'.back0 u3).fwd0 m'.upd)
  have h3 := eqB_false.1 h3
  (repeat first | refine HReg.step ?_ | refine HCode.step ?_)
  refine hif (fun h4 => ?_) (fun h4 => ?_)
  · have e : s.does o = ((s.readF (bs o.name)).1, s.call) := by unfold St.does; rw [if_neg h1, if_neg h2, if_neg h3, if_pos (eqB_true.1 h4)]
    rw [e] at hk
    (repeat first | refine HReg.step ?_ | refine HCode.step ?_)
    refine HLoad.one (v := .string (bs o.name)) (by exact nm) ?_
    (repeat first | refine HReg.step ?_ | refine HCode.step ?_)
    refine HCall.mk ⟨Try.f34, Try.func34, by rfl, by rfl⟩ ?_
    refine size_f D3 fun fl' H' D' S' => ?_
    (repeat first | refine HReg.step ?_ | refine HCode.step ?_)
    exact hk fl' H' D' (S'.back0 u3)
  have h4 := eqB_false.1 h4
  (repeat first | refine HReg.step ?_ | refine HCode.step ?_)
  refine hif (fun h5 => ?_) (fun h5 => ?_)
  · have e : s.does o = s.cut (bs o.name) o.n := by unfold St.does; rw [if_neg h1, if_neg h2, if_neg h3, if_neg h4, if_pos (eqB_true.1 h5)]
    rw [e] at hk
    (repeat first | refine HReg.step ?_ | refine HCode.step ?_)
    refine HLoad.one (v := .string (bs o.name)) (by exact nm) ?_
    (repeat first | refine HReg.step ?_ | refine HCode.step ?_)
    refine HLoad.one (v := .int .i64 o.n) (by exact nn) ?_
    (repeat first | refine HReg.step ?_ | refine HCode.step ?_)
    refine HCall.mk ⟨Try.f35, Try.func35, by rfl, by rfl⟩ ?_
    refine cut_t D3 fun fl' H' D' S' => ?_
    (repeat first | refine HReg.step ?_ | refine HCode.step ?_)
    exact hk fl' H' D' (S'.back0 u3)
  have h5 := eqB_false.1 h5
  (repeat first | refine HReg.step ?_ | refine HCode.step ?_)
  refine hif (fun h6 => ?_) (fun h6 => ?_)
  · have e : s.does o = s.delete (bs o.name) := by unfold St.does; rw [if_neg h1, if_neg h2, if_neg h3, if_neg h4, if_neg h5, if_pos (eqB_true.1 h6)]
    rw [e] at hk
    (repeat first | refine HReg.step ?_ | refine HCode.step ?_)
    refine HLoad.one (v := .string (bs o.name)) (by exact nm) ?_
    (repeat first | refine HReg.step ?_ | refine HCode.step ?_)
    refine HCall.mk ⟨Try.f16, Try.func16, by rfl, by rfl⟩ ?_
    refine delete_t D3 fun fl' H' D' S' => ?_
    (repeat first | refine HReg.step ?_ | refine HCode.step ?_)
    exact hk fl' H' D' (S'.back0 u3)
  have h6 := eqB_false.1 h6
  (repeat first | refine HReg.step ?_ | refine HCode.step ?_)
  refine hif (fun h7 => ?_) (fun h7 => ?_)
  · have e : s.does o = s.rename (bs o.name) (bs o.to) := by unfold St.does; rw [if_neg h1, if_neg h2, if_neg h3, if_neg h4, if_neg h5, if_neg h6, if_pos (eqB_true.1 h7)]
    rw [e] at hk
    (repeat first | refine HReg.step ?_ | refine HCode.step ?_)
    refine HLoad.one (v := .string (bs o.name)) (by exact nm) ?_
    (repeat first | refine HReg.step ?_ | refine HCode.step ?_)
    refine HLoad.one (v := .string (bs o.to)) (by exact tt) ?_
    (repeat first | refine HReg.step ?_ | refine HCode.step ?_)
    refine HCall.mk ⟨Try.f15, Try.func15, by rfl, by rfl⟩ ?_
    refine rename_t D3 fun fl' H' D' S' => ?_
    (repeat first | refine HReg.step ?_ | refine HCode.step ?_)
    exact hk fl' H' D' (S'.back0 u3)
  have h7 := eqB_false.1 h7
  (repeat first | refine HReg.step ?_ | refine HCode.step ?_)
  refine hif (fun h8 => ?_) (fun h8 => ?_)
  · have e : s.does o = ((if s.call.d.off then 62 else 0), s.call) := by unfold St.does; rw [if_neg h1, if_neg h2, if_neg h3, if_neg h4, if_neg h5, if_neg h6, if_neg h7, if_pos (eqB_true.1 h8)]
    rw [e] at hk
    (repeat first | refine HReg.step ?_ | refine HCode.step ?_)
    refine HCall.mk ⟨Try.f21, Try.func21, by rfl, by rfl⟩ ?_
    refine list_f D3 ok (fun ho fl' H' D' S' => ?_) (fun ho a4 c4 ns fl' H2 H' D' S' _ _ m' => ?_)
    · rw [ho] at hk
      (repeat first | refine HReg.step ?_ | refine HCode.step ?_)
      exact hk fl' H' D' (S'.back0 u3)
    · rw [ho] at hk
      (repeat first | refine HReg.step ?_ | refine HCode.step ?_)
      exact hk fl' H' (D'.upd0 m'.upd) ((S'.back0 u3).fwd0 m'.upd)
  have h8 := eqB_false.1 h8
  (repeat first | refine HReg.step ?_ | refine HCode.step ?_)
  refine hif (fun h9 => ?_) (fun h9 => ?_)
  · have e : s.does o = (0, s.crash o.n) := by unfold St.does; rw [if_neg h1, if_neg h2, if_neg h3, if_neg h4, if_neg h5, if_neg h6, if_neg h7, if_neg h8, if_pos (eqB_true.1 h9)]
    rw [e] at hk
    (repeat first | refine HReg.step ?_ | refine HCode.step ?_)
    refine HLoad.one (v := .int .i64 o.n) (by exact nn) ?_
    (repeat first | refine HReg.step ?_ | refine HCode.step ?_)
    refine HCall.mk ⟨Try.f31, Try.func31, by rfl, by rfl⟩ ?_
    refine crash_t D3 fun fl' H' D' S' => ?_
    (repeat first | refine HReg.step ?_ | refine HCode.step ?_)
    exact hk fl' H' D' (S'.back0 u3)
  have h9 := eqB_false.1 h9
  (repeat first | refine HReg.step ?_ | refine HCode.step ?_)
  refine hif (fun h10 => ?_) (fun h10 => ?_)
  · have e : s.does o = (0, s.upp) := by unfold St.does; rw [if_neg h1, if_neg h2, if_neg h3, if_neg h4, if_neg h5, if_neg h6, if_neg h7, if_neg h8, if_neg h9, if_pos (eqB_true.1 h10)]
    rw [e] at hk
    (repeat first | refine HReg.step ?_ | refine HCode.step ?_)
    refine HCall.mk ⟨Try.f17, Try.func17, by rfl, by rfl⟩ ?_
    refine up_t D3 fun H' D' S' => ?_
    (repeat first | refine HReg.step ?_ | refine HCode.step ?_)
    exact hk fl H' D' (S'.back0 u3)
  have h10 := eqB_false.1 h10
  (repeat first | refine HReg.step ?_ | refine HCode.step ?_)
  refine hif (fun h11 => ?_) (fun h11 => ?_)
  · have e : s.does o = (0, s.full o.n) := by unfold St.does; rw [if_neg h1, if_neg h2, if_neg h3, if_neg h4, if_neg h5, if_neg h6, if_neg h7, if_neg h8, if_neg h9, if_neg h10, if_pos (eqB_true.1 h11)]
    rw [e] at hk
    (repeat first | refine HReg.step ?_ | refine HCode.step ?_)
    refine HLoad.one (v := .int .i64 o.n) (by exact nn) ?_
    (repeat first | refine HReg.step ?_ | refine HCode.step ?_)
    refine HCall.mk ⟨Try.f33, Try.func33, by rfl, by rfl⟩ ?_
    refine full_t D3 hf.hi fun H' D' S' => ?_
    (repeat first | refine HReg.step ?_ | refine HCode.step ?_)
    exact hk fl H' D' (S'.back0 u3)
  have h11 := eqB_false.1 h11
  (repeat first | refine HReg.step ?_ | refine HCode.step ?_)
  refine hif (fun h12 => ?_) (fun h12 => ?_)
  · have e : s.does o = (0, s.arms o.n o.k) := by unfold St.does; rw [if_neg h1, if_neg h2, if_neg h3, if_neg h4, if_neg h5, if_neg h6, if_neg h7, if_neg h8, if_neg h9, if_neg h10, if_neg h11, if_pos (eqB_true.1 h12)]
    rw [e] at hk
    (repeat first | refine HReg.step ?_ | refine HCode.step ?_)
    refine HLoad.one (v := .int .i64 o.n) (by exact nn) ?_
    (repeat first | refine HReg.step ?_ | refine HCode.step ?_)
    refine HLoad.one (v := .int .i64 o.k) (by exact kk) ?_
    (repeat first | refine HReg.step ?_ | refine HCode.step ?_)
    refine HCall.mk ⟨Try.f14, Try.func14, by rfl, by rfl⟩ ?_
    refine arm_t D3 hf.lo hf.hi fun H' D' S' => ?_
    (repeat first | refine HReg.step ?_ | refine HCode.step ?_)
    exact hk fl H' D' (S'.back0 u3)
  have h12 := eqB_false.1 h12
  have e : s.does o = (0, s) := by unfold St.does; rw [if_neg h1, if_neg h2, if_neg h3, if_neg h4, if_neg h5, if_neg h6, if_neg h7, if_neg h8, if_neg h9, if_neg h10, if_neg h11, if_neg h12]
  rw [e] at hk
  (repeat first | refine HReg.step ?_ | refine HCode.step ?_)
  exact hk fl H3 D3 ((Stp.refl H3 g r fl).back0 u3)
end
end Go.Proofs.Ytocejipjnklieaa
