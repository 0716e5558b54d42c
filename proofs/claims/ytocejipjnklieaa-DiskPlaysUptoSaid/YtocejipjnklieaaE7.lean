import Derived.Test.YtocejipjnklieaaE6
namespace Go.Proofs.Ytocejipjnklieaa
open Go Hv
set_option linter.unusedVariables false
set_option linter.unusedSimpArgs false
set_option maxRecDepth 10000
set_option maxHeartbeats 2000000
/-! Shots beside each other. CUT2 -/
structure SmInv (n : Nat) (H : Heap) (m : Nat) (vs : List Value) (H' : Heap) : Prop where
  ex : ∃ i : Nat, vs = [.int .i64 (i : Int)] ∧ m + i = n ∧ H' = H
def RdV (H : Heap) (v : Value) (x : List UInt8) : Prop := ∃ a c, v = .slice a x.length c ∧ RowAt H a (u8s x) ∧ x.length ≤ c
structure ShV (H : Heap) (v : Value) (ns : List Txt) (bl : List (List UInt8)) : Prop where
  ex : ∃ (aN aB : Option Addr) (cN cB : Nat) (vs : List Value), v = .agg [.slice aN ns.length cN, .slice aB bl.length cB].toArray ∧ RowAt H aN (txts ns) ∧ RowAt H aB vs ∧ All2 (RdV H) vs bl
theorem RdV.upd0 {H H' : Heap} {v : Value} {x : List UInt8} (h : RdV H v x) (u : Upd [] H H') : RdV H' v x := by
  obtain ⟨a, c, e, r, l⟩ := h; exact ⟨a, c, e, r.upd (S := []) u (.inr (Off.nil _)), l⟩
theorem ShV.upd0 {H H' : Heap} {v : Value} {ns : List Txt} {bl : List (List UInt8)} (h : ShV H v ns bl) (u : Upd [] H H') : ShV H' v ns bl := by
  obtain ⟨aN, aB, cN, cB, vs, e, r1, r2, al⟩ := h
  exact ⟨aN, aB, cN, cB, vs, e, r1.upd (S := []) u (.inr (Off.nil _)), r2.upd (S := []) u (.inr (Off.nil _)), al.mono fun v x h => h.upd0 u⟩
theorem all2_map {α β γ : Type} {R : α → β → Prop} {Q : α → γ → Prop} {f : β → γ} (h : ∀ x y, R x y → Q x (f y)) : ∀ {xs : List α} {ys : List β}, All2 R xs ys → All2 Q xs (ys.map f)
  | [], [], _ => trivial
  | x :: xs, y :: ys, hr => ⟨h _ _ hr.1, all2_map h hr.2⟩
/-- A shot, read in a heap that leaves out the disk's own blocks. -/
theorem ShotR.shv {Z : Nat → Prop} {H H' : Heap} {B T : List Nat} {v : Value} {s : St} {ns : List Txt} (h : ShotR Z H B v s ns) (u : Upd T H H') (hT : ∀ b, Z b → H b ≠ none → b ∉ B → b ∉ T) : ShV H' v ns (ns.map (bytesAt s)) := by
  obtain ⟨aN, aB, cN, cB, vs, e, kN, kB, al⟩ := h
  have off : ∀ {e size n c : Nat} {a : Option Addr} {xs : List Value}, Kept Z H B e size a n c xs → Off T a := fun k => off_notin fun b hb => hT b (k.new b hb) (k.live b hb) (k.off b hb)
  refine ⟨aN, aB, cN, cB, vs, by rw [List.length_map]; exact e, kN.own.rows.upd u (.inr (off kN)), kB.own.rows.upd u (.inr (off kB)), all2_map (fun v t h => ?_) al⟩
  obtain ⟨a, c, e, k⟩ := h
  exact ⟨a, c, e, k.own.rows.upd u (.inr (off k)), k.own.le⟩
section
variable {H : Heap} {K : Value → Heap → Prop}
theorem sameS_t {a b : Option Addr} {n m c d : Nat} {l : List Txt} (hx : RowAt H a (txts l)) (hy : RowAt H b (txts l)) (hn : l.length = n) (hm : l.length = m) (hlim : n ≤ 9000000000000000000)
    (hk : K (.bool true) H) : HCalls Try.prog 22 [.slice a n c, .slice b m d] H K := by
  refine hcalls (fn := Try.f22) [(6, [(0, 0), (1, 0), (2, 0), (3, 0), (4, 0), (5, 0), (6, 0), (7, 0), (8, 0)])] mixed Try.func22 rfl rfl (by decide +kernel) ?_
  subst hn hm
  (repeat first | refine HReg.step ?_ | refine HCode.step ?_)
  rw [eqB_self ((l.length : Nat) : Int)]
  (repeat first | refine HReg.step ?_ | refine HCode.step ?_)
  refine hloopC [4, 5, 11, 12, 13, 14, 15, 16, 17, 18, 19, 20, 21, 22, 23, 24, 25] [5] (SmInv l.length H) rfl (by repeat' first | exact Resp.retD | exact Resp1.valuesK | refine Resp.blockD ?_ | refine Resp.thenD ?_ ?_ | refine Resp.hcode ?_) ?_ ?_
  · exact ⟨l.length, SmInv.mk ⟨0, rfl, rfl, rfl⟩⟩
  rintro q _ fe H1 ⟨i, rfl, hmi, rfl⟩
  have w2 : wr .i64 ((i : Int) + 1) = ((i + 1 : Nat) : Int) := by rw [wr_i64 (by omega) (by omega)]; omega
  (repeat first | refine HReg.step ?_ | refine HCode.step ?_)
  refine hif (fun h1 => ?_) (fun h1 => ?_)
  · have h1 := ltB_true.1 h1
    obtain ⟨s, hs⟩ : ∃ s, l[i]? = some s := ⟨l[i]'(by omega), by simp⟩
    obtain ⟨ba, bo, rfl, _⟩ := hx i _ (txts_get hs)
    obtain ⟨bb, bo2, rfl, _⟩ := hy i _ (txts_get hs)
    (repeat first | refine HReg.step ?_ | refine HCode.step ?_)
    refine HReq.mk ⟨by omega, by omega⟩ ?_
    (repeat first | refine HReg.step ?_ | refine HCode.step ?_)
    refine HLoad.one (v := .string (bs s)) (by exact hx.get (txts_get hs)) ?_
    (repeat first | refine HReg.step ?_ | refine HCode.step ?_)
    refine HReq.mk ⟨by omega, by omega⟩ ?_
    (repeat first | refine HReg.step ?_ | refine HCode.step ?_)
    refine HLoad.one (v := .string (bs s)) (by exact hy.get (txts_get hs)) ?_
    (repeat first | refine HReg.step ?_ | refine HCode.step ?_)
    rw [seqB_bs, decide_eq_true rfl]
    (repeat first | refine HReg.step ?_ | refine HCode.step ?_)
    rw [w2]
    exact ⟨q - 1, by omega, SmInv.mk ⟨i + 1, rfl, by omega, rfl⟩⟩
  · (repeat first | refine HReg.step ?_ | refine HCode.step ?_)
    exact hk
theorem sameShot_t {v w : Value} {ns : List Txt} {bl : List (List UInt8)} (hx : ShV H v ns bl) (hy : ShV H w ns bl) (hn : ns.length ≤ 1000) (hb : bl.length ≤ 1000) (hk : ∀ H', Upd [] H H' → K (.bool true) H') : HCalls Try.prog 32 [v, w] H K := by
  obtain ⟨aN, aB, cN, cB, vs, rfl, r1, r2, al⟩ := hx
  obtain ⟨xN, xB, dN, dB, ws, rfl, t1, t2, bl'⟩ := hy
  refine hcalls (fn := Try.f32) [(6, [(0, 0), (1, 0), (2, 0), (3, 0), (4, 0), (5, 0), (6, 0), (7, 0), (8, 0), (9, 0), (10, 0), (11, 0)])] mixed Try.func32 rfl rfl (by decide +kernel) ?_
  (repeat first | refine HReg.step ?_ | refine HCode.step ?_)
  refine HNew.as (o' := .cells [.slice aN ns.length cN, .slice aB bl.length cB].toArray 55) rfl fun b2 hb2 => ?_
  have u2 : Upd [] H (H.upd b2 (.cells [.slice aN ns.length cN, .slice aB bl.length cB].toArray 55)) := Upd.new hb2 _
  have o2 : RowAt (H.upd b2 (.cells [.slice aN ns.length cN, .slice aB bl.length cB].toArray 55)) (some ⟨b2, 0, none⟩) [.slice aN ns.length cN, .slice aB bl.length cB] := RowAt.of_cells (upd_same _ _ _)
  generalize H.upd b2 (.cells [.slice aN ns.length cN, .slice aB bl.length cB].toArray 55) = H2 at u2 o2 ⊢
  (repeat first | refine HReg.step ?_ | refine HCode.step ?_)
  refine HNew.as (o' := .cells [.slice xN ns.length dN, .slice xB bl.length dB].toArray 55) rfl fun b3 hb3 => ?_
  have u3 : Upd [] H2 (H2.upd b3 (.cells [.slice xN ns.length dN, .slice xB bl.length dB].toArray 55)) := Upd.new hb3 _
  have o3 : RowAt (H2.upd b3 (.cells [.slice xN ns.length dN, .slice xB bl.length dB].toArray 55)) (some ⟨b3, 0, none⟩) [.slice xN ns.length dN, .slice xB bl.length dB] := RowAt.of_cells (upd_same _ _ _)
  generalize H2.upd b3 (.cells [.slice xN ns.length dN, .slice xB bl.length dB].toArray 55) = H3 at u3 o3 ⊢
  have o2 := o2.upd (S := []) u3 (.inr (Off.nil _))
  have u03 := u2.trans u3
  have r1 := r1.upd (S := []) u03 (.inr (Off.nil _))
  have r2 := r2.upd (S := []) u03 (.inr (Off.nil _))
  have t1 := t1.upd (S := []) u03 (.inr (Off.nil _))
  have t2 := t2.upd (S := []) u03 (.inr (Off.nil _))
  have al := al.mono fun v x h => h.upd0 u03
  have bl' := bl'.mono fun v x h => h.upd0 u03
  (repeat first | refine HReg.step ?_ | refine HCode.step ?_)
  refine HLoad.one (v := .slice aN ns.length cN) (by exact o2.get (i := 0) rfl) ?_
  (repeat first | refine HReg.step ?_ | refine HCode.step ?_)
  refine HLoad.one (v := .slice xN ns.length dN) (by exact o3.get (i := 0) rfl) ?_
  (repeat first | refine HReg.step ?_ | refine HCode.step ?_)
  refine HCall.mk ⟨Try.f22, Try.func22, by rfl, by rfl⟩ ?_
  refine sameS_t r1 t1 rfl rfl (by omega) ?_
  (repeat first | refine HReg.step ?_ | refine HCode.step ?_)
  refine hloopC [4, 5, 12, 13, 14, 15, 16, 17, 18, 19, 20, 21, 22, 23, 24, 25, 26, 27, 28, 29, 30] [5] (SmInv bl.length H3) rfl (by repeat' first | exact Resp.retD | exact Resp1.valuesK | refine Resp.blockD ?_ | refine Resp.thenD ?_ ?_ | refine Resp.hcode ?_) ?_ ?_
  · exact ⟨bl.length, SmInv.mk ⟨0, rfl, rfl, rfl⟩⟩
  rintro q _ fe H4 ⟨i, rfl, hmi, hH⟩
  have hH := hH.symm
  subst hH
  have w2 : wr .i64 ((i : Int) + 1) = ((i + 1 : Nat) : Int) := by rw [wr_i64 (by omega) (by omega)]; omega
  (repeat first | refine HReg.step ?_ | refine HCode.step ?_)
  refine HLoad.one (v := .slice aB bl.length cB) (by exact o2.get (i := 1) rfl) ?_
  (repeat first | refine HReg.step ?_ | refine HCode.step ?_)
  refine hif (fun h1 => ?_) (fun h1 => ?_)
  · have h1 := ltB_true.1 h1
    obtain ⟨s, hs⟩ : ∃ s, bl[i]? = some s := ⟨bl[i]'(by omega), by simp⟩
    obtain ⟨v1, hv1, a1, c1, rfl, q1, _⟩ := al.get hs
    obtain ⟨v2, hv2, a2, c2, rfl, q2, _⟩ := bl'.get hs
    obtain ⟨ba, bo, rfl, _⟩ := r2 i _ hv1
    obtain ⟨bb, bo2, rfl, _⟩ := t2 i _ hv2
    (repeat first | refine HReg.step ?_ | refine HCode.step ?_)
    refine HLoad.one (v := .slice (some ⟨ba, bo, none⟩) bl.length cB) (by exact o2.get (i := 1) rfl) ?_
    (repeat first | refine HReg.step ?_ | refine HCode.step ?_)
    refine HReq.mk ⟨by omega, by omega⟩ ?_
    (repeat first | refine HReg.step ?_ | refine HCode.step ?_)
    refine HLoad.one (by exact r2.get hv1) ?_
    (repeat first | refine HReg.step ?_ | refine HCode.step ?_)
    refine HLoad.one (v := .slice (some ⟨bb, bo2, none⟩) bl.length dB) (by exact o3.get (i := 1) rfl) ?_
    (repeat first | refine HReg.step ?_ | refine HCode.step ?_)
    refine HReq.mk ⟨by omega, by omega⟩ ?_
    (repeat first | refine HReg.step ?_ | refine HCode.step ?_)
    refine HLoad.one (by exact t2.get hv2) ?_
    (repeat first | refine HReg.step ?_ | refine HCode.step ?_)
    refine HCall.mk ⟨Try.f19, Try.func19, by rfl, by rfl⟩ ?_
    refine same_eq q1 rfl q2 rfl rfl ?_
    (repeat first | refine HReg.step ?_ | refine HCode.step ?_)
    rw [w2]
    exact ⟨q - 1, by omega, SmInv.mk ⟨i + 1, rfl, by omega, rfl⟩⟩
  · (repeat first | refine HReg.step ?_ | refine HCode.step ?_)
    exact hk _ u03
end
end Go.Proofs.Ytocejipjnklieaa
