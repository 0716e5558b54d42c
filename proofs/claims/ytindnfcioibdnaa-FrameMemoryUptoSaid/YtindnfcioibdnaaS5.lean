import Derived.Test.YtindnfcioibdnaaS4
namespace Go.Proofs.Ytindnfcioibdnaa
open Go Hv
set_option linter.unusedVariables false
set_option maxRecDepth 10000
theorem row_lit {H : Heap} {b : Nat} {l : List UInt8} {cur : Array Value} {e : TypeId} {f : Nat × Nat} (h : H b = some (.cells cur e f)) (hl : cur.toList = u8s l) : RowAt H (some ⟨b, 0, none⟩) (u8s l) := by
  rw [← hl]; exact RowAt.of_cells h
theorem split1 : splitA [] [0, 0, 0, 2, 97, 98, 0, 0, 0, 0, 0, 0, 0, 5, 97] = some ([[97, 98], []], [0, 0, 0, 5, 97]) := by decide +kernel
theorem split2 : splitA [] [0, 0, 0, 1, 97, 0, 16, 0, 1] = none := by decide +kernel
theorem all2_two {α β : Type} {R : α → β → Prop} {xs : List α} {y z : β} (h : All2 R xs [y, z]) : ∃ u v, xs = [u, v] ∧ R u y ∧ R v z := by
  match xs, h with
  | [u, v], h => exact ⟨u, v, rfl, h.1, h.2.1⟩

theorem same_eq {a b : Option Addr} {n m c d : Nat} {x y : List UInt8} {H : Heap} {K : Value → Heap → Prop} (hx : RowAt H a (u8s x)) (hn : x.length = n) (hy : RowAt H b (u8s y)) (hm : y.length = m) (hxy : x = y)
    (hk : K (.bool true) H) : HCalls Try.prog 14 [.slice a n c, .slice b m d] H K := by
  refine same_t hx hn hy hm ?_
  rw [decide_eq_true hxy]; exact hk
theorem alive_t {H : Heap} {K : Value → Heap → Prop} (hk : ∀ H', Upd [] H H' → K (.bool true) H') : HCalls Try.prog 8 [] H K := by
  refine hcalls (fn := Try.f8) [] mixed Try.func8 rfl rfl (by decide +kernel) ?_
  (repeat first | refine HReg.step ?_ | refine HCode.step ?_)
  refine HReq.mk (by decide) ?_
  (repeat first | refine HReg.step ?_ | refine HCode.step ?_)
  refine HNew.mk fun b1 hb1 => ?_
  (repeat first | refine HReg.step ?_ | refine HCode.step ?_)
  refine conv_mark Try.underlying22 Try.underlying5 (upd_same _ _ _) fun f1 => ?_
  rw [upd_upd]
  (repeat first | refine HReg.step ?_ | refine HCode.step ?_)
  refine HCall.mk ⟨Try.f9, Try.func9, by rfl, by rfl⟩ ?_
  refine build_t (ys := [97, 98]) (row_lit (upd_same _ _ _) rfl) rfl (by decide) (fun h => absurd h (by decide)) fun _ a1 c1 H1 m1 => ?_
  have u1 : Upd [] H H1 := (Upd.new hb1 _).trans m1.upd
  (repeat first | refine HReg.step ?_ | refine HCode.step ?_)
  refine HReq.mk (by decide) ?_
  (repeat first | refine HReg.step ?_ | refine HCode.step ?_)
  refine HNew.mk fun b2 hb2 => ?_
  (repeat first | refine HReg.step ?_ | refine HCode.step ?_)
  refine HCall.mk ⟨Try.f12, Try.func12, by rfl, by rfl⟩ ?_
  refine (split_t (ys := [0, 0, 0, 2, 97, 98, 0, 0, 0, 0, 0, 0, 0, 5, 97]) (row_lit (upd_same _ _ _) rfl) rfl (by decide) (by decide)).mono fun v2 H2 p2 => ?_
  obtain ⟨u2, p2⟩ := p2
  rw [split1] at p2
  obtain ⟨ao, no, co, ar, cr, hs, rfl, ho, hl, hr, _⟩ := p2.now
  have u2' : Upd [] H1 H2 := (Upd.new hb2 _).trans u2
  obtain ⟨s1, s2, rfl, hs1, hs2⟩ := all2_two hl
  (repeat first | refine HReg.step ?_ | refine HCode.step ?_)
  refine HReq.mk (by decide) ?_
  (repeat first | refine HReg.step ?_ | refine HCode.step ?_)
  refine HNew.mk fun b3 hb3 => ?_
  (repeat first | refine HReg.step ?_ | refine HCode.step ?_)
  refine HCall.mk ⟨Try.f12, Try.func12, by rfl, by rfl⟩ ?_
  refine (split_t (ys := [0, 0, 0, 1, 97, 0, 16, 0, 1]) (row_lit (upd_same _ _ _) rfl) rfl (by decide) (by decide)).mono fun v3 H3 p3 => ?_
  obtain ⟨u3, p3⟩ := p3
  rw [split2] at p3
  subst p3
  have u3' : Upd [] H2 H3 := (Upd.new hb3 _).trans u3
  (repeat first | refine HReg.step ?_ | refine HCode.step ?_)
  refine hif (fun _ => ?_) (fun h => absurd h (by simp [eqB_false]))
  (repeat first | refine HReg.step ?_ | refine HCode.step ?_)
  refine hif (fun _ => ?_) (fun h => absurd h (by simp [eqB_false]))
  (repeat first | refine HReg.step ?_ | refine HCode.step ?_)
  refine HReq.mk (by decide) ?_
  (repeat first | refine HReg.step ?_ | refine HCode.step ?_)
  refine HNew.mk fun b4 hb4 => ?_
  have u4 : Upd [] H3 (H3.upd b4 (.cells [.int .u8 0, .int .u8 0, .int .u8 0, .int .u8 2, .int .u8 97, .int .u8 98].toArray 5)) := Upd.new hb4 _
  (repeat first | refine HReg.step ?_ | refine HCode.step ?_)
  refine HCall.mk ⟨Try.f14, Try.func14, by rfl, by rfl⟩ ?_
  have r1 := (m1.own.rows.upd (u2'.trans (u3'.trans u4)) (.inr (Off.nil _)))
  refine same_eq (x := hd 2 ++ [97, 98]) (y := [0, 0, 0, 2, 97, 98]) r1 rfl (row_lit (upd_same _ _ _) rfl) rfl (by decide) ?_
  have hno : no = 2 := by have := ho.len; simp at this; omega
  subst hno
  obtain ⟨g, rfl⟩ := ho.addr (by decide)
  have rh := (ho.rows.upd (u3'.trans u4) (.inr (Off.nil _)))
  obtain ⟨ax, cx, rfl, ox⟩ := hs1
  obtain ⟨ay, cy, rfl, oy⟩ := hs2
  (repeat first | refine HReg.step ?_ | refine HCode.step ?_)
  refine hif (fun _ => ?_) (fun h => absurd h (by simp [eqB_false]))
  (repeat first | refine HReg.step ?_ | refine HCode.step ?_)
  refine HReq.mk ⟨by decide, by decide⟩ ?_
  (repeat first | refine HReg.step ?_ | refine HCode.step ?_)
  refine HLoad.one (by exact rh.get (i := 0) rfl) ?_
  (repeat first | refine HReg.step ?_ | refine HCode.step ?_)
  refine HReq.mk (by decide) ?_
  (repeat first | refine HReg.step ?_ | refine HCode.step ?_)
  refine HNew.mk fun b5 hb5 => ?_
  (repeat first | refine HReg.step ?_ | refine HCode.step ?_)
  refine conv_mark Try.underlying22 Try.underlying5 (upd_same _ _ _) fun f5 => ?_
  rw [upd_upd]
  generalize hH4 : H3.upd b4 (.cells [.int .u8 0, .int .u8 0, .int .u8 0, .int .u8 2, .int .u8 97, .int .u8 98].toArray 5) = H4 at u4 rh hb5 ⊢
  have u5 : Upd [] H4 (H4.upd b5 (.cells [.int .u8 97, .int .u8 98].toArray 5 f5)) := Upd.new hb5 _
  (repeat first | refine HReg.step ?_ | refine HCode.step ?_)
  refine HCall.mk ⟨Try.f14, Try.func14, by rfl, by rfl⟩ ?_
  refine same_eq (x := [97, 98]) (y := [97, 98]) (ox.rows.upd (u3'.trans (u4.trans u5)) (.inr (Off.nil _))) rfl (row_lit (upd_same _ _ _) rfl) rfl rfl ?_
  (repeat first | refine HReg.step ?_ | refine HCode.step ?_)
  refine HReq.mk ⟨by decide, by decide⟩ ?_
  (repeat first | refine HReg.step ?_ | refine HCode.step ?_)
  refine HLoad.one (by exact (rh.upd u5 (.inr (Off.nil _))).get (i := 1) rfl) ?_
  (repeat first | refine HReg.step ?_ | refine HCode.step ?_)
  refine hif (fun _ => ?_) (fun h => absurd h (by simp [eqB_false]))
  (repeat first | refine HReg.step ?_ | refine HCode.step ?_)
  refine HReq.mk (by decide) ?_
  (repeat first | refine HReg.step ?_ | refine HCode.step ?_)
  refine HNew.mk fun b6 hb6 => ?_
  generalize hH5 : H4.upd b5 (.cells [.int .u8 97, .int .u8 98].toArray 5 f5) = H5 at u5 hb6 ⊢
  have u6 : Upd [] H5 (H5.upd b6 (.cells [.int .u8 0, .int .u8 0, .int .u8 0, .int .u8 5, .int .u8 97].toArray 5)) := Upd.new hb6 _
  (repeat first | refine HReg.step ?_ | refine HCode.step ?_)
  refine HCall.mk ⟨Try.f14, Try.func14, by rfl, by rfl⟩ ?_
  refine same_eq (x := [0, 0, 0, 5, 97]) (y := [0, 0, 0, 5, 97]) (hr.rows.upd (u3'.trans (u4.trans (u5.trans u6))) (.inr (Off.nil _))) rfl (row_lit (upd_same _ _ _) rfl) rfl rfl ?_
  (repeat first | refine HReg.step ?_ | refine HCode.step ?_)
  have e3 : eqB 3 3 = true := eqB_true.2 rfl
  have := hk _ (u1.trans (u2'.trans (u3'.trans (u4.trans (u5.trans u6)))))
  rw [← e3] at this
  exact this
end Go.Proofs.Ytindnfcioibdnaa
