import Derived.Test.YtocejipjnklieaaD8
namespace Go.Proofs.Ytocejipjnklieaa
open Go Hv
set_option linter.unusedVariables false
set_option linter.unusedSimpArgs false
set_option maxRecDepth 10000
set_option maxHeartbeats 4000000
/-! alive, begins -/
def nmA : ByteArray := ⟨#[97]⟩
theorem off_new {H1 H H' : Heap} {g r b : Nat} {s : St} {fl : List Fl} {p : Addr} (D : DiskAt H1 H g r s fl) (hb : H b = none) (hp : p.block = b) : Off (dblk g r fl) (some p) := by
  intro q hq hm
  cases hq
  rw [hp] at hm
  exact D.phys.live b hm hb
theorem off_made {H1 H H' : Heap} {g r n c size : Nat} {e : TypeId} {s : St} {fl : List Fl} {a : Option Addr} {xs : List Value} (D : DiskAt H1 H g r s fl) (m : Made H H' e size a n c xs) : Off (dblk g r fl) a := fun p hp hm => D.phys.live p.block hm (m.new p hp)
theorem St.call_idle {s : St} (h : s.d.armed = false) : s.call = s := by unfold St.call; rw [if_neg (by rw [h]; simp)]
def al1 : St := (St0.append nmA [120, 121]).2
def al2 : St := (al1.sync nmA).2
def al3 : St := (al2.append nmA [122, 49]).2
def al4 : St := al3.crash 1
def al5 : St := al4.upp
theorem al_1 : (St0.append nmA [120, 121]).1 = 0 := by decide +kernel
theorem al_2 : (al1.sync nmA).1 = 0 := by decide +kernel
theorem al_3 : (al2.append nmA [122, 49]).1 = 0 := by decide +kernel
theorem al_4 : al4.call.d.off = true := by decide +kernel
theorem al_5 : al5.call.d.off = false ∧ al5.call.fs nmA = some ([120, 121, 122], 3) := by decide +kernel
theorem al_6 : al1.call.fs nmA = some ([120, 121], 0) := by decide +kernel
theorem al_7 : al2.call.fs nmA = some ([120, 121], 2) := by decide +kernel
theorem alive_t {H : Heap} {K : Value → Heap → Prop} (hk : ∀ H', Upd [] H H' → K (.bool true) H') : HCalls Try.prog 9 [] H K := by
  refine hcalls (fn := Try.f9) [] mixed Try.func9 rfl rfl rfl ?_
  (repeat first | refine HReg.step ?_ | refine HCode.step ?_)
  refine HCall.mk ⟨Try.f10, Try.func10, by rfl, by rfl⟩ ?_
  refine new_t fun g r H1 D1 u1 => ?_
  (repeat first | refine HReg.step ?_ | refine HCode.step ?_)
  refine HReq.mk (by decide) ?_
  (repeat first | refine HReg.step ?_ | refine HCode.step ?_)
  refine HNew.mk fun b2 hb2 => ?_
  (repeat first | refine HReg.step ?_ | refine HCode.step ?_)
  refine conv_mark Try.underlying22 Try.underlying5 (upd_same _ _ _) fun f1 => ?_
  rw [upd_upd]
  have u2 : Upd [] H1 (H1.upd b2 (.cells [Value.int .u8 120, .int .u8 121].toArray 5 f1)) := Upd.new hb2 _
  have D2 := D1.upd0 u2
  (repeat first | refine HReg.step ?_ | refine HCode.step ?_)
  refine HCall.mk ⟨Try.f11, Try.func11, by rfl, by rfl⟩ ?_
  refine append_t (n := nmA) D2 (ys := [120, 121]) (row_lit (upd_same _ _ _) rfl) rfl (off_new (H' := H1) D1 hb2 rfl) (fun x y h => by cases h) (by decide) fun fl3 H3 D3 st3 => ?_
  rw [al_1]
  have st3 := st3.back0 u2
  (repeat first | refine HReg.step ?_ | refine HCode.step ?_)
  refine hif (fun h => absurd rfl (not_eqB_true.1 h)) (fun _ => ?_)
  (repeat first | refine HReg.step ?_ | refine HCode.step ?_)
  refine HCall.mk ⟨Try.f13, Try.func13, by rfl, by rfl⟩ ?_
  refine sync_f (n := nmA) (s := al1) D3 fun fl4 H4 D4 st4 => ?_
  rw [al_2]
  have st4 := st3.trans st4
  (repeat first | refine HReg.step ?_ | refine HCode.step ?_)
  refine hif (fun h => absurd rfl (not_eqB_true.1 h)) (fun _ => ?_)
  (repeat first | refine HReg.step ?_ | refine HCode.step ?_)
  refine HReq.mk (by decide) ?_
  (repeat first | refine HReg.step ?_ | refine HCode.step ?_)
  refine HNew.mk fun b5 hb5 => ?_
  (repeat first | refine HReg.step ?_ | refine HCode.step ?_)
  refine conv_mark Try.underlying22 Try.underlying5 (upd_same _ _ _) fun f5 => ?_
  rw [upd_upd]
  have u5 : Upd [] H4 (H4.upd b5 (.cells [Value.int .u8 122, .int .u8 49].toArray 5 f5)) := Upd.new hb5 _
  have D5 := D4.upd0 u5
  (repeat first | refine HReg.step ?_ | refine HCode.step ?_)
  refine HCall.mk ⟨Try.f11, Try.func11, by rfl, by rfl⟩ ?_
  refine append_t (n := nmA) (s := al2) D5 (ys := [122, 49]) (row_lit (upd_same _ _ _) rfl) rfl (off_new (H' := H4) D4 hb5 rfl) (fun x y h => by rw [al_7] at h; cases h; decide) (by decide) fun fl6 H6 D6 st6 => ?_
  rw [al_3]
  have st6 := st4.trans (st6.back0 u5)
  (repeat first | refine HReg.step ?_ | refine HCode.step ?_)
  refine hif (fun h => absurd rfl (not_eqB_true.1 h)) (fun _ => ?_)
  (repeat first | refine HReg.step ?_ | refine HCode.step ?_)
  refine HCall.mk ⟨Try.f31, Try.func31, by rfl, by rfl⟩ ?_
  refine crash_t (s := al3) D6 fun fl7 H7 D7 st7 => ?_
  have st7 := st6.trans st7
  (repeat first | refine HReg.step ?_ | refine HCode.step ?_)
  refine HCall.mk ⟨Try.f18, Try.func18, by rfl, by rfl⟩ ?_
  refine read_t (n := nmA) (s := al4) D7 (fun e fl8 H8 D8 st8 h => ?_) (fun x y a c fl8 H2 H' h => by rw [al_4] at h; cases h)
  rcases h with ⟨_, rfl⟩ | ⟨h, _⟩
  rotate_left
  · rw [al_4] at h; cases h
  have st8 := st7.trans st8
  (repeat first | refine HReg.step ?_ | refine HCode.step ?_)
  refine HCall.mk ⟨Try.f17, Try.func17, by rfl, by rfl⟩ ?_
  refine up_t (s := al4.call) D8 fun H9 D9 st9 => ?_
  have st9 := st8.trans st9
  (repeat first | refine HReg.step ?_ | refine HCode.step ?_)
  refine HCall.mk ⟨Try.f18, Try.func18, by rfl, by rfl⟩ ?_
  have e5 : al4.call.upp.call.d.off = false ∧ al4.call.upp.call.fs nmA = some ([120, 121, 122], 3) := by decide +kernel
  refine read_t (n := nmA) (s := al4.call.upp) D9 (fun e fl10 H10 D10 st10 h => ?_) (fun x y a c fl10 H2 H10 ho hget D10 st10 m10 => ?_)
  · rcases h with ⟨h, _⟩ | ⟨_, h, _⟩
    · rw [e5.1] at h; cases h
    · rw [e5.2] at h; cases h
  rw [e5.2] at hget; cases hget
  have st10 := st9.trans st10
  (repeat first | refine HReg.step ?_ | refine HCode.step ?_)
  refine hif (fun _ => ?_) (fun h => absurd h (by simp [eqB_false]))
  (repeat first | refine HReg.step ?_ | refine HCode.step ?_)
  refine hif (fun _ => ?_) (fun h => absurd h (by simp [eqB_false]))
  (repeat first | refine HReg.step ?_ | refine HCode.step ?_)
  refine HBytes.row [120, 121, 122] rfl (by simpa using m10.own.rows) ?_ (by simp)
  (repeat first | refine HReg.step ?_ | refine HCode.step ?_)
  have e : seqB (bs [120, 121, 122]) (bs [120, 121, 122]) = true := by rw [seqB_bs]; simp
  rw [show ByteArray.mk #[120, 121, 122] = bs [120, 121, 122] from rfl, e]
  (repeat first | refine HReg.step ?_ | refine HCode.step ?_)
  exact hk _ (D10.phys.grp.upd.trans m10.upd)
end Go.Proofs.Ytocejipjnklieaa
