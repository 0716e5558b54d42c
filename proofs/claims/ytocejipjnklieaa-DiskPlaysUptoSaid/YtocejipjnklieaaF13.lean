import Derived.Test.YtocejipjnklieaaF12
namespace Go.Proofs.Ytocejipjnklieaa
open Go Hv
set_option linter.unusedVariables false
set_option linter.unusedSimpArgs false
set_option maxRecDepth 10000
set_option maxHeartbeats 4000000
/-! The document's disk: Delete. CUT2 -/
section
variable {H1 H : Heap} {g N : Nat} {s : St} {B : List Nat} {K : Value → Heap → Prop}
theorem rdelete_t {t : Txt} (R : RAt H1 H g s B) (c : Cok s N)
    (hk : ∀ H' B', RAt H1 H' g (s.delete (bs t)).2 B' → Stq H H' B B' → K (.int .i64 (s.delete (bs t)).1) H') : HCalls Try.prog 47 [.pointer (some ⟨g, 0, none⟩), .string (bs t)] H K := by
  refine hcalls (fn := Try.f47) [] mixed Try.func47 rfl rfl (by decide +kernel) ?_
  (repeat first | refine HReg.step ?_ | refine HCode.step ?_)
  refine HCall.mk ⟨Try.f57, Try.func57, by rfl, by rfl⟩ ?_
  refine rcounted_t R c.kl c.kh c.lo c.ok (Nat.le_trans c.hN (by decide)) fun H2 R2 S2 => ?_
  (repeat first | refine HReg.step ?_ | refine HCode.step ?_)
  refine hif (fun h1 => ?_) (fun h1 => ?_)
  · have e : s.delete (bs t) = (62, s.call) := St.has_off h1
    rw [e] at hk
    (repeat first | refine HReg.step ?_ | refine HCode.step ?_)
    exact hk H2 B R2 S2
  · have R2' := R2
    obtain ⟨fs, aF, cF, cl, st, r, rfl⟩ := R2
    have hfew := c.ok.call.few
    have hcn := r.cnt
    (repeat first | refine HReg.step ?_ | refine HCode.step ?_)
    refine HCall.mk ⟨Try.f59, Try.func59, by rfl, by rfl⟩ ?_
    refine rat_t r (by omega) (fun i f hf hn => ?_) (fun i hi hlt hgt => ?_)
    · have hg := r.get f (List.mem_of_getElem? hf)
      rw [hn] at hg
      have e : s.delete (bs t) = (0, s.call.del (bs t)) := St.has_yes h1 hg
      rw [e] at hk
      have hil := (List.getElem?_eq_some_iff.1 hf).1
      (repeat first | refine HReg.step ?_ | refine HCode.step ?_)
      rw [ltB_false.2 (by omega)]
      (repeat first | refine HReg.step ?_ | refine HCode.step ?_)
      refine HCall.mk ⟨Try.f61, Try.func61, by rfl, by rfl⟩ ?_
      refine rgone_t r.ph (by omega) hil fun aF' cF' H3 p3 s3 _ => ?_
      have r3 := r.del hf p3
      (repeat first | refine HReg.step ?_ | refine HCode.step ?_)
      rw [hn] at r3
      exact hk H3 _ ⟨_, _, _, _, _, r3, rfl⟩ (S2.trans s3)
    · have hnn := r.none hlt hgt
      have e : s.delete (bs t) = (61, s.call) := St.has_no h1 hnn
      rw [e] at hk
      (repeat first | refine HReg.step ?_ | refine HCode.step ?_)
      rw [ltB_true.2 (by omega)]
      (repeat first | refine HReg.step ?_ | refine HCode.step ?_)
      exact hk H2 _ R2' S2
end
end Go.Proofs.Ytocejipjnklieaa
