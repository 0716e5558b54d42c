import Derived.Test.YtfcmjomnpahllaaDk3
namespace Go.Proofs.Ytfcmjomnpahllaa
open Go Hv
set_option linter.unusedVariables false
set_option linter.unusedSimpArgs false
set_option maxRecDepth 10000
set_option maxHeartbeats 4000000
def St.call (s : St) : St := if s.d.armed then (if s.d.calls = 0 then s.crash s.d.keep else { s with d := { s.d with calls := s.d.calls - 1 } }) else s
section
variable {H1 H : Heap} {g r : Nat} {s : St} {fl : List Fl} {K : Value → Heap → Prop}
theorem call_t (D : DiskAt H1 H g r s fl) (hk : ∀ fl' H', DiskAt H1 H' g r s.call fl' → Stp H H' g r fl fl' → K (.bool (!s.call.d.off)) H') : HCalls Try.prog 42 [.pointer (some ⟨g, 0, none⟩)] H K := by
  refine hcalls (fn := Try.f42) [] mixed Try.func42 rfl rfl rfl ?_
  have P := D.phys
  (repeat first | refine HReg.step ?_ | refine HCode.step ?_)
  refine HLoad.one (v := .bool s.d.armed) (by exact P.obj.rows.get (i := 3) rfl) ?_
  (repeat first | refine HReg.step ?_ | refine HCode.step ?_)
  refine hif (fun ha => ?_) (fun ha => ?_)
  · (repeat first | refine HReg.step ?_ | refine HCode.step ?_)
    refine HLoad.one (v := .int .i64 s.d.calls) (by exact P.obj.rows.get (i := 4) rfl) ?_
    (repeat first | refine HReg.step ?_ | refine HCode.step ?_)
    refine hif (fun hc => ?_) (fun hc => ?_)
    · have hc := eqB_true.1 hc
      have e : s.call = s.crash s.d.keep := by unfold St.call; rw [if_pos ha, if_pos hc]
      rw [e] at hk
      (repeat first | refine HReg.step ?_ | refine HCode.step ?_)
      refine HLoad.one (v := .int .i64 s.d.keep) (by exact P.obj.rows.get (i := 5) rfl) ?_
      (repeat first | refine HReg.step ?_ | refine HCode.step ?_)
      refine HCall.mk ⟨Try.f20, Try.func20, by rfl, by rfl⟩ ?_
      refine crash_t D fun fl' H' D' st => ?_
      (repeat first | refine HReg.step ?_ | refine HCode.step ?_)
      refine HLoad.one (v := .bool (s.crash s.d.keep).d.off) (by exact D'.phys.obj.rows.get (i := 1) rfl) ?_
      (repeat first | refine HReg.step ?_ | refine HCode.step ?_)
      exact hk fl' H' D' st
    · have hc := eqB_false.1 hc
      have h0 := D.arm ha
      have h1 := D.hi
      have hw : wr .i64 (s.d.calls - 1) = s.d.calls - 1 := wr_i64 (by omega) (by omega)
      have e : s.call = { s with d := { s.d with calls := s.d.calls - 1 } } := by unfold St.call; rw [if_pos ha, if_neg hc]
      rw [e] at hk
      (repeat first | refine HReg.step ?_ | refine HCode.step ?_)
      refine HLoad.one (v := .int .i64 s.d.calls) (by exact P.obj.rows.get (i := 4) rfl) ?_
      (repeat first | refine HReg.step ?_ | refine HCode.step ?_)
      rw [hw]
      refine store_row P.obj (v := .int .i64 (s.d.calls - 1)) rfl (i := 4) (by decide) (by rfl) fun H4 o4 u4 => ?_
      have P4 : DiskP H1 H4 g r { s.d with calls := s.d.calls - 1 } fl := P.setd o4 u4
      (repeat first | refine HReg.step ?_ | refine HCode.step ?_)
      refine HLoad.one (v := .bool s.d.off) (by exact P4.obj.rows.get (i := 1) rfl) ?_
      (repeat first | refine HReg.step ?_ | refine HCode.step ?_)
      exact hk fl H4 ⟨P4, D.get, D.all, D.cnt, fun _ => (by show 0 ≤ s.d.calls - 1; omega), by show _ ≤ s.d.calls - 1; omega, by show s.d.calls - 1 ≤ _; omega, D.rhi⟩ (Stp.g u4)
  · have e : s.call = s := by unfold St.call; rw [if_neg (by rw [ha]; simp)]
    rw [e] at hk
    (repeat first | refine HReg.step ?_ | refine HCode.step ?_)
    refine HLoad.one (v := .bool s.d.off) (by exact P.obj.rows.get (i := 1) rfl) ?_
    (repeat first | refine HReg.step ?_ | refine HCode.step ?_)
    exact hk fl H D (Stp.refl _ _ _ _)
/-- Where a file is, or that it isn't. -/
theorem find_t {n : ByteArray} (D : DiskAt H1 H g r s fl)
    (hdown : ∀ fl' H', s.call.d.off = true → DiskAt H1 H' g r s.call fl' → Stp H H' g r fl fl' → K (.tuple #[.pointer none, .int .i64 62]) H')
    (hno : ∀ fl' H', s.call.d.off = false → s.call.fs n = none → DiskAt H1 H' g r s.call fl' → Stp H H' g r fl fl' → (∀ f ∈ fl', f.name ≠ n) → K (.tuple #[.pointer none, .int .i64 61]) H')
    (hyes : ∀ fl' H' (j : Nat) f, s.call.d.off = false → DiskAt H1 H' g r s.call fl' → Stp H H' g r fl fl' → fl'[j]? = some f → f.name = n → s.call.fs n = some (f.bytes, f.synced) → K (.tuple #[.pointer (some ⟨f.p, 0, none⟩), .int .i64 0]) H') :
    HCalls Try.prog 35 [.pointer (some ⟨g, 0, none⟩), .string n] H K := by
  refine hcalls (fn := Try.f35) [] mixed Try.func35 rfl rfl rfl ?_
  (repeat first | refine HReg.step ?_ | refine HCode.step ?_)
  refine HCall.mk ⟨Try.f42, Try.func42, by rfl, by rfl⟩ ?_
  refine call_t D fun fl' H' D' st => ?_
  (repeat first | refine HReg.step ?_ | refine HCode.step ?_)
  refine hif (fun ho => ?_) (fun ho => ?_)
  · have ho : s.call.d.off = true := by simpa using ho
    (repeat first | refine HReg.step ?_ | refine HCode.step ?_)
    exact hdown fl' H' ho D' st
  · have ho : s.call.d.off = false := by simpa using ho
    (repeat first | refine HReg.step ?_ | refine HCode.step ?_)
    refine HLoad.one (v := .map (some r)) (by exact D'.phys.obj.rows.get (i := 0) rfl) ?_
    (repeat first | refine HReg.step ?_ | refine HCode.step ?_)
    obtain ⟨c, hm, _⟩ := D'.phys.map
    refine hlookup (ie := Try.t79) (z := .pointer none) Try.underlying68 Try.underlying9 rfl rfl hm (fun i e hi hek => ?_) (fun hnone => ?_)
    · rw [List.getElem?_map] at hi
      cases hf : fl'[i]? with
      | none => rw [hf] at hi; cases hi
      | some f =>
        rw [hf] at hi; cases hi
        (repeat first | refine HReg.step ?_ | refine HCode.step ?_)
        exact hyes fl' H' i f ho D' st hf hek (by rw [← show f.name = n from hek]; exact D'.get f (List.mem_of_getElem? hf))
    · (repeat first | refine HReg.step ?_ | refine HCode.step ?_)
      have hnn : ∀ f ∈ fl', f.name ≠ n := fun f hf => hnone f.ent (List.mem_map_of_mem hf)
      refine hno fl' H' ho ?_ D' st hnn
      cases hs : s.call.fs n with
      | none => rfl
      | some x =>
        obtain ⟨f, hf, he⟩ := D'.all n x hs
        exact absurd he (hnn f hf)
end
end Go.Proofs.Ytfcmjomnpahllaa
