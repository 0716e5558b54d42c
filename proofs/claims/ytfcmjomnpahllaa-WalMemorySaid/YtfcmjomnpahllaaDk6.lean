import Derived.Test.YtfcmjomnpahllaaDk5
namespace Go.Proofs.Ytfcmjomnpahllaa
open Go Hv
set_option linter.unusedVariables false
set_option linter.unusedSimpArgs false
set_option maxRecDepth 10000
set_option maxHeartbeats 4000000
/-! The methods, as they change what a disk stands for. -/
def St.put (s : St) (n : ByteArray) (x : List UInt8 × Nat) : St := { s with fs := fun k => if k = n then some x else s.fs k, cnt := if (s.fs n).isSome then s.cnt else s.cnt + 1 }
def St.del (s : St) (n : ByteArray) : St := { s with fs := fun k => if k = n then none else s.fs k, cnt := if (s.fs n).isSome then s.cnt - 1 else s.cnt }
def St.upp (s : St) : St := { s with d := { s.d with off := false, armed := false } }
def St.full (s : St) (n : Int) : St := { s with d := { s.d with refuses := max n 0 } }
def St.arms (s : St) (n keep : Int) : St := { s with d := { s.d with armed := decide (0 ≤ n), calls := n, keep := keep } }
section
variable {H1 H : Heap} {g r : Nat} {s : St} {fl : List Fl} {K : Value → Heap → Prop}
theorem up_t (D : DiskAt H1 H g r s fl) (hk : ∀ H', DiskAt H1 H' g r s.upp fl → Stp H H' g r fl fl → K (.tuple #[]) H') : HCalls Try.prog 23 [.pointer (some ⟨g, 0, none⟩)] H K := by
  refine hcalls (fn := Try.f23) [] mixed Try.func23 rfl rfl rfl ?_
  have P := D.phys
  (repeat first | refine HReg.step ?_ | refine HCode.step ?_)
  refine store_row P.obj (v := .bool false) rfl (i := 1) (by decide) (by rfl) fun H4 o4 u4 => ?_
  have P4 : DiskP H1 H4 g r { s.d with off := false } fl := P.setd o4 u4
  (repeat first | refine HReg.step ?_ | refine HCode.step ?_)
  refine store_row P4.obj (v := .bool false) rfl (i := 3) (by decide) (by rfl) fun H5 o5 u5 => ?_
  have P5 : DiskP H1 H5 g r { s.d with off := false, armed := false } fl := P4.setd o5 u5
  (repeat first | refine HReg.step ?_ | refine HCode.step ?_)
  exact hk H5 ⟨P5, D.get, D.all, D.cnt, fun h => (by cases h), D.lo, D.hi, D.rhi⟩ ((Stp.g u4).trans (Stp.g u5))
theorem down_t (D : DiskAt H1 H g r s fl) (hk : K (.bool s.d.off) H) : HCalls Try.prog 19 [.pointer (some ⟨g, 0, none⟩)] H K := by
  refine hcalls (fn := Try.f19) [] mixed Try.func19 rfl rfl rfl ?_
  (repeat first | refine HReg.step ?_ | refine HCode.step ?_)
  refine HLoad.one (v := .bool s.d.off) (by exact D.phys.obj.rows.get (i := 1) rfl) ?_
  (repeat first | refine HReg.step ?_ | refine HCode.step ?_)
  exact hk
theorem full_t {n : Int} (D : DiskAt H1 H g r s fl) (hn : n ≤ 9223372036854775807) (hk : ∀ H', DiskAt H1 H' g r (s.full n) fl → Stp H H' g r fl fl → K (.tuple #[]) H') : HCalls Try.prog 22 [.pointer (some ⟨g, 0, none⟩), .int .i64 n] H K := by
  refine hcalls (fn := Try.f22) [] mixed Try.func22 rfl rfl rfl ?_
  have P := D.phys
  (repeat first | refine HReg.step ?_ | refine HCode.step ?_)
  rw [ite_mx, ite_max]
  refine store_row P.obj (v := .int .i64 (max n 0)) rfl (i := 2) (by decide) (by rfl) fun H4 o4 u4 => ?_
  have P4 : DiskP H1 H4 g r { s.d with refuses := max n 0 } fl := P.setd o4 u4
  (repeat first | refine HReg.step ?_ | refine HCode.step ?_)
  exact hk H4 ⟨P4, D.get, D.all, D.cnt, D.arm, D.lo, D.hi, by show max n 0 ≤ _; omega⟩ (Stp.g u4)
theorem arm_t {n keep : Int} (D : DiskAt H1 H g r s fl) (h1 : -9223372036854775808 ≤ n) (h2 : n ≤ 9223372036854775807) (hk : ∀ H', DiskAt H1 H' g r (s.arms n keep) fl → Stp H H' g r fl fl → K (.tuple #[]) H') : HCalls Try.prog 21 [.pointer (some ⟨g, 0, none⟩), .int .i64 n, .int .i64 keep] H K := by
  refine hcalls (fn := Try.f21) [] mixed Try.func21 rfl rfl rfl ?_
  have P := D.phys
  have hd : (!ltB n 0) = decide (0 ≤ n) := by rw [Bool.eq_iff_iff, not_ltB_true]; simp
  (repeat first | refine HReg.step ?_ | refine HCode.step ?_)
  rw [hd]
  refine store_row P.obj (v := .bool (decide (0 ≤ n))) rfl (i := 3) (by decide) (by rfl) fun H4 o4 u4 => ?_
  have P4 : DiskP H1 H4 g r { s.d with armed := decide (0 ≤ n) } fl := P.setd o4 u4
  (repeat first | refine HReg.step ?_ | refine HCode.step ?_)
  refine store_row P4.obj (v := .int .i64 n) rfl (i := 4) (by decide) (by rfl) fun H5 o5 u5 => ?_
  have P5 : DiskP H1 H5 g r { s.d with armed := decide (0 ≤ n), calls := n } fl := P4.setd o5 u5
  (repeat first | refine HReg.step ?_ | refine HCode.step ?_)
  refine store_row P5.obj (v := .int .i64 keep) rfl (i := 5) (by decide) (by rfl) fun H6 o6 u6 => ?_
  have P6 : DiskP H1 H6 g r { s.d with armed := decide (0 ≤ n), calls := n, keep := keep } fl := P5.setd o6 u6
  (repeat first | refine HReg.step ?_ | refine HCode.step ?_)
  exact hk H6 ⟨P6, D.get, D.all, D.cnt, fun h => of_decide_eq_true h, h1, h2, D.rhi⟩ (((Stp.g u4).trans (Stp.g u5)).trans (Stp.g u6))
/-- A file's bytes or its synced part change. -/
theorem DiskAt.setf {H' : Heap} {j : Nat} {f f' : Fl} (D : DiskAt H1 H g r s fl) (hj : fl[j]? = some f) (e1 : f'.name = f.name) (P : DiskP H1 H' g r s.d (fl.set j f')) : DiskAt H1 H' g r (s.put f.name (f'.bytes, f'.synced)) (fl.set j f') := by
  have hf := List.mem_of_getElem? hj
  have hl := (List.getElem?_eq_some_iff.1 hj).1
  have hs : (s.fs f.name).isSome = true := by rw [D.get f hf]; rfl
  have hat : ∀ x ∈ fl.set j f', x = f' ∨ (x ∈ fl ∧ x.name ≠ f.name) := fun x hx => by
    obtain ⟨i, hi⟩ := List.getElem?_of_mem hx
    rw [List.getElem?_set] at hi
    split at hi
    · cases hi; exact .inl rfl
    · rename_i hji
      refine .inr ⟨List.mem_of_getElem? hi, fun he => hji ?_⟩
      exact (List.getElem?_inj (i := j) (j := i) (by simpa using hl) D.phys.nn).1 (by rw [List.getElem?_map, List.getElem?_map, hi, hj]; show some f.name = some x.name; rw [he])
  refine ⟨P, fun x hx => ?_, fun k x hkx => ?_, ?_, D.arm, D.lo, D.hi, D.rhi⟩
  · rcases hat x hx with rfl | ⟨h, hn⟩
    · show (if x.name = f.name then _ else _) = _
      rw [if_pos e1]
    · show (if x.name = f.name then _ else _) = _
      rw [if_neg hn]; exact D.get x h
  · have hkx : (if k = f.name then some (f'.bytes, f'.synced) else s.fs k) = some x := hkx
    split at hkx
    · rename_i hk; exact ⟨f', List.mem_of_getElem? (i := j) (by rw [List.getElem?_set, if_pos rfl, if_pos hl]), by rw [e1, hk]⟩
    · rename_i hk
      obtain ⟨y, hy, he⟩ := D.all k x hkx
      obtain ⟨i, hi⟩ := List.getElem?_of_mem hy
      have hij : j ≠ i := fun h => by subst h; rw [hj] at hi; cases hi; exact hk he.symm
      exact ⟨y, List.mem_of_getElem? (i := i) (by rw [List.getElem?_set, if_neg hij]; exact hi), he⟩
  · show (if (s.fs f.name).isSome = true then s.cnt else s.cnt + 1) = _
    rw [if_pos hs, List.length_set]; exact D.cnt
theorem sync_t {n : ByteArray} (D : DiskAt H1 H g r s fl)
    (hk : ∀ e s' fl' H', DiskAt H1 H' g r s' fl' → Stp H H' g r fl fl' → (s.call.d.off = true ∧ e = 62 ∧ s' = s.call ∨ s.call.d.off = false ∧ (s.call.fs n = none ∧ e = 61 ∧ s' = s.call ∨ ∃ x y, s.call.fs n = some (x, y) ∧ e = 0 ∧ s' = s.call.put n (x, x.length))) → K (.int .i64 e) H') :
    HCalls Try.prog 39 [.pointer (some ⟨g, 0, none⟩), .string n] H K := by
  refine hcalls (fn := Try.f39) [] mixed Try.func39 rfl rfl rfl ?_
  (repeat first | refine HReg.step ?_ | refine HCode.step ?_)
  refine HCall.mk ⟨Try.f35, Try.func35, by rfl, by rfl⟩ ?_
  refine find_t D (fun fl' H' ho D' st => ?_) (fun fl' H' ho hn D' st hne => ?_) (fun fl' H' j f ho D' st hj hfn hget => ?_)
  · (repeat first | refine HReg.step ?_ | refine HCode.step ?_)
    refine hif (fun h => absurd (eqB_true.1 h) (by decide)) (fun _ => ?_)
    (repeat first | refine HReg.step ?_ | refine HCode.step ?_)
    exact hk 62 _ fl' H' D' st (.inl ⟨ho, rfl, rfl⟩)
  · (repeat first | refine HReg.step ?_ | refine HCode.step ?_)
    refine hif (fun h => absurd (eqB_true.1 h) (by decide)) (fun _ => ?_)
    (repeat first | refine HReg.step ?_ | refine HCode.step ?_)
    exact hk 61 _ fl' H' D' st (.inr ⟨ho, .inl ⟨hn, rfl, rfl⟩⟩)
  · have hf := List.mem_of_getElem? hj
    obtain ⟨va, vc, hfv, ov⟩ := (D'.phys.each f hf).sle
    have so : OwnRow H' 84 1 (some ⟨f.p, 0, none⟩) 2 2 [.slice va f.bytes.length vc, .int .i64 (f.synced : Int)] := by
      have := D'.phys.str f hf
      unfold scells at this
      rw [hfv] at this
      exact this
    (repeat first | refine HReg.step ?_ | refine HCode.step ?_)
    refine hif (fun _ => ?_) (fun h => absurd rfl (eqB_false.1 h))
    (repeat first | refine HReg.step ?_ | refine HCode.step ?_)
    refine HLoad.one (v := .slice va f.bytes.length vc) (by exact so.rows.get (i := 0) rfl) ?_
    (repeat first | refine HReg.step ?_ | refine HCode.step ?_)
    refine store_row so (v := .int .i64 (f.bytes.length : Int)) rfl (i := 1) (by decide) (by rfl) fun H7 o7 u7 => ?_
    obtain ⟨P7, stp7⟩ := D'.phys.stS (j := j) (f := f) (n := f.bytes.length) hj (by rw [hfv]; exact o7) u7 (Nat.le_refl _)
    (repeat first | refine HReg.step ?_ | refine HCode.step ?_)
    subst hfn
    have D7 := D'.setf (f' := { f with synced := f.bytes.length }) hj rfl P7
    exact hk 0 _ _ H7 D7 (st.trans stp7) (.inr ⟨ho, .inr ⟨f.bytes, f.synced, hget, rfl, rfl⟩⟩)
theorem dread_t {n : ByteArray} (D : DiskAt H1 H g r s fl)
    (hno : ∀ e fl' H', DiskAt H1 H' g r s.call fl' → Stp H H' g r fl fl' → (s.call.d.off = true ∧ e = 62 ∨ s.call.d.off = false ∧ s.call.fs n = none ∧ e = 61) → K (.tuple #[.slice none 0 0, .int .i64 e]) H')
    (hyes : ∀ x y a c fl' H2 H', s.call.d.off = false → s.call.fs n = some (x, y) → DiskAt H1 H2 g r s.call fl' → Stp H H2 g r fl fl' → Made H2 H' 5 1 a x.length c (u8s x) → K (.tuple #[.slice a x.length c, .int .i64 0]) H') :
    HCalls Try.prog 27 [.pointer (some ⟨g, 0, none⟩), .string n] H K := by
  refine hcalls (fn := Try.f27) [] mixed Try.func27 rfl rfl rfl ?_
  (repeat first | refine HReg.step ?_ | refine HCode.step ?_)
  refine HCall.mk ⟨Try.f35, Try.func35, by rfl, by rfl⟩ ?_
  refine find_t D (fun fl' H' ho D' st => ?_) (fun fl' H' ho hn D' st hne => ?_) (fun fl' H' j f ho D' st hj hfn hget => ?_)
  · (repeat first | refine HReg.step ?_ | refine HCode.step ?_)
    refine hif (fun _ => ?_) (fun h => absurd (not_eqB_false.1 h) (by decide))
    (repeat first | refine HReg.step ?_ | refine HCode.step ?_)
    exact hno 62 fl' H' D' st (.inl ⟨ho, rfl⟩)
  · (repeat first | refine HReg.step ?_ | refine HCode.step ?_)
    refine hif (fun _ => ?_) (fun h => absurd (not_eqB_false.1 h) (by decide))
    (repeat first | refine HReg.step ?_ | refine HCode.step ?_)
    exact hno 61 fl' H' D' st (.inr ⟨ho, hn, rfl⟩)
  · have hf := List.mem_of_getElem? hj
    obtain ⟨va, vc, hfv, ov⟩ := (D'.phys.each f hf).sle
    have hlim := D'.phys.lim f hf
    have so : OwnRow H' 84 1 (some ⟨f.p, 0, none⟩) 2 2 [.slice va f.bytes.length vc, .int .i64 (f.synced : Int)] := by
      have := D'.phys.str f hf
      unfold scells at this
      rw [hfv] at this
      exact this
    (repeat first | refine HReg.step ?_ | refine HCode.step ?_)
    refine hif (fun h => absurd rfl (not_eqB_true.1 h)) (fun _ => ?_)
    (repeat first | refine HReg.step ?_ | refine HCode.step ?_)
    refine HLoad.one (v := .slice va f.bytes.length vc) (by exact so.rows.get (i := 0) rfl) ?_
    (repeat first | refine HReg.step ?_ | refine HCode.step ?_)
    refine HCall.mk ⟨Try.f41, Try.func41, by rfl, by rfl⟩ ?_
    refine clone_t ov.rows rfl hlim fun a5 c5 H5 m5 => ?_
    (repeat first | refine HReg.step ?_ | refine HCode.step ?_)
    exact hyes f.bytes f.synced a5 c5 fl' H' H5 ho hget D' st m5
end
end Go.Proofs.Ytfcmjomnpahllaa
