import Derived.Test.YtfcmjomnpahllaaDk7
namespace Go.Proofs.Ytfcmjomnpahllaa
open Go Hv
set_option linter.unusedVariables false
set_option linter.unusedSimpArgs false
set_option maxRecDepth 10000
set_option maxHeartbeats 4000000
theorem DiskP.stVS {H1 H3 H4 H5 : Heap} {g r j : Nat} {d : Fd} {fl : List Fl} {f : Fl} {v' : Value} {l' : List UInt8} {m : Nat} (D : DiskP H1 H3 g r d fl) (hj : fl[j]? = some f) (u4 : Upd (vblk f.v) H3 H4) (s4 : Sle 5 H4 v' l') (hn : ∀ b ∈ vblk v', b ∈ vblk f.v ∨ H3 b = none) (o5 : OwnRow H5 84 1 (some ⟨f.p, 0, none⟩) 2 2 [v', .int .i64 (m : Int)]) (u5 : Upd [f.p] H4 H5) (hs : m ≤ l'.length) (hl : l'.length ≤ 140737488355328) :
    DiskP H1 H5 g r d (fl.set j { f with v := v', bytes := l', synced := m }) ∧ Stp H3 H5 g r fl (fl.set j { f with v := v', bytes := l', synced := m }) := by
  have hf := List.mem_of_getElem? hj
  have hm : f.p ∈ dblk g r fl := mem_dblk.2 (.inr (.inr (.inl ⟨f, hf, rfl⟩)))
  have hvm : ∀ b ∈ vblk f.v, b ∈ dblk g r fl := fun b hb => mem_dblk.2 (.inr (.inr (.inr ⟨f, hf, hb⟩)))
  obtain ⟨cp, zp, hp⟩ := own_live (D.str f hf)
  have G4 : GrpM 5 H1 H4 ((fl.map Fl.v).set j v') ((fl.map Fl.bytes).set j l') := D.grp.change (by rw [List.getElem?_map, hj]; rfl) u4 s4 hn
  have hp4 : H4 f.p = some (.cells cp 84 zp) := by
    rw [u4 f.p (fun hb => by obtain ⟨c, z, h⟩ := D.vlive hf hb; rw [hp] at h; cases h) (by rw [hp]; simp), hp]
  have G5 : GrpM 5 H1 H5 ((fl.map Fl.v).set j v') ((fl.map Fl.bytes).set j l') := grpM_upd G4 u5 (fun v hv b hb hbp => by
    obtain ⟨i, hi⟩ := List.getElem?_of_mem hv
    obtain ⟨c, z, h⟩ := G4.grp.live hi hb
    rw [List.mem_singleton.1 hbp, hp4] at h; cases h) (fun b hb => by rw [List.mem_singleton.1 hb]; exact D.newp f hf)
  have u35 : Upd (f.p :: vblk f.v) H3 H5 := (u4.mono fun k hk => List.mem_cons_of_mem _ hk).trans (u5.mono fun k hk => by rw [List.mem_singleton.1 hk]; exact List.mem_cons_self)
  refine ⟨D.put (f' := { f with v := v', bytes := l', synced := m }) hj rfl rfl rfl ?_ u35 ?_ o5 hs hl, ⟨u35.mono ?_, fun b hb => ?_⟩⟩
  · rw [List.map_set, List.map_set]; exact G5
  · intro b hb
    rcases List.mem_cons.1 hb with h | h
    · exact .inl h
    · exact .inr (D.vlive hf h)
  · intro b hb
    rcases List.mem_cons.1 hb with h | h
    · rw [h]; exact hm
    · exact hvm b h
  · have hmem : ∀ x ∈ fl.set j { f with v := v', bytes := l', synced := m }, x = { f with v := v', bytes := l', synced := m } ∨ x ∈ fl := fun x hx => by
      rcases List.mem_or_eq_of_mem_set hx with h | h
      · exact .inr h
      · exact .inl h
    rcases mem_dblk.1 hb with h | h | ⟨x, hx, h⟩ | ⟨x, hx, h⟩
    · exact .inl (mem_dblk.2 (.inl h))
    · exact .inl (mem_dblk.2 (.inr (.inl h)))
    · rcases hmem x hx with rfl | h2
      · exact .inl (by rw [h]; exact hm)
      · exact .inl (mem_dblk.2 (.inr (.inr (.inl ⟨x, h2, h⟩))))
    · rcases hmem x hx with rfl | h2
      · rcases hn b h with h3 | h3
        · exact .inl (hvm b h3)
        · exact .inr h3
      · exact .inl (mem_dblk.2 (.inr (.inr (.inr ⟨x, h2, h⟩))))
/-! The calls that want a file, as functions on what a disk stands for. -/
def St.has (s : St) (n : ByteArray) (k : St → List UInt8 → Nat → Int × St) : Int × St :=
  let t := s.call
  if t.d.off then (62, t) else match t.fs n with
    | none => (61, t)
    | some (x, y) => k t x y
def St.sync (s : St) (n : ByteArray) : Int × St := s.has n fun t x _ => (0, t.put n (x, x.length))
def St.cut (s : St) (n : ByteArray) (k : Int) : Int × St := s.has n fun t x y => if 0 ≤ k ∧ k ≤ x.length then (0, t.put n (x.take k.toNat, min y k.toNat)) else (1, t)
def St.delete (s : St) (n : ByteArray) : Int × St := s.has n fun t _ _ => (0, t.del n)
def St.size (s : St) (n : ByteArray) : Int × St := s.has n fun t _ _ => (0, t)
def St.rename (s : St) (a b : ByteArray) : Int × St :=
  let t := s.call
  if t.d.off then (62, t) else if ¬ (1 ≤ b.size ∧ b.size ≤ 32) then (1, t) else match t.fs a with
    | none => (61, t)
    | some x => (0, (t.del a).put b x)
theorem St.has_off {s : St} {n : ByteArray} {k : St → List UInt8 → Nat → Int × St} (h : s.call.d.off = true) : s.has n k = (62, s.call) := by unfold St.has; dsimp only; rw [if_pos h]
theorem St.has_no {s : St} {n : ByteArray} {k : St → List UInt8 → Nat → Int × St} (h : s.call.d.off = false) (hn : s.call.fs n = none) : s.has n k = (61, s.call) := by unfold St.has; dsimp only; rw [if_neg (by rw [h]; simp), hn]
theorem St.has_yes {s : St} {n : ByteArray} {k : St → List UInt8 → Nat → Int × St} {x : List UInt8} {y : Nat} (h : s.call.d.off = false) (hn : s.call.fs n = some (x, y)) : s.has n k = k s.call x y := by unfold St.has; dsimp only; rw [if_neg (by rw [h]; simp), hn]
section
variable {H1 H : Heap} {g r : Nat} {s : St} {fl : List Fl} {K : Value → Heap → Prop}
theorem sync_f {n : ByteArray} (D : DiskAt H1 H g r s fl)
    (hk : ∀ fl' H', DiskAt H1 H' g r (s.sync n).2 fl' → Stp H H' g r fl fl' → K (.int .i64 (s.sync n).1) H') :
    HCalls Try.prog 39 [.pointer (some ⟨g, 0, none⟩), .string n] H K := by
  refine sync_t D fun e s' fl' H' D' st h => ?_
  rcases h with ⟨ho, rfl, rfl⟩ | ⟨ho, ⟨hn, rfl, rfl⟩ | ⟨x, y, hn, rfl, rfl⟩⟩
  · have e : s.sync n = (62, s.call) := St.has_off ho
    rw [e] at hk; exact hk fl' H' D' st
  · have e : s.sync n = (61, s.call) := St.has_no ho hn
    rw [e] at hk; exact hk fl' H' D' st
  · have e : s.sync n = (0, s.call.put n (x, x.length)) := St.has_yes ho hn
    rw [e] at hk; exact hk fl' H' D' st
theorem size_t {n : ByteArray} (D : DiskAt H1 H g r s fl)
    (hno : ∀ e fl' H', DiskAt H1 H' g r s.call fl' → Stp H H' g r fl fl' → (s.call.d.off = true ∧ e = 62 ∨ s.call.d.off = false ∧ s.call.fs n = none ∧ e = 61) → K (.tuple #[.int .i64 0, .int .i64 e]) H')
    (hyes : ∀ x y fl' H', s.call.d.off = false → s.call.fs n = some (x, y) → DiskAt H1 H' g r s.call fl' → Stp H H' g r fl fl' → K (.tuple #[.int .i64 (x.length : Int), .int .i64 0]) H') :
    HCalls Try.prog 14 [.pointer (some ⟨g, 0, none⟩), .string n] H K := by
  refine hcalls (fn := Try.f14) [] mixed Try.func14 rfl rfl rfl ?_
  (repeat first | refine HReg.step ?_ | refine HCode.step ?_)
  refine HCall.mk ⟨Try.f35, Try.func35, by rfl, by rfl⟩ ?_
  refine find_t D (fun fl' H' ho D' st => ?_) (fun fl' H' ho hn D' st hne => ?_) (fun fl' H' j f ho D' st hj hfn hget => ?_)
  · (repeat first | refine HReg.step ?_ | refine HCode.step ?_)
    refine hif (fun _ => ?_) (fun h => absurd (not_eqB_false.1 h) (by decide))
    (repeat first | refine HReg.step ?_ | refine HCode.step ?_)
    exact hno 62 fl' H' D' st (.inl ⟨ho, rfl⟩)
  · (repeat first | refine HReg.step ?_ | refine HCode.step ?_)
    refine hif (fun _ => ?_) (fun h => absurd (not_eqB_false.1 h) (by decide))
    (repeat first | refine HReg.step ?_ | refine HCode.step ?_)
    exact hno 61 fl' H' D' st (.inr ⟨ho, hn, rfl⟩)
  · have hf := List.mem_of_getElem? hj
    obtain ⟨va, vc, hfv, ov⟩ := (D'.phys.each f hf).sle
    have so : OwnRow H' 84 1 (some ⟨f.p, 0, none⟩) 2 2 [.slice va f.bytes.length vc, .int .i64 (f.synced : Int)] := by
      have := D'.phys.str f hf
      unfold scells at this
      rw [hfv] at this
      exact this
    (repeat first | refine HReg.step ?_ | refine HCode.step ?_)
    refine hif (fun h => absurd rfl (not_eqB_true.1 h)) (fun _ => ?_)
    (repeat first | refine HReg.step ?_ | refine HCode.step ?_)
    refine HLoad.one (v := .slice va f.bytes.length vc) (by exact so.rows.get (i := 0) rfl) ?_
    (repeat first | refine HReg.step ?_ | refine HCode.step ?_)
    exact hyes f.bytes f.synced fl' H' ho hget D' st
theorem cut_t {n : ByteArray} {k : Int} (D : DiskAt H1 H g r s fl)
    (hk : ∀ fl' H', DiskAt H1 H' g r (s.cut n k).2 fl' → Stp H H' g r fl fl' → K (.int .i64 (s.cut n k).1) H') :
    HCalls Try.prog 38 [.pointer (some ⟨g, 0, none⟩), .string n, .int .i64 k] H K := by
  refine hcalls (fn := Try.f38) [] mixed Try.func38 rfl rfl rfl ?_
  (repeat first | refine HReg.step ?_ | refine HCode.step ?_)
  refine HCall.mk ⟨Try.f35, Try.func35, by rfl, by rfl⟩ ?_
  refine find_t D (fun fl' H' ho D' st => ?_) (fun fl' H' ho hn D' st hne => ?_) (fun fl' H' j f ho D' st hj hfn hget => ?_)
  · have e : s.cut n k = (62, s.call) := St.has_off ho
    rw [e] at hk
    (repeat first | refine HReg.step ?_ | refine HCode.step ?_)
    refine hif (fun _ => ?_) (fun h => absurd (not_eqB_false.1 h) (by decide))
    (repeat first | refine HReg.step ?_ | refine HCode.step ?_)
    exact hk fl' H' D' st
  · have e : s.cut n k = (61, s.call) := St.has_no ho hn
    rw [e] at hk
    (repeat first | refine HReg.step ?_ | refine HCode.step ?_)
    refine hif (fun _ => ?_) (fun h => absurd (not_eqB_false.1 h) (by decide))
    (repeat first | refine HReg.step ?_ | refine HCode.step ?_)
    exact hk fl' H' D' st
  · have e : s.cut n k = if 0 ≤ k ∧ k ≤ f.bytes.length then (0, s.call.put n (f.bytes.take k.toNat, min f.synced k.toNat)) else (1, s.call) := St.has_yes ho hget
    have hf := List.mem_of_getElem? hj
    obtain ⟨va, vc, hfv, ov⟩ := (D'.phys.each f hf).sle
    have hsyn := D'.phys.syn f hf
    have hlim := D'.phys.lim f hf
    have so : OwnRow H' 84 1 (some ⟨f.p, 0, none⟩) 2 2 [.slice va f.bytes.length vc, .int .i64 (f.synced : Int)] := by
      have := D'.phys.str f hf
      unfold scells at this
      rw [hfv] at this
      exact this
    have bad : ¬ (0 ≤ k ∧ k ≤ (f.bytes.length : Int)) → K (.int .i64 1) H' := fun hb => by
      rw [e, if_neg hb] at hk
      exact hk fl' H' D' st
    (repeat first | refine HReg.step ?_ | refine HCode.step ?_)
    refine hif (fun h => absurd rfl (not_eqB_true.1 h)) (fun _ => ?_)
    (repeat first | refine HReg.step ?_ | refine HCode.step ?_)
    refine hif (fun h1 => ?_) (fun h1 => ?_)
    · have h1 := ltB_true.1 h1
      (repeat first | refine HReg.step ?_ | refine HCode.step ?_)
      exact bad (by omega)
    have h1 := ltB_false.1 h1
    (repeat first | refine HReg.step ?_ | refine HCode.step ?_)
    refine HLoad.one (v := .slice va f.bytes.length vc) (by exact so.rows.get (i := 0) rfl) ?_
    (repeat first | refine HReg.step ?_ | refine HCode.step ?_)
    refine hif (fun h2 => ?_) (fun h2 => ?_)
    · have h2 := ltB_true.1 h2
      (repeat first | refine HReg.step ?_ | refine HCode.step ?_)
      exact bad (by omega)
    have h2 := ltB_false.1 h2
    rw [e, if_pos ⟨h1, h2⟩] at hk
    generalize hq : k.toNat = q at hk
    obtain rfl : k = (q : Int) := by omega
    have htk : (f.bytes.take q).length = q := by rw [List.length_take]; omega
    (repeat first | refine HReg.step ?_ | refine HCode.step ?_)
    refine HLoad.one (v := .slice va f.bytes.length vc) (by exact so.rows.get (i := 0) rfl) ?_
    (repeat first | refine HReg.step ?_ | refine HCode.step ?_)
    refine HReq.mk ⟨by omega, by have := ov.le; omega⟩ ?_
    (repeat first | refine HReg.step ?_ | refine HCode.step ?_)
    refine HCall.mk ⟨Try.f41, Try.func41, by rfl, by rfl⟩ ?_
    refine clone_t (ys := f.bytes.take q) (n := q) (by have := (own_upto (i := q) ov (by omega)).rows; rw [Nat.mul_one] at this; unfold u8s at this ⊢; rw [List.map_take]; exact this) htk (by omega) fun a5 c5 H5 m5 => ?_
    have so5 := so.upd m5.upd (Off.nil _)
    (repeat first | refine HReg.step ?_ | refine HCode.step ?_)
    refine store_row so5 (v := .slice a5 q c5) rfl (i := 0) (by decide) (by rfl) fun H6 o6 u6 => ?_
    (repeat first | refine HReg.step ?_ | refine HCode.step ?_)
    refine HLoad.one (v := .int .i64 (f.synced : Int)) (by exact o6.rows.get (i := 1) rfl) ?_
    (repeat first | refine HReg.step ?_ | refine HCode.step ?_)
    rw [ite_mn, ite_min]
    have hmin : min (f.synced : Int) (q : Int) = ((min f.synced q : Nat) : Int) := by omega
    rw [hmin]
    refine store_row o6 (v := .int .i64 ((min f.synced q : Nat) : Int)) rfl (i := 1) (by decide) (by rfl) fun H7 o7 u7 => ?_
    have hlt := (List.getElem?_eq_some_iff.1 hj).1
    (repeat first | refine HReg.step ?_ | refine HCode.step ?_)
    obtain ⟨P7, st7⟩ := D'.phys.stVS (v' := .slice a5 q c5) (l' := f.bytes.take q) (m := min f.synced q) hj (m5.upd.mono (by simp)) (m5.sle htk) (fun b hb => .inr (m5.vnew b hb)) o7 (u6.trans u7) (by rw [htk]; omega) (by rw [htk]; omega)
    subst hfn
    exact hk _ H7 (D'.setf (f' := { f with v := .slice a5 q c5, bytes := f.bytes.take q, synced := min f.synced q }) hj rfl P7) (st.trans st7)
theorem map_none {n : ByteArray} (D : DiskAt H1 H g r s fl) (h : s.fs n = none) : ∀ f ∈ fl, f.name ≠ n := fun f hf he => by have := D.get f hf; rw [he, h] at this; cases this
theorem other {j i : Nat} {f x : Fl} (D : DiskP H1 H g r s.d fl) (hj : fl[j]? = some f) (hi : fl[i]? = some x) (hn : x.name = f.name) : i = j := by
  have hl := (List.getElem?_eq_some_iff.1 hi).1
  exact (List.getElem?_inj (i := i) (j := j) (by simpa using hl) D.nn).1 (by rw [List.getElem?_map, List.getElem?_map, hi, hj]; show some x.name = some f.name; rw [hn])
theorem mem_erase {j : Nat} {f : Fl} (D : DiskP H1 H g r s.d fl) (hj : fl[j]? = some f) {x : Fl} : x ∈ fl.eraseIdx j ↔ x ∈ fl ∧ x.name ≠ f.name := by
  constructor
  · intro hx
    refine ⟨List.mem_of_mem_eraseIdx hx, fun hn => ?_⟩
    have pw := (perm_erase hj).pairwise_iff (fun h => Far.symm h) |>.1 D.pw
    rw [List.pairwise_cons] at pw
    exact (pw.1 x hx).name hn.symm
  · rintro ⟨hx, hn⟩
    have := (perm_erase hj).mem_iff.1 hx
    rcases List.mem_cons.1 this with rfl | h
    · exact absurd rfl hn
    · exact h
theorem DiskAt.delf {H' : Heap} {j : Nat} {f : Fl} (D : DiskAt H1 H g r s fl) (hj : fl[j]? = some f) (P : DiskP H1 H' g r s.d (fl.eraseIdx j)) : DiskAt H1 H' g r (s.del f.name) (fl.eraseIdx j) := by
  have hf := List.mem_of_getElem? hj
  have hl := (List.getElem?_eq_some_iff.1 hj).1
  have hs : (s.fs f.name).isSome = true := by rw [D.get f hf]; rfl
  refine ⟨P, fun x hx => ?_, fun k x hkx => ?_, ?_, D.arm, D.lo, D.hi, D.rhi⟩
  · obtain ⟨h1, h2⟩ := (mem_erase D.phys hj).1 hx
    show (if x.name = f.name then _ else _) = _
    rw [if_neg h2]; exact D.get x h1
  · have hkx : (if k = f.name then none else s.fs k) = some x := hkx
    split at hkx
    · cases hkx
    · rename_i hk
      obtain ⟨y, hy, he⟩ := D.all k x hkx
      exact ⟨y, (mem_erase D.phys hj).2 ⟨hy, by rw [he]; exact hk⟩, he⟩
  · show (if (s.fs f.name).isSome = true then s.cnt - 1 else s.cnt) = _
    rw [if_pos hs, D.cnt, List.length_eraseIdx, if_pos hl]
end
end Go.Proofs.Ytfcmjomnpahllaa
