import Derived.Test.YtfcmjomnpahllaaDk2
namespace Go.Proofs.Ytfcmjomnpahllaa
open Go Hv
set_option linter.unusedVariables false
set_option linter.unusedSimpArgs false
set_option maxRecDepth 10000
set_option maxHeartbeats 4000000
def St0 : St := ⟨⟨false, false, 0, 0, 0⟩, fun _ => none, 0⟩
theorem new_t {H : Heap} {K : Value → Heap → Prop} (hk : ∀ g r H', DiskAt H H' g r St0 [] → Upd [] H H' → K (.pointer (some ⟨g, 0, none⟩)) H') : HCalls Try.prog 8 [] H K := by
  refine hcalls (fn := Try.f8) [] mixed Try.func8 rfl rfl rfl ?_
  (repeat first | refine HReg.step ?_ | refine HCode.step ?_)
  refine hmakeMap fun r H1 hr hm u1 => ?_
  (repeat first | refine HReg.step ?_ | refine HCode.step ?_)
  refine HNew.mk fun g hg => ?_
  (repeat first | refine HReg.step ?_ | refine HCode.step ?_)
  refine hk g r _ ⟨⟨OwnRow.lit (upd_same _ _ _) rfl, ⟨0, ?_, by simp⟩, by simp, ⟨Grp.nil _ _, by simp, u1.trans (Upd.new hg _)⟩, by simp, by simp, by simp, by simp, by simp, Upd.none (S := []) u1 (by simp) hg, hr, by simp⟩, by simp, fun k x h => (by cases h), rfl, fun h => (by cases h), by decide, by decide, by decide⟩ (u1.trans (Upd.new hg _))
  show _ = _
  have hne : r ≠ g := fun e => by rw [e] at hm; unfold MapAt at hm; rw [hg] at hm; cases hm
  rw [upd_ne _ _ hne]; exact hm
theorem named_t {n : ByteArray} {H : Heap} {K : Value → Heap → Prop} (hk : K (.bool (decide (1 ≤ n.size ∧ n.size ≤ 32))) H) : HCalls Try.prog 36 [.string n] H K := by
  refine hcalls (fn := Try.f36) [] mixed Try.func36 rfl rfl rfl ?_
  (repeat first | refine HReg.step ?_ | refine HCode.step ?_)
  refine hif (fun h => ?_) (fun h => ?_)
  · have h := not_ltB_true.1 h
    (repeat first | refine HReg.step ?_ | refine HCode.step ?_)
    have : (!ltB 32 (n.size : Int)) = decide (1 ≤ n.size ∧ n.size ≤ 32) := by
      rw [Bool.eq_iff_iff, not_ltB_true]; simp; omega
    rw [this]; exact hk
  · have h := not_ltB_false.1 h
    (repeat first | refine HReg.step ?_ | refine HCode.step ?_)
    rw [decide_eq_false (by omega)] at hk; exact hk
/-! Crash -/
def tailOf (keep : Int) (n s : Nat) : Nat := (min (max keep 0) ((n : Int) - s)).toNat
def crash1 (keep : Int) (x : List UInt8 × Nat) : List UInt8 × Nat := (x.1.take (x.2 + tailOf keep x.1.length x.2), x.2 + tailOf keep x.1.length x.2)
def St.crash (s : St) (keep : Int) : St := if s.d.off then s else ⟨⟨true, false, s.d.refuses, s.d.calls, s.d.keep⟩, fun k => (s.fs k).map (crash1 keep), s.cnt⟩
theorem DiskP.stV {H1 H3 H4 H5 : Heap} {g r j : Nat} {d : Fd} {fl : List Fl} {f : Fl} {v' : Value} {l' : List UInt8} (D : DiskP H1 H3 g r d fl) (hj : fl[j]? = some f) (u4 : Upd (vblk f.v) H3 H4) (s4 : Sle 5 H4 v' l') (hn : ∀ b ∈ vblk v', b ∈ vblk f.v ∨ H3 b = none) (o5 : OwnRow H5 84 1 (some ⟨f.p, 0, none⟩) 2 2 [v', .int .i64 (f.synced : Int)]) (u5 : Upd [f.p] H4 H5) (hs : f.synced ≤ l'.length) (hl : l'.length ≤ 140737488355328) :
    DiskP H1 H5 g r d (fl.set j { f with v := v', bytes := l' }) ∧ Stp H3 H5 g r fl (fl.set j { f with v := v', bytes := l' }) := by
  have hf := List.mem_of_getElem? hj
  have hm : f.p ∈ dblk g r fl := mem_dblk.2 (.inr (.inr (.inl ⟨f, hf, rfl⟩)))
  have hvm : ∀ b ∈ vblk f.v, b ∈ dblk g r fl := fun b hb => mem_dblk.2 (.inr (.inr (.inr ⟨f, hf, hb⟩)))
  obtain ⟨cp, zp, hp⟩ := own_live (D.str f hf)
  have G4 : GrpM 5 H1 H4 ((fl.map Fl.v).set j v') ((fl.map Fl.bytes).set j l') := D.grp.change (by rw [List.getElem?_map, hj]; rfl) u4 s4 hn
  have hp4 : H4 f.p = some (.cells cp 84 zp) := by
    rw [u4 f.p (fun hb => by obtain ⟨c, z, h⟩ := D.vlive hf hb; rw [hp] at h; cases h) (by rw [hp]; simp), hp]
  have G5 : GrpM 5 H1 H5 ((fl.map Fl.v).set j v') ((fl.map Fl.bytes).set j l') := grpM_upd G4 u5 (fun v hv b hb hbp => by
    obtain ⟨i, hi⟩ := List.getElem?_of_mem hv
    obtain ⟨c, z, h⟩ := G4.grp.live hi hb
    rw [List.mem_singleton.1 hbp, hp4] at h; cases h) (fun b hb => by rw [List.mem_singleton.1 hb]; exact D.newp f hf)
  have u35 : Upd (f.p :: vblk f.v) H3 H5 := (u4.mono fun k hk => List.mem_cons_of_mem _ hk).trans (u5.mono fun k hk => by rw [List.mem_singleton.1 hk]; exact List.mem_cons_self)
  refine ⟨D.put (f' := { f with v := v', bytes := l' }) hj rfl rfl rfl ?_ u35 ?_ o5 hs hl, ⟨u35.mono ?_, fun b hb => ?_⟩⟩
  · rw [List.map_set, List.map_set]; exact G5
  · intro b hb
    rcases List.mem_cons.1 hb with h | h
    · exact .inl h
    · exact .inr (D.vlive hf h)
  · intro b hb
    rcases List.mem_cons.1 hb with h | h
    · rw [h]; exact hm
    · exact hvm b h
  · have hmem : ∀ x ∈ fl.set j { f with v := v', bytes := l' }, x = { f with v := v', bytes := l' } ∨ x ∈ fl := fun x hx => by
      rcases List.mem_or_eq_of_mem_set hx with h | h
      · exact .inr h
      · exact .inl h
    rcases mem_dblk.1 hb with h | h | ⟨x, hx, h⟩ | ⟨x, hx, h⟩
    · exact .inl (mem_dblk.2 (.inl h))
    · exact .inl (mem_dblk.2 (.inr (.inl h)))
    · rcases hmem x hx with rfl | h2
      · exact .inl (by rw [h]; exact hm)
      · exact .inl (mem_dblk.2 (.inr (.inr (.inl ⟨x, h2, h⟩))))
    · rcases hmem x hx with rfl | h2
      · rcases hn b h with h3 | h3
        · exact .inl (hvm b h3)
        · exact .inr h3
      · exact .inl (mem_dblk.2 (.inr (.inr (.inr ⟨x, h2, h⟩))))
theorem DiskP.stS {H1 H4 H5 : Heap} {g r j : Nat} {d : Fd} {fl : List Fl} {f : Fl} {n : Nat} (D : DiskP H1 H4 g r d fl) (hj : fl[j]? = some f) (o5 : OwnRow H5 84 1 (some ⟨f.p, 0, none⟩) 2 2 [f.v, .int .i64 (n : Int)]) (u5 : Upd [f.p] H4 H5) (hs : n ≤ f.bytes.length) :
    DiskP H1 H5 g r d (fl.set j { f with synced := n }) ∧ Stp H4 H5 g r fl (fl.set j { f with synced := n }) := by
  have hf := List.mem_of_getElem? hj
  have hm : f.p ∈ dblk g r fl := mem_dblk.2 (.inr (.inr (.inl ⟨f, hf, rfl⟩)))
  obtain ⟨cp, zp, hp⟩ := own_live (D.str f hf)
  have hset : ∀ {β : Type} (h : Fl → β), h { f with synced := n } = h f → (fl.set j { f with synced := n }).map h = fl.map h := by
    intro β h he
    rw [List.map_set, he]
    apply List.ext_getElem?
    intro i
    rw [List.getElem?_set]
    split
    · rename_i hji; subst hji
      have := (List.getElem?_eq_some_iff.1 hj).1
      rw [if_pos (by simpa using this), List.getElem?_map, hj]; rfl
    · rfl
  have G5 : GrpM 5 H1 H5 (fl.map Fl.v) (fl.map Fl.bytes) := grpM_upd D.grp u5 (fun v hv b hb hbp => by
    obtain ⟨i, hi⟩ := List.getElem?_of_mem hv
    obtain ⟨c, z, h⟩ := D.grp.grp.live hi hb
    rw [List.mem_singleton.1 hbp, hp] at h; cases h) (fun b hb => by rw [List.mem_singleton.1 hb]; exact D.newp f hf)
  refine ⟨D.put (f' := { f with synced := n }) hj rfl rfl rfl ?_ u5 (fun b hb => .inl (List.mem_singleton.1 hb)) o5 hs (D.lim f hf), ⟨u5.mono fun k hk => by rw [List.mem_singleton.1 hk]; exact hm, fun b hb => .inl ?_⟩⟩
  · rw [hset Fl.v rfl, hset Fl.bytes rfl]; exact G5
  · have e : dblk g r (fl.set j { f with synced := n }) = dblk g r fl := by
      unfold dblk
      rw [hset Fl.p rfl]
      congr 3
      rw [List.flatMap_def, List.flatMap_def, hset (fun f => vblk f.v) rfl]
    rw [e] at hb; exact hb
theorem DiskP.notIt {H1 H : Heap} {g r it : Nat} {d : Fd} {fl : List Fl} (D : DiskP H1 H g r d fl) {a b c e} (h : H it = some (.mapIter a b c e)) : it ∉ dblk g r fl := by
  intro hb
  rcases mem_dblk.1 hb with rfl | rfl | ⟨f, hf, rfl⟩ | ⟨f, hf, hv⟩
  · obtain ⟨_, _, h2⟩ := own_live D.obj; rw [h] at h2; cases h2
  · obtain ⟨_, _, h2⟩ := D.mapc; rw [h] at h2; cases h2
  · obtain ⟨_, _, h2⟩ := own_live (D.str f hf); rw [h] at h2; cases h2
  · obtain ⟨_, _, h2⟩ := D.vlive hf hv; rw [h] at h2; cases h2
theorem tail_le {keep : Int} {n s : Nat} (h : s ≤ n) : s + tailOf keep n s ≤ n ∧ ((s + tailOf keep n s : Nat) : Int) = s + min (max keep 0) ((n : Int) - s) := by
  unfold tailOf; omega
theorem filt_lt {α : Type} {p q : α → Bool} (h : ∀ x, q x = true → p x = true) : ∀ {l : List α} {x : α}, x ∈ l → p x = true → q x = false → (l.filter q).length < (l.filter p).length
  | [], x, hx, _, _ => by simp at hx
  | y :: l, x, hx, hp, hq => by
    have hle : ∀ l : List α, (l.filter q).length ≤ (l.filter p).length := fun l => by
      induction l with
      | nil => simp
      | cons z l ih =>
        rw [List.filter_cons, List.filter_cons]
        by_cases hz : q z = true
        · rw [if_pos hz, if_pos (h z hz)]; simp; exact ih
        · rw [if_neg hz]
          split
          · simp; omega
          · exact ih
    rw [List.filter_cons, List.filter_cons]
    rcases List.mem_cons.1 hx with rfl | hx
    · rw [if_neg (by rw [hq]; simp), if_pos hp]
      have := hle l
      simp; omega
    · have ih := filt_lt h hx hp hq
      by_cases hz : q y = true
      · rw [if_pos hz, if_pos (h y hz)]; simp; exact ih
      · rw [if_neg hz]
        split
        · simp; omega
        · exact ih
/-- Which entries a loop over the map has seen: their files have crashed. -/
structure CrSt (H1 H0 H : Heap) (g r it c : Nat) (d : Fd) (keep : Int) (fl0 fl : List Fl) (seen : Array Nat) : Prop where
  phys : DiskP H1 H g r d fl
  stp : Stp H0 H g r fl0 fl
  itr : H it = some (.mapIter (some r) c seen c)
  itn : H0 it = none
  map : MapAt H r (fl0.map Fl.ent) c
  len : fl.length = fl0.length
  each : ∀ (i : Nat) f0 f, fl0[i]? = some f0 → fl[i]? = some f → f.name = f0.name ∧ f.p = f0.p ∧ f.born = f0.born ∧ (if f0.born ∈ seen then (f.bytes, f.synced) = crash1 keep (f0.bytes, f0.synced) else f = f0)
structure CrInv (H1 H0 : Heap) (g r it c : Nat) (d : Fd) (keep : Int) (fl0 : List Fl) (m : Nat) (vs : List Value) (H : Heap) : Prop where
  ex : ∃ fl seen, vs = [] ∧ m = (fl0.filter fun f => !seen.contains f.born).length ∧ CrSt H1 H0 H g r it c d keep fl0 fl seen
theorem crash_t {H1 H : Heap} {g r : Nat} {s : St} {fl : List Fl} {keep : Int} {K : Value → Heap → Prop} (D : DiskAt H1 H g r s fl)
    (hk : ∀ fl' H', DiskAt H1 H' g r (s.crash keep) fl' → Stp H H' g r fl fl' → K (.tuple #[]) H') : HCalls Try.prog 20 [.pointer (some ⟨g, 0, none⟩), .int .i64 keep] H K := by
  refine hcalls (fn := Try.f20) [(4, [(0, 0), (1, 0), (2, 0), (3, 0), (4, 0), (5, 0), (6, 0), (7, 0), (8, 0), (9, 0), (10, 0), (11, 0), (12, 0), (13, 0)]), (5, [(1, 0), (2, 0), (3, 0), (4, 0), (5, 0), (6, 0), (7, 0), (8, 0), (9, 0), (10, 0), (11, 0), (12, 0), (0, 1), (13, 0), (14, 0), (15, 0)])] mixed Try.func20 rfl rfl (by decide +kernel) ?_
  obtain ⟨P, hget, hall, hcnt, harm, hlo, hhi, hrhi⟩ := D
  (repeat first | refine HReg.step ?_ | refine HCode.step ?_)
  refine HLoad.one (v := .bool s.d.off) (by exact P.obj.rows.get (i := 1) rfl) ?_
  (repeat first | refine HReg.step ?_ | refine HCode.step ?_)
  refine hif (fun hoff => ?_) (fun hoff => ?_)
  · (repeat first | refine HReg.step ?_ | refine HCode.step ?_)
    refine hk fl H ?_ (Stp.refl _ _ _ _)
    unfold St.crash; rw [if_pos hoff]
    exact ⟨P, hget, hall, hcnt, harm, hlo, hhi, hrhi⟩
  (repeat first | refine HReg.step ?_ | refine HCode.step ?_)
  refine HLoad.one (v := .map (some r)) (by exact P.obj.rows.get (i := 0) rfl) ?_
  (repeat first | refine HReg.step ?_ | refine HCode.step ?_)
  obtain ⟨c, hm, hb⟩ := P.map
  refine hrange Try.underlying68 hm fun it H2 hit hit2 u2 => ?_
  (repeat first | refine HReg.step ?_ | refine HCode.step ?_)
  refine hloopC [5, 6, 16, 17, 18, 19, 20, 21, 22, 23, 24, 25, 26, 27, 28, 29, 30, 31, 32, 33, 34, 35, 36, 37, 38, 39, 40, 41, 42, 43, 44, 45, 46, 47, 48, 49, 50, 51, 52, 53, 54, 55] [] (CrInv H1 H g r it c s.d keep fl) rfl (by repeat' first | exact Resp.retD | exact Resp1.valuesK | refine Resp.blockD ?_ | refine Resp.thenD ?_ ?_ | refine Resp.hcode ?_) ?_ ?_
  · exact ⟨_, CrInv.mk ⟨fl, #[], rfl, rfl, P.upd0 u2, (Stp.refl _ _ _ _).fwd0 u2, hit2, hit, mapAt_upd hm u2 (by simp), rfl, fun i f0 f h1 h2 => by rw [h1] at h2; cases h2; exact ⟨rfl, rfl, rfl, by simp⟩⟩⟩
  rintro m _ fe H3 ⟨fl3, seen, rfl, hmm, C3⟩
  obtain ⟨P3, stp3, it3, itn, hm3, len3, each3⟩ := C3
  (repeat first | refine HReg.step ?_ | refine HCode.step ?_)
  refine hnext it3 hm3 (fun e he => by obtain ⟨f, hf, rfl⟩ := List.mem_map.1 he; exact hb f hf) (fun hend => ?_) (fun j e hj hns H4 it4 u4 => ?_)
  · (repeat first | refine HReg.step ?_ | refine HCode.step ?_)
    have hend' : ∀ f ∈ fl, f.born ∈ seen := fun f hf => hend f.ent (List.mem_map_of_mem hf)
    refine store_row P3.obj (v := .bool true) rfl (i := 1) (by decide) (by rfl) fun H4 o4 u4 => ?_
    have P4 : DiskP H1 H4 g r { s.d with off := true } fl3 := P3.setd o4 u4
    have stp4 := stp3.trans (Stp.g u4)
    (repeat first | refine HReg.step ?_ | refine HCode.step ?_)
    refine store_row P4.obj (v := .bool false) rfl (i := 3) (by decide) (by rfl) fun H5 o5 u5 => ?_
    have P5 : DiskP H1 H5 g r { s.d with off := true, armed := false } fl3 := P4.setd o5 u5
    have stp5 := stp4.trans (Stp.g u5)
    (repeat first | refine HReg.step ?_ | refine HCode.step ?_)
    have key : ∀ f ∈ fl3, ∃ f0 ∈ fl, f.name = f0.name ∧ (f.bytes, f.synced) = crash1 keep (f0.bytes, f0.synced) := fun f hf => by
      obtain ⟨i, hi⟩ := List.getElem?_of_mem hf
      have h1 := (List.getElem?_eq_some_iff.1 hi).1
      obtain ⟨f0, hf0⟩ : ∃ f0, fl[i]? = some f0 := ⟨fl[i]'(by omega), by simp⟩
      have hm0 := List.mem_of_getElem? hf0
      obtain ⟨a1, _, _, a4⟩ := each3 i f0 f hf0 hi
      rw [if_pos (hend' f0 hm0)] at a4
      exact ⟨f0, hm0, a1, a4⟩
    refine hk fl3 H5 ?_ stp5
    unfold St.crash
    rw [if_neg (by rw [hoff]; simp)]
    refine ⟨P5, fun f hf => ?_, fun k x hkx => ?_, by rw [len3]; exact hcnt, fun h => (by cases h), hlo, hhi, hrhi⟩
    · obtain ⟨f0, hm0, a1, a4⟩ := key f hf
      show (s.fs f.name).map (crash1 keep) = _
      rw [a1, hget f0 hm0, a4]; rfl
    · have hkx : (s.fs k).map (crash1 keep) = some x := hkx
      cases hs : s.fs k with
      | none => rw [hs] at hkx; cases hkx
      | some y =>
        obtain ⟨f0, hf0, hn0⟩ := hall k y hs
        obtain ⟨i, hi⟩ := List.getElem?_of_mem hf0
        have h1 := (List.getElem?_eq_some_iff.1 hi).1
        obtain ⟨f, hf⟩ : ∃ f, fl3[i]? = some f := ⟨fl3[i]'(by omega), by simp⟩
        exact ⟨f, List.mem_of_getElem? hf, by rw [(each3 i f0 f hi hf).1, hn0]⟩
  · obtain ⟨f, hf, rfl⟩ : ∃ f, fl[j]? = some f ∧ f.ent = e := by
      rw [List.getElem?_map] at hj
      cases h : fl[j]? with
      | none => rw [h] at hj; cases hj
      | some f => rw [h] at hj; cases hj; exact ⟨f, rfl, rfl⟩
    have hl := (List.getElem?_eq_some_iff.1 hf).1
    obtain ⟨f3, hf3⟩ : ∃ f3, fl3[j]? = some f3 := ⟨fl3[j]'(by omega), by simp⟩
    have hff : f3 = f := by
      have := (each3 j f f3 hf hf3).2.2.2
      rwa [if_neg (show ¬ f.born ∈ seen from hns)] at this
    subst hff
    have hmem := List.mem_of_getElem? hf3
    have itd : ∀ b ∈ [it], b ∉ dblk g r fl3 := fun b hb => by rw [List.mem_singleton.1 hb]; exact P3.notIt it3
    have itb : ∀ b ∈ [it], H1 b = none := fun b hb => by rw [List.mem_singleton.1 hb]; exact Upd.none (S := []) P.grp.upd (by simp) itn
    have P4 := P3.upd u4 itd itb
    have hm4 : MapAt H4 r (fl.map Fl.ent) c := mapAt_upd hm3 u4 fun h => itd r h (mem_dblk.2 (.inr (.inl rfl)))
    obtain ⟨va, vc, hfv, ov4⟩ := P4.grp.grp.ok j f3.v f3.bytes (by rw [List.getElem?_map, hf3]; rfl) (by rw [List.getElem?_map, hf3]; rfl)
    have hsyn := P4.syn f3 hmem
    have hlim := P4.lim f3 hmem
    have so4 : OwnRow H4 84 1 (some ⟨f3.p, 0, none⟩) 2 2 [.slice va f3.bytes.length vc, .int .i64 (f3.synced : Int)] := by
      have := P4.str f3 hmem
      unfold scells at this
      rw [hfv] at this
      exact this
    (repeat first | refine HReg.step ?_ | refine HCode.step ?_)
    refine hentry it4 hm4 hj (by rw [List.map_map]; exact P.nb) ?_
    (repeat first | refine HReg.step ?_ | refine HCode.step ?_)
    refine HLoad.one (v := .slice va f3.bytes.length vc) (by exact so4.rows.get (i := 0) rfl) ?_
    (repeat first | refine HReg.step ?_ | refine HCode.step ?_)
    refine HLoad.one (v := .int .i64 (f3.synced : Int)) (by exact so4.rows.get (i := 1) rfl) ?_
    obtain ⟨t1, t2⟩ := tail_le (keep := keep) hsyn
    have hw1 : wr .i64 ((f3.bytes.length : Int) - f3.synced) = (f3.bytes.length : Int) - f3.synced := wr_i64 (by omega) (by omega)
    have hw2 : wr .i64 ((f3.synced : Int) + min (max keep 0) (wr .i64 ((f3.bytes.length : Int) - f3.synced))) = ((f3.synced + tailOf keep f3.bytes.length f3.synced : Nat) : Int) := by
      rw [hw1, ← t2]; exact wr_i64 (by omega) (by omega)
    generalize hnn : f3.synced + tailOf keep f3.bytes.length f3.synced = nn at t1 hw2
    have htk : (f3.bytes.take nn).length = nn := by rw [List.length_take]; omega
    (repeat first | refine HReg.step ?_ | refine HCode.step ?_)
    rw [ite_mx, ite_max, ite_mn, ite_min]
    refine HLoad.one (v := .slice va f3.bytes.length vc) (by exact so4.rows.get (i := 0) rfl) ?_
    (repeat first | refine HReg.step ?_ | refine HCode.step ?_)
    refine HLoad.one (v := .int .i64 (f3.synced : Int)) (by exact so4.rows.get (i := 1) rfl) ?_
    (repeat first | refine HReg.step ?_ | refine HCode.step ?_)
    rw [hw2]
    refine HReq.mk ⟨by omega, by have := ov4.le; omega⟩ ?_
    (repeat first | refine HReg.step ?_ | refine HCode.step ?_)
    refine HCall.mk ⟨Try.f41, Try.func41, by rfl, by rfl⟩ ?_
    refine clone_t (ys := f3.bytes.take nn) (n := nn) (by have := (own_upto ov4 t1).rows; rw [Nat.mul_one] at this; unfold u8s at this ⊢; rw [List.map_take]; exact this) htk (by omega) fun a5 c5 H5 m5 => ?_
    have so5 := so4.upd m5.upd (Off.nil _)
    (repeat first | refine HReg.step ?_ | refine HCode.step ?_)
    refine store_row so5 (v := .slice a5 nn c5) rfl (i := 0) (by decide) (by rfl) fun H6 o6 u6 => ?_
    have P46 := P4.stV hf3 (v' := .slice a5 nn c5) (l' := f3.bytes.take nn) (m5.upd.mono (by simp)) (by have := m5.sle htk; exact this) (fun b hb => .inr (m5.vnew b hb)) o6 u6 (by rw [htk]; omega) (by rw [htk]; omega)
    obtain ⟨P6, stp6⟩ := P46
    (repeat first | refine HReg.step ?_ | refine HCode.step ?_)
    refine HLoad.one (v := .slice a5 nn c5) (by exact o6.rows.get (i := 0) rfl) ?_
    (repeat first | refine HReg.step ?_ | refine HCode.step ?_)
    refine store_row o6 (v := .int .i64 (nn : Int)) rfl (i := 1) (by decide) (by rfl) fun H7 o7 u7 => ?_
    obtain ⟨P7, stp7⟩ := P6.stS (j := j) (f := { f3 with v := .slice a5 nn c5, bytes := f3.bytes.take nn }) (n := nn) (by rw [List.getElem?_set, if_pos rfl, if_pos (by omega)]) o7 u7 (by rw [htk]; exact Nat.le_refl _)
    (repeat first | refine HReg.step ?_ | refine HCode.step ?_)
    rw [List.set_set] at P7 stp7
    have stp47 := stp6.trans stp7
    have itn7 : H7 it = some (.mapIter (some r) c (seen.push f3.born) c) := by
      rw [stp47.upd it (itd it (by simp)) (by rw [it4]; simp)]; exact it4
    have hrp : r ∉ [f3.p] := fun h => by
      obtain ⟨_, _, h2⟩ := own_live so4
      rw [← List.mem_singleton.1 h] at h2
      unfold MapAt at hm4; rw [hm4] at h2; cases h2
    have hm7 : MapAt H7 r (fl.map Fl.ent) c := mapAt_upd (mapAt_upd (mapAt_upd hm4 m5.upd (by simp)) u6 hrp) u7 hrp
    have stp4 : Stp H H4 g r fl fl3 := ⟨upd_join stp3.upd u4 fun b hb => .inr (by rw [List.mem_singleton.1 hb]; exact itn), stp3.sub⟩
    have hnot : ∀ (i : Nat) f0, fl[i]? = some f0 → i ≠ j → f0.born ≠ f3.born := fun i f0 hi hij he => hij (by
      have h1 := (List.getElem?_eq_some_iff.1 hi).1
      exact (List.getElem?_inj (i := i) (j := j) (by simpa using h1) P.nb).1 (by rw [List.getElem?_map, List.getElem?_map, hi, hf]; show some f0.born = some f3.born; rw [he]))
    refine Exists.intro _ (And.intro ?_ (CrInv.mk ⟨_, seen.push f3.born, rfl, rfl, P7, stp4.trans stp47, itn7, itn, hm7, by rw [List.length_set, len3], fun i f0 f h1 h2 => ?_⟩))
    · rw [hmm]
      refine filt_lt (fun x hx => ?_) (List.mem_of_getElem? hf) ?_ ?_
      · simp at hx ⊢; exact hx.1
      · simpa using (show ¬ f3.born ∈ seen from hns)
      · simp
    · rw [List.getElem?_set] at h2
      split at h2
      · rename_i hij; subst hij
        rw [hf] at h1; cases h1
        split at h2
        · cases h2
          refine ⟨rfl, rfl, rfl, ?_⟩
          rw [if_pos (by simp)]
          show (f3.bytes.take nn, nn) = (f3.bytes.take (f3.synced + tailOf keep f3.bytes.length f3.synced), f3.synced + tailOf keep f3.bytes.length f3.synced)
          rw [hnn]
        · cases h2
      · rename_i hij
        obtain ⟨a1, a2, a3, a4⟩ := each3 i f0 f h1 h2
        refine ⟨a1, a2, a3, ?_⟩
        by_cases hs : f0.born ∈ seen
        · rw [if_pos hs] at a4
          rw [if_pos (by simp [hs])]; exact a4
        · rw [if_neg hs] at a4
          rw [if_neg (by simp only [Array.mem_push, not_or]; exact ⟨hs, hnot i f0 h1 (Ne.symm hij)⟩)]; exact a4
end Go.Proofs.Ytfcmjomnpahllaa
