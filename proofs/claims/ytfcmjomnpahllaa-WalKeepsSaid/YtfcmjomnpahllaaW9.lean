import Derived.Test.YtfcmjomnpahllaaW8
import Derived.Test.YtfcmjomnpahllaaE2
namespace Go.Proofs.Ytfcmjomnpahllaa
open Go Hv
set_option linter.unusedVariables false
set_option linter.unusedSimpArgs false
set_option maxRecDepth 10000
set_option maxHeartbeats 4000000
/-! WalRefused: a disk of two files, plainly. CUT2 -/
noncomputable def optR (x : Rec) : Option (List UInt8 × Nat) := if (buildR x).2 = 0 then some (frameR (pay x), (frameR (pay x)).length) else none
noncomputable def lstR (x : Rec) : List Rec := if (buildR x).2 = 0 then [x] else []
theorem call_un {s : St} (ha : s.d.armed = false) : s.call = s := by unfold St.call; rw [if_neg (by rw [ha]; simp)]
theorem readF_un {s : St} {n : ByteArray} (ha : s.d.armed = false) (ho : s.d.off = false) : s.readF n = match s.fs n with | none => (61, []) | some (x, _) => (0, x) := by
  unfold St.readF
  rw [call_un ha, if_neg (by rw [ho]; simp)]
  cases s.fs n <;> rfl
theorem openW_off {s : St} {n : ByteArray} (ha : s.d.armed = false) (ho : s.d.off = true) : openW s n = (62, ([], 0), s) := by
  have e : s.readF n = (62, []) := by unfold St.readF; rw [call_un ha, if_pos ho]
  unfold openW
  rw [e]
  dsimp only
  rw [if_neg (by decide), if_neg (by decide), call_un ha]
theorem openW_none {s : St} {n : ByteArray} (ha : s.d.armed = false) (ho : s.d.off = false) (hn : s.fs n = none) : openW s n = (0, ([], 0), s) := by
  have e : s.readF n = (61, []) := by rw [readF_un ha ho, hn]
  unfold openW
  rw [e]
  dsimp only
  rw [if_neg (by decide), if_pos rfl, call_un ha]
theorem openW_all {s : St} {n : ByteArray} {D : List Rec} {y : Nat} (ha : s.d.armed = false) (ho : s.d.off = false) (hD : ∀ x ∈ D, Good x) (hn : s.fs n = some (frG D, y)) : openW s n = (0, (D, (frG D).length), s) := by
  have e : s.readF n = (0, frG D) := by rw [readF_un ha ho, hn]
  unfold openW
  rw [e]
  dsimp only
  rw [if_pos rfl, scan_all hD]
  dsimp only
  rw [if_neg (Nat.lt_irrefl _), call_un ha]
theorem openW_opt {s : St} {n : ByteArray} {x : Rec} (ha : s.d.armed = false) (ho : s.d.off = false) (hid : x.id < 18446744073709551616) (hn : s.fs n = optR x) : ∃ k, openW s n = (0, (lstR x, k), s) := by
  unfold optR at hn
  unfold lstR
  by_cases h : (buildR x).2 = 0
  · rw [if_pos h] at hn ⊢
    exact ⟨_, openW_all (D := [x]) ha ho (fun y hy => by rw [List.mem_singleton.1 hy]; exact good_build hid h) (by rw [frG_one]; exact hn)⟩
  · rw [if_neg h] at hn ⊢
    exact ⟨_, openW_none ha ho hn⟩
theorem readF_opt {s : St} {n : ByteArray} {x : Rec} (ha : s.d.armed = false) (ho : s.d.off = false) (hn : s.fs n = optR x) : (s.readF n).2.length ≤ 17592186044416 := by
  rw [readF_un ha ho, hn]
  unfold optR
  by_cases h : (buildR x).2 = 0
  · rw [if_pos h]
    have hl := build_len x
    show (frameR (pay x)).length ≤ _
    unfold buildR at h hl
    split at h
    · cases h
    · rename_i hm
      split at h
      · cases h
      · rename_i h2
        rw [frame_len]; omega
  · rw [if_neg h]; exact Nat.zero_le _
/-- A record is appended to a file that is not there. -/
theorem appW_new {s : St} {n : ByteArray} {k : Nat} {x : Rec} (ha : s.d.armed = false) (ho : s.d.off = false) (hr : s.d.refuses ≤ 0) (h1 : 1 ≤ n.size ∧ n.size ≤ 32) (hn : s.fs n = none) (hc : s.cnt < 16) (hid : x.id < 18446744073709551616) :
    ∃ k' s', appendW s n k x = ((buildR x).2, k', s') ∧ s'.d = s.d ∧ s'.cnt ≤ s.cnt + 1 ∧ s'.fs n = optR x ∧ (∀ m, m ≠ n → s'.fs m = s.fs m) ∧ (¬ (buildR x).2 = 0 → k' = k) ∧ k' ≤ k + 1048584 := by
  unfold appendW optR
  by_cases h : (buildR x).2 = 0
  · have hg := good_build hid h
    have hb := build_good hg
    have e1 : s.append n (frameR (pay x)) = (0, s.put n ([] ++ frameR (pay x), 0)) := by
      unfold St.append
      rw [call_un ha]
      dsimp only
      rw [if_neg (by rw [ho]; simp), if_neg (fun h => h h1), if_neg (fun h => by omega), if_neg (fun h => by omega), hn]
      rfl
    have e2 : (s.put n ([] ++ frameR (pay x), 0)).sync n = (0, (s.put n ([] ++ frameR (pay x), 0)).put n ([] ++ frameR (pay x), ([] ++ frameR (pay x)).length)) := by
      have ec : (s.put n ([] ++ frameR (pay x), 0)).call = s.put n ([] ++ frameR (pay x), 0) := call_un ha
      unfold St.sync
      rw [St.has_yes (x := [] ++ frameR (pay x)) (y := 0) (by rw [ec]; exact ho) (by rw [ec]; exact if_pos rfl), ec]
    rw [hb, e1]
    dsimp only
    rw [if_neg (fun h => h rfl), if_neg (fun h => h rfl), e2]
    dsimp only
    rw [if_neg (fun h => h rfl), if_pos rfl]
    refine ⟨_, _, rfl, rfl, ?_, if_pos rfl, fun m hm => ?_, fun h => absurd rfl h, ?_⟩
    · show (if ((s.put n ([] ++ frameR (pay x), 0)).fs n).isSome then (s.put n ([] ++ frameR (pay x), 0)).cnt else _) ≤ _
      rw [show (s.put n ([] ++ frameR (pay x), 0)).fs n = some ([] ++ frameR (pay x), 0) from if_pos rfl]
      show (if (s.fs n).isSome then s.cnt else s.cnt + 1) ≤ _
      split <;> omega
    · show (if m = n then _ else (if m = n then _ else s.fs m)) = _
      rw [if_neg hm, if_neg hm]
    · have := hg.len
      rw [frame_len]; omega
  · rw [if_pos h, if_neg h]
    exact ⟨k, s, rfl, rfl, by omega, hn, fun m hm => rfl, fun _ => rfl, by omega⟩
theorem appW_ref {s : St} {n : ByteArray} {k : Nat} {x : Rec} (ha : s.d.armed = false) (ho : s.d.off = false) (hr : 0 < s.d.refuses) (h1 : 1 ≤ n.size ∧ n.size ≤ 32) (hc : s.cnt < 16) (hx : Good x) :
    appendW s n k x = (60, k, { s with d := { s.d with refuses := s.d.refuses - 1 } }) := by
  have hp := frame_pos (pay x)
  have e1 : s.append n (frameR (pay x)) = (60, { s with d := { s.d with refuses := s.d.refuses - 1 } }) := by
    unfold St.append
    rw [call_un ha]
    dsimp only
    rw [if_neg (by rw [ho]; simp), if_neg (fun h => h h1), if_neg (fun h => by omega), if_pos ⟨by omega, hr⟩]
  unfold appendW
  rw [build_good hx]
  dsimp only
  rw [if_neg (fun h => h rfl), e1]
  dsimp only
  rw [if_pos (by decide)]
def nA : ByteArray := ⟨#[97]⟩
def nB : ByteArray := ⟨#[98]⟩
theorem nA_ok : 1 ≤ nA.size ∧ nA.size ≤ 32 := by decide
theorem nB_ok : 1 ≤ nB.size ∧ nB.size ≤ 32 := by decide
theorem nAB : nA ≠ nB := by decide
theorem lstR_len (x : Rec) : (lstR x).length ≤ 1 ∧ eqB ((lstR x).length : Int) 1 = eqB (buildR x).2 0 := by
  unfold lstR
  by_cases h : (buildR x).2 = 0
  · rw [if_pos h, h]; exact ⟨Nat.le_refl _, by rw [eqB_self 0]; exact eqB_true.2 rfl⟩
  · rw [if_neg h, show eqB (buildR x).2 0 = false from eqB_false.2 h]; exact ⟨Nat.zero_le _, eqB_false.2 (by decide)⟩
section
variable {H : Heap} {K : Value → Heap → Prop}
theorem openNil_t {n : ByteArray} (hk : K (.tuple #[.pointer none, .slice none 0 0, .int .i64 1]) H) : HCalls Try.prog 13 [.pointer none, .string n] H K := by
  refine hcalls (fn := Try.f13) [] mixed Try.func13 rfl rfl (by decide +kernel) ?_
  (repeat first | refine HReg.step ?_ | refine HCode.step ?_)
  exact hk
theorem LogAt.upd1 {L L' : Heap} {p q g k : Nat} {n : ByteArray} (h : LogAt L p g n k) (u : Upd [q] L L') (ne : p ≠ q) : LogAt L' p g n k := ⟨h.row.upd u (off_notin fun b hb hb' => by
  have e1 : b = p := by simpa [blk] using hb
  have e2 : b = q := by simpa using hb'
  exact ne (e1.symm.trans e2))⟩
structure SameH (H0 : Heap) (vs : List Value) (H' : Heap) : Prop where
  eq : vs = [] ∧ H' = H0
/-- What the walk knows of the disk. -/
structure Two (s : St) (va vb : Option (List UInt8 × Nat)) (ref : Int) : Prop where
  ha : s.d.armed = false
  ho : s.d.off = false
  hr : s.d.refuses = ref
  fa : s.fs nA = va
  fb : s.fs nB = vb
  hc : s.cnt ≤ 2
theorem walRefused_t {ap ak bp bk : Option Addr} {cp ck dp dk : Nat} {x y : Rec} (hx : RecIn H x ap ak) (hxi : x.id < 18446744073709551616) (hy : RecIn H y bp bk) (hyi : y.id < 18446744073709551616)
    (hk : ∀ H', Upd [] H H' → K (.bool true) H') : HCalls Try.prog 6 [rv x ap cp ak ck, rv y bp dp bk dk] H K := by
  refine hcalls (fn := Try.f6) [(30, [(0, 0), (1, 0), (2, 0), (3, 0), (4, 0), (5, 0), (6, 0), (7, 0), (8, 0), (9, 0), (10, 0), (11, 0), (12, 0), (13, 0), (14, 0), (15, 0), (16, 0), (17, 0), (18, 0), (19, 0), (20, 0), (21, 0), (22, 0), (23, 0), (24, 0), (25, 0), (26, 0), (27, 0), (28, 0), (29, 0), (30, 0), (31, 0), (32, 0), (33, 0), (34, 0), (35, 0)])] mixed Try.func6 rfl rfl (by decide +kernel) ?_
  (repeat first | refine HReg.step ?_ | refine HCode.step ?_)
  refine HNew.mk fun b2 hb2 => ?_
  have hH' : H.upd b2 (.cells [Value.int .i64 x.kind, .int .u64 (x.id : Int), .slice ap x.ps.length cp, .slice ak x.ks.length ck].toArray 28) = H.upd b2 (.cells (rcells x ap cp ak ck).toArray 28) := rfl
  have m2 : Made H (H.upd b2 (.cells (rcells x ap cp ak ck).toArray 28)) 28 1 (some ⟨b2, 0, none⟩) 4 4 (rcells x ap cp ak ck) := ⟨OwnRow.lit (upd_same _ _ _) rfl, Upd.new hb2 _, fun q hq => by cases hq; exact hb2⟩
  rw [hH']
  generalize hH0 : H.upd b2 (.cells (rcells x ap cp ak ck).toArray 28) = H0 at m2
  (repeat first | refine HReg.step ?_ | refine HCode.step ?_)
  refine HNew.mk fun b3 hb3 => ?_
  have hH' : H0.upd b3 (.cells [Value.int .i64 y.kind, .int .u64 (y.id : Int), .slice bp y.ps.length dp, .slice bk y.ks.length dk].toArray 28) = H0.upd b3 (.cells (rcells y bp dp bk dk).toArray 28) := rfl
  have m3 : Made H0 (H0.upd b3 (.cells (rcells y bp dp bk dk).toArray 28)) 28 1 (some ⟨b3, 0, none⟩) 4 4 (rcells y bp dp bk dk) := ⟨OwnRow.lit (upd_same _ _ _) rfl, Upd.new hb3 _, fun q hq => by cases hq; exact hb3⟩
  rw [hH']
  generalize hH0' : H0.upd b3 (.cells (rcells y bp dp bk dk).toArray 28) = H00 at m3
  (repeat first | refine HReg.step ?_ | refine HCode.step ?_)
  refine HCall.mk ⟨Try.f7, Try.func7, by rfl, by rfl⟩ ?_
  refine alive_t fun H1 u1 => ?_
  (repeat first | refine HReg.step ?_ | refine HCode.step ?_)
  refine HCall.mk ⟨Try.f13, Try.func13, by rfl, by rfl⟩ ?_
  refine openNil_t ?_
  (repeat first | refine HReg.step ?_ | refine HCode.step ?_)
  rw [show ltB (0 : Int) ((0 : Nat) : Int) = false from ltB_false.2 (by decide)]
  (repeat first | refine HReg.step ?_ | refine HCode.step ?_)
  rw [eqB_self 1]
  (repeat first | refine HReg.step ?_ | refine HCode.step ?_)
  refine HCall.mk ⟨Try.f8, Try.func8, by rfl, by rfl⟩ ?_
  refine wnew_t fun g r H2 D2 u2 => ?_
  have w02 : Upd [] H (offD H2 g r []) := ((m2.upd.trans m3.upd).trans u1).trans u2
  have o2 : OwnRow (offD H2 g r []) 28 1 (some ⟨b2, 0, none⟩) 4 4 (rcells x ap cp ak ck) := m2.own.upd ((m3.upd.trans u1).trans u2) (Off.nil _)
  have o3 : OwnRow (offD H2 g r []) 28 1 (some ⟨b3, 0, none⟩) 4 4 (rcells y bp dp bk dk) := m3.own.upd (u1.trans u2) (Off.nil _)
  have x2 : RecIn (offD H2 g r []) x ap ak := hx.upd0 w02
  have y2 : RecIn (offD H2 g r []) y bp bk := hy.upd0 w02
  have T0 : Two St0 none none 0 := ⟨rfl, rfl, rfl, rfl, rfl, Nat.zero_le _⟩
  (repeat first | refine HReg.step ?_ | refine HCode.step ?_)
  refine HCall.mk ⟨Try.f13, Try.func13, by rfl, by rfl⟩ ?_
  refine open_w (n := nA) D2 (by rw [readF_un T0.ha T0.ho, T0.fa]; exact Nat.zero_le _) (openW_none T0.ha T0.ho T0.fa) fun p3 a3 c3 qs3 fl3 H3 hq3 D3 u3 lg3 np3 R3 => ?_
  have hq3 : qs3 = [] := List.map_eq_nil_iff.1 hq3.symm
  subst hq3
  (repeat first | refine HReg.step ?_ | refine HCode.step ?_)
  refine HCall.mk ⟨Try.f13, Try.func13, by rfl, by rfl⟩ ?_
  refine open_w (n := nB) D3 (by rw [readF_un T0.ha T0.ho, T0.fb]; exact Nat.zero_le _) (openW_none T0.ha T0.ho T0.fb) fun p4 a4 c4 qs4 fl4 H4 hq4 D4 u4 lg4 np4 R4 => ?_
  have hq4 : qs4 = [] := List.map_eq_nil_iff.1 hq4.symm
  subst hq4
  have e0 : St0.call = St0 := call_un T0.ha
  (repeat first | refine HReg.step ?_ | refine HCode.step ?_)
  refine HCall.mk ⟨Try.f25, Try.func25, by rfl, by rfl⟩ ?_
  refine list_t D4 (fun k z hz => by rw [e0] at hz; cases hz) (by rw [e0]; exact Nat.zero_le _) (fun h => by rw [e0] at h; cases h) fun _ a5 c5 ns fl5 H5 H6 D5 S5 _ m6 => ?_
  rw [e0] at D5
  have hfl5 : fl5 = [] := by
    cases fl5 with
    | nil => rfl
    | cons f fl => have h := D5.get f List.mem_cons_self; cases h
  subst hfl5
  have D6 := D5.upd0 m6.upd
  have u46 : Upd [] (offD H4 g r fl4) (offD H6 g r []) := (dstep S5).trans (less0 m6.upd)
  have u26 := (u3.trans u4).trans u46
  have o20 := o2
  have o30 := o3
  have o2 := o2.upd u26 (Off.nil _)
  have o3 := o3.upd u26 (Off.nil _)
  have x6 := x2.upd0 u26
  have y6 := y2.upd0 u26
  have w06 := w02.trans u26
  have lgA := lg3.upd0 (u4.trans u46)
  have lgB := lg4.upd0 u46
  have nep : p3 ≠ p4 := fun e => by
    rw [e] at lg3
    exact lg3.row.there rfl np4
  (repeat first | refine HReg.step ?_ | refine HCode.step ?_)
  rw [eqB_self 0]
  (repeat first | refine HReg.step ?_ | refine HCode.step ?_)
  rw [eqB_self 0]
  (repeat first | refine HReg.step ?_ | refine HCode.step ?_)
  rw [eqB_self 0]
  (repeat first | refine HReg.step ?_ | refine HCode.step ?_)
  rw [show eqB ((([] : List Fl).length : Nat) : Int) 0 = true from eqB_true.2 rfl]
  (repeat first | refine HReg.step ?_ | refine HCode.step ?_)
  refine HLoadN_row (ownrow_up o2).rows rfl ?_
  (repeat first | refine HReg.step ?_ | refine HCode.step ?_)
  refine HCall.mk ⟨Try.f10, Try.func10, by rfl, by rfl⟩ ?_
  refine own_t (x6.upd0 (offD_up H6)) fun p7 d7 k7 c7 H7 O7 u7 => ?_
  have v7 := less0 (B := dblk g r []) u7
  have D7 := D6.upd0 u7
  have i7 : RecIn (offD H7 g r []) x p7 k7 := ⟨(O7.p.less fun b hb => D6.fresh (O7.pn b hb)).rows, (O7.k.less fun b hb => D6.fresh (O7.kn b hb)).rows, O7.np, O7.nk⟩
  obtain ⟨k8, s8, hw8, hd8, hc8, hfa8, hfo8, hk8, hl8⟩ := appW_new (k := 0) T0.ha T0.ho (by rw [T0.hr]; decide) nA_ok T0.fa (Nat.lt_of_le_of_lt T0.hc (by decide)) hxi
  have T8 : Two s8 (optR x) none 0 := ⟨by rw [hd8]; rfl, by rw [hd8]; rfl, by rw [hd8]; rfl, hfa8, by rw [hfo8 nB (Ne.symm nAB)]; rfl, Nat.le_trans hc8 (by decide)⟩
  have hc8 : s8.cnt ≤ 1 := hc8
  obtain ⟨ex, hex⟩ : ∃ e, e = (buildR x).2 := ⟨_, rfl⟩
  rw [← hex] at hw8
  (repeat first | refine HReg.step ?_ | refine HCode.step ?_)
  refine HCall.mk ⟨Try.f17, Try.func17, by rfl, by rfl⟩ ?_
  refine appendL_w (x := x) D7 (lgA.upd0 v7) i7 (fun a b h => by rw [e0] at h; cases h) (by decide) hw8 fun fl8 H8 D8 u8_ lgA8 => ?_
  have w28 : Upd [] (offD H2 g r []) (offD H8 g r fl8) := Upd.drop (u26.trans v7) u8_ (fun b hb => by rw [List.mem_singleton.1 hb]; exact np3)
  have lgB8 := (lgB.upd0 v7).upd1 u8_ (Ne.symm nep)
  (repeat first | refine HReg.step ?_ | refine HCode.step ?_)
  refine HLoadN_row (ownrow_up (o20.upd w28 (Off.nil _))).rows rfl ?_
  (repeat first | refine HReg.step ?_ | refine HCode.step ?_)
  refine HCall.mk ⟨Try.f10, Try.func10, by rfl, by rfl⟩ ?_
  refine own_t ((x2.upd0 w28).upd0 (offD_up H8)) fun p9 d9 k9 c9 H9 O9 u9 => ?_
  (repeat first | refine HReg.step ?_ | refine HCode.step ?_)
  refine HCall.mk ⟨Try.f9, Try.func9, by rfl, by rfl⟩ ?_
  refine build_t O9.recIn fun aX cX H10 m10 => ?_
  rw [← hex]
  have v10 := less0 (B := dblk g r fl8) (u9.trans m10.upd)
  have D10 := D8.upd0 (u9.trans m10.upd)
  have lgA10 := lgA8.upd0 v10
  have lgB10 := lgB8.upd0 v10
  have w210 := w28.trans v10
  ((repeat refine HReg.step ?_); first | (show HCode _ _ _ (Code.seq (Code.seq (Code.region _ _ _) (Code.cond _ _ _)) _) _ _ _; refine hcutC (a := Code.seq (Code.region _ _ _) (Code.cond _ _ _)) [4, 105, 106, 107, 108, 109, 110, 111, 112, 113, 114, 115, 116] [] (SameH H10) rfl (by repeat' first | exact Resp.retD | exact Resp1.valuesK | refine Resp.blockD ?_ | refine Resp.thenD ?_ ?_ | refine Resp.hcode ?_) ?_ ?_) | (refine HCode.step ?_; (repeat refine HReg.step ?_); first | (show HCode _ _ _ (Code.seq (Code.seq (Code.region _ _ _) (Code.cond _ _ _)) _) _ _ _; refine hcutC (a := Code.seq (Code.region _ _ _) (Code.cond _ _ _)) [4, 105, 106, 107, 108, 109, 110, 111, 112, 113, 114, 115, 116] [] (SameH H10) rfl (by repeat' first | exact Resp.retD | exact Resp1.valuesK | refine Resp.blockD ?_ | refine Resp.thenD ?_ ?_ | refine Resp.hcode ?_) ?_ ?_) | (refine HCode.step ?_; (repeat refine HReg.step ?_); first | (show HCode _ _ _ (Code.seq (Code.seq (Code.region _ _ _) (Code.cond _ _ _)) _) _ _ _; refine hcutC (a := Code.seq (Code.region _ _ _) (Code.cond _ _ _)) [4, 105, 106, 107, 108, 109, 110, 111, 112, 113, 114, 115, 116] [] (SameH H10) rfl (by repeat' first | exact Resp.retD | exact Resp1.valuesK | refine Resp.blockD ?_ | refine Resp.thenD ?_ ?_ | refine Resp.hcode ?_) ?_ ?_) | (refine HCode.step ?_; (repeat refine HReg.step ?_); first | (show HCode _ _ _ (Code.seq (Code.seq (Code.region _ _ _) (Code.cond _ _ _)) _) _ _ _; refine hcutC (a := Code.seq (Code.region _ _ _) (Code.cond _ _ _)) [4, 105, 106, 107, 108, 109, 110, 111, 112, 113, 114, 115, 116] [] (SameH H10) rfl (by repeat' first | exact Resp.retD | exact Resp1.valuesK | refine Resp.blockD ?_ | refine Resp.thenD ?_ ?_ | refine Resp.hcode ?_) ?_ ?_) | (refine HCode.step ?_; (repeat refine HReg.step ?_); first | (show HCode _ _ _ (Code.seq (Code.seq (Code.region _ _ _) (Code.cond _ _ _)) _) _ _ _; refine hcutC (a := Code.seq (Code.region _ _ _) (Code.cond _ _ _)) [4, 105, 106, 107, 108, 109, 110, 111, 112, 113, 114, 115, 116] [] (SameH H10) rfl (by repeat' first | exact Resp.retD | exact Resp1.valuesK | refine Resp.blockD ?_ | refine Resp.thenD ?_ ?_ | refine Resp.hcode ?_) ?_ ?_) | (refine HCode.step ?_; (repeat refine HReg.step ?_); first | (show HCode _ _ _ (Code.seq (Code.seq (Code.region _ _ _) (Code.cond _ _ _)) _) _ _ _; refine hcutC (a := Code.seq (Code.region _ _ _) (Code.cond _ _ _)) [4, 105, 106, 107, 108, 109, 110, 111, 112, 113, 114, 115, 116] [] (SameH H10) rfl (by repeat' first | exact Resp.retD | exact Resp1.valuesK | refine Resp.blockD ?_ | refine Resp.thenD ?_ ?_ | refine Resp.hcode ?_) ?_ ?_) | (refine HCode.step ?_; (repeat refine HReg.step ?_); first | (show HCode _ _ _ (Code.seq (Code.seq (Code.region _ _ _) (Code.cond _ _ _)) _) _ _ _; refine hcutC (a := Code.seq (Code.region _ _ _) (Code.cond _ _ _)) [4, 105, 106, 107, 108, 109, 110, 111, 112, 113, 114, 115, 116] [] (SameH H10) rfl (by repeat' first | exact Resp.retD | exact Resp1.valuesK | refine Resp.blockD ?_ | refine Resp.thenD ?_ ?_ | refine Resp.hcode ?_) ?_ ?_) | (refine HCode.step ?_; (repeat refine HReg.step ?_); first | (show HCode _ _ _ (Code.seq (Code.seq (Code.region _ _ _) (Code.cond _ _ _)) _) _ _ _; refine hcutC (a := Code.seq (Code.region _ _ _) (Code.cond _ _ _)) [4, 105, 106, 107, 108, 109, 110, 111, 112, 113, 114, 115, 116] [] (SameH H10) rfl (by repeat' first | exact Resp.retD | exact Resp1.valuesK | refine Resp.blockD ?_ | refine Resp.thenD ?_ ?_ | refine Resp.hcode ?_) ?_ ?_) | (refine HCode.step ?_; (repeat refine HReg.step ?_); first | (show HCode _ _ _ (Code.seq (Code.seq (Code.region _ _ _) (Code.cond _ _ _)) _) _ _ _; refine hcutC (a := Code.seq (Code.region _ _ _) (Code.cond _ _ _)) [4, 105, 106, 107, 108, 109, 110, 111, 112, 113, 114, 115, 116] [] (SameH H10) rfl (by repeat' first | exact Resp.retD | exact Resp1.valuesK | refine Resp.blockD ?_ | refine Resp.thenD ?_ ?_ | refine Resp.hcode ?_) ?_ ?_) | (refine HCode.step ?_; (repeat refine HReg.step ?_); first | (show HCode _ _ _ (Code.seq (Code.seq (Code.region _ _ _) (Code.cond _ _ _)) _) _ _ _; refine hcutC (a := Code.seq (Code.region _ _ _) (Code.cond _ _ _)) [4, 105, 106, 107, 108, 109, 110, 111, 112, 113, 114, 115, 116] [] (SameH H10) rfl (by repeat' first | exact Resp.retD | exact Resp1.valuesK | refine Resp.blockD ?_ | refine Resp.thenD ?_ ?_ | refine Resp.hcode ?_) ?_ ?_) | (refine HCode.step ?_; (repeat refine HReg.step ?_); first | (show HCode _ _ _ (Code.seq (Code.seq (Code.region _ _ _) (Code.cond _ _ _)) _) _ _ _; refine hcutC (a := Code.seq (Code.region _ _ _) (Code.cond _ _ _)) [4, 105, 106, 107, 108, 109, 110, 111, 112, 113, 114, 115, 116] [] (SameH H10) rfl (by repeat' first | exact Resp.retD | exact Resp1.valuesK | refine Resp.blockD ?_ | refine Resp.thenD ?_ ?_ | refine Resp.hcode ?_) ?_ ?_) | (refine HCode.step ?_; (repeat refine HReg.step ?_); first | (show HCode _ _ _ (Code.seq (Code.seq (Code.region _ _ _) (Code.cond _ _ _)) _) _ _ _; refine hcutC (a := Code.seq (Code.region _ _ _) (Code.cond _ _ _)) [4, 105, 106, 107, 108, 109, 110, 111, 112, 113, 114, 115, 116] [] (SameH H10) rfl (by repeat' first | exact Resp.retD | exact Resp1.valuesK | refine Resp.blockD ?_ | refine Resp.thenD ?_ ?_ | refine Resp.hcode ?_) ?_ ?_) | (refine HCode.step ?_; (repeat refine HReg.step ?_); first | (show HCode _ _ _ (Code.seq (Code.seq (Code.region _ _ _) (Code.cond _ _ _)) _) _ _ _; refine hcutC (a := Code.seq (Code.region _ _ _) (Code.cond _ _ _)) [4, 105, 106, 107, 108, 109, 110, 111, 112, 113, 114, 115, 116] [] (SameH H10) rfl (by repeat' first | exact Resp.retD | exact Resp1.valuesK | refine Resp.blockD ?_ | refine Resp.thenD ?_ ?_ | refine Resp.hcode ?_) ?_ ?_) | (refine HCode.step ?_; (repeat refine HReg.step ?_); first | (show HCode _ _ _ (Code.seq (Code.seq (Code.region _ _ _) (Code.cond _ _ _)) _) _ _ _; refine hcutC (a := Code.seq (Code.region _ _ _) (Code.cond _ _ _)) [4, 105, 106, 107, 108, 109, 110, 111, 112, 113, 114, 115, 116] [] (SameH H10) rfl (by repeat' first | exact Resp.retD | exact Resp1.valuesK | refine Resp.blockD ?_ | refine Resp.thenD ?_ ?_ | refine Resp.hcode ?_) ?_ ?_) | (refine HCode.step ?_; (repeat refine HReg.step ?_); first | (show HCode _ _ _ (Code.seq (Code.seq (Code.region _ _ _) (Code.cond _ _ _)) _) _ _ _; refine hcutC (a := Code.seq (Code.region _ _ _) (Code.cond _ _ _)) [4, 105, 106, 107, 108, 109, 110, 111, 112, 113, 114, 115, 116] [] (SameH H10) rfl (by repeat' first | exact Resp.retD | exact Resp1.valuesK | refine Resp.blockD ?_ | refine Resp.thenD ?_ ?_ | refine Resp.hcode ?_) ?_ ?_) | (refine HCode.step ?_; (repeat refine HReg.step ?_); first | (show HCode _ _ _ (Code.seq (Code.seq (Code.region _ _ _) (Code.cond _ _ _)) _) _ _ _; refine hcutC (a := Code.seq (Code.region _ _ _) (Code.cond _ _ _)) [4, 105, 106, 107, 108, 109, 110, 111, 112, 113, 114, 115, 116] [] (SameH H10) rfl (by repeat' first | exact Resp.retD | exact Resp1.valuesK | refine Resp.blockD ?_ | refine Resp.thenD ?_ ?_ | refine Resp.hcode ?_) ?_ ?_) | (refine HCode.step ?_; (repeat refine HReg.step ?_); first | (show HCode _ _ _ (Code.seq (Code.seq (Code.region _ _ _) (Code.cond _ _ _)) _) _ _ _; refine hcutC (a := Code.seq (Code.region _ _ _) (Code.cond _ _ _)) [4, 105, 106, 107, 108, 109, 110, 111, 112, 113, 114, 115, 116] [] (SameH H10) rfl (by repeat' first | exact Resp.retD | exact Resp1.valuesK | refine Resp.blockD ?_ | refine Resp.thenD ?_ ?_ | refine Resp.hcode ?_) ?_ ?_) | (refine HCode.step ?_; (repeat refine HReg.step ?_); first | (show HCode _ _ _ (Code.seq (Code.seq (Code.region _ _ _) (Code.cond _ _ _)) _) _ _ _; refine hcutC (a := Code.seq (Code.region _ _ _) (Code.cond _ _ _)) [4, 105, 106, 107, 108, 109, 110, 111, 112, 113, 114, 115, 116] [] (SameH H10) rfl (by repeat' first | exact Resp.retD | exact Resp1.valuesK | refine Resp.blockD ?_ | refine Resp.thenD ?_ ?_ | refine Resp.hcode ?_) ?_ ?_) | (refine HCode.step ?_; (repeat refine HReg.step ?_); first | (show HCode _ _ _ (Code.seq (Code.seq (Code.region _ _ _) (Code.cond _ _ _)) _) _ _ _; refine hcutC (a := Code.seq (Code.region _ _ _) (Code.cond _ _ _)) [4, 105, 106, 107, 108, 109, 110, 111, 112, 113, 114, 115, 116] [] (SameH H10) rfl (by repeat' first | exact Resp.retD | exact Resp1.valuesK | refine Resp.blockD ?_ | refine Resp.thenD ?_ ?_ | refine Resp.hcode ?_) ?_ ?_) | (refine HCode.step ?_; (repeat refine HReg.step ?_); first | (show HCode _ _ _ (Code.seq (Code.seq (Code.region _ _ _) (Code.cond _ _ _)) _) _ _ _; refine hcutC (a := Code.seq (Code.region _ _ _) (Code.cond _ _ _)) [4, 105, 106, 107, 108, 109, 110, 111, 112, 113, 114, 115, 116] [] (SameH H10) rfl (by repeat' first | exact Resp.retD | exact Resp1.valuesK | refine Resp.blockD ?_ | refine Resp.thenD ?_ ?_ | refine Resp.hcode ?_) ?_ ?_) | (refine HCode.step ?_; (repeat refine HReg.step ?_); (show HCode _ _ _ (Code.seq (Code.seq (Code.region _ _ _) (Code.cond _ _ _)) _) _ _ _; refine hcutC (a := Code.seq (Code.region _ _ _) (Code.cond _ _ _)) [4, 105, 106, 107, 108, 109, 110, 111, 112, 113, 114, 115, 116] [] (SameH H10) rfl (by repeat' first | exact Resp.retD | exact Resp1.valuesK | refine Resp.blockD ?_ | refine Resp.thenD ?_ ?_ | refine Resp.hcode ?_) ?_ ?_))))))))))))))))))))))
  · (repeat first | refine HReg.step ?_ | refine HCode.step ?_)
    rw [eqB_self ex]
    (repeat first | refine HReg.step ?_ | refine HCode.step ?_)
    by_cases hx0 : ex = 0
    · rw [hx0, eqB_self 0]
      (repeat first | refine HReg.step ?_ | refine HCode.step ?_)
      exact SameH.mk ⟨rfl, rfl⟩
    · rw [show eqB ex 0 = false from eqB_false.2 hx0]
      (repeat first | refine HReg.step ?_ | refine HCode.step ?_)
      refine HCall.mk ⟨Try.f16, Try.func16, by rfl, by rfl⟩ ?_
      refine sizeL_t lgA10 ?_
      rw [hk8 (by rw [← hex]; exact hx0)]
      (repeat first | refine HReg.step ?_ | refine HCode.step ?_)
      rw [show eqB ((0 : Nat) : Int) 0 = true from eqB_true.2 rfl]
      (repeat first | refine HReg.step ?_ | refine HCode.step ?_)
      exact SameH.mk ⟨rfl, rfl⟩
  rintro _ fe1 _ ⟨rfl, rfl⟩
  have T11 : Two (s8.full 1) (optR x) none 1 := ⟨T8.ha, T8.ho, rfl, T8.fa, T8.fb, T8.hc⟩
  (repeat first | refine HReg.step ?_ | refine HCode.step ?_)
  refine HCall.mk ⟨Try.f22, Try.func22, by rfl, by rfl⟩ ?_
  refine full_w (s' := s8.full 1) D10 (by decide) rfl fun H11 D11 u11 => ?_
  (repeat first | refine HReg.step ?_ | refine HCode.step ?_)
  refine HCall.mk ⟨Try.f12, Try.func12, by rfl, by rfl⟩ ?_
  refine commit_t (by decide) fun H12 u12 => ?_
  have v12 := less0 (B := dblk g r fl8) u12
  have ri : ∀ (H : Heap), RecIn H (commitR 1) none none := fun H => ⟨RowAt.nil _ _, RowAt.nil _ _, Nat.zero_le _, Nat.zero_le _⟩
  have G1 : Good (commitR 1) := commit_good (by decide) (by decide)
  have hlim8 : ∀ (a : List UInt8) b, (s8.full 1).call.fs nA = some (a, b) → a.length ≤ 70368744177664 := fun a b h => by
    have h2 := readF_opt T11.ha T11.ho T11.fa
    rw [call_un T11.ha] at h
    rw [readF_un T11.ha T11.ho, h] at h2
    exact Nat.le_trans h2 (by decide)
  obtain ⟨s13, hs13⟩ : ∃ s, s = ({ s8.full 1 with d := { (s8.full 1).d with refuses := (s8.full 1).d.refuses - 1 } } : St) := ⟨_, rfl⟩
  have hw13 : appendW (s8.full 1) nA k8 (commitR 1) = (60, k8, s13) := by rw [hs13]; exact appW_ref T11.ha T11.ho (by rw [T11.hr]; decide) nA_ok (Nat.lt_of_le_of_lt T11.hc (by decide)) G1
  have T13 : Two s13 (optR x) none 0 := by rw [hs13]; exact ⟨T8.ha, T8.ho, rfl, T8.fa, T8.fb, T8.hc⟩
  have hc13 : s13.cnt ≤ 1 := by rw [hs13]; exact hc8
  (repeat first | refine HReg.step ?_ | refine HCode.step ?_)
  refine HCall.mk ⟨Try.f17, Try.func17, by rfl, by rfl⟩ ?_
  refine appendL_w (x := commitR 1) (D11.upd0 u12) ((lgA10.upd0 u11).upd0 v12) (ri _) hlim8 (by omega) hw13 fun fl13 H13 D13 u13 lgA13 => ?_
  have w213 : Upd [] (offD H2 g r []) (offD H13 g r fl13) := Upd.drop ((w210.trans u11).trans v12) u13 (fun b hb => by rw [List.mem_singleton.1 hb]; exact np3)
  have lgB13 := ((lgB10.upd0 u11).upd0 v12).upd1 u13 (Ne.symm nep)
  (repeat first | refine HReg.step ?_ | refine HCode.step ?_)
  refine HCall.mk ⟨Try.f16, Try.func16, by rfl, by rfl⟩ ?_
  refine sizeL_t lgA13 ?_
  (repeat first | refine HReg.step ?_ | refine HCode.step ?_)
  refine HLoadN_row (ownrow_up (o30.upd w213 (Off.nil _))).rows rfl ?_
  (repeat first | refine HReg.step ?_ | refine HCode.step ?_)
  refine HCall.mk ⟨Try.f10, Try.func10, by rfl, by rfl⟩ ?_
  refine own_t ((y2.upd0 w213).upd0 (offD_up H13)) fun p14 d14 k14 c14 H14 O14 u14 => ?_
  have v14 := less0 (B := dblk g r fl13) u14
  have D14 := D13.upd0 u14
  have i14 : RecIn (offD H14 g r fl13) y p14 k14 := ⟨(O14.p.less fun b hb => D13.fresh (O14.pn b hb)).rows, (O14.k.less fun b hb => D13.fresh (O14.kn b hb)).rows, O14.np, O14.nk⟩
  obtain ⟨k15, s15, hw15, hd15, hc15, hfb15, hfo15, _, hl15⟩ := appW_new (k := 0) T13.ha T13.ho (by rw [T13.hr]; decide) nB_ok T13.fb (by omega) hyi
  have T15 : Two s15 (optR x) (optR y) 0 := ⟨by rw [hd15]; exact T13.ha, by rw [hd15]; exact T13.ho, by rw [hd15]; exact T13.hr, by rw [hfo15 nA nAB]; exact T13.fa, hfb15, by omega⟩
  obtain ⟨ey, hey⟩ : ∃ e, e = (buildR y).2 := ⟨_, rfl⟩
  rw [← hey] at hw15
  (repeat first | refine HReg.step ?_ | refine HCode.step ?_)
  refine HCall.mk ⟨Try.f17, Try.func17, by rfl, by rfl⟩ ?_
  refine appendL_w (x := y) D14 (lgB13.upd0 v14) i14 (fun a b h => by rw [call_un T13.ha, T13.fb] at h; cases h) (by decide) hw15 fun fl15 H15 D15 u15 lgB15 => ?_
  have np4' : offD H2 g r [] p4 = none := Upd.none (S := []) u3 (by simp) np4
  have w215 : Upd [] (offD H2 g r []) (offD H15 g r fl15) := Upd.drop (w213.trans v14) u15 (fun b hb => by rw [List.mem_singleton.1 hb]; exact np4')
  have lgA15 := (lgA13.upd0 v14).upd1 u15 nep
  (repeat first | refine HReg.step ?_ | refine HCode.step ?_)
  refine HLoadN_row (ownrow_up (o30.upd w215 (Off.nil _))).rows rfl ?_
  (repeat first | refine HReg.step ?_ | refine HCode.step ?_)
  refine HCall.mk ⟨Try.f10, Try.func10, by rfl, by rfl⟩ ?_
  refine own_t ((y2.upd0 w215).upd0 (offD_up H15)) fun p16 d16 k16 c16 H16 O16 u16 => ?_
  (repeat first | refine HReg.step ?_ | refine HCode.step ?_)
  refine HCall.mk ⟨Try.f9, Try.func9, by rfl, by rfl⟩ ?_
  refine build_t O16.recIn fun aY cY H17 m17 => ?_
  rw [← hey]
  have v17 := less0 (B := dblk g r fl15) (u16.trans m17.upd)
  have D17 := D15.upd0 (u16.trans m17.upd)
  have lgA17 := lgA15.upd0 v17
  have w217 := w215.trans v17
  (repeat first | refine HReg.step ?_ | refine HCode.step ?_)
  rw [eqB_self 60]
  (repeat first | refine HReg.step ?_ | refine HCode.step ?_)
  refine HCall.mk ⟨Try.f16, Try.func16, by rfl, by rfl⟩ ?_
  refine sizeL_t lgA17 ?_
  (repeat first | refine HReg.step ?_ | refine HCode.step ?_)
  rw [eqB_self ((k8 : Nat) : Int)]
  (repeat first | refine HReg.step ?_ | refine HCode.step ?_)
  rw [eqB_self ey]
  (repeat first | refine HReg.step ?_ | refine HCode.step ?_)
  obtain ⟨kA, hA⟩ := openW_opt T15.ha T15.ho hxi T15.fa
  obtain ⟨kB, hB⟩ := openW_opt T15.ha T15.ho hyi T15.fb
  refine HCall.mk ⟨Try.f13, Try.func13, by rfl, by rfl⟩ ?_
  refine open_w (n := nA) D17 (readF_opt T15.ha T15.ho T15.fa) hA fun p18 a18 c18 qs18 fl18 H18 hq18 D18 u18 lg18 np18 R18 => ?_
  (repeat first | refine HReg.step ?_ | refine HCode.step ?_)
  refine HCall.mk ⟨Try.f13, Try.func13, by rfl, by rfl⟩ ?_
  refine open_w (n := nB) D18 (readF_opt T15.ha T15.ho T15.fb) hB fun p19 a19 c19 qs19 fl19 H19 hq19 D19 u19 lg19 np19 R19 => ?_
  have R18 := R18.upd0 u19
  have w219 := (w217.trans u18).trans u19
  have l18 : qs18.length = (lstR x).length := by have := congrArg List.length hq18; simpa using this.symm
  have l19 : qs19.length = (lstR y).length := by have := congrArg List.length hq19; simpa using this.symm
  obtain ⟨m18, q18⟩ := lstR_len x
  obtain ⟨m19, q19⟩ := lstR_len y
  rw [← l18, ← hex] at q18
  rw [← l19, ← hey] at q19
  (repeat first | refine HReg.step ?_ | refine HCode.step ?_)
  rw [eqB_self 0]
  (repeat first | refine HReg.step ?_ | refine HCode.step ?_)
  rw [eqB_self 0]
  (repeat first | refine HReg.step ?_ | refine HCode.step ?_)
  rw [q18]
  (repeat first | refine HReg.step ?_ | refine HCode.step ?_)
  rw [beq_self_eq_true (eqB ex 0)]
  (repeat first | refine HReg.step ?_ | refine HCode.step ?_)
  rw [show ltB (1 : Int) ((qs18.length : Nat) : Int) = false from ltB_false.2 (by omega)]
  (repeat first | refine HReg.step ?_ | refine HCode.step ?_)
  rw [q19]
  (repeat first | refine HReg.step ?_ | refine HCode.step ?_)
  rw [beq_self_eq_true (eqB ey 0)]
  (repeat first | refine HReg.step ?_ | refine HCode.step ?_)
  rw [show ltB (1 : Int) ((qs19.length : Nat) : Int) = false from ltB_false.2 (by omega)]
  (repeat first | refine HReg.step ?_ | refine HCode.step ?_)
  refine HCall.mk ⟨Try.f20, Try.func20, by rfl, by rfl⟩ ?_
  have hcr : (s15.crash 0).d.off = true ∧ (s15.crash 0).d.armed = false := by
    unfold St.crash
    rw [if_neg (by rw [T15.ho]; simp)]
    exact ⟨rfl, rfl⟩
  refine crash_w (s' := s15.crash 0) D19 rfl fun fl20 H20 D20 u20 => ?_
  have how := openW_off (n := nA) hcr.2 hcr.1
  (repeat first | refine HReg.step ?_ | refine HCode.step ?_)
  refine HCall.mk ⟨Try.f13, Try.func13, by rfl, by rfl⟩ ?_
  refine open_t (n := nA) D20 (by unfold St.readF; rw [call_un hcr.2, if_pos hcr.1]; exact Nat.zero_le _) (fun e fl21 H21 he h1 D21 u21 => ?_) (fun p a c qs fl' H' h0 _ _ _ _ _ _ => by rw [how] at h0; have h0 : (62 : Int) = 0 := h0; cases h0)
  rw [how] at h1
  have h1 : (62 : Int) = e := h1
  subst h1
  have v21 := u20.trans u21
  have R18 := (R18.upd0 v21).up
  have R19 := (R19.upd0 v21).up
  have w221 := w219.trans v21
  have w21 : Upd [] H H21 := (w02.trans w221).trans (offD_up H21)
  have o221 := ownrow_up (o20.upd w221 (Off.nil _))
  have o321 := ownrow_up (o30.upd w221 (Off.nil _))
  have x21 := (x2.upd0 w221).upd0 (offD_up H21)
  have y21 := (y2.upd0 w221).upd0 (offD_up H21)
  have last : ∀ {q : PRec} {qs : List PRec} {l : List Rec}, l = qs.map PRec.r → True := fun _ => trivial
  (repeat first | refine HReg.step ?_ | refine HCode.step ?_)
  rw [show eqB (((0 : Nat) : Int)) 0 = true from eqB_true.2 rfl]
  (repeat first | refine HReg.step ?_ | refine HCode.step ?_)
  rw [eqB_self 62]
  (repeat first | refine HReg.step ?_ | refine HCode.step ?_)
  by_cases hx0 : (buildR x).2 = 0
  · rw [show lstR x = [x] from if_pos hx0] at hq18
    obtain ⟨qx, rfl, hqx⟩ := map_one hq18
    rw [show eqB ((([qx] : List PRec).length : Nat) : Int) 0 = false from eqB_false.2 (by show ((1 : Nat) : Int) ≠ 0; decide)]
    obtain ⟨ba, ao, rfl, _⟩ := R18.row _ _ (recsV_get (qs := [qx]) (i := 0) rfl 0 _ rfl)
    (repeat first | refine HReg.step ?_ | refine HCode.step ?_)
    refine HReq.mk ⟨by decide, by show (0 : Int) < ((1 : Nat) : Int); decide⟩ ?_
    (repeat first | refine HReg.step ?_ | refine HCode.step ?_)
    refine HLoadN_rec (qs := [qx]) (i := 0) R18.row rfl ?_
    (repeat first | refine HReg.step ?_ | refine HCode.step ?_)
    refine HLoadN_rows (vs := rcells x ap cp ak ck) (fun Hx hx => ?_) rfl ?_
    · have hx : Hx = H21 := by simpa using hx
      rw [hx]; exact o221.rows
    (repeat first | refine HReg.step ?_ | refine HCode.step ?_)
    refine HCall.mk ⟨Try.f18, Try.func18, by rfl, by rfl⟩ ?_
    refine same_q hqx (R18.each qx (by simp)) x21 fun H22 u22 => ?_
    (repeat first | refine HReg.step ?_ | refine HCode.step ?_)
    by_cases hy0 : (buildR y).2 = 0
    · rw [show lstR y = [y] from if_pos hy0] at hq19
      obtain ⟨qy, rfl, hqy⟩ := map_one hq19
      rw [show eqB ((([qy] : List PRec).length : Nat) : Int) 0 = false from eqB_false.2 (by show ((1 : Nat) : Int) ≠ 0; decide)]
      obtain ⟨bb, bo, rfl, _⟩ := R19.row _ _ (recsV_get (qs := [qy]) (i := 0) rfl 0 _ rfl)
      (repeat first | refine HReg.step ?_ | refine HCode.step ?_)
      refine HReq.mk ⟨by decide, by show (0 : Int) < ((1 : Nat) : Int); decide⟩ ?_
      (repeat first | refine HReg.step ?_ | refine HCode.step ?_)
      refine HLoadN_rec (qs := [qy]) (i := 0) (R19.upd0 u22).row rfl ?_
      (repeat first | refine HReg.step ?_ | refine HCode.step ?_)
      refine HLoadN_rows (vs := rcells y bp dp bk dk) (fun Hx hx => ?_) rfl ?_
      · have hx : Hx = H22 := by simpa using hx
        rw [hx]; exact o321.rows.upd (S := []) u22 (.inr (Off.nil _))
      (repeat first | refine HReg.step ?_ | refine HCode.step ?_)
      refine HCall.mk ⟨Try.f18, Try.func18, by rfl, by rfl⟩ ?_
      refine same_q hqy ((R19.upd0 u22).each qy (by simp)) (y21.upd0 u22) fun H23 u23 => ?_
      (repeat first | refine HReg.step ?_ | refine HCode.step ?_)
      exact hk H23 ((w21.trans u22).trans u23)
    · rw [show lstR y = [] from if_neg hy0] at l19
      rw [show eqB ((qs19.length : Nat) : Int) 0 = true from eqB_true.2 (by rw [l19]; rfl)]
      (repeat first | refine HReg.step ?_ | refine HCode.step ?_)
      exact hk H22 (w21.trans u22)
  · rw [show lstR x = [] from if_neg hx0] at l18
    rw [show eqB ((qs18.length : Nat) : Int) 0 = true from eqB_true.2 (by rw [l18]; rfl)]
    (repeat first | refine HReg.step ?_ | refine HCode.step ?_)
    by_cases hy0 : (buildR y).2 = 0
    · rw [show lstR y = [y] from if_pos hy0] at hq19
      obtain ⟨qy, rfl, hqy⟩ := map_one hq19
      rw [show eqB ((([qy] : List PRec).length : Nat) : Int) 0 = false from eqB_false.2 (by show ((1 : Nat) : Int) ≠ 0; decide)]
      obtain ⟨bb, bo, rfl, _⟩ := R19.row _ _ (recsV_get (qs := [qy]) (i := 0) rfl 0 _ rfl)
      (repeat first | refine HReg.step ?_ | refine HCode.step ?_)
      refine HReq.mk ⟨by decide, by show (0 : Int) < ((1 : Nat) : Int); decide⟩ ?_
      (repeat first | refine HReg.step ?_ | refine HCode.step ?_)
      refine HLoadN_rec (qs := [qy]) (i := 0) (R19.upd0 (Upd.refl [] H21)).row rfl ?_
      (repeat first | refine HReg.step ?_ | refine HCode.step ?_)
      refine HLoadN_rows (vs := rcells y bp dp bk dk) (fun Hx hx => ?_) rfl ?_
      · have hx : Hx = H21 := by simpa using hx
        rw [hx]; exact o321.rows.upd (S := []) (Upd.refl [] H21) (.inr (Off.nil _))
      (repeat first | refine HReg.step ?_ | refine HCode.step ?_)
      refine HCall.mk ⟨Try.f18, Try.func18, by rfl, by rfl⟩ ?_
      refine same_q hqy ((R19.upd0 (Upd.refl [] H21)).each qy (by simp)) (y21.upd0 (Upd.refl [] H21)) fun H23 u23 => ?_
      (repeat first | refine HReg.step ?_ | refine HCode.step ?_)
      exact hk H23 ((w21.trans (Upd.refl [] H21)).trans u23)
    · rw [show lstR y = [] from if_neg hy0] at l19
      rw [show eqB ((qs19.length : Nat) : Int) 0 = true from eqB_true.2 (by rw [l19]; rfl)]
      (repeat first | refine HReg.step ?_ | refine HCode.step ?_)
      exact hk H21 (w21.trans (Upd.refl [] H21))
end
end Go.Proofs.Ytfcmjomnpahllaa
