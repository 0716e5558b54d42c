import Derived.Test.YtfcmjomnpahllaaK4
namespace Go.Proofs.Ytfcmjomnpahllaa
open Go Hv
set_option linter.unusedVariables false
set_option linter.unusedSimpArgs false
set_option maxRecDepth 10000
set_option maxHeartbeats 1000000
/-! Build -/
theorem eqB_self (a : Int) : eqB a a = true := eqB_true.2 rfl
theorem payW_ok {r : Rec} (h : (pay r).length ≤ 1048576) : (payW r).told = pay r ∧ (payW r).err = 0 := by
  have e : payW r = ⟨1048576, pay r, 0⟩ := by
    unfold payW
    rw [layL_fit (payPieces r) rfl (by show 0 + (payPieces r).flatten.length ≤ 1048576; rw [Nat.zero_add]; exact h)]; rfl
  rw [e]; exact ⟨rfl, rfl⟩
theorem payW_long {r : Rec} (h : 1048576 < (pay r).length) : (payW r).err = 3 := layL_over (payPieces r) rfl (Nat.zero_le _) (by show 1048576 < 0 + (payPieces r).flatten.length; rw [Nat.zero_add]; exact h)
/-- The CRC-32 as a number. -/
def crcN (b : List UInt8) : Nat := (Crc.crc 0#32 b).toNat
def frameR (p : List UInt8) : List UInt8 := num p.length 4 ++ num (crcN p) 4 ++ p
open Classical in
noncomputable def buildR (r : Rec) : List UInt8 × Int := if ¬ May r then ([], 1) else if 1048576 < (pay r).length then ([], 3) else (frameR (pay r), 0)
theorem crc_bytes (w : Nat) : [Value.int .u8 (wr .u8 (shrS .u32 (w : Int) 24)), .int .u8 (wr .u8 (shrS .u32 (w : Int) 16)), .int .u8 (wr .u8 (shrS .u32 (w : Int) 8)), .int .u8 (wr .u8 (w : Int))] = u8s (num w 4) := by
  have sh : ∀ k : Nat, k ≤ 32 → Value.int .u8 (wr .u8 (shrS .u32 (w : Int) (k : Int))) = u8 (UInt8.ofNat (w / 2 ^ k)) := fun k hk => by
    unfold u8
    congr 1
    have e8 : min (k : Int).toNat IntKind.u32.bits = k := by
      have : IntKind.u32.bits = 32 := rfl
      rw [this, Int.toNat_natCast]; omega
    rw [wr_u8, shrS_eq, e8, UInt8.toNat_ofNat', Int.fdiv_eq_ediv_of_nonneg _ (by exact_mod_cast Nat.zero_le _)]
    norm_cast
  have s0 : Value.int .u8 (wr .u8 (w : Int)) = u8 (UInt8.ofNat w) := by
    unfold u8
    rw [wr_u8, UInt8.toNat_ofNat']; norm_cast
  have h1 := sh 24 (by decide)
  have h2 := sh 16 (by decide)
  have h3 := sh 8 (by decide)
  have e1 : ((24 : Nat) : Int) = 24 := rfl
  have e2 : ((16 : Nat) : Int) = 16 := rfl
  have e3 : ((8 : Nat) : Int) = 8 := rfl
  rw [e1] at h1; rw [e2] at h2; rw [e3] at h3
  rw [h1, h2, h3, s0]
  show _ = [u8 (UInt8.ofNat (w / 256 ^ 3)), u8 (UInt8.ofNat (w / 256 ^ 2)), u8 (UInt8.ofNat (w / 256 ^ 1)), u8 (UInt8.ofNat (w / 256 ^ 0))]
  have q1 : (2 : Nat) ^ 24 = 256 ^ 3 := by decide
  have q2 : (2 : Nat) ^ 16 = 256 ^ 2 := by decide
  have q3 : (2 : Nat) ^ 8 = 256 ^ 1 := by decide
  rw [q1, q2, q3, Nat.pow_zero, Nat.div_one]
section
variable {H : Heap} {K : Value → Heap → Prop}
theorem bclone_t {a : Option Addr} {n c : Nat} {ys : List UInt8} (hy : RowAt H a (u8s ys)) (hn : ys.length = n) (hlim : n ≤ 140737488355328)
    (hk : ∀ a' cap' H', Made H H' 5 1 a' n cap' (u8s ys) → K (.slice a' n cap') H') : HCalls Try.prog 34 [.slice a n c] H K := by
  refine hcalls (fn := Try.f34) [] mixed Try.func34 rfl rfl rfl ?_
  (repeat first | refine HReg.step ?_ | refine HCode.step ?_)
  cases a with
  | none =>
    have : ys = [] := by
      cases ys with
      | nil => rfl
      | cons y ys => obtain ⟨_, _, hh, _⟩ := hy 0 _ rfl; cases hh
    subst this
    have : n = 0 := by simpa using hn.symm
    subst this
    (repeat first | refine HReg.step ?_ | refine HCode.step ?_)
    exact hk none 0 H ⟨OwnRow.nil _ _ _, Upd.refl _ _, fun p hp => by cases hp⟩
  | some p =>
    (repeat first | refine HReg.step ?_ | refine HCode.step ?_)
    refine HReq.mk (by decide) ?_
    (repeat first | refine HReg.step ?_ | refine HCode.step ?_)
    refine HNew.mk fun b hb => ?_
    (repeat first | refine HReg.step ?_ | refine HCode.step ?_)
    refine copy_sem hb hy hn hlim fun a' cap' H' h => ?_
    (repeat first | refine HReg.step ?_ | refine HCode.step ?_)
    exact hk a' cap' H' h
theorem build_t {r : Rec} {ap ak : Option Addr} {cp ck : Nat} (hr : RecIn H r ap ak)
    (hk : ∀ a c H', Made H H' 5 1 a (buildR r).1.length c (u8s (buildR r).1) → K (.tuple #[.slice a (buildR r).1.length c, .int .i64 (buildR r).2]) H') : HCalls Try.prog 9 [rv r ap cp ak ck] H K := by
  refine hcalls (fn := Try.f9) [] mixed Try.func9 rfl rfl (by decide +kernel) ?_
  (repeat first | refine HReg.step ?_ | refine HCode.step ?_)
  refine HNew.mk fun b1 hb1 => ?_
  have u1 : Upd [] H (H.upd b1 (.cells (rcells r ap cp ak ck).toArray 28)) := Upd.new hb1 _
  have o1 : RowAt (H.upd b1 (.cells (rcells r ap cp ak ck).toArray 28)) (some ⟨b1, 0, none⟩) (rcells r ap cp ak ck) := RowAt.of_cells (upd_same _ _ _)
  have hH' : H.upd b1 (.cells [Value.int .i64 r.kind, .int .u64 (r.id : Int), .slice ap r.ps.length cp, .slice ak r.ks.length ck].toArray 28) = H.upd b1 (.cells (rcells r ap cp ak ck).toArray 28) := rfl
  rw [hH']
  generalize hH1 : H.upd b1 (.cells (rcells r ap cp ak ck).toArray 28) = H1 at u1 o1
  have hr1 := hr.upd0 u1
  (repeat first | refine HReg.step ?_ | refine HCode.step ?_)
  refine HLoadN_row o1 rfl ?_
  (repeat first | refine HReg.step ?_ | refine HCode.step ?_)
  refine HCall.mk ⟨Try.f28, Try.func28, by rfl, by rfl⟩ ?_
  refine may_t hr1 fun t H2 ht u2 => ?_
  cases t with
  | false =>
    have hm : ¬ May r := fun h => by have := ht.2 h; cases this
    have e : buildR r = ([], 1) := if_pos hm
    rw [e] at hk
    (repeat first | refine HReg.step ?_ | refine HCode.step ?_)
    exact hk none 0 H2 ⟨OwnRow.nil _ _ _, u1.trans u2, fun p hp => by cases hp⟩
  | true =>
    have hm := ht.1 rfl
    have o2 := o1.upd (S := []) u2 (.inr (Off.nil _))
    (repeat first | refine HReg.step ?_ | refine HCode.step ?_)
    refine HLoadN_row o2 rfl ?_
    (repeat first | refine HReg.step ?_ | refine HCode.step ?_)
    refine HCall.mk ⟨Try.f29, Try.func29, by rfl, by rfl⟩ ?_
    refine payload_t (hr1.upd0 u2) hm fun a3 c3 H3 m3 => ?_
    by_cases hlong : 1048576 < (pay r).length
    · have e : buildR r = ([], 3) := by unfold buildR; rw [if_neg (fun h => h hm), if_pos hlong]
      rw [e] at hk
      rw [payW_long hlong]
      (repeat first | refine HReg.step ?_ | refine HCode.step ?_)
      rw [show eqB (3 : Int) 0 = false from eqB_false.2 (by decide)]
      (repeat first | refine HReg.step ?_ | refine HCode.step ?_)
      exact hk none 0 H3 ⟨OwnRow.nil _ _ _, (u1.trans u2).trans m3.upd, fun p hp => by cases hp⟩
    · obtain ⟨e1, e2⟩ := payW_ok (Nat.le_of_not_lt hlong)
      have e : buildR r = (frameR (pay r), 0) := by unfold buildR; rw [if_neg (fun h => h hm), if_neg hlong]
      rw [e] at hk
      rw [e1] at m3
      rw [e2, e1]
      generalize pay r = p at *
      have hp : p.length ≤ 1048576 := by omega
      have w8 : wr .i64 (8 + (p.length : Int)) = ((8 + p.length : Nat) : Int) := by rw [wr_i64 (by omega) (by omega)]; omega
      (repeat first | refine HReg.step ?_ | refine HCode.step ?_)
      rw [eqB_self 0]
      (repeat first | refine HReg.step ?_ | refine HCode.step ?_)
      rw [w8]
      refine HCall.mk ⟨Try.f30, Try.func30, by rfl, by rfl⟩ ?_
      refine newW_t (by omega) fun g S4 H4 d4 => ?_
      have e4 : (max ((8 + p.length : Nat) : Int) 0).toNat = 8 + p.length := by omega
      rw [e4] at d4
      have r4 := m3.own.rows.upd (S := []) d4.base (.inr (Off.nil _))
      (repeat first | refine HReg.step ?_ | refine HCode.step ?_)
      refine HBytes.row p rfl (by simpa using r4) ?_ (by simp)
      (repeat first | refine HReg.step ?_ | refine HCode.step ?_)
      refine HCall.mk ⟨Try.f31, Try.func31, by rfl, by rfl⟩ ?_
      refine text_t (s := p) d4 (by show 0 + (4 + p.length) ≤ _; omega) fun S5 H5 d5 f5 => ?_
      have ew : (⟨8 + p.length, [], 0⟩ : W).lay (textB p) = ⟨8 + p.length, textB p, 0⟩ := by
        rw [lay_yes rfl (by rw [textB_length]; show 4 + p.length ≤ 8 + p.length - 0; omega)]; rfl
      rw [ew] at d5
      have htb : (textB p).length = 4 + p.length := textB_length p
      (repeat first | refine HReg.step ?_ | refine HCode.step ?_)
      refine HCall.mk ⟨Try.f32, Try.func32, by rfl, by rfl⟩ ?_
      refine out_t d5 (by show (textB p).length ≤ _; omega) fun a6 c6 H6 m6 => ?_
      have et : (⟨8 + p.length, textB p, 0⟩ : W).told = textB p := rfl
      rw [et, htb] at m6
      rw [et, htb]
      have u36 : Upd [] H3 H6 := d5.base.trans m6.upd
      have r6 := m3.own.rows.upd (S := []) u36 (.inr (Off.nil _))
      (repeat first | refine HReg.step ?_ | refine HCode.step ?_)
      refine HCall.mk ⟨Try.f33, Try.func33, by rfl, by rfl⟩ ?_
      refine Sum.sum_t r6 rfl (by omega) fun H7 u7 => ?_
      unfold Sum.u32
      have ecn : (Crc.crc 0#32 p).toNat = crcN p := rfl
      rw [ecn]
      have efr : frameR p = num p.length 4 ++ num (crcN p) 4 ++ p := rfl
      rw [efr] at hk
      generalize crcN p = cn at hk
      have hc6 := m6.own.le
      (repeat first | refine HReg.step ?_ | refine HCode.step ?_)
      refine HReq.mk ⟨by omega, by omega⟩ ?_
      (repeat first | refine HReg.step ?_ | refine HCode.step ?_)
      refine HCall.mk ⟨Try.f34, Try.func34, by rfl, by rfl⟩ ?_
      have r4' : RowAt H7 a6 (u8s (num p.length 4)) := by
        have h := (m6.own.rows.upd (S := []) u7 (.inr (Off.nil _))).take 4
        rw [← u8s_take] at h
        have e : (textB p).take 4 = num p.length 4 := by unfold textB; rw [List.take_append_of_le_length (by rw [num_length]; exact Nat.le_refl _), List.take_of_length_le (by rw [num_length]; exact Nat.le_refl _)]
        rw [e] at h; exact h
      refine bclone_t r4' (num_length _ _) (by decide) fun a8 c8 H8 m8 => ?_
      (repeat first | refine HReg.step ?_ | refine HCode.step ?_)
      refine HReq.mk (by decide) ?_
      (repeat first | refine HReg.step ?_ | refine HCode.step ?_)
      refine HReq.mk (by decide) ?_
      (repeat first | refine HReg.step ?_ | refine HCode.step ?_)
      refine HReq.mk (by decide) ?_
      (repeat first | refine HReg.step ?_ | refine HCode.step ?_)
      refine HReq.mk (by decide) ?_
      (repeat first | refine HReg.step ?_ | refine HCode.step ?_)
      refine HNew.mk fun b9 hb9 => ?_
      have eb := crc_bytes cn
      rw [eb]
      have u9 : Upd [] H8 (H8.upd b9 (.cells (u8s (num cn 4)).toArray 5)) := Upd.new hb9 _
      have r9 : RowAt (H8.upd b9 (.cells (u8s (num cn 4)).toArray 5)) (some ⟨b9, 0, none⟩) (u8s (num cn 4)) := RowAt.of_cells (upd_same _ _ _)
      generalize hH9 : H8.upd b9 (.cells (u8s (num cn 4)).toArray 5) = H9 at u9 r9
      (repeat first | refine HReg.step ?_ | refine HCode.step ?_)
      refine append_made (m8.step u9) r9 (num_length _ _) (by decide) fun a10 c10 H10 m10 => ?_
      have u310 : Upd [] H3 H10 := (u36.trans u7).trans m10.upd
      (repeat first | refine HReg.step ?_ | refine HCode.step ?_)
      refine append_made m10 (m3.own.rows.upd (S := []) u310 (.inr (Off.nil _))) rfl (by omega) fun a11 c11 H11 m11 => ?_
      have el : (num p.length 4 ++ num cn 4 ++ p).length = 4 + 4 + p.length := by rw [List.length_append, List.length_append, num_length, num_length]
      have u11 := ((u1.trans u2).trans m3.upd).trans (u36.trans u7)
      have mm := m11.back u11
      rw [el] at hk
      (repeat first | refine HReg.step ?_ | refine HCode.step ?_)
      exact hk a11 c11 H11 mm
end
end Go.Proofs.Ytfcmjomnpahllaa
