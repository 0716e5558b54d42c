import Derived.Test.YtjnahdcolacldaaA8
import Derived.Test.YtjnahdcolacldaaA9
namespace Go.Proofs.Ytjnahdcolacldaa
open Go Hv
set_option linter.unusedVariables false
set_option linter.unusedSimpArgs false
set_option maxRecDepth 10000
set_option maxHeartbeats 1000000
/-! Calls -/
structure Opk where
  kind : Int
  v : Nat
  s : List UInt8
  al : Option Addr
  nl : Nat
  cl : Nat
  l : List (List UInt8)
  n : Int
  m : Int
def ocells (o : Opk) : List Value := [.int .i64 o.kind, .int .u64 (o.v : Int), .string (bs o.s), .slice o.al o.nl o.cl, .int .i64 o.n, .int .i64 o.m]
structure OpOk (H : Heap) (o : Opk) : Prop where
  v : o.v < 18446744073709551616
  row : RowAt H o.al (txts o.l)
  len : o.l.length = o.nl
  n : o.n ≤ 9223372036854775807
  m : o.m ≤ 9223372036854775807
  cap : o.nl ≤ o.cl
def opLen (o : Opk) : Nat := 12 + o.s.length + (textsB o.l).length
def W.op (w : W) (o : Opk) : W := if o.kind = 1 then w.lay (num (o.v % 256) 1) else if o.kind = 2 then w.lay (num (o.v % 4294967296) 4) else if o.kind = 3 then w.lay (num o.v 8) else if o.kind = 4 then w.lay (textB o.s) else if o.kind = 5 then w.lay (textsB o.l) else w
theorem W.op_len (w : W) (o : Opk) : (w.op o).out.length ≤ w.out.length + opLen o := by
  unfold W.op opLen
  have h : ∀ b : List UInt8, (w.lay b).out.length ≤ w.out.length + b.length := fun b => (W.lay_len (w := w) (b := b)).1
  have h1 := h (num (o.v % 256) 1)
  have h2 := h (num (o.v % 4294967296) 4)
  have h3 := h (num o.v 8)
  have h4 := h (textB o.s)
  have h5 := h (textsB o.l)
  rw [num_length] at h1 h2 h3
  rw [textB_length] at h4
  repeat' split
  all_goals omega
theorem wr8 (v : Nat) : wr .u8 (v : Int) = ((v % 256 : Nat) : Int) := by rw [wr_u8]; omega
theorem wr32 (v : Nat) : wr .u32 (v : Int) = ((v % 4294967296 : Nat) : Int) := by
  have h : IntKind.u32.wrap (v : Int) = (v : Int) % 4294967296 := rfl
  rw [wr_eq, h]; omega
section
variable {H0 H : Heap} {g : Nat} {S : List Nat} {w : W} {K : Value → Heap → Prop}
theorem write_t {o : Opk} (d : WAt H0 H g S w) (ok : OpOk H0 o) (hlim : w.out.length + opLen o ≤ 140737488355328)
    (hk : ∀ S' H', WAt H0 H' g S' (w.op o) → Foot S S' H H' → K (.tuple #[]) H') : HCalls Try.prog 12 [.pointer (some ⟨g, 0, none⟩), .agg (ocells o).toArray] H K := by
  refine hcalls (fn := Try.f12) [] mixed Try.func12 rfl rfl (by decide +kernel) ?_
  unfold opLen at hlim
  (repeat first | refine HReg.step ?_ | refine HCode.step ?_)
  refine HNew.mk fun b hb => ?_
  have u : Upd [] H (H.upd b (.cells (ocells o).toArray 34)) := Upd.new hb _
  have rb : RowAt (H.upd b (.cells (ocells o).toArray 34)) (some ⟨b, 0, none⟩) (ocells o) := RowAt.of_cells (upd_same _ _ _)
  have d1 := d.upd0 u
  generalize hH1 : H.upd b (.cells (ocells o).toArray 34) = H1 at u rb d1
  have hH1' : H.upd b (.cells [Value.int .i64 o.kind, .int .u64 (o.v : Int), .string (bs o.s), .slice o.al o.nl o.cl, .int .i64 o.n, .int .i64 o.m].toArray 34) = H1 := hH1
  rw [hH1']
  (repeat first | refine HReg.step ?_ | refine HCode.step ?_)
  refine HLoad.one (v := .int .i64 o.kind) (by exact rb.get (i := 0) rfl) ?_
  (repeat first | refine HReg.step ?_ | refine HCode.step ?_)
  refine hif (fun k => ?_) (fun k1 => ?_)
  · have k := eqB_true.1 k
    have e : w.op o = w.lay (num (o.v % 256) 1) := by unfold W.op; rw [if_pos k]
    rw [e] at hk
    (repeat first | refine HReg.step ?_ | refine HCode.step ?_)
    refine HLoad.one (v := .int .u64 (o.v : Int)) (by exact rb.get (i := 1) rfl) ?_
    (repeat first | refine HReg.step ?_ | refine HCode.step ?_)
    rw [wr8]
    refine HCall.mk ⟨Try.f39, Try.func39, by rfl, by rfl⟩ ?_
    refine u8_t d1 (Nat.mod_lt _ (by decide)) (by omega) fun S2 H2 d2 f2 => ?_
    (repeat first | refine HReg.step ?_ | refine HCode.step ?_)
    exact hk S2 H2 d2 (f2.back0 u)
  have k1 := eqB_false.1 k1
  (repeat first | refine HReg.step ?_ | refine HCode.step ?_)
  refine hif (fun k => ?_) (fun k2 => ?_)
  · have k := eqB_true.1 k
    have e : w.op o = w.lay (num (o.v % 4294967296) 4) := by unfold W.op; rw [if_neg k1, if_pos k]
    rw [e] at hk
    (repeat first | refine HReg.step ?_ | refine HCode.step ?_)
    refine HLoad.one (v := .int .u64 (o.v : Int)) (by exact rb.get (i := 1) rfl) ?_
    (repeat first | refine HReg.step ?_ | refine HCode.step ?_)
    rw [wr32]
    refine HCall.mk ⟨Try.f40, Try.func40, by rfl, by rfl⟩ ?_
    refine u32_t d1 (Nat.mod_lt _ (by decide)) (by omega) fun S2 H2 d2 f2 => ?_
    (repeat first | refine HReg.step ?_ | refine HCode.step ?_)
    exact hk S2 H2 d2 (f2.back0 u)
  have k2 := eqB_false.1 k2
  (repeat first | refine HReg.step ?_ | refine HCode.step ?_)
  refine hif (fun k => ?_) (fun k3 => ?_)
  · have k := eqB_true.1 k
    have e : w.op o = w.lay (num o.v 8) := by unfold W.op; rw [if_neg k1, if_neg k2, if_pos k]
    rw [e] at hk
    (repeat first | refine HReg.step ?_ | refine HCode.step ?_)
    refine HLoad.one (v := .int .u64 (o.v : Int)) (by exact rb.get (i := 1) rfl) ?_
    (repeat first | refine HReg.step ?_ | refine HCode.step ?_)
    refine HCall.mk ⟨Try.f43, Try.func43, by rfl, by rfl⟩ ?_
    refine u64_t d1 (by omega) fun S2 H2 d2 f2 => ?_
    (repeat first | refine HReg.step ?_ | refine HCode.step ?_)
    exact hk S2 H2 d2 (f2.back0 u)
  have k3 := eqB_false.1 k3
  (repeat first | refine HReg.step ?_ | refine HCode.step ?_)
  refine hif (fun k => ?_) (fun k4 => ?_)
  · have k := eqB_true.1 k
    have e : w.op o = w.lay (textB o.s) := by unfold W.op; rw [if_neg k1, if_neg k2, if_neg k3, if_pos k]
    rw [e] at hk
    (repeat first | refine HReg.step ?_ | refine HCode.step ?_)
    refine HLoad.one (v := .string (bs o.s)) (by exact rb.get (i := 2) rfl) ?_
    (repeat first | refine HReg.step ?_ | refine HCode.step ?_)
    refine HCall.mk ⟨Try.f33, Try.func33, by rfl, by rfl⟩ ?_
    refine text_t d1 (by omega) fun S2 H2 d2 f2 => ?_
    (repeat first | refine HReg.step ?_ | refine HCode.step ?_)
    exact hk S2 H2 d2 (f2.back0 u)
  have k4 := eqB_false.1 k4
  (repeat first | refine HReg.step ?_ | refine HCode.step ?_)
  refine hif (fun k => ?_) (fun k5 => ?_)
  · have k := eqB_true.1 k
    have e : w.op o = w.lay (textsB o.l) := by unfold W.op; rw [if_neg k1, if_neg k2, if_neg k3, if_neg k4, if_pos k]
    rw [e] at hk
    (repeat first | refine HReg.step ?_ | refine HCode.step ?_)
    refine HLoad.one (v := .slice o.al o.nl o.cl) (by exact rb.get (i := 3) rfl) ?_
    (repeat first | refine HReg.step ?_ | refine HCode.step ?_)
    refine HCall.mk ⟨Try.f44, Try.func44, by rfl, by rfl⟩ ?_
    refine texts_t d1 ok.row ok.len (by omega) fun S2 H2 d2 f2 => ?_
    (repeat first | refine HReg.step ?_ | refine HCode.step ?_)
    exact hk S2 H2 d2 (f2.back0 u)
  have k5 := eqB_false.1 k5
  have e : w.op o = w := by unfold W.op; rw [if_neg k1, if_neg k2, if_neg k3, if_neg k4, if_neg k5]
  rw [e] at hk
  (repeat first | refine HReg.step ?_ | refine HCode.step ?_)
  exact hk S H1 d1 (Foot.of0 u)
theorem want_t {o : Opk} (d : VAt H0 H g S w) (ok : OpOk H0 o) (hlim : w.out.length + opLen o ≤ 140737488355328)
    (hk : ∀ S' H', VAt H0 H' g S' (w.op o) → Foot S S' H H' → K (.tuple #[]) H') : HCalls Try.prog 18 [.pointer (some ⟨g, 0, none⟩), .agg (ocells o).toArray] H K := by
  refine hcalls (fn := Try.f18) [] mixed Try.func18 rfl rfl (by decide +kernel) ?_
  unfold opLen at hlim
  (repeat first | refine HReg.step ?_ | refine HCode.step ?_)
  refine HNew.mk fun b hb => ?_
  have u : Upd [] H (H.upd b (.cells (ocells o).toArray 34)) := Upd.new hb _
  have rb : RowAt (H.upd b (.cells (ocells o).toArray 34)) (some ⟨b, 0, none⟩) (ocells o) := RowAt.of_cells (upd_same _ _ _)
  have d1 := d.upd0 u
  generalize hH1 : H.upd b (.cells (ocells o).toArray 34) = H1 at u rb d1
  have hH1' : H.upd b (.cells [Value.int .i64 o.kind, .int .u64 (o.v : Int), .string (bs o.s), .slice o.al o.nl o.cl, .int .i64 o.n, .int .i64 o.m].toArray 34) = H1 := hH1
  rw [hH1']
  (repeat first | refine HReg.step ?_ | refine HCode.step ?_)
  refine HLoad.one (v := .int .i64 o.kind) (by exact rb.get (i := 0) rfl) ?_
  (repeat first | refine HReg.step ?_ | refine HCode.step ?_)
  refine hif (fun k => ?_) (fun k1 => ?_)
  · have k := eqB_true.1 k
    have e : w.op o = w.lay (num (o.v % 256) 1) := by unfold W.op; rw [if_pos k]
    rw [e] at hk
    (repeat first | refine HReg.step ?_ | refine HCode.step ?_)
    refine HLoad.one (v := .int .u64 (o.v : Int)) (by exact rb.get (i := 1) rfl) ?_
    (repeat first | refine HReg.step ?_ | refine HCode.step ?_)
    rw [wr8]
    refine HCall.mk ⟨Try.f45, Try.func45, by rfl, by rfl⟩ ?_
    refine du8_t d1 (Nat.mod_lt _ (by decide)) (by omega) fun S2 H2 d2 f2 => ?_
    (repeat first | refine HReg.step ?_ | refine HCode.step ?_)
    exact hk S2 H2 d2 (f2.back0 u)
  have k1 := eqB_false.1 k1
  (repeat first | refine HReg.step ?_ | refine HCode.step ?_)
  refine hif (fun k => ?_) (fun k2 => ?_)
  · have k := eqB_true.1 k
    have e : w.op o = w.lay (num (o.v % 4294967296) 4) := by unfold W.op; rw [if_neg k1, if_pos k]
    rw [e] at hk
    (repeat first | refine HReg.step ?_ | refine HCode.step ?_)
    refine HLoad.one (v := .int .u64 (o.v : Int)) (by exact rb.get (i := 1) rfl) ?_
    (repeat first | refine HReg.step ?_ | refine HCode.step ?_)
    rw [wr32]
    refine HCall.mk ⟨Try.f46, Try.func46, by rfl, by rfl⟩ ?_
    refine du32_t d1 (Nat.mod_lt _ (by decide)) (by omega) fun S2 H2 d2 f2 => ?_
    (repeat first | refine HReg.step ?_ | refine HCode.step ?_)
    exact hk S2 H2 d2 (f2.back0 u)
  have k2 := eqB_false.1 k2
  (repeat first | refine HReg.step ?_ | refine HCode.step ?_)
  refine hif (fun k => ?_) (fun k3 => ?_)
  · have k := eqB_true.1 k
    have e : w.op o = w.lay (num o.v 8) := by unfold W.op; rw [if_neg k1, if_neg k2, if_pos k]
    rw [e] at hk
    (repeat first | refine HReg.step ?_ | refine HCode.step ?_)
    refine HLoad.one (v := .int .u64 (o.v : Int)) (by exact rb.get (i := 1) rfl) ?_
    (repeat first | refine HReg.step ?_ | refine HCode.step ?_)
    refine HCall.mk ⟨Try.f47, Try.func47, by rfl, by rfl⟩ ?_
    refine du64_t d1 (by omega) fun S2 H2 d2 f2 => ?_
    (repeat first | refine HReg.step ?_ | refine HCode.step ?_)
    exact hk S2 H2 d2 (f2.back0 u)
  have k3 := eqB_false.1 k3
  (repeat first | refine HReg.step ?_ | refine HCode.step ?_)
  refine hif (fun k => ?_) (fun k4 => ?_)
  · have k := eqB_true.1 k
    have e : w.op o = w.lay (textB o.s) := by unfold W.op; rw [if_neg k1, if_neg k2, if_neg k3, if_pos k]
    rw [e] at hk
    (repeat first | refine HReg.step ?_ | refine HCode.step ?_)
    refine HLoad.one (v := .string (bs o.s)) (by exact rb.get (i := 2) rfl) ?_
    (repeat first | refine HReg.step ?_ | refine HCode.step ?_)
    refine HCall.mk ⟨Try.f48, Try.func48, by rfl, by rfl⟩ ?_
    refine dtext_t d1 (by omega) fun S2 H2 d2 f2 => ?_
    (repeat first | refine HReg.step ?_ | refine HCode.step ?_)
    exact hk S2 H2 d2 (f2.back0 u)
  have k4 := eqB_false.1 k4
  (repeat first | refine HReg.step ?_ | refine HCode.step ?_)
  refine hif (fun k => ?_) (fun k5 => ?_)
  · have k := eqB_true.1 k
    have e : w.op o = w.lay (textsB o.l) := by unfold W.op; rw [if_neg k1, if_neg k2, if_neg k3, if_neg k4, if_pos k]
    rw [e] at hk
    (repeat first | refine HReg.step ?_ | refine HCode.step ?_)
    refine HLoad.one (v := .slice o.al o.nl o.cl) (by exact rb.get (i := 3) rfl) ?_
    (repeat first | refine HReg.step ?_ | refine HCode.step ?_)
    refine HCall.mk ⟨Try.f49, Try.func49, by rfl, by rfl⟩ ?_
    refine dtexts_t d1 ok.row ok.len (by omega) fun S2 H2 d2 f2 => ?_
    (repeat first | refine HReg.step ?_ | refine HCode.step ?_)
    exact hk S2 H2 d2 (f2.back0 u)
  have k5 := eqB_false.1 k5
  have e : w.op o = w := by unfold W.op; rw [if_neg k1, if_neg k2, if_neg k3, if_neg k4, if_neg k5]
  rw [e] at hk
  (repeat first | refine HReg.step ?_ | refine HCode.step ?_)
  exact hk S H1 d1 (Foot.of0 u)
theorem outs_t {g2 : Nat} {S2 : List Nat} {Hv0 : Heap} (d : WAt H0 H g S w) (e : VAt Hv0 H g2 S2 w) (hlim : w.out.length ≤ 140737488355328)
    (hk : ∀ H', Upd [] H H' → K (.bool true) H') : HCalls Try.prog 21 [.pointer (some ⟨g, 0, none⟩), .pointer (some ⟨g2, 0, none⟩)] H K := by
  refine hcalls (fn := Try.f21) [] mixed Try.func21 rfl rfl (by decide +kernel) ?_
  (repeat first | refine HReg.step ?_ | refine HCode.step ?_)
  refine HCall.mk ⟨Try.f14, Try.func14, by rfl, by rfl⟩ ?_
  refine out_t d hlim fun a c H2 m2 => ?_
  (repeat first | refine HReg.step ?_ | refine HCode.step ?_)
  refine HCall.mk ⟨Try.f50, Try.func50, by rfl, by rfl⟩ ?_
  refine dout_t (e.upd0 m2.upd) hlim fun a3 c3 H3 m3 => ?_
  (repeat first | refine HReg.step ?_ | refine HCode.step ?_)
  refine hif (fun _ => ?_) (fun h => absurd rfl (eqB_false.1 h))
  (repeat first | refine HReg.step ?_ | refine HCode.step ?_)
  refine HCall.mk ⟨Try.f16, Try.func16, by rfl, by rfl⟩ ?_
  refine same_eq (m2.step m3.upd).own.rows rfl m3.own.rows rfl rfl ?_
  (repeat first | refine HReg.step ?_ | refine HCode.step ?_)
  exact hk H3 (m2.upd.trans m3.upd)
end
/-! Scripts -/
def orow : List Opk → List Value
  | [] => []
  | o :: os => ocells o ++ orow os
theorem orow_get : ∀ {os : List Opk} {i : Nat} {o : Opk}, os[i]? = some o → ∀ (k : Nat) v, (ocells o)[k]? = some v → (orow os)[i * 6 + k]? = some v
  | o' :: os, 0, o, h, k, v, hv => by
    cases h
    have hk := (List.getElem?_eq_some_iff.1 hv).1
    unfold orow
    rw [Nat.zero_mul, Nat.zero_add, List.getElem?_append_left hk]; exact hv
  | o' :: os, i + 1, o, h, k, v, hv => by
    have := orow_get (os := os) (i := i) (by simpa using h) k v hv
    unfold orow
    have hl : (ocells o').length = 6 := rfl
    rw [List.getElem?_append_right (by omega), hl]
    rw [← this]; congr 1; omega
theorem orow_split : ∀ {os : List Opk} {idx : Nat} {v : Value}, (orow os)[idx]? = some v → ∃ i k o, idx = i * 6 + k ∧ os[i]? = some o ∧ (ocells o)[k]? = some v
  | [], idx, v, h => by simp [orow] at h
  | o :: os, idx, v, h => by
    unfold orow at h
    have hl : (ocells o).length = 6 := rfl
    by_cases hi : idx < 6
    · rw [List.getElem?_append_left (by omega)] at h
      exact ⟨0, idx, o, by omega, rfl, h⟩
    · rw [List.getElem?_append_right (by omega)] at h
      obtain ⟨i, k, o', h1, h2, h3⟩ := orow_split h
      exact ⟨i + 1, k, o', by omega, by simpa using h2, h3⟩
/-- A script's call is read. -/
theorem HLoadN_op {H : Heap} {b off i : Nat} {os : List Opk} {o : Opk} {K : List Value → Prop} (h : RowAt H (some ⟨b, off, none⟩) (orow os)) (ho : os[i]? = some o) (hk : K (ocells o)) : HLoadN [H] b (off + i * 6) 6 K :=
  ⟨ocells o, fun H' hH j v hv => by
    rw [List.mem_singleton.1 hH]
    have := h.get (orow_get ho j v hv)
    rw [Nat.add_assoc]; exact this, rfl, hk⟩
def opsLen (os : List Opk) : Nat := (os.map opLen).sum
theorem opsLen_take (os : List Opk) (i : Nat) : opsLen (os.take i) ≤ opsLen os := by
  have : opsLen os = opsLen (os.take i) + opsLen (os.drop i) := by
    unfold opsLen
    rw [← List.sum_append, ← List.map_append, List.take_append_drop]
  omega
theorem opsLen_get {os : List Opk} {i : Nat} {o : Opk} (h : os[i]? = some o) : opsLen (os.take (i + 1)) = opsLen (os.take i) + opLen o := by
  unfold opsLen
  rw [take_get h, List.map_append, List.sum_append]; simp
def W.ops (w : W) (os : List Opk) : W := os.foldl W.op w
theorem ops_take {w : W} {os : List Opk} {i : Nat} {o : Opk} (h : os[i]? = some o) : w.ops (os.take (i + 1)) = (w.ops (os.take i)).op o := by
  unfold W.ops
  rw [take_get h, List.foldl_append]; rfl
theorem ops_len (os : List Opk) : ∀ (w : W), (w.ops os).out.length ≤ w.out.length + opsLen os := by
  induction os with
  | nil => intro w; exact Nat.le_refl _
  | cons o os ih =>
    intro w
    have h1 := ih (w.op o)
    have h2 := W.op_len w o
    show ((w.op o).ops os).out.length ≤ _
    unfold opsLen at *
    rw [List.map_cons, List.sum_cons]; omega
end Go.Proofs.Ytjnahdcolacldaa
