import Derived.Test.YtaobgofbhommcaaB5
namespace Go.Proofs.Ytaobgofbhommcaa
open Go Hv
set_option linter.unusedVariables false
set_option linter.unusedSimpArgs false
set_option maxRecDepth 10000
set_option maxHeartbeats 4000000
/-! The functions of filters -/
theorem not_dec_true {p : Prop} [Decidable p] (h : (!decide p) = true) : ¬ p := fun hp => by rw [decide_eq_true hp] at h; cases h
theorem not_dec_false {p : Prop} [Decidable p] (h : (!decide p) = false) : p := by
  refine Classical.byContradiction fun hp => ?_
  rw [decide_eq_false hp] at h; cases h
def zerosL (n : Nat) : List UInt8 := List.replicate ((n + 7) / 8) 0
theorem zeros_bit (n i : Nat) : bitAt (zerosL n) i = false := by
  unfold bitAt zerosL
  simp only [List.getD, List.getElem?_replicate]
  split <;> simp
theorem zeros_ok {n h : Int} (hm : mayP n h) : FOk n.toNat h.toNat (zerosL n.toNat) := by
  obtain ⟨h1, h2, h3, h4⟩ := hm
  exact ⟨by omega, by omega, by omega, by omega, by simp [zerosL], fun i _ => zeros_bit _ _⟩
theorem repL_zero : ∀ k : Nat, repL k [Value.int .u8 0] = u8s (List.replicate k 0)
  | 0 => rfl
  | k + 1 => by
    show [Value.int .u8 0] ++ repL k _ = _
    rw [repL_zero k]; rfl
theorem HLoadN_all {Hs : List Heap} {b off n : Nat} {vs : List Value} {K : List Value → Prop} (h : ∀ H ∈ Hs, RowAt H (some ⟨b, off, none⟩) vs) (hl : vs.length = n) (hk : K vs) : HLoadN Hs b off n K :=
  ⟨vs, fun H' hH j v hv => (h H' hH).get hv, hl, hk⟩
theorem new_t {n h : Int} {H : Heap} {K : Value → Heap → Prop}
    (hno : ∀ H', ¬ mayP n h → Upd [] H H' → K (.tuple #[.pointer none, .int .i64 1]) H')
    (hyes : ∀ g b H', mayP n h → FilNew H H' g b n.toNat h.toNat (zerosL n.toNat) → K (.tuple #[.pointer (some ⟨g, 0, none⟩), .int .i64 0]) H') : HCalls Try.prog 11 [.int .i64 n, .int .i64 h] H K := by
  refine hcalls (fn := Try.f11) [(4, [(1, 0), (2, 0), (3, 0), (0, 2), (4, 0), (5, 0), (6, 0), (7, 0)])] mixed Try.func11 rfl rfl (by decide +kernel) ?_
  (repeat first | refine HReg.step ?_ | refine HCode.step ?_)
  refine HNew.mk fun b hb => ?_
  have u0 : Upd [] H (H.upd b (.cells [Value.int .i64 0, .int .i64 0].toArray 69)) := Upd.new hb _
  (repeat first | refine HReg.step ?_ | refine HCode.step ?_)
  refine store_row (pair_own _ _) (v := .int .i64 n) rfl (i := 0) (by decide) (by rfl) fun H1 o1 u1 => ?_
  (repeat first | refine HReg.step ?_ | refine HCode.step ?_)
  refine store_row o1 (v := .int .i64 h) rfl (i := 1) (by decide) (by rfl) fun H2 o2 u2 => ?_
  have hb2 : ∀ k ∈ [b], H k = none := fun k hk => by rw [List.mem_singleton.1 hk]; exact hb
  have u2 : Upd [] H H2 := Upd.drop (Upd.drop u0 u1 hb2) u2 hb2
  (repeat first | refine HReg.step ?_ | refine HCode.step ?_)
  refine HLoadN_row (vs := [.int .i64 n, .int .i64 h]) (by exact o2.rows) rfl ?_
  (repeat first | refine HReg.step ?_ | refine HCode.step ?_)
  refine HCall.mk ⟨Try.f34, Try.func34, by rfl, by rfl⟩ ?_
  refine may_t fun H3 u3 => ?_
  have u3' := u2.trans u3
  (repeat first | refine HReg.step ?_ | refine HCode.step ?_)
  refine hif (fun hm => ?_) (fun hm => ?_)
  · have hm : ¬ mayP n h := by simpa using hm
    (repeat first | refine HReg.step ?_ | refine HCode.step ?_)
    exact hno H3 hm u3'
  have hm : mayP n h := by simpa using hm
  obtain ⟨m1, m2, m3, m4⟩ := id hm
  have o3 := o2.upd u3 (Off.nil _)
  have hz := zeros_ok hm
  obtain ⟨q, rfl⟩ : ∃ q : Nat, n = (q : Int) := ⟨n.toNat, by omega⟩
  obtain ⟨k, rfl⟩ : ∃ k : Nat, h = (k : Int) := ⟨h.toNat, by omega⟩
  rw [Int.toNat_natCast, Int.toNat_natCast] at hyes hz
  (repeat first | refine HReg.step ?_ | refine HCode.step ?_)
  refine HLoadN_row (vs := [.int .i64 (q : Int), .int .i64 (k : Int)]) (by exact o3.rows) rfl ?_
  (repeat first | refine HReg.step ?_ | refine HCode.step ?_)
  refine HCall.mk ⟨Try.f35, Try.func35, by rfl, by rfl⟩ ?_
  refine size_t (n := q) (h := k) (by omega) fun H4 u4 => ?_
  (repeat first | refine HReg.step ?_ | refine HCode.step ?_)
  refine HReq.mk ⟨by omega, by omega, by show (1 : Int) * _ ≤ (281474976710656 : Int); omega, by show _ < (9223372036854775808 : Int); omega⟩ ?_
  (repeat first | refine HReg.step ?_ | refine HCode.step ?_)
  refine HNew.mk fun b5 hb5 => ?_
  have hl : (repL ((((q + 7) / 8 : Nat) : Int).toNat) [Value.int .u8 0]) = u8s (zerosL q) := repL_zero _
  have m5 : Made H4 (H4.upd b5 (.cells (repL ((((q + 7) / 8 : Nat) : Int).toNat) [Value.int .u8 0]).toArray 5)) 5 1 (some ⟨b5, 0, none⟩) ((q + 7) / 8) ((q + 7) / 8) (u8s (zerosL q)) := by
    rw [hl]
    exact ⟨OwnRow.lit (upd_same _ _ _) (by rw [u8s_length]; simp [zerosL]), Upd.new hb5 _, fun p hp => by cases hp; exact hb5⟩
  have o4 := o3.upd u4 (Off.nil _)
  have o5 := o4.upd m5.upd (Off.nil _)
  (repeat first | refine HReg.step ?_ | refine HCode.step ?_)
  refine HLoadN_all (vs := [.int .i64 (q : Int), .int .i64 (k : Int)]) (fun Hx hx => by
    simp only [List.take, List.mem_cons, List.not_mem_nil, or_false] at hx
    rcases hx with rfl | rfl | rfl
    · exact o5.rows
    · exact o4.rows
    · exact o3.rows) rfl ?_
  (repeat first | refine HReg.step ?_ | refine HCode.step ?_)
  refine HNew.mk fun g hg => ?_
  obtain ⟨b6, he, F⟩ := made_fil hz m5 (by simp [zerosL]) hg
  cases he
  rw [show (zerosL q).length = (q + 7) / 8 from by simp [zerosL]] at F
  (repeat first | refine HReg.step ?_ | refine HCode.step ?_)
  exact hyes g b5 _ hm (F.back (u3'.trans u4))
end Go.Proofs.Ytaobgofbhommcaa
