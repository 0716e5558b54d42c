import Derived.Test.YtlgncabjphokjaaJ4
namespace Go.Proofs.Ytlgncabjphokjaa
open Go Hv
set_option linter.unusedVariables false
set_option linter.unusedSimpArgs false
set_option maxRecDepth 10000
set_option maxHeartbeats 2000000
/-! The document's version, Body. CUT2 -/
theorem hd2 (k c : Nat) : [Value.int .u8 ((k % 256 : Nat) : Int), .int .u8 ((c % 256 : Nat) : Int)] = u8s (num k 1 ++ num c 1) := by
  simp [num, u8s, u8]
theorem ver_len {v : Ver} (hc : Content v) : (verPieces v).flatten.length ≤ 70000000 := by
  unfold verPieces
  rcases hc with h | h
  · rw [if_pos h.1]
    simp only [List.append_nil, List.flatten_cons, List.flatten_nil, List.length_append, List.length_nil, textB_length, num_length]
    have := h.2.1; omega
  · have hk := h.2.2.1.1.2.2 _ h.2.2.2
    have ts := textsB_small h.2.2.1.few
    have hv := h.2.1
    rw [if_neg (by omega)]
    simp only [List.cons_append, List.nil_append, List.flatten_cons, List.flatten_nil, List.length_append, List.length_nil, textB_length, num_length]
    omega
structure BpInv (H : Heap) (ps : List (Txt × Txt)) (h : List UInt8) (m : Nat) (vs : List Value) (H' : Heap) : Prop where
  ex : ∃ (i : Nat) (a : Option Addr) (c : Nat) (out : List UInt8), vs = [.slice a out.length c, .int .i64 (i : Int)] ∧ m + i = ps.length ∧ out = h ++ (pairPieces (ps.take i)).flatten ∧ Made H H' 5 1 a out.length c (u8s out)
structure BwInv (H : Heap) (ps : List (Txt × Nat)) (h : List UInt8) (m : Nat) (vs : List Value) (H' : Heap) : Prop where
  ex : ∃ (i : Nat) (a : Option Addr) (c : Nat) (out : List UInt8), vs = [.slice a out.length c, .int .i64 (i : Int)] ∧ m + i = ps.length ∧ out = h ++ (wantPieces (ps.take i)).flatten ∧ Made H H' 5 1 a out.length c (u8s out)
section
variable {H : Heap} {K : Value → Heap → Prop}
theorem app_md {a b : Option Addr} {cap m c : Nat} {xs ys : List UInt8} {H0 H : Heap} (hm : Made H0 H 5 1 a xs.length cap (u8s xs)) (hy : RowAt H b (u8s ys)) (hml : ys.length = m) (hlim : xs.length + m ≤ 140737488355328)
    (hk : ∀ a' cap' H', Made H0 H' 5 1 a' (xs ++ ys).length cap' (u8s (xs ++ ys)) → K (.slice a' (xs ++ ys).length cap') H') :
    HSem Try.prog (Builtin.append_ #[30, 30] 30 [.slice a xs.length cap, .slice b m c].toArray) H K := by
  refine append_made hm hy hml hlim fun a' cap' H' m' => ?_
  have e : xs.length + m = (xs ++ ys).length := by rw [List.length_append, hml]
  rw [e] at m' ⊢
  exact hk a' cap' H' m'
theorem rverb_t {x : VerA} (hr : RowAt H x.a (txts x.v.ks)) (hc : Content x.v)
    (hk : ∀ a c H', Made H H' 5 1 a (verPieces x.v).flatten.length c (u8s (verPieces x.v).flatten) → K (.slice a (verPieces x.v).flatten.length c) H') : HCalls Try.prog 50 [.agg x.cells.toArray] H K := by
  refine hcalls (fn := Try.f50) [(1, [(0, 0), (1, 0), (2, 0), (3, 1), (4, 1), (5, 0), (6, 0), (7, 0)])] mixed Try.func50 rfl rfl (by decide +kernel) ?_
  have hkl : x.v.key.length ≤ 65535 := by
    rcases hc with h | h
    · exact h.2.1
    · exact h.2.2.1.1.2.2 _ h.2.2.2
  (repeat first | refine HReg.step ?_ | refine HCode.step ?_)
  refine HNew.mk fun b1 hb1 => ?_
  have u1 : Upd [] H (H.upd b1 (.cells x.cells.toArray 52)) := Upd.new hb1 _
  have o1 : RowAt (H.upd b1 (.cells x.cells.toArray 52)) (some ⟨b1, 0, none⟩) x.cells := RowAt.of_cells (upd_same _ _ _)
  have hH' : H.upd b1 (.cells [Value.string (bs x.v.key), .int .u64 (x.v.id : Int), .string (bs x.v.val), .slice x.a x.v.ks.length x.c].toArray 52) = H.upd b1 (.cells x.cells.toArray 52) := rfl
  rw [hH']
  generalize hH1 : H.upd b1 (.cells x.cells.toArray 52) = H1 at u1 o1
  have ro : ∀ {H'}, Upd [] H1 H' → RowAt H' (some ⟨b1, 0, none⟩) x.cells := fun u => o1.upd (S := []) u (.inr (Off.nil _))
  have rk := hr.upd (S := []) u1 (.inr (Off.nil _))
  have tk := textB_length x.v.key
  (repeat first | refine HReg.step ?_ | refine HCode.step ?_)
  refine HLoad.one (v := .string (bs x.v.key)) (by exact o1.get (i := 0) rfl) ?_
  (repeat first | refine HReg.step ?_ | refine HCode.step ?_)
  refine HCall.mk ⟨Try.f49, Try.func49, by rfl, by rfl⟩ ?_
  refine Text_t (by omega) fun a2 c2 H2 m2 => ?_
  rw [← tk] at m2 ⊢
  (repeat first | refine HReg.step ?_ | refine HCode.step ?_)
  refine HLoad_two (v := .int .u64 (x.v.id : Int)) (by exact (ro m2.upd).get (i := 1) rfl) (by exact o1.get (i := 1) rfl) ?_
  (repeat first | refine HReg.step ?_ | refine HCode.step ?_)
  refine HCall.mk ⟨Try.f28, Try.func28, by rfl, by rfl⟩ ?_
  refine Number_t (n := 8) (by decide) fun a3 c3 H3 m3 => ?_
  (repeat first | refine HReg.step ?_ | refine HCode.step ?_)
  refine app_md (m2.step m3.upd) m3.own.rows (num_length _ _) (by omega) fun a4 c4 H4 m4 => ?_
  (repeat first | refine HReg.step ?_ | refine HCode.step ?_)
  refine HLoad.one (v := .int .u64 (x.v.id : Int)) (by exact (ro m4.upd).get (i := 1) rfl) ?_
  (repeat first | refine HReg.step ?_ | refine HCode.step ?_)
  have hv0 : (verPieces x.v).flatten = (textB x.v.key ++ num x.v.id 8) ++ (if x.v.id = 0 then [] else textB x.v.val ++ textsB x.v.ks) := by
    unfold verPieces
    by_cases h0 : x.v.id = 0
    · simp [h0]
    · simp [h0]
  have fin : ∀ a c H', Made H1 H' 5 1 a (verPieces x.v).flatten.length c (u8s (verPieces x.v).flatten) → K (.slice a (verPieces x.v).flatten.length c) H' := fun a c H' m => hk a c H' (m.back u1)
  by_cases h0 : x.v.id = 0
  · rw [show eqB ((x.v.id : Nat) : Int) 0 = true from eqB_true.2 (by omega)]
    rw [if_pos h0, List.append_nil] at hv0
    rw [hv0] at fin
    (repeat first | refine HReg.step ?_ | refine HCode.step ?_)
    exact fin a4 c4 H4 m4
  · rw [show eqB ((x.v.id : Nat) : Int) 0 = false from eqB_false.2 (by omega)]
    rw [if_neg h0] at hv0
    have hc2 : x.v.val.length ≤ 65535 ∧ Whole x.v.ks := by
      rcases hc with h | h
      · exact absurd h.1 h0
      · exact ⟨h.2.1, h.2.2.1⟩
    have ts := textsB_small hc2.2.few
    have tv := textB_length x.v.val
    have l4 : (textB x.v.key ++ num x.v.id 8).length ≤ 70000 := by rw [List.length_append, num_length, tk]; omega
    (repeat first | refine HReg.step ?_ | refine HCode.step ?_)
    refine HLoad.one (v := .string (bs x.v.val)) (by exact (ro m4.upd).get (i := 2) rfl) ?_
    (repeat first | refine HReg.step ?_ | refine HCode.step ?_)
    refine HCall.mk ⟨Try.f49, Try.func49, by rfl, by rfl⟩ ?_
    refine Text_t (by omega) fun a5 c5 H5 m5 => ?_
    (repeat first | refine HReg.step ?_ | refine HCode.step ?_)
    refine app_md (m4.step m5.upd) m5.own.rows tv (by omega) fun a6 c6 H6 m6 => ?_
    have l6 : ((textB x.v.key ++ num x.v.id 8) ++ textB x.v.val).length ≤ 140000 := by rw [List.length_append, tv]; omega
    (repeat first | refine HReg.step ?_ | refine HCode.step ?_)
    refine HLoad.one (v := .slice x.a x.v.ks.length x.c) (by exact (ro m6.upd).get (i := 3) rfl) ?_
    (repeat first | refine HReg.step ?_ | refine HCode.step ?_)
    refine HCall.mk ⟨Try.f48, Try.func48, by rfl, by rfl⟩ ?_
    refine Texts_t (rk.upd (S := []) m6.upd (.inr (Off.nil _))) rfl (by omega) fun a7 c7 H7 m7 => ?_
    (repeat first | refine HReg.step ?_ | refine HCode.step ?_)
    refine app_md (m6.step m7.upd) m7.own.rows rfl (by omega) fun a8 c8 H8 m8 => ?_
    rw [← List.append_assoc] at hv0
    rw [hv0] at fin
    (repeat first | refine HReg.step ?_ | refine HCode.step ?_)
    exact fin a8 c8 H8 m8
end
end Go.Proofs.Ytlgncabjphokjaa
