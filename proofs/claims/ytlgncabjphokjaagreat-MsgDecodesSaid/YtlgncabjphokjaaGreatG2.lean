import Derived.Test.YtlgncabjphokjaaGreatG1
namespace Go.Proofs.YtlgncabjphokjaaGreat
open Go Hv
set_option linter.unusedVariables false
set_option linter.unusedSimpArgs false
set_option maxRecDepth 10000
set_option maxHeartbeats 1000000
/-! Frames of messages, plainly -/
def frameM (p : List UInt8) : List UInt8 := num p.length 4 ++ p
theorem frameM_len (p : List UInt8) : (frameM p).length = 4 + p.length := by unfold frameM; rw [List.length_append, num_length]
theorem frameM_take (p t : List UInt8) : (frameM p ++ t).take 4 = num p.length 4 := by
  unfold frameM
  rw [List.append_assoc, List.take_append_of_le_length (by rw [num_length]; exact Nat.le_refl _), List.take_of_length_le (by rw [num_length]; exact Nat.le_refl _)]
theorem frameM_drop (p : List UInt8) : (frameM p).drop 4 = p := by
  unfold frameM
  rw [List.drop_append_of_le_length (by rw [num_length]; exact Nat.le_refl _), List.drop_of_length_le (by rw [num_length]; exact Nat.le_refl _), List.nil_append]
theorem val4 {p : List UInt8} (h : p.length ≤ 1048576) : val (num p.length 4) = p.length := by
  rw [val_num]; exact Nat.mod_eq_of_lt (by show p.length < 4294967296; omega)
theorem frameM_val {p : List UInt8} (t : List UInt8) (h : p.length ≤ 1048576) : val ((frameM p ++ t).take 4) = p.length := by rw [frameM_take, val4 h]
theorem decode_frame {p : List UInt8} (hp : p.length ≤ 1048576) (h : ReadOkM p) : decodeM (frameM p) = ((readBody p).1, 0) := by
  have hv := frameM_val [] hp
  rw [List.append_nil] at hv
  have hl := frameM_len p
  unfold decodeM
  rw [hv, hl, frameM_drop, if_neg (by omega), if_neg (by omega), if_neg (by omega), if_neg (by omega), if_neg (fun hh => hh h)]
theorem readOk_body {m : Msg} (h : MayM m) (f : Fit m) : ReadOkM (body m) := by
  unfold ReadOkM
  rw [read_body h f]
  exact ⟨rfl, h⟩
theorem encode_ok {m : Msg} (h : MayM m) (hl : (body m).length ≤ 1048576) : encodeM m = (frameM (body m), 0) := by
  unfold encodeM; rw [if_neg (fun hh => hh h), if_neg (by omega)]; rfl
theorem encode_long {m : Msg} (h : MayM m) (hl : 1048576 < (body m).length) : encodeM m = ([], 3) := by
  unfold encodeM; rw [if_neg (fun hh => hh h), if_pos hl]
theorem encode_no {m : Msg} (h : ¬ MayM m) : encodeM m = ([], 1) := if_pos h
theorem size_ok {m : Msg} (h : MayM m) : sizeM m = ((body m).length, 0) := if_neg (fun hh => hh h)
theorem size_no {m : Msg} (h : ¬ MayM m) : sizeM m = (0, 1) := if_pos h
theorem decode_encode {m : Msg} (h : MayM m) (f : Fit m) (hl : (body m).length ≤ 1048576) : decodeM (frameM (body m)) = (m, 0) := by
  rw [decode_frame hl (readOk_body h f), read_body h f]
theorem decode_cut {p : List UInt8} {j : Nat} (hp : p.length ≤ 1048576) (hj : j < 4 + p.length) : decodeM ((frameM p).take j) = (zeroM, 4) := by
  have hl : ((frameM p).take j).length = j := by rw [List.length_take, frameM_len]; omega
  unfold decodeM
  rw [hl]
  by_cases h8 : j < 4
  · rw [if_pos h8]
  rw [if_neg h8]
  have hv : val (((frameM p).take j).take 4) = p.length := by
    rw [List.take_take, Nat.min_eq_left (by omega)]
    have := frameM_val [] hp
    rwa [List.append_nil] at this
  rw [hv, if_neg (by omega), if_pos (by omega)]
theorem decode_trail {p t : List UInt8} (hp : p.length ≤ 1048576) (ht : 0 < t.length) : decodeM (frameM p ++ t) = (zeroM, 5) := by
  have hl : (frameM p ++ t).length = 4 + p.length + t.length := by rw [List.length_append, frameM_len]
  unfold decodeM
  rw [frameM_val t hp, hl, if_neg (by omega), if_neg (by omega), if_neg (by omega), if_pos (by omega)]
theorem decode_ok {b : List UInt8} (h : (decodeM b).2 = 0) : decodeM b = ((readBody (b.drop 4)).1, 0) ∧ ReadOkM (b.drop 4) ∧ b = frameM (b.drop 4) ∧ (b.drop 4).length ≤ 1048576 := by
  unfold decodeM at h ⊢
  by_cases h1 : b.length < 4
  · rw [if_pos h1] at h; exact absurd (show (4 : Int) = 0 from h) (by decide)
  rw [if_neg h1] at h ⊢
  by_cases h2 : 1048576 < val (b.take 4)
  · rw [if_pos h2] at h; exact absurd (show (3 : Int) = 0 from h) (by decide)
  rw [if_neg h2] at h ⊢
  by_cases h3 : b.length - 4 < val (b.take 4)
  · rw [if_pos h3] at h; exact absurd (show (4 : Int) = 0 from h) (by decide)
  rw [if_neg h3] at h ⊢
  by_cases h4 : val (b.take 4) < b.length - 4
  · rw [if_pos h4] at h; exact absurd (show (5 : Int) = 0 from h) (by decide)
  rw [if_neg h4] at h ⊢
  by_cases h5 : ¬ ReadOkM (b.drop 4)
  · rw [if_pos h5] at h; exact absurd (show (2 : Int) = 0 from h) (by decide)
  rw [if_neg h5]
  have hd : (b.drop 4).length = val (b.take 4) := by rw [List.length_drop]; omega
  refine ⟨rfl, Classical.not_not.1 h5, ?_, by omega⟩
  have h4' : (b.take 4).length = 4 := by rw [List.length_take]; omega
  have e := num_val (b.take 4)
  rw [h4'] at e
  unfold frameM
  rw [hd, e, List.take_append_drop]
theorem decode_fail {b : List UInt8} (h : (decodeM b).2 ≠ 0) : (decodeM b).1 = zeroM ∧ ((decodeM b).2 = 2 ∨ (decodeM b).2 = 3 ∨ (decodeM b).2 = 4 ∨ (decodeM b).2 = 5) := by
  unfold decodeM at h ⊢
  by_cases h1 : b.length < 4
  · rw [if_pos h1]; exact ⟨rfl, .inr (.inr (.inl rfl))⟩
  rw [if_neg h1] at h ⊢
  by_cases h2 : 1048576 < val (b.take 4)
  · rw [if_pos h2]; exact ⟨rfl, .inr (.inl rfl)⟩
  rw [if_neg h2] at h ⊢
  by_cases h3 : b.length - 4 < val (b.take 4)
  · rw [if_pos h3]; exact ⟨rfl, .inr (.inr (.inl rfl))⟩
  rw [if_neg h3] at h ⊢
  by_cases h4 : val (b.take 4) < b.length - 4
  · rw [if_pos h4]; exact ⟨rfl, .inr (.inr (.inr rfl))⟩
  rw [if_neg h4] at h ⊢
  by_cases h5 : ¬ ReadOkM (b.drop 4)
  · rw [if_pos h5]; exact ⟨rfl, .inl rfl⟩
  rw [if_neg h5] at h
  exact absurd rfl h
theorem encode_decode {b : List UInt8} (h : (decodeM b).2 = 0) : encodeM (decodeM b).1 = (b, 0) ∧ MayM (decodeM b).1 ∧ 5 ≤ b.length := by
  obtain ⟨e, ok, hb, hl⟩ := decode_ok h
  rw [e]
  have hr := body_read ok
  refine ⟨?_, ok.2, ?_⟩
  · show encodeM (readBody (b.drop 4)).1 = _
    rw [encode_ok ok.2 (by rw [hr]; exact hl), hr, ← hb]
  · have h1 : (b.drop 4).length = (body (readBody (b.drop 4)).1).length := by rw [hr]
    have h2 := body_eq (readBody (b.drop 4)).1
    rw [h2, List.length_append, num_length, List.length_drop] at h1
    omega
/-- Two byte strings that are taken for one message are one. -/
theorem decode_inj {b d : List UInt8} (h : (decodeM b).2 = 0) (k : (decodeM d).2 = 0) (e : (decodeM b).1 = (decodeM d).1) : b = d := by
  have h1 := (encode_decode h).1
  have h2 := (encode_decode k).1
  rw [e, h2] at h1
  exact (Prod.mk.inj h1).1.symm
/-! Sizes -/
theorem textsB_len (l : List Txt) : (textsB l).length = 4 + (l.flatMap textB).length := by unfold textsB; rw [List.length_append, num_length]
theorem pair_le {ps : List (Txt × Txt)} {p : Txt × Txt} (h : p ∈ ps) : 8 + p.1.length + p.2.length ≤ (pairPieces ps).flatten.length := by
  induction ps with
  | nil => cases h
  | cons q ps ih =>
    have e : (pairPieces (q :: ps)).flatten = textB q.1 ++ (textB q.2 ++ (pairPieces ps).flatten) := by
      unfold pairPieces; rw [List.flatMap_cons]; simp
    rw [e, List.length_append, List.length_append, textB_length, textB_length]
    rcases List.mem_cons.1 h with rfl | h
    · omega
    · have := ih h; omega
def answerM (m : Msg) (p : Txt × Txt) (client : Int) (req : Nat) : Msg := ⟨7, client, req, 0, [], [], [], [⟨p.1, m.id, p.2, m.ks⟩]⟩
theorem answer_may {m : Msg} {p : Txt × Txt} {client : Int} {req : Nat} (h : MayM m) (hk : m.kind = 1) (hp : p ∈ m.ps) (hc : 0 ≤ client) (hc' : client < 16) (hr : 1 ≤ req) : MayM (answerM m p client req) := by
  refine ⟨⟨hc, hc', hr⟩, .inr (.inr (.inr (.inr ⟨rfl, rfl, ⟨_, rfl, .inr ?_⟩, rfl, rfl, rfl⟩)))⟩
  rcases h.2 with h | h | h | h | h
  · obtain ⟨h1, h2, ⟨h3, h4⟩, h5, h6⟩ := h
    exact ⟨h2, (h4.2.2 p hp).2, h3, (h4.2.2 p hp).1⟩
  · have := h.1; omega
  · have := h.1; omega
  · have := h.1; omega
  · have := h.1; omega
theorem answer_len {m : Msg} {p : Txt × Txt} {client : Int} {req : Nat} (h : MayM m) (hk : m.kind = 1) (hp : p ∈ m.ps) : (body (answerM m p client req)).length ≤ (body m).length := by
  have hid : 65536 ≤ m.id := by
    rcases h.2 with h | h | h | h | h
    · exact h.2.1
    · have := h.1; omega
    · have := h.1; omega
    · have := h.1; omega
    · have := h.1; omega
  have e1 : (kindPieces (answerM m p client req)).flatten = textB p.1 ++ (num m.id 8 ++ (textB p.2 ++ textsB m.ks)) := by
    show (verPieces ⟨p.1, m.id, p.2, m.ks⟩).flatten = _
    unfold verPieces
    rw [if_neg (by show ¬ m.id = 0; omega)]
    simp
  have e2 : (kindPieces m).flatten = num m.id 8 ++ (textsB m.ks ++ (num m.ps.length 4 ++ (pairPieces m.ps).flatten)) := by
    rw [kp1 hk]
    simp
  have := pair_le hp
  rw [body_eq, body_eq, e1, e2]
  simp only [List.length_append, num_length, textB_length]
  omega
def askM (m : Msg) (req id : Nat) : Msg := ⟨4, m.client, req, 0, [], [], m.ks.map fun k => (k, id), []⟩
theorem want_len (ks : List Txt) (id : Nat) : (wantPieces (ks.map fun k => (k, id))).flatten.length = (ks.flatMap textB).length + 8 * ks.length := by
  induction ks with
  | nil => rfl
  | cons k ks ih =>
    have e : (wantPieces ((k :: ks).map fun k => (k, id))).flatten = textB k ++ (num id 8 ++ (wantPieces (ks.map fun k => (k, id))).flatten) := by
      unfold wantPieces; rw [List.map_cons, List.flatMap_cons]; simp
    rw [e, List.flatMap_cons, List.length_append, List.length_append, List.length_append, num_length, ih, List.length_cons]
    omega
theorem ask_may {m : Msg} {req id : Nat} (h : MayM m) (hk : m.kind = 3) (hr : 1 ≤ req) (hi : 65536 ≤ id) : MayM (askM m req id) := by
  refine ⟨⟨h.1.1, h.1.2.1, hr⟩, .inr (.inr (.inr (.inl ⟨rfl, rfl, ⟨fun w hw => ?_, ?_⟩, rfl, rfl, rfl⟩)))⟩
  · obtain ⟨k, _, rfl⟩ := List.mem_map.1 hw
    exact hi
  · have e : (m.ks.map fun k => (k, id)).map Prod.fst = m.ks := by rw [List.map_map]; exact List.map_id _
    show Valid ((m.ks.map fun k => (k, id)).map Prod.fst)
    rw [e]
    rcases h.2 with h | h | h | h | h
    · have := h.1; omega
    · have := h.1; omega
    · exact h.2.2.1
    · have := h.1; omega
    · have := h.1; omega
theorem ask_few {m : Msg} (h : MayM m) (hk : m.kind = 3) : m.ks.length ≤ 1024 := by
  rcases h.2 with h | h | h | h | h
  · have := h.1; omega
  · have := h.1; omega
  · exact h.2.2.1.1.2.1
  · have := h.1; omega
  · have := h.1; omega
theorem ask_len {m : Msg} {req id : Nat} (h : MayM m) (hk : m.kind = 3) : (body (askM m req id)).length = (body m).length + 8 * m.ks.length := by
  have e1 : (kindPieces (askM m req id)).flatten = num m.ks.length 4 ++ (wantPieces (m.ks.map fun k => (k, id))).flatten := by
    show ([num (m.ks.map fun k => (k, id)).length 4] ++ wantPieces (m.ks.map fun k => (k, id))).flatten = _
    rw [List.length_map]; simp
  have e2 : (kindPieces m).flatten = textsB m.ks := by
    rw [kp3 hk]
    simp
  rw [body_eq, body_eq, e1, e2]
  simp only [List.length_append, num_length, textsB_len, want_len]
  omega
/-- Numbers that are read fit. -/
theorem numberG_lt (r : R) : (r.number 8).1 < 18446744073709551616 := by
  unfold R.number
  split
  · show 0 < 18446744073709551616; decide
  · split
    · show 0 < 18446744073709551616; decide
    · rename_i h1 h2
      have := val_lt (r.rest.take 8)
      have hl : (r.rest.take 8).length = 8 := by rw [List.length_take]; omega
      rw [hl] at this
      exact this
end Go.Proofs.YtlgncabjphokjaaGreat
