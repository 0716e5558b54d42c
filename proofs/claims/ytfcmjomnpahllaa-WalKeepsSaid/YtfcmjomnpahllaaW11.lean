import Derived.Test.YtfcmjomnpahllaaW10
namespace Go.Proofs.Ytfcmjomnpahllaa
open Go Hv
set_option linter.unusedVariables false
set_option linter.unusedSimpArgs false
set_option maxRecDepth 10000
set_option maxHeartbeats 1000000
/-! WalKeeps: a log's file under calls that may end the power, plainly -/
/-- A file whose bytes are all synced, or none. -/
def Val (v : Option (List UInt8 × Nat)) (c : List UInt8) : Prop := (v = none ∧ c = []) ∨ v = some (c, c.length)
theorem Val.getD {v : Option (List UInt8 × Nat)} {c : List UInt8} (h : Val v c) : v.getD ([], 0) = (c, c.length) := by
  rcases h with ⟨rfl, rfl⟩ | rfl <;> rfl
theorem Val.crash {v : Option (List UInt8 × Nat)} {c : List UInt8} (h : Val v c) (keep : Int) : v.map (crash1 keep) = v := by
  rcases h with ⟨rfl, rfl⟩ | rfl
  · rfl
  · rw [Option.map_some, crash1_syn]
section
variable {d : Fd} {n : ByteArray} {v : Option (List UInt8 × Nat)} {c : List UInt8}
theorem one_call_val (h : Val v c) : ∃ d', (one d n v).call = one d' n v ∧ d'.refuses = d.refuses ∧ (d.off = true → d'.off = true) ∧ (d'.off = false → d.off = false) := by
  by_cases ha : d.armed = true
  · by_cases hc : d.calls = 0
    · rw [one_call_0 ha hc]
      by_cases ho : d.off = true
      · rw [one_crash_off ho]; exact ⟨d, rfl, rfl, fun h => h, fun h => h⟩
      · rw [one_crash (by simpa using ho), h.crash]
        exact ⟨_, rfl, rfl, fun _ => rfl, fun h => by cases h⟩
    · exact ⟨_, one_call_n ha hc, rfl, fun h => h, fun h => h⟩
  · exact ⟨d, one_call (by simpa using ha), rfl, fun h => h, fun h => h⟩
theorem cut_val {keep : Int} {f : List UInt8} : ∃ j, j ≤ f.length ∧ crash1 keep (c ++ f, c.length) = (c ++ f.take j, (c ++ f.take j).length) := by
  have ht := (tail_le (keep := keep) (n := (c ++ f).length) (s := c.length) (by rw [List.length_append]; omega)).1
  rw [List.length_append] at ht
  refine ⟨tailOf keep (c ++ f).length c.length, by rw [List.length_append]; omega, ?_⟩
  unfold crash1
  dsimp only
  rw [List.length_append]
  generalize tailOf keep (c.length + f.length) c.length = j at ht
  rw [List.take_length_add_append, List.length_append, List.length_take, Nat.min_eq_left (by omega)]
theorem append_any {x : Rec} {k : Nat} (hn : 1 ≤ n.size ∧ n.size ≤ 32) (ho : d.off = false) (hv : Val v c) (hx : Good x) :
    ∃ e k' d' v', appendW (one d n v) n k x = (e, k', one d' n v') ∧
      ((e = 0 ∧ k' = k + (frameR (pay x)).length ∧ Val v' (c ++ frameR (pay x)) ∧ d'.off = false) ∨ (e = 60 ∧ k' = k ∧ v' = v ∧ d'.off = false) ∨ (e = 62 ∧ k' = k ∧ d'.off = true ∧ ∃ j, Val v' (c ++ (frameR (pay x)).take j))) := by
  have hp := frame_pos (pay x)
  obtain ⟨d1, h1, hr1, _, _⟩ := one_call_val (d := d) (n := n) hv
  by_cases o1 : d1.off = true
  · refine ⟨62, k, d1, v, ?_, .inr (.inr ⟨rfl, rfl, o1, 0, by rw [List.take_zero, List.append_nil]; exact hv⟩)⟩
    have e : (one d n v).append n (frameR (pay x)) = (62, one d1 n v) := by
      unfold St.append
      rw [h1]
      dsimp only
      rw [if_pos (show (one d1 n v).d.off = true from o1)]
    unfold appendW
    rw [build_good hx]
    dsimp only
    rw [if_neg (fun h => h rfl), e]
    dsimp only
    rw [if_pos (by decide)]
  have o1 : d1.off = false := by simpa using o1
  by_cases hr : 0 < d1.refuses
  · exact ⟨60, k, _, v, one_appendW_ref h1 o1 hr hn hx, .inr (.inl ⟨rfl, rfl, rfl, o1⟩)⟩
  have ea : (one d n v).append n (frameR (pay x)) = (0, one d1 n (some (c ++ frameR (pay x), c.length))) := by
    rw [one_append h1 o1 hn (fun h => hr h.2), hv.getD]
  have done : ∀ d2, (one d1 n (some (c ++ frameR (pay x), c.length))).call = one d2 n (some (c ++ frameR (pay x), c.length)) → d2.off = false →
      appendW (one d n v) n k x = (0, k + (frameR (pay x)).length, one d2 n (some (c ++ frameR (pay x), (c ++ frameR (pay x)).length))) := fun d2 h2 o2 => by
    unfold appendW
    rw [build_good hx]
    dsimp only
    rw [if_neg (fun h => h rfl), ea]
    dsimp only
    rw [if_neg (fun h => h rfl), one_sync h2 o2]
    dsimp only
    rw [if_neg (fun h => h rfl)]
  by_cases ha : d1.armed = true
  · by_cases hc : d1.calls = 0
    · obtain ⟨j, hj, hw⟩ := cut_val (keep := d1.keep) (c := c) (f := frameR (pay x))
      exact ⟨62, k, _, _, one_appendW_cut h1 o1 (by omega) hn hx hv.getD ha hc hw, .inr (.inr ⟨rfl, rfl, rfl, j, .inr rfl⟩)⟩
    · exact ⟨0, _, _, _, done _ (one_call_n ha hc) o1, .inl ⟨rfl, rfl, .inr rfl, o1⟩⟩
  · exact ⟨0, _, _, _, done _ (one_call (by simpa using ha)) o1, .inl ⟨rfl, rfl, .inr rfl, o1⟩⟩
/-- What stands behind the records that were taken: nothing, or a beginning of the one in which the power went off. -/
def Tail (u : Option Rec) (t : List UInt8) : Prop := match u with
  | none => t = []
  | some U => Good U ∧ ∃ j, t = (frameR (pay U)).take j
theorem open_any {D : List Rec} {u : Option Rec} {t : List UInt8} (ha : d.armed = false) (ho : d.off = false) (hD : ∀ x ∈ D, Good x) (hv : Val v (frG D ++ t)) (ht : Tail u t) :
    ∃ A v', openW (one d n v) n = (0, (A, (frG A).length), one d n v') ∧ Val v' (frG A) ∧ (A = D ∨ ∃ U, u = some U ∧ A = D ++ [U]) ∧ ∀ x ∈ A, Good x := by
  rcases hv with ⟨rfl, h0⟩ | rfl
  · obtain ⟨rfl, rfl⟩ := frG_nil h0
    exact ⟨[], none, one_open_none ha ho, .inl ⟨rfl, rfl⟩, .inl rfl, hD⟩
  · cases u with
    | none =>
      have ht : t = [] := ht
      subst ht
      rw [List.append_nil]
      refine ⟨D, some (frG D, (frG D).length), ?_, .inr rfl, .inl rfl, hD⟩
      have h := one_open (d := d) (n := n) (y := (frG D).length) ha ho (scan_all hD) (Nat.le_refl _) (Nat.le_refl _)
      rw [List.take_length, Nat.min_self] at h
      exact h
    | some U =>
      obtain ⟨hU, j, rfl⟩ : Good U ∧ ∃ j, t = (frameR (pay U)).take j := ht
      obtain ⟨A, hA, h1, h2, h3⟩ := scan_tail hD hU j
      have h := one_open (d := d) (n := n) (y := (frG D ++ (frameR (pay U)).take j).length) ha ho h1 h3 (Nat.le_refl _)
      rw [h2, Nat.min_eq_right h3] at h
      refine ⟨A, _, h, .inr rfl, hA.imp id fun e => ⟨U, rfl, e⟩, fun x hx => ?_⟩
      rcases hA with e | e
      · rw [e] at hx; exact hD x hx
      · rw [e] at hx
        rcases List.mem_append.1 hx with hx | hx
        · exact hD x hx
        · rw [List.mem_singleton.1 hx]; exact hU
end
end Go.Proofs.Ytfcmjomnpahllaa
