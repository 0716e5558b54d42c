import Derived.Test.YtokfmkfobjkkpaaL3
import Derived.Test.YtokfmkfobjkkpaaM2
namespace Go.Proofs.Ytokfmkfobjkkpaa
open Go Hv
set_option linter.unusedVariables false
set_option linter.unusedSimpArgs false
set_option maxRecDepth 10000
set_option maxHeartbeats 1000000
/-! Records that the law makes are short; frames that were changed are told -/
theorem pieces_bound {B : Nat} : ∀ (ps : List (Txt × Txt)), (∀ p ∈ ps, p.1.length ≤ B ∧ p.2.length ≤ B) → (pairPieces ps).flatten.length ≤ ps.length * (8 + 2 * B)
  | [], _ => Nat.zero_le _
  | p :: ps, h => by
    have hp := h p List.mem_cons_self
    have ih := pieces_bound ps (fun q hq => h q (List.mem_cons_of_mem _ hq))
    have e : (pairPieces (p :: ps)).flatten = textB p.1 ++ (textB p.2 ++ (pairPieces ps).flatten) := by
      unfold pairPieces
      rw [List.flatMap_cons]
      simp only [List.cons_append, List.nil_append, List.flatten_cons, List.append_assoc]
    rw [e, List.length_append, List.length_append, textB_length, textB_length, List.length_cons, Nat.succ_mul]
    omega
theorem Mr.pay_le {r : Rec} (h : Mr r) : 9 ≤ (pay r).length ∧ (pay r).length ≤ 1000000 := by
  rcases h.may.2 with ⟨h1, _⟩ | ⟨h1, hw, _, _, hin⟩
  · rw [pay2 h1, List.length_append, num_length, num_length]; omega
  · have b1 := pieces_bound (B := 300) r.ps (fun p hp => ⟨h.ks.short _ (hin p hp).1, h.vs p hp⟩)
    have b2 := flat_bound (B := 300) (l := r.ks) h.ks.short
    have b3 := h.ks.few
    have b4 := h.ps
    have e : (textsB r.ks).length = 4 + (r.ks.flatMap textB).length := by
      unfold textsB; rw [List.length_append, num_length]
    rw [pay1 h1]
    simp only [List.length_append, num_length, e]
    have : r.ps.length * (8 + 2 * 300) ≤ 40 * 608 := Nat.mul_le_mul b4 (Nat.le_refl _)
    have : r.ks.length * (4 + 300) ≤ 40 * 304 := Nat.mul_le_mul b3 (Nat.le_refl _)
    omega
theorem Mr.built {r : Rec} (h : Mr r) : buildR r = (frameR (pay r), 0) := build_ok h.may (by have := h.pay_le; omega)
theorem Mr.parsed {r : Rec} (h : Mr r) (t : List UInt8) : parseR (frameR (pay r) ++ t) = (r, 8 + (pay r).length, 0) := parse_rec t h.may h.id (by have := h.pay_le; omega)
theorem parse_bad {l C : List UInt8} {n : Nat} (hl : l.length = 8 + n) (hn : n ≤ 1048576) (h4 : l.take 4 = num n 4) (h8 : l.drop 8 = C) (hc : crcN C ≠ val ((l.drop 4).take 4)) : parseR l = (zeroRec, 0, 90) := by
  have hv : val (l.take 4) = n := by rw [h4, val_num]; exact Nat.mod_eq_of_lt (by show n < 4294967296; omega)
  have hC : C.length = n := by rw [← h8, List.length_drop]; omega
  unfold parseR
  rw [hv, hl, if_neg (by omega), if_neg (by omega), if_neg (by omega), h8, List.take_of_length_le (by omega), if_pos hc]
theorem num_val : ∀ (l : List UInt8), num (val l) l.length = l := by
  have key : ∀ (l : List UInt8) (v : Nat), v % 256 ^ l.length = val l → num v l.length = l := by
    intro l
    induction l with
    | nil => intro v _; rfl
    | cons c l ih =>
      intro v hv
      rw [val_cons, List.length_cons] at hv
      have hlt := val_lt l
      have hpos : 0 < 256 ^ l.length := Nat.pow_pos (by decide)
      have h1 : v % 256 ^ l.length = val l := by
        have e := Nat.mod_mod_of_dvd v (Nat.dvd_mul_left (256 ^ l.length) 256)
        rw [Nat.mul_comm 256, ← Nat.pow_succ] at e
        rw [← e, hv, Nat.mul_comm, Nat.mul_add_mod, Nat.mod_eq_of_lt hlt]
      have h2 : v / 256 ^ l.length % 256 = c.toNat := by
        have e : v % 256 ^ (l.length + 1) / 256 ^ l.length = v / 256 ^ l.length % 256 := by
          rw [Nat.pow_succ, Nat.mod_mul_right_div_self]
        rw [← e, hv, Nat.mul_comm, Nat.mul_add_div hpos, Nat.div_eq_of_lt hlt, Nat.add_zero]
      show UInt8.ofNat (v / 256 ^ l.length) :: num v l.length = c :: l
      rw [ih v h1]
      congr 1
      apply UInt8.toNat.inj
      rw [UInt8.toNat_ofNat']
      exact h2
  exact fun l => key l (val l) (Nat.mod_eq_of_lt (val_lt l))
theorem val_inj {a b : List UInt8} (h : val a = val b) (hl : a.length = b.length) : a = b := by
  rw [← num_val a, ← num_val b, h, hl]
end Go.Proofs.Ytokfmkfobjkkpaa
