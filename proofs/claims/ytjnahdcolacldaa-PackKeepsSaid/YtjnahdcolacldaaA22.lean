import Derived.Test.YtjnahdcolacldaaA21
namespace Go.Proofs.Ytjnahdcolacldaa
open Go Hv
set_option linter.unusedVariables false
set_option linter.unusedSimpArgs false
set_option maxRecDepth 10000
set_option maxHeartbeats 1000000
/-! marked: slices of bytes that share nothing -/
def mk (i : Nat) : UInt8 := UInt8.ofNat (1 + i % 250)
theorem mk_of (i : Nat) : Value.int .u8 (wr .u8 (wr .i64 (1 + Int.tmod (i : Int) 250))) = u8 (mk i) := by
  have h1 : Int.tmod (i : Int) 250 = ((i % 250 : Nat) : Int) := by rw [Int.tmod_eq_emod_of_nonneg (by omega)]; omega
  have h2 : wr .i64 (1 + ((i % 250 : Nat) : Int)) = ((1 + i % 250 : Nat) : Int) := by rw [wr_i64 (by omega) (by omega)]; omega
  rw [h1, h2, wr8]
  have h3 : (1 + i % 250) % 256 = 1 + i % 250 := Nat.mod_eq_of_lt (by omega)
  unfold u8 mk
  rw [h3, UInt8.toNat_ofNat', h3]
def Marked (i : Nat) (ns : List Nat) (ls : List (List UInt8)) : Prop := ls.length = ns.length ∧ ∀ (k : Nat) (l : List UInt8), ls[k]? = some l → ns[k]? = some l.length ∧ (k < i → l = List.replicate l.length (mk k))
theorem Marked.step {ns : List Nat} {i : Nat} {ls : List (List UInt8)} {l : List UInt8} (h : Marked i ns ls) (hi : ls[i]? = some l) : Marked (i + 1) ns (ls.set i (List.replicate l.length (mk i))) := by
  refine ⟨by simpa using h.1, fun k l' hk => ?_⟩
  rw [List.getElem?_set] at hk
  split at hk
  · rename_i e; subst e
    split at hk
    · cases hk
      have h1 := h.2 i l hi
      rw [List.length_replicate]
      exact ⟨h1.1, fun _ => rfl⟩
    · cases hk
  · rename_i e
    have h1 := h.2 k l' hk
    exact ⟨h1.1, fun hlt => h1.2 (by omega)⟩
end Go.Proofs.Ytjnahdcolacldaa
