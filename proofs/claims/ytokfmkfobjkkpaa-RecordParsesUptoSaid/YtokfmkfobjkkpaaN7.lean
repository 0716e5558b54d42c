import Derived.Test.YtokfmkfobjkkpaaD12
import Derived.Test.YtokfmkfobjkkpaaN5
namespace Go.Proofs.Ytokfmkfobjkkpaa
open Go Hv
set_option linter.unusedVariables false
set_option linter.unusedSimpArgs false
set_option maxRecDepth 10000
set_option maxHeartbeats 4000000
/-! RecordParses -/
structure PoInv (n : Nat) (a : Option Addr) (c : Nat) (H1 : Heap) (m : Nat) (vs : List Value) (H' : Heap) : Prop where
  ex : ∃ (i : Nat) (X : List Value), vs = [.int .i64 (i : Int)] ∧ m + i = n ∧ OwnRow H' 5 1 a n c X ∧ Upd (blk a) H1 H'
structure PoJ (a : Option Addr) (H1 : Heap) (vs : List Value) (H' : Heap) : Prop where
  ex : vs = [] ∧ Upd (blk a) H1 H'
theorem scan_len : ∀ (n : Nat) (l : List UInt8), l.length ≤ n → (scanR l).1.length ≤ l.length
  | 0, l, h => by
    have : (parseR l).2.2 ≠ 0 := fun h0 => by
      obtain ⟨L, _, h8, _⟩ := parse_ok h0
      omega
    rw [scan_no this]; exact Nat.zero_le _
  | n + 1, l, h => by
    by_cases h0 : (parseR l).2.2 = 0
    · obtain ⟨L, _, h8, _, _, _, hp⟩ := parse_ok h0
      have hd : (parseR l).2.1 = 8 + L := by rw [hp]
      have ih := scan_len n (l.drop (8 + L)) (by rw [List.length_drop]; omega)
      rw [List.length_drop] at ih
      rw [scan_yes h0, hd, List.length_cons]
      omega
    · rw [scan_no h0]; exact Nat.zero_le _
section
variable {H : Heap} {K : Value → Heap → Prop}
theorem recordParses_t {a0 : Option Addr} {n c0 : Nat} {l : List UInt8} (hr : RowAt H a0 (u8s l)) (hl : l.length = n) (hc : n ≤ c0) (hlim : n ≤ 1048576)
    (hk : ∀ H', Upd [] H H' → K (.bool true) H') : HCalls Try.prog 7 [.slice a0 n c0] H K := by
  refine hcalls (fn := Try.f7) [(18, [(0, 0), (1, 0), (2, 0), (3, 0), (4, 0), (5, 0), (6, 0), (7, 0), (8, 0), (9, 0)])] mixed Try.func7 rfl rfl (by decide +kernel) ?_
  subst hl
  (repeat first | refine HReg.step ?_ | refine HCode.step ?_)
  refine HCall.mk ⟨Try.f10, Try.func10, by rfl, by rfl⟩ ?_
  refine alive_t fun H1 u1 => ?_
  have hr1 := hr.upd (S := []) u1 (.inr (Off.nil _))
  (repeat first | refine HReg.step ?_ | refine HCode.step ?_)
  refine HCall.mk ⟨Try.f20, Try.func20, by rfl, by rfl⟩ ?_
  refine own_t hr1 rfl (by omega) fun a2 c2 H2 m2 => ?_
  (repeat first | refine HReg.step ?_ | refine HCode.step ?_)
  refine HReq.mk (by decide) ?_
  (repeat first | refine HReg.step ?_ | refine HCode.step ?_)
  refine HNew.mk fun b3 hb3 => ?_
  have u3 : Upd [] H2 (H2.upd b3 (.cells [Value.int .u8 165, .int .u8 166].toArray 5)) := Upd.new hb3 _
  have r3 : RowAt (H2.upd b3 (.cells [Value.int .u8 165, .int .u8 166].toArray 5)) (some ⟨b3, 0, none⟩) (u8s [165, 166]) := RowAt.of_cells (upd_same _ _ _)
  generalize hH3 : H2.upd b3 (.cells [Value.int .u8 165, .int .u8 166].toArray 5) = H3 at u3 r3
  (repeat first | refine HReg.step ?_ | refine HCode.step ?_)
  refine append_made (m2.step u3) r3 rfl (by omega) fun aF cF H4 m4 => ?_
  have hcF := m4.own.le
  have rF := m4.own.rows.take l.length
  rw [← u8s_take, List.take_append_of_le_length (Nat.le_refl _), List.take_of_length_le (Nat.le_refl _)] at rF
  (repeat first | refine HReg.step ?_ | refine HCode.step ?_)
  refine HReq.mk ⟨by omega, by omega⟩ ?_
  (repeat first | refine HReg.step ?_ | refine HCode.step ?_)
  refine HCall.mk ⟨Try.f19, Try.func19, by rfl, by rfl⟩ ?_
  refine parse_t rF rfl (by omega) (by omega) fun ap cp ak ck H5 n5 u5 => ?_
  (repeat first | refine HReg.step ?_ | refine HCode.step ?_)
  refine HNew.mk fun b4 hb4 => ?_
  (repeat first | refine HReg.step ?_ | refine HCode.step ?_)
  refine store_rec (x := (parseR l).1) (ap := ap) (cp := cp) (ak := ak) (ck := ck) (OwnRow.lit (upd_same _ _ _) rfl) rfl fun H6 o6 u6 => ?_
  have u6 : Upd [] H5 H6 := Upd.drop (Upd.new hb4 _) u6 (fun q hq => by rw [List.mem_singleton.1 hq]; exact hb4)
  have n6 := n5.upd0 u6
  have f6 := m4.own.upd (u5.trans u6) (Off.nil _)
  (repeat first | refine HReg.step ?_ | refine HCode.step ?_)
  refine HReq.mk ⟨by omega, by omega⟩ ?_
  (repeat first | refine HReg.step ?_ | refine HCode.step ?_)
  refine HCall.mk ⟨Try.f22, Try.func22, by rfl, by rfl⟩ ?_
  refine scan_t (rF.upd (S := []) (u5.trans u6) (.inr (Off.nil _))) rfl (by omega) (by omega) fun a7 c7 qs H7 o7 fr7 n7 u7 hmap => ?_
  have f7 := f6.upd u7 (Off.nil _)
  have n67 := n6.upd0 u7
  have o67 := o6.upd u7 (Off.nil _)
  have u17 : Upd [] H1 H7 := m4.upd.trans (u5.trans (u6.trans u7))
  (repeat first | refine HReg.step ?_ | refine HCode.step ?_)
  refine HCall.mk ⟨Try.f20, Try.func20, by rfl, by rfl⟩ ?_
  refine own_t (hr1.upd (S := []) u17 (.inr (Off.nil _))) rfl (by omega) fun a8 c8 H8 m8 => ?_
  (repeat first | refine HReg.step ?_ | refine HCode.step ?_)
  refine HReq.mk (by decide) ?_
  (repeat first | refine HReg.step ?_ | refine HCode.step ?_)
  refine HNew.mk fun b9 hb9 => ?_
  have u9 : Upd [] H8 (H8.upd b9 (.cells [Value.int .u8 165, .int .u8 166].toArray 5)) := Upd.new hb9 _
  have r9 : RowAt (H8.upd b9 (.cells [Value.int .u8 165, .int .u8 166].toArray 5)) (some ⟨b9, 0, none⟩) (u8s [165, 166]) := RowAt.of_cells (upd_same _ _ _)
  generalize hH9 : H8.upd b9 (.cells [Value.int .u8 165, .int .u8 166].toArray 5) = H9 at u9 r9
  (repeat first | refine HReg.step ?_ | refine HCode.step ?_)
  refine append_made (m8.step u9) r9 rfl (by omega) fun aG cG H10 m10 => ?_
  have f10 := f7.upd m10.upd (Off.nil _)
  (repeat first | refine HReg.step ?_ | refine HCode.step ?_)
  refine HCall.mk ⟨Try.f17, Try.func17, by rfl, by rfl⟩ ?_
  refine same_eq f10.rows (by rw [List.length_append]; rfl) m10.own.rows (by rw [List.length_append]; rfl) rfl ?_
  have s7 : ∀ q ∈ qs, RecNew H4 H10 q.r q.ap q.cp q.ak q.ck ∨ True := fun _ _ => .inr trivial
  have hFl : (l ++ [165, 166]).length = l.length + 2 := List.length_append
  first | refine hcutC (a := Code.seq (Code.region _ _ _) (Code.block _ _)) [10, 46, 47, 48, 49, 50, 51, 52, 53, 54] [] (PoJ aF H10) rfl (by repeat' first | exact Resp.retD | exact Resp1.valuesK | refine Resp.blockD ?_ | refine Resp.thenD ?_ ?_ | refine Resp.hcode ?_) ?_ ?_ | ((first | refine HReg.step ?_ | refine HCode.step ?_); first | refine hcutC (a := Code.seq (Code.region _ _ _) (Code.block _ _)) [10, 46, 47, 48, 49, 50, 51, 52, 53, 54] [] (PoJ aF H10) rfl (by repeat' first | exact Resp.retD | exact Resp1.valuesK | refine Resp.blockD ?_ | refine Resp.thenD ?_ ?_ | refine Resp.hcode ?_) ?_ ?_ | ((first | refine HReg.step ?_ | refine HCode.step ?_); first | refine hcutC (a := Code.seq (Code.region _ _ _) (Code.block _ _)) [10, 46, 47, 48, 49, 50, 51, 52, 53, 54] [] (PoJ aF H10) rfl (by repeat' first | exact Resp.retD | exact Resp1.valuesK | refine Resp.blockD ?_ | refine Resp.thenD ?_ ?_ | refine Resp.hcode ?_) ?_ ?_ | ((first | refine HReg.step ?_ | refine HCode.step ?_); first | refine hcutC (a := Code.seq (Code.region _ _ _) (Code.block _ _)) [10, 46, 47, 48, 49, 50, 51, 52, 53, 54] [] (PoJ aF H10) rfl (by repeat' first | exact Resp.retD | exact Resp1.valuesK | refine Resp.blockD ?_ | refine Resp.thenD ?_ ?_ | refine Resp.hcode ?_) ?_ ?_ | ((first | refine HReg.step ?_ | refine HCode.step ?_); first | refine hcutC (a := Code.seq (Code.region _ _ _) (Code.block _ _)) [10, 46, 47, 48, 49, 50, 51, 52, 53, 54] [] (PoJ aF H10) rfl (by repeat' first | exact Resp.retD | exact Resp1.valuesK | refine Resp.blockD ?_ | refine Resp.thenD ?_ ?_ | refine Resp.hcode ?_) ?_ ?_ | ((first | refine HReg.step ?_ | refine HCode.step ?_); first | refine hcutC (a := Code.seq (Code.region _ _ _) (Code.block _ _)) [10, 46, 47, 48, 49, 50, 51, 52, 53, 54] [] (PoJ aF H10) rfl (by repeat' first | exact Resp.retD | exact Resp1.valuesK | refine Resp.blockD ?_ | refine Resp.thenD ?_ ?_ | refine Resp.hcode ?_) ?_ ?_ | ((first | refine HReg.step ?_ | refine HCode.step ?_); first | refine hcutC (a := Code.seq (Code.region _ _ _) (Code.block _ _)) [10, 46, 47, 48, 49, 50, 51, 52, 53, 54] [] (PoJ aF H10) rfl (by repeat' first | exact Resp.retD | exact Resp1.valuesK | refine Resp.blockD ?_ | refine Resp.thenD ?_ ?_ | refine Resp.hcode ?_) ?_ ?_ | ((first | refine HReg.step ?_ | refine HCode.step ?_); first | refine hcutC (a := Code.seq (Code.region _ _ _) (Code.block _ _)) [10, 46, 47, 48, 49, 50, 51, 52, 53, 54] [] (PoJ aF H10) rfl (by repeat' first | exact Resp.retD | exact Resp1.valuesK | refine Resp.blockD ?_ | refine Resp.thenD ?_ ?_ | refine Resp.hcode ?_) ?_ ?_ | ((first | refine HReg.step ?_ | refine HCode.step ?_); first | refine hcutC (a := Code.seq (Code.region _ _ _) (Code.block _ _)) [10, 46, 47, 48, 49, 50, 51, 52, 53, 54] [] (PoJ aF H10) rfl (by repeat' first | exact Resp.retD | exact Resp1.valuesK | refine Resp.blockD ?_ | refine Resp.thenD ?_ ?_ | refine Resp.hcode ?_) ?_ ?_ | ((first | refine HReg.step ?_ | refine HCode.step ?_); first | refine hcutC (a := Code.seq (Code.region _ _ _) (Code.block _ _)) [10, 46, 47, 48, 49, 50, 51, 52, 53, 54] [] (PoJ aF H10) rfl (by repeat' first | exact Resp.retD | exact Resp1.valuesK | refine Resp.blockD ?_ | refine Resp.thenD ?_ ?_ | refine Resp.hcode ?_) ?_ ?_ | ((first | refine HReg.step ?_ | refine HCode.step ?_); first | refine hcutC (a := Code.seq (Code.region _ _ _) (Code.block _ _)) [10, 46, 47, 48, 49, 50, 51, 52, 53, 54] [] (PoJ aF H10) rfl (by repeat' first | exact Resp.retD | exact Resp1.valuesK | refine Resp.blockD ?_ | refine Resp.thenD ?_ ?_ | refine Resp.hcode ?_) ?_ ?_ | ((first | refine HReg.step ?_ | refine HCode.step ?_); first | refine hcutC (a := Code.seq (Code.region _ _ _) (Code.block _ _)) [10, 46, 47, 48, 49, 50, 51, 52, 53, 54] [] (PoJ aF H10) rfl (by repeat' first | exact Resp.retD | exact Resp1.valuesK | refine Resp.blockD ?_ | refine Resp.thenD ?_ ?_ | refine Resp.hcode ?_) ?_ ?_ | ((first | refine HReg.step ?_ | refine HCode.step ?_); first | refine hcutC (a := Code.seq (Code.region _ _ _) (Code.block _ _)) [10, 46, 47, 48, 49, 50, 51, 52, 53, 54] [] (PoJ aF H10) rfl (by repeat' first | exact Resp.retD | exact Resp1.valuesK | refine Resp.blockD ?_ | refine Resp.thenD ?_ ?_ | refine Resp.hcode ?_) ?_ ?_ | ((first | refine HReg.step ?_ | refine HCode.step ?_); first | refine hcutC (a := Code.seq (Code.region _ _ _) (Code.block _ _)) [10, 46, 47, 48, 49, 50, 51, 52, 53, 54] [] (PoJ aF H10) rfl (by repeat' first | exact Resp.retD | exact Resp1.valuesK | refine Resp.blockD ?_ | refine Resp.thenD ?_ ?_ | refine Resp.hcode ?_) ?_ ?_ | ((first | refine HReg.step ?_ | refine HCode.step ?_); first | refine hcutC (a := Code.seq (Code.region _ _ _) (Code.block _ _)) [10, 46, 47, 48, 49, 50, 51, 52, 53, 54] [] (PoJ aF H10) rfl (by repeat' first | exact Resp.retD | exact Resp1.valuesK | refine Resp.blockD ?_ | refine Resp.thenD ?_ ?_ | refine Resp.hcode ?_) ?_ ?_ | ((first | refine HReg.step ?_ | refine HCode.step ?_); first | refine hcutC (a := Code.seq (Code.region _ _ _) (Code.block _ _)) [10, 46, 47, 48, 49, 50, 51, 52, 53, 54] [] (PoJ aF H10) rfl (by repeat' first | exact Resp.retD | exact Resp1.valuesK | refine Resp.blockD ?_ | refine Resp.thenD ?_ ?_ | refine Resp.hcode ?_) ?_ ?_ | ((first | refine HReg.step ?_ | refine HCode.step ?_); first | refine hcutC (a := Code.seq (Code.region _ _ _) (Code.block _ _)) [10, 46, 47, 48, 49, 50, 51, 52, 53, 54] [] (PoJ aF H10) rfl (by repeat' first | exact Resp.retD | exact Resp1.valuesK | refine Resp.blockD ?_ | refine Resp.thenD ?_ ?_ | refine Resp.hcode ?_) ?_ ?_ | ((first | refine HReg.step ?_ | refine HCode.step ?_); first | refine hcutC (a := Code.seq (Code.region _ _ _) (Code.block _ _)) [10, 46, 47, 48, 49, 50, 51, 52, 53, 54] [] (PoJ aF H10) rfl (by repeat' first | exact Resp.retD | exact Resp1.valuesK | refine Resp.blockD ?_ | refine Resp.thenD ?_ ?_ | refine Resp.hcode ?_) ?_ ?_ | ((first | refine HReg.step ?_ | refine HCode.step ?_); first | refine hcutC (a := Code.seq (Code.region _ _ _) (Code.block _ _)) [10, 46, 47, 48, 49, 50, 51, 52, 53, 54] [] (PoJ aF H10) rfl (by repeat' first | exact Resp.retD | exact Resp1.valuesK | refine Resp.blockD ?_ | refine Resp.thenD ?_ ?_ | refine Resp.hcode ?_) ?_ ?_ | ((first | refine HReg.step ?_ | refine HCode.step ?_); first | refine hcutC (a := Code.seq (Code.region _ _ _) (Code.block _ _)) [10, 46, 47, 48, 49, 50, 51, 52, 53, 54] [] (PoJ aF H10) rfl (by repeat' first | exact Resp.retD | exact Resp1.valuesK | refine Resp.blockD ?_ | refine Resp.thenD ?_ ?_ | refine Resp.hcode ?_) ?_ ?_ | ((first | refine HReg.step ?_ | refine HCode.step ?_); first | refine hcutC (a := Code.seq (Code.region _ _ _) (Code.block _ _)) [10, 46, 47, 48, 49, 50, 51, 52, 53, 54] [] (PoJ aF H10) rfl (by repeat' first | exact Resp.retD | exact Resp1.valuesK | refine Resp.blockD ?_ | refine Resp.thenD ?_ ?_ | refine Resp.hcode ?_) ?_ ?_ | ((first | refine HReg.step ?_ | refine HCode.step ?_); first | refine hcutC (a := Code.seq (Code.region _ _ _) (Code.block _ _)) [10, 46, 47, 48, 49, 50, 51, 52, 53, 54] [] (PoJ aF H10) rfl (by repeat' first | exact Resp.retD | exact Resp1.valuesK | refine Resp.blockD ?_ | refine Resp.thenD ?_ ?_ | refine Resp.hcode ?_) ?_ ?_ | ((first | refine HReg.step ?_ | refine HCode.step ?_); first | refine hcutC (a := Code.seq (Code.region _ _ _) (Code.block _ _)) [10, 46, 47, 48, 49, 50, 51, 52, 53, 54] [] (PoJ aF H10) rfl (by repeat' first | exact Resp.retD | exact Resp1.valuesK | refine Resp.blockD ?_ | refine Resp.thenD ?_ ?_ | refine Resp.hcode ?_) ?_ ?_ | ((first | refine HReg.step ?_ | refine HCode.step ?_); first | refine hcutC (a := Code.seq (Code.region _ _ _) (Code.block _ _)) [10, 46, 47, 48, 49, 50, 51, 52, 53, 54] [] (PoJ aF H10) rfl (by repeat' first | exact Resp.retD | exact Resp1.valuesK | refine Resp.blockD ?_ | refine Resp.thenD ?_ ?_ | refine Resp.hcode ?_) ?_ ?_ | ((first | refine HReg.step ?_ | refine HCode.step ?_); first | refine hcutC (a := Code.seq (Code.region _ _ _) (Code.block _ _)) [10, 46, 47, 48, 49, 50, 51, 52, 53, 54] [] (PoJ aF H10) rfl (by repeat' first | exact Resp.retD | exact Resp1.valuesK | refine Resp.blockD ?_ | refine Resp.thenD ?_ ?_ | refine Resp.hcode ?_) ?_ ?_ | ((first | refine HReg.step ?_ | refine HCode.step ?_); first | refine hcutC (a := Code.seq (Code.region _ _ _) (Code.block _ _)) [10, 46, 47, 48, 49, 50, 51, 52, 53, 54] [] (PoJ aF H10) rfl (by repeat' first | exact Resp.retD | exact Resp1.valuesK | refine Resp.blockD ?_ | refine Resp.thenD ?_ ?_ | refine Resp.hcode ?_) ?_ ?_ | ((first | refine HReg.step ?_ | refine HCode.step ?_); first | refine hcutC (a := Code.seq (Code.region _ _ _) (Code.block _ _)) [10, 46, 47, 48, 49, 50, 51, 52, 53, 54] [] (PoJ aF H10) rfl (by repeat' first | exact Resp.retD | exact Resp1.valuesK | refine Resp.blockD ?_ | refine Resp.thenD ?_ ?_ | refine Resp.hcode ?_) ?_ ?_ | ((first | refine HReg.step ?_ | refine HCode.step ?_); first | refine hcutC (a := Code.seq (Code.region _ _ _) (Code.block _ _)) [10, 46, 47, 48, 49, 50, 51, 52, 53, 54] [] (PoJ aF H10) rfl (by repeat' first | exact Resp.retD | exact Resp1.valuesK | refine Resp.blockD ?_ | refine Resp.thenD ?_ ?_ | refine Resp.hcode ?_) ?_ ?_ | ((first | refine HReg.step ?_ | refine HCode.step ?_); first | refine hcutC (a := Code.seq (Code.region _ _ _) (Code.block _ _)) [10, 46, 47, 48, 49, 50, 51, 52, 53, 54] [] (PoJ aF H10) rfl (by repeat' first | exact Resp.retD | exact Resp1.valuesK | refine Resp.blockD ?_ | refine Resp.thenD ?_ ?_ | refine Resp.hcode ?_) ?_ ?_ | ((first | refine HReg.step ?_ | refine HCode.step ?_); first | refine hcutC (a := Code.seq (Code.region _ _ _) (Code.block _ _)) [10, 46, 47, 48, 49, 50, 51, 52, 53, 54] [] (PoJ aF H10) rfl (by repeat' first | exact Resp.retD | exact Resp1.valuesK | refine Resp.blockD ?_ | refine Resp.thenD ?_ ?_ | refine Resp.hcode ?_) ?_ ?_ | ((first | refine HReg.step ?_ | refine HCode.step ?_); first | refine hcutC (a := Code.seq (Code.region _ _ _) (Code.block _ _)) [10, 46, 47, 48, 49, 50, 51, 52, 53, 54] [] (PoJ aF H10) rfl (by repeat' first | exact Resp.retD | exact Resp1.valuesK | refine Resp.blockD ?_ | refine Resp.thenD ?_ ?_ | refine Resp.hcode ?_) ?_ ?_ | ((first | refine HReg.step ?_ | refine HCode.step ?_); first | refine hcutC (a := Code.seq (Code.region _ _ _) (Code.block _ _)) [10, 46, 47, 48, 49, 50, 51, 52, 53, 54] [] (PoJ aF H10) rfl (by repeat' first | exact Resp.retD | exact Resp1.valuesK | refine Resp.blockD ?_ | refine Resp.thenD ?_ ?_ | refine Resp.hcode ?_) ?_ ?_ | ((first | refine HReg.step ?_ | refine HCode.step ?_); first | refine hcutC (a := Code.seq (Code.region _ _ _) (Code.block _ _)) [10, 46, 47, 48, 49, 50, 51, 52, 53, 54] [] (PoJ aF H10) rfl (by repeat' first | exact Resp.retD | exact Resp1.valuesK | refine Resp.blockD ?_ | refine Resp.thenD ?_ ?_ | refine Resp.hcode ?_) ?_ ?_ | ((first | refine HReg.step ?_ | refine HCode.step ?_); first | refine hcutC (a := Code.seq (Code.region _ _ _) (Code.block _ _)) [10, 46, 47, 48, 49, 50, 51, 52, 53, 54] [] (PoJ aF H10) rfl (by repeat' first | exact Resp.retD | exact Resp1.valuesK | refine Resp.blockD ?_ | refine Resp.thenD ?_ ?_ | refine Resp.hcode ?_) ?_ ?_ | ((first | refine HReg.step ?_ | refine HCode.step ?_); first | refine hcutC (a := Code.seq (Code.region _ _ _) (Code.block _ _)) [10, 46, 47, 48, 49, 50, 51, 52, 53, 54] [] (PoJ aF H10) rfl (by repeat' first | exact Resp.retD | exact Resp1.valuesK | refine Resp.blockD ?_ | refine Resp.thenD ?_ ?_ | refine Resp.hcode ?_) ?_ ?_ | ((first | refine HReg.step ?_ | refine HCode.step ?_); first | refine hcutC (a := Code.seq (Code.region _ _ _) (Code.block _ _)) [10, 46, 47, 48, 49, 50, 51, 52, 53, 54] [] (PoJ aF H10) rfl (by repeat' first | exact Resp.retD | exact Resp1.valuesK | refine Resp.blockD ?_ | refine Resp.thenD ?_ ?_ | refine Resp.hcode ?_) ?_ ?_ | ((first | refine HReg.step ?_ | refine HCode.step ?_); first | refine hcutC (a := Code.seq (Code.region _ _ _) (Code.block _ _)) [10, 46, 47, 48, 49, 50, 51, 52, 53, 54] [] (PoJ aF H10) rfl (by repeat' first | exact Resp.retD | exact Resp1.valuesK | refine Resp.blockD ?_ | refine Resp.thenD ?_ ?_ | refine Resp.hcode ?_) ?_ ?_ | ((first | refine HReg.step ?_ | refine HCode.step ?_); first | refine hcutC (a := Code.seq (Code.region _ _ _) (Code.block _ _)) [10, 46, 47, 48, 49, 50, 51, 52, 53, 54] [] (PoJ aF H10) rfl (by repeat' first | exact Resp.retD | exact Resp1.valuesK | refine Resp.blockD ?_ | refine Resp.thenD ?_ ?_ | refine Resp.hcode ?_) ?_ ?_ | ((first | refine HReg.step ?_ | refine HCode.step ?_); first | refine hcutC (a := Code.seq (Code.region _ _ _) (Code.block _ _)) [10, 46, 47, 48, 49, 50, 51, 52, 53, 54] [] (PoJ aF H10) rfl (by repeat' first | exact Resp.retD | exact Resp1.valuesK | refine Resp.blockD ?_ | refine Resp.thenD ?_ ?_ | refine Resp.hcode ?_) ?_ ?_ | ((first | refine HReg.step ?_ | refine HCode.step ?_); first | refine hcutC (a := Code.seq (Code.region _ _ _) (Code.block _ _)) [10, 46, 47, 48, 49, 50, 51, 52, 53, 54] [] (PoJ aF H10) rfl (by repeat' first | exact Resp.retD | exact Resp1.valuesK | refine Resp.blockD ?_ | refine Resp.thenD ?_ ?_ | refine Resp.hcode ?_) ?_ ?_ | ((first | refine HReg.step ?_ | refine HCode.step ?_); first | refine hcutC (a := Code.seq (Code.region _ _ _) (Code.block _ _)) [10, 46, 47, 48, 49, 50, 51, 52, 53, 54] [] (PoJ aF H10) rfl (by repeat' first | exact Resp.retD | exact Resp1.valuesK | refine Resp.blockD ?_ | refine Resp.thenD ?_ ?_ | refine Resp.hcode ?_) ?_ ?_ | ((first | refine HReg.step ?_ | refine HCode.step ?_); first | refine hcutC (a := Code.seq (Code.region _ _ _) (Code.block _ _)) [10, 46, 47, 48, 49, 50, 51, 52, 53, 54] [] (PoJ aF H10) rfl (by repeat' first | exact Resp.retD | exact Resp1.valuesK | refine Resp.blockD ?_ | refine Resp.thenD ?_ ?_ | refine Resp.hcode ?_) ?_ ?_ | ((first | refine HReg.step ?_ | refine HCode.step ?_); first | refine hcutC (a := Code.seq (Code.region _ _ _) (Code.block _ _)) [10, 46, 47, 48, 49, 50, 51, 52, 53, 54] [] (PoJ aF H10) rfl (by repeat' first | exact Resp.retD | exact Resp1.valuesK | refine Resp.blockD ?_ | refine Resp.thenD ?_ ?_ | refine Resp.hcode ?_) ?_ ?_ | ((first | refine HReg.step ?_ | refine HCode.step ?_); first | refine hcutC (a := Code.seq (Code.region _ _ _) (Code.block _ _)) [10, 46, 47, 48, 49, 50, 51, 52, 53, 54] [] (PoJ aF H10) rfl (by repeat' first | exact Resp.retD | exact Resp1.valuesK | refine Resp.blockD ?_ | refine Resp.thenD ?_ ?_ | refine Resp.hcode ?_) ?_ ?_ | ((first | refine HReg.step ?_ | refine HCode.step ?_); first | refine hcutC (a := Code.seq (Code.region _ _ _) (Code.block _ _)) [10, 46, 47, 48, 49, 50, 51, 52, 53, 54] [] (PoJ aF H10) rfl (by repeat' first | exact Resp.retD | exact Resp1.valuesK | refine Resp.blockD ?_ | refine Resp.thenD ?_ ?_ | refine Resp.hcode ?_) ?_ ?_ | ((first | refine HReg.step ?_ | refine HCode.step ?_); first | refine hcutC (a := Code.seq (Code.region _ _ _) (Code.block _ _)) [10, 46, 47, 48, 49, 50, 51, 52, 53, 54] [] (PoJ aF H10) rfl (by repeat' first | exact Resp.retD | exact Resp1.valuesK | refine Resp.blockD ?_ | refine Resp.thenD ?_ ?_ | refine Resp.hcode ?_) ?_ ?_ | ((first | refine HReg.step ?_ | refine HCode.step ?_); first | refine hcutC (a := Code.seq (Code.region _ _ _) (Code.block _ _)) [10, 46, 47, 48, 49, 50, 51, 52, 53, 54] [] (PoJ aF H10) rfl (by repeat' first | exact Resp.retD | exact Resp1.valuesK | refine Resp.blockD ?_ | refine Resp.thenD ?_ ?_ | refine Resp.hcode ?_) ?_ ?_ | ((first | refine HReg.step ?_ | refine HCode.step ?_); first | refine hcutC (a := Code.seq (Code.region _ _ _) (Code.block _ _)) [10, 46, 47, 48, 49, 50, 51, 52, 53, 54] [] (PoJ aF H10) rfl (by repeat' first | exact Resp.retD | exact Resp1.valuesK | refine Resp.blockD ?_ | refine Resp.thenD ?_ ?_ | refine Resp.hcode ?_) ?_ ?_ | ((first | refine HReg.step ?_ | refine HCode.step ?_); first | refine hcutC (a := Code.seq (Code.region _ _ _) (Code.block _ _)) [10, 46, 47, 48, 49, 50, 51, 52, 53, 54] [] (PoJ aF H10) rfl (by repeat' first | exact Resp.retD | exact Resp1.valuesK | refine Resp.blockD ?_ | refine Resp.thenD ?_ ?_ | refine Resp.hcode ?_) ?_ ?_ | ((first | refine HReg.step ?_ | refine HCode.step ?_); first | refine hcutC (a := Code.seq (Code.region _ _ _) (Code.block _ _)) [10, 46, 47, 48, 49, 50, 51, 52, 53, 54] [] (PoJ aF H10) rfl (by repeat' first | exact Resp.retD | exact Resp1.valuesK | refine Resp.blockD ?_ | refine Resp.thenD ?_ ?_ | refine Resp.hcode ?_) ?_ ?_ | ((first | refine HReg.step ?_ | refine HCode.step ?_); first | refine hcutC (a := Code.seq (Code.region _ _ _) (Code.block _ _)) [10, 46, 47, 48, 49, 50, 51, 52, 53, 54] [] (PoJ aF H10) rfl (by repeat' first | exact Resp.retD | exact Resp1.valuesK | refine Resp.blockD ?_ | refine Resp.thenD ?_ ?_ | refine Resp.hcode ?_) ?_ ?_ | ((first | refine HReg.step ?_ | refine HCode.step ?_); first | refine hcutC (a := Code.seq (Code.region _ _ _) (Code.block _ _)) [10, 46, 47, 48, 49, 50, 51, 52, 53, 54] [] (PoJ aF H10) rfl (by repeat' first | exact Resp.retD | exact Resp1.valuesK | refine Resp.blockD ?_ | refine Resp.thenD ?_ ?_ | refine Resp.hcode ?_) ?_ ?_ | ((first | refine HReg.step ?_ | refine HCode.step ?_); first | refine hcutC (a := Code.seq (Code.region _ _ _) (Code.block _ _)) [10, 46, 47, 48, 49, 50, 51, 52, 53, 54] [] (PoJ aF H10) rfl (by repeat' first | exact Resp.retD | exact Resp1.valuesK | refine Resp.blockD ?_ | refine Resp.thenD ?_ ?_ | refine Resp.hcode ?_) ?_ ?_ | ((first | refine HReg.step ?_ | refine HCode.step ?_); first | refine hcutC (a := Code.seq (Code.region _ _ _) (Code.block _ _)) [10, 46, 47, 48, 49, 50, 51, 52, 53, 54] [] (PoJ aF H10) rfl (by repeat' first | exact Resp.retD | exact Resp1.valuesK | refine Resp.blockD ?_ | refine Resp.thenD ?_ ?_ | refine Resp.hcode ?_) ?_ ?_ | ((first | refine HReg.step ?_ | refine HCode.step ?_); first | refine hcutC (a := Code.seq (Code.region _ _ _) (Code.block _ _)) [10, 46, 47, 48, 49, 50, 51, 52, 53, 54] [] (PoJ aF H10) rfl (by repeat' first | exact Resp.retD | exact Resp1.valuesK | refine Resp.blockD ?_ | refine Resp.thenD ?_ ?_ | refine Resp.hcode ?_) ?_ ?_ | ((first | refine HReg.step ?_ | refine HCode.step ?_); first | refine hcutC (a := Code.seq (Code.region _ _ _) (Code.block _ _)) [10, 46, 47, 48, 49, 50, 51, 52, 53, 54] [] (PoJ aF H10) rfl (by repeat' first | exact Resp.retD | exact Resp1.valuesK | refine Resp.blockD ?_ | refine Resp.thenD ?_ ?_ | refine Resp.hcode ?_) ?_ ?_ | ((first | refine HReg.step ?_ | refine HCode.step ?_); first | refine hcutC (a := Code.seq (Code.region _ _ _) (Code.block _ _)) [10, 46, 47, 48, 49, 50, 51, 52, 53, 54] [] (PoJ aF H10) rfl (by repeat' first | exact Resp.retD | exact Resp1.valuesK | refine Resp.blockD ?_ | refine Resp.thenD ?_ ?_ | refine Resp.hcode ?_) ?_ ?_ | ((first | refine HReg.step ?_ | refine HCode.step ?_); first | refine hcutC (a := Code.seq (Code.region _ _ _) (Code.block _ _)) [10, 46, 47, 48, 49, 50, 51, 52, 53, 54] [] (PoJ aF H10) rfl (by repeat' first | exact Resp.retD | exact Resp1.valuesK | refine Resp.blockD ?_ | refine Resp.thenD ?_ ?_ | refine Resp.hcode ?_) ?_ ?_ | ((first | refine HReg.step ?_ | refine HCode.step ?_); first | refine hcutC (a := Code.seq (Code.region _ _ _) (Code.block _ _)) [10, 46, 47, 48, 49, 50, 51, 52, 53, 54] [] (PoJ aF H10) rfl (by repeat' first | exact Resp.retD | exact Resp1.valuesK | refine Resp.blockD ?_ | refine Resp.thenD ?_ ?_ | refine Resp.hcode ?_) ?_ ?_ | ((first | refine HReg.step ?_ | refine HCode.step ?_); first | refine hcutC (a := Code.seq (Code.region _ _ _) (Code.block _ _)) [10, 46, 47, 48, 49, 50, 51, 52, 53, 54] [] (PoJ aF H10) rfl (by repeat' first | exact Resp.retD | exact Resp1.valuesK | refine Resp.blockD ?_ | refine Resp.thenD ?_ ?_ | refine Resp.hcode ?_) ?_ ?_ | ((first | refine HReg.step ?_ | refine HCode.step ?_); refine hcutC (a := Code.seq (Code.region _ _ _) (Code.block _ _)) [10, 46, 47, 48, 49, 50, 51, 52, 53, 54] [] (PoJ aF H10) rfl (by repeat' first | exact Resp.retD | exact Resp1.valuesK | refine Resp.blockD ?_ | refine Resp.thenD ?_ ?_ | refine Resp.hcode ?_) ?_ ?_))))))))))))))))))))))))))))))))))))))))))))))))))))))))))))
  · (repeat first | refine HReg.step ?_ | refine HCode.step ?_)
    refine hloopC [10, 46, 47, 48, 49, 50, 51, 52, 53, 54] [10] (PoInv (l.length + 2) aF cF H10) rfl (by repeat' first | exact Resp.retD | exact Resp1.valuesK | refine Resp.blockD ?_ | refine Resp.thenD ?_ ?_ | refine Resp.hcode ?_) ?_ ?_
    · exact ⟨l.length + 2, PoInv.mk ⟨0, _, rfl, rfl, f10, Upd.refl _ _⟩⟩
    rintro m _ fe H11 ⟨i, X, rfl, hmi, oX, uX⟩
    have wi : wr .i64 ((i : Int) + 1) = ((i + 1 : Nat) : Int) := by rw [wr_i64 (by omega) (by omega)]; omega
    (repeat first | refine HReg.step ?_ | refine HCode.step ?_)
    refine hif (fun h1 => ?_) (fun h1 => ?_)
    · have h1 := ltB_true.1 h1
      obtain ⟨gF, rfl⟩ := oX.addr (by omega)
      (repeat first | refine HReg.step ?_ | refine HCode.step ?_)
      refine HReq.mk ⟨by omega, by omega⟩ ?_
      (repeat first | refine HReg.step ?_ | refine HCode.step ?_)
      refine store_row oX (v := .int .u8 238) rfl (i := i) (by omega) (by show 0 + i + 0 = i; omega) fun H12 o12 u12 => ?_
      (repeat first | refine HReg.step ?_ | refine HCode.step ?_)
      rw [wi]
      exact ⟨m - 1, by omega, PoInv.mk ⟨i + 1, _, rfl, by omega, o12, uX.trans u12⟩⟩
    · (repeat first | refine HReg.step ?_ | refine HCode.step ?_)
      exact PoJ.mk ⟨rfl, uX⟩
  rintro _ fe1 H11 ⟨rfl, u11⟩
  have f10' : OwnRow H10 5 1 aF (l.length + 2) cF (u8s (l ++ [165, 166])) := f10
  have nF : ∀ b ∈ blk aF, H1 b = none := fun b hb => by obtain ⟨q, hq, rfl⟩ := blk_of hb; exact m4.new q hq
  have u1b : Upd [] H1 H11 := Upd.drop (u17.trans m10.upd) u11 nF
  have u0b : Upd [] H H11 := u1.trans u1b
  have x11 := (n67.upd0 m10.upd).keep f10' u11 (by decide) (by decide)
  have o611 := (o67.upd m10.upd (Off.nil _)).upd u11 (f10'.offT (o67.upd m10.upd (Off.nil _)) (by decide))
  have o711 := (o7.upd m10.upd (Off.nil _)).upd u11 (f10'.offT (o7.upd m10.upd (Off.nil _)) (by decide))
  have q11 : ∀ q ∈ qs, RecIn H11 q.r q.ap q.ak := fun q hq => (((n7.each q hq).upd0 m10.upd).keep f10' u11 (by decide) (by decide)).recIn
  have hr11 := hr.upd (S := []) u0b (.inr (Off.nil _))
  (repeat first | refine HReg.step ?_ | refine HCode.step ?_)
  refine HCall.mk ⟨Try.f23, Try.func23, by rfl, by rfl⟩ ?_
  refine rparse_t hr11 rfl hc (by omega) fun bp dp bk dk H12 n12 u12 => ?_
  (repeat first | refine HReg.step ?_ | refine HCode.step ?_)
  refine HNew.mk fun b13 hb13 => ?_
  (repeat first | refine HReg.step ?_ | refine HCode.step ?_)
  refine store_rec (x := (parseR l).1) (ap := bp) (cp := dp) (ak := bk) (ck := dk) (OwnRow.lit (upd_same _ _ _) rfl) rfl fun H13 o13 u13 => ?_
  have u13 : Upd [] H12 H13 := Upd.drop (Upd.new hb13 _) u13 (fun q hq => by rw [List.mem_singleton.1 hq]; exact hb13)
  (repeat first | refine HReg.step ?_ | refine HCode.step ?_)
  refine HCall.mk ⟨Try.f24, Try.func24, by rfl, by rfl⟩ ?_
  refine rscan_t (hr11.upd (S := []) (u12.trans u13) (.inr (Off.nil _))) rfl hc (by omega) fun aR cR ts H14 o14 t14 u14 htm => ?_
  have hqb : qs.length ≤ l.length := by
    have h1 := congrArg List.length hmap
    rw [List.length_map] at h1
    have := scan_len l.length l (Nat.le_refl _)
    omega
  have hlen : qs.length = ts.length := by
    have := congrArg List.length (hmap.trans htm.symm)
    rw [List.length_map, List.length_map] at this; exact this
  have u1114 : Upd [] H11 H14 := u12.trans (u13.trans u14)
  have o614 := o611.upd u1114 (Off.nil _)
  have o1314 := o13.upd u14 (Off.nil _)
  (repeat first | refine HReg.step ?_ | refine HCode.step ?_)
  refine HLoadN_row o614.rows rfl ?_
  (repeat first | refine HReg.step ?_ | refine HCode.step ?_)
  refine HLoadN_row o1314.rows rfl ?_
  (repeat first | refine HReg.step ?_ | refine HCode.step ?_)
  refine HCall.mk ⟨Try.f21, Try.func21, by rfl, by rfl⟩ ?_
  refine sameR_t (r := (parseR l).1) (x11.recIn.upd0 u1114) (n12.recIn.upd0 (u13.trans u14)) fun H15 u15 => ?_
  rw [← hlen]
  (repeat first | refine HReg.step ?_ | refine HCode.step ?_)
  rw [eqB_self ((parseR l).2.1 : Int)]
  (repeat first | refine HReg.step ?_ | refine HCode.step ?_)
  rw [eqB_self (parseR l).2.2]
  (repeat first | refine HReg.step ?_ | refine HCode.step ?_)
  rw [eqB_self (qs.length : Int)]
  (repeat first | refine HReg.step ?_ | refine HCode.step ?_)
  rw [eqB_self ((scanR l).2 : Int)]
  (repeat first | refine HReg.step ?_ | refine HCode.step ?_)
  refine hloopC [2, 16, 96, 97, 98, 99, 100, 101, 102, 103, 104, 105, 106, 107, 108, 109, 110, 111] [16] (TsInv qs.length H15) rfl (by repeat' first | exact Resp.retD | exact Resp1.valuesK | refine Resp.blockD ?_ | refine Resp.thenD ?_ ?_ | refine Resp.hcode ?_) ?_ ?_
  · exact ⟨qs.length, TsInv.mk ⟨0, rfl, rfl, Upd.refl _ _⟩⟩
  rintro m _ fe H16 ⟨i, rfl, hmi, u16⟩
  have ul : Upd [] H14 H16 := u15.trans u16
  have u1116 := u1114.trans ul
  (repeat first | refine HReg.step ?_ | refine HCode.step ?_)
  refine hif (fun h1 => ?_) (fun h1 => ?_)
  · have h1 := ltB_true.1 h1
    obtain ⟨g, hg⟩ : ∃ q, qs[i]? = some q := ⟨qs[i]'(by omega), by simp⟩
    obtain ⟨q, hq⟩ : ∃ q, ts[i]? = some q := ⟨ts[i]'(by omega), by simp⟩
    have hgq : g.r = q.r := by
      have e : (qs.map PRec.r)[i]? = (ts.map PRec.r)[i]? := by rw [hmap, htm]
      rw [List.getElem?_map, hg, List.getElem?_map, hq] at e
      exact Option.some.inj e
    have oq := o711.upd u1116 (Off.nil _)
    have ot := o14.upd ul (Off.nil _)
    have rg := (q11 g (List.mem_of_getElem? hg)).upd0 u1116
    have rq := ((t14 q (List.mem_of_getElem? hq)).upd0 ul).recIn
    obtain ⟨b5, ob5, rfl, _⟩ := oq.rows _ _ (recsV_get hg 0 _ rfl)
    obtain ⟨bq, obq, rfl, _⟩ := ot.rows _ _ (recsV_get hq 0 _ rfl)
    have wi : wr .i64 ((i : Int) + 1) = ((i + 1 : Nat) : Int) := by rw [wr_i64 (by omega) (by omega)]; omega
    (repeat first | refine HReg.step ?_ | refine HCode.step ?_)
    refine HReq.mk ⟨by omega, by omega⟩ ?_
    (repeat first | refine HReg.step ?_ | refine HCode.step ?_)
    refine HLoadN_rec oq.rows hg ?_
    (repeat first | refine HReg.step ?_ | refine HCode.step ?_)
    refine HReq.mk ⟨by omega, by omega⟩ ?_
    (repeat first | refine HReg.step ?_ | refine HCode.step ?_)
    refine HLoadN_rec ot.rows hq ?_
    (repeat first | refine HReg.step ?_ | refine HCode.step ?_)
    refine HCall.mk ⟨Try.f21, Try.func21, by rfl, by rfl⟩ ?_
    have hgc : g.cells = rcells q.r g.ap g.cp g.ak g.ck := by unfold PRec.cells; rw [hgq]
    rw [hgc]
    rw [hgq] at rg
    refine sameR_t (r := q.r) rg rq fun H17 u17' => ?_
    (repeat first | refine HReg.step ?_ | refine HCode.step ?_)
    rw [wi]
    exact ⟨m - 1, by omega, TsInv.mk ⟨i + 1, rfl, by omega, u16.trans u17'⟩⟩
  · (repeat first | refine HReg.step ?_ | refine HCode.step ?_)
    exact hk H16 (u0b.trans u1116)
end
end Go.Proofs.Ytokfmkfobjkkpaa
