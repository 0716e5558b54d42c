import Derived.Test.YtocejipjnklieaaP1
namespace Go.Proofs.Ytocejipjnklieaa
open Go Hv
set_option linter.unusedVariables false
set_option linter.unusedSimpArgs false
set_option maxRecDepth 10000
set_option maxHeartbeats 4000000
section
variable {H1 H : Heap} {g r : Nat} {s : St} {fl : List Fl} {K : Value → Heap → Prop}
theorem DiskAt.base (D : DiskAt H1 H g r s fl) : Upd [] H1 H := D.phys.grp.upd
theorem keep_row {a : Option Addr} {xs : List Value} (D : DiskAt H1 H g r s fl) (h : RowAt H1 a xs) : RowAt H a xs := h.upd (S := []) D.base (.inr (Off.nil _))
theorem read_f {n : ByteArray} (D : DiskAt H1 H g r s fl)
    (hk : ∀ a c fl' H2 H', DiskAt H1 H2 g r s.call fl' → Stp H H2 g r fl fl' → Made H2 H' 5 1 a (s.readF n).2.length c (u8s (s.readF n).2) → K (.tuple #[.slice a (s.readF n).2.length c, .int .i64 (s.readF n).1]) H') :
    HCalls Try.prog 18 [.pointer (some ⟨g, 0, none⟩), .string n] H K := by
  refine read_t D (fun e fl' H' D' st h => ?_) (fun x y a c fl' H2 H' ho hget D' st m => ?_)
  · have : s.readF n = (e, []) := by
      unfold St.readF
      rcases h with ⟨h, rfl⟩ | ⟨h, hn, rfl⟩
      · rw [if_pos h]
      · rw [if_neg (by rw [h]; simp), hn]
    rw [this] at hk
    exact hk none 0 fl' H' H' D' st ⟨OwnRow.nil _ _ _, Upd.refl _ _, fun p hp => by cases hp⟩
  · have : s.readF n = (0, x) := by
      unfold St.readF
      rw [if_neg (by rw [ho]; simp), hget]
    rw [this] at hk
    exact hk a c fl' H2 H' D' st m
end
theorem begins_t {a b : Option Addr} {n m c d : Nat} {x y : List UInt8} {H : Heap} {K : Value → Heap → Prop} (hx : RowAt H a (u8s x)) (hn : x.length = n) (hy : RowAt H b (u8s y)) (hm : y.length = m) (hmd : m ≤ d)
    (hk : K (.bool (decide (x <+: y))) H) : HCalls Try.prog 20 [.slice a n c, .slice b m d] H K := by
  refine hcalls (fn := Try.f20) [] mixed Try.func20 rfl rfl rfl ?_
  (repeat first | refine HReg.step ?_ | refine HCode.step ?_)
  refine hif (fun h => ?_) (fun h => ?_)
  · have h := not_ltB_true.1 h
    (repeat first | refine HReg.step ?_ | refine HCode.step ?_)
    refine HReq.mk ⟨by omega, by omega⟩ ?_
    (repeat first | refine HReg.step ?_ | refine HCode.step ?_)
    refine HCall.mk ⟨Try.f19, Try.func19, by rfl, by rfl⟩ ?_
    refine same_t (y := y.take n) hx hn (by have := hy.take n; unfold u8s at this ⊢; rw [List.map_take]; exact this) (by rw [List.length_take]; omega) ?_
    have e : decide (x = y.take n) = decide (x <+: y) := by
      rw [decide_eq_decide, List.prefix_iff_eq_take, hn]
    rw [e]
    (repeat first | refine HReg.step ?_ | refine HCode.step ?_)
    exact hk
  · have h := not_ltB_false.1 h
    have e : decide (x <+: y) = false := decide_eq_false fun hp => by
      have := hp.length_le; omega
    rw [e] at hk
    (repeat first | refine HReg.step ?_ | refine HCode.step ?_)
    exact hk
theorem swaps_t {H : Heap} {K : Value → Heap → Prop} {a0 a1 : Option Addr} {n0 c0 n1 c1 : Nat} {old fresh : List UInt8} {n keep parts : Int} (ho : RowAt H a0 (u8s old)) (hn0 : old.length = n0) (hl0 : n0 ≤ 140737488351232) (hf : RowAt H a1 (u8s fresh)) (hn1 : fresh.length = n1) (hc1 : n1 ≤ c1) (hl1 : n1 ≤ 140737488351232)
    (hk : ∀ H', Upd [] H H' → K (.bool true) H') : HCalls Try.prog 3 [.slice a0 n0 c0, .slice a1 n1 c1, .int .i64 n, .int .i64 keep, .int .i64 parts] H K := by
  refine hcalls (fn := Try.f3) [] mixed Try.func3 rfl rfl rfl ?_
  (repeat first | refine HReg.step ?_ | refine HCode.step ?_)
  refine HCall.mk ⟨Try.f9, Try.func9, by rfl, by rfl⟩ ?_
  refine alive_t fun H0 u0 => ?_
  have ho := ho.upd (S := []) u0 (.inr (Off.nil _))
  have hf := hf.upd (S := []) u0 (.inr (Off.nil _))
  (repeat first | refine HReg.step ?_ | refine HCode.step ?_)
  refine HCall.mk ⟨Try.f10, Try.func10, by rfl, by rfl⟩ ?_
  refine new_t fun g r H1 D1 u1 => ?_
  (repeat first | refine HReg.step ?_ | refine HCode.step ?_)
  refine HCall.mk ⟨Try.f12, Try.func12, by rfl, by rfl⟩ ?_
  refine own_t (keep_row D1 ho) hn0 (by omega) fun a2 c2 H2 m2 => ?_
  have D2 := D1.upd0 m2.upd
  (repeat first | refine HReg.step ?_ | refine HCode.step ?_)
  refine HCall.mk ⟨Try.f11, Try.func11, by rfl, by rfl⟩ ?_
  refine append_t (n := snapN) D2 (ys := old) m2.own.rows hn0 (off_made D1 m2) (fun x y h => by cases h) (by omega) fun fl3 H3 D3 _ => ?_
  have e3 : (St0.append snapN old).1 = 0 := by have := sw1_eq old; unfold sw1 at this; rw [this]
  rw [e3]
  (repeat first | refine HReg.step ?_ | refine HCode.step ?_)
  refine hif (fun h => absurd rfl (not_eqB_true.1 h)) (fun _ => ?_)
  (repeat first | refine HReg.step ?_ | refine HCode.step ?_)
  refine HCall.mk ⟨Try.f13, Try.func13, by rfl, by rfl⟩ ?_
  refine sync_f (n := snapN) (s := (sw1 old).2) D3 fun fl4 H4 D4 _ => ?_
  have e4 : ((sw1 old).2.sync snapN).1 = 0 := by have := sw2_eq old; unfold sw2 at this; rw [this]
  rw [e4]
  (repeat first | refine HReg.step ?_ | refine HCode.step ?_)
  refine hif (fun h => absurd rfl (not_eqB_true.1 h)) (fun _ => ?_)
  (repeat first | refine HReg.step ?_ | refine HCode.step ?_)
  refine HReq.mk (by decide) ?_
  (repeat first | refine HReg.step ?_ | refine HCode.step ?_)
  refine HNew.mk fun b5 hb5 => ?_
  (repeat first | refine HReg.step ?_ | refine HCode.step ?_)
  refine conv_mark Try.underlying22 Try.underlying5 (upd_same _ _ _) fun f5 => ?_
  rw [upd_upd]
  have u5 : Upd [] H4 (H4.upd b5 (.cells [Value.int .u8 106].toArray 5 f5)) := Upd.new hb5 _
  have D5 := D4.upd0 u5
  (repeat first | refine HReg.step ?_ | refine HCode.step ?_)
  refine HCall.mk ⟨Try.f11, Try.func11, by rfl, by rfl⟩ ?_
  refine append_t (n := junkN) (s := (sw2 old).2) D5 (ys := [106]) (row_lit (upd_same _ _ _) rfl) rfl (off_new (H' := H4) D4 hb5 rfl) (fun x y h => by rw [sw2_eq] at h; simp [St.call, ne2] at h) (by decide) fun fl6 H6 D6 _ => ?_
  have e6 : ((sw2 old).2.append junkN [106]).1 = 0 := by have := sw3_eq old; unfold sw3 at this; rw [this]
  rw [e6]
  (repeat first | refine HReg.step ?_ | refine HCode.step ?_)
  refine hif (fun h => absurd rfl (not_eqB_true.1 h)) (fun _ => ?_)
  obtain ⟨hc, hc7⟩ : 0 ≤ bitsS .and .i64 n 7 ∧ bitsS .and .i64 n 7 ≤ 7 := by
    have := and_mask n 3 (by decide)
    rw [show (((2 ^ 3 - 1 : Nat) : Nat) : Int) = 7 from rfl, show ((2 ^ 3 : Nat) : Int) = 8 from rfl] at this
    rw [this]; omega
  (repeat first | refine HReg.step ?_ | refine HCode.step ?_)
  refine HCall.mk ⟨Try.f14, Try.func14, by rfl, by rfl⟩ ?_
  generalize bitsS .and .i64 n 7 = c at hc hc7
  refine arm_t (s := (sw3 old).2) D6 (by omega) (by omega) fun H7 D7 _ => ?_
  rw [sw4_eq old hc] at D7
  have hf7 := keep_row D7 hf
  repeat refine HReg.step ?_
  refine HCode.step ?_
  refine HCode.step ?_
  repeat refine HReg.step ?_
  -- where fresh is cut
  refine hcutC [12, 51, 52, 53, 54, 55, 56, 57, 58] [0, 1, 11, 12] (fun vs H' => ∃ q : Nat, q ≤ n1 ∧ H' = H7 ∧ vs = [.slice a0 n0 c0, .slice a1 n1 c1, .pointer (some ⟨g, 0, none⟩), .int .i64 (q : Int)]) rfl (by repeat' first | exact Resp.retD | exact Resp1.valuesK | refine Resp.blockD ?_ | refine Resp.thenD ?_ ?_ | refine Resp.hcode ?_) ?_ ?_
  · (repeat first | refine HReg.step ?_ | refine HCode.step ?_)
    refine hif (fun h => ?_) (fun h => ?_)
    · have h := ltB_true.1 h
      have := and_mask parts 16 (by decide)
      rw [show (((2 ^ 16 - 1 : Nat) : Nat) : Int) = 65535 from rfl, show ((2 ^ 16 : Nat) : Int) = 65536 from rfl] at this
      have h0 : 0 ≤ bitsS .and .i64 parts 65535 := by rw [this]; omega
      have hne : (n1 : Int) ≠ 0 := by omega
      have e : Int.tmod (bitsS .and .i64 parts 65535) (n1 : Int) = (((bitsS .and .i64 parts 65535).toNat % n1 : Nat) : Int) := by
        rw [Int.tmod_eq_emod_of_nonneg h0, Int.natCast_emod, Int.toNat_of_nonneg h0]
      (repeat first | refine HReg.step ?_ | refine HCode.step ?_)
      refine HReq.mk hne ?_
      (repeat first | refine HReg.step ?_ | refine HCode.step ?_)
      refine ⟨(bitsS .and .i64 parts 65535).toNat % n1, Nat.le_of_lt (Nat.mod_lt _ (by omega)), rfl, ?_⟩
      rw [← e]
    · (repeat first | refine HReg.step ?_ | refine HCode.step ?_)
      exact ⟨0, Nat.zero_le _, rfl, rfl⟩
  rintro _ fe H7 ⟨q, hq, rfl, rfl⟩
  have hx1 : (fresh.take q).length = q := by rw [List.length_take]; omega
  have hx2 : (fresh.drop q).length = n1 - q := by rw [List.length_drop, hn1]
  have L := sw_law old (fresh.take q) (fresh.drop q) c keep hc hc7
  have hcat : fresh.take q ++ fresh.drop q = fresh := List.take_append_drop _ _
  (repeat first | refine HReg.step ?_ | refine HCode.step ?_)
  refine HReq.mk ⟨by omega, by omega⟩ ?_
  (repeat first | refine HReg.step ?_ | refine HCode.step ?_)
  refine HCall.mk ⟨Try.f12, Try.func12, by rfl, by rfl⟩ ?_
  refine own_t (ys := fresh.take q) (by have := hf7.take q; unfold u8s at this ⊢; rw [List.map_take]; exact this) hx1 (by omega) fun a8 c8 H8 m8 => ?_
  have D8 := D7.upd0 m8.upd
  (repeat first | refine HReg.step ?_ | refine HCode.step ?_)
  refine HCall.mk ⟨Try.f11, Try.func11, by rfl, by rfl⟩ ?_
  refine append_t (n := tmpN) (s := sw4 old c keep) D8 (ys := fresh.take q) m8.own.rows hx1 (off_made D7 m8) (fun x y h => by rw [L.roomA] at h; cases h) (by omega) fun fl9 H9 D9 _ => ?_
  have hf9 := keep_row D9 hf
  (repeat first | refine HReg.step ?_ | refine HCode.step ?_)
  refine HReq.mk ⟨by omega, by omega⟩ ?_
  (repeat first | refine HReg.step ?_ | refine HCode.step ?_)
  refine HCall.mk ⟨Try.f12, Try.func12, by rfl, by rfl⟩ ?_
  have hr9 : RowAt H9 (slAddr a1 q c1 1) (u8s (fresh.drop q)) := by
    have := hf9.sl (l := q) (cap := c1) (size := 1) (by rw [u8s_length]; omega)
    unfold u8s at this ⊢
    rw [List.map_drop]
    rwa [Nat.mul_one] at this
  refine own_t (ys := fresh.drop q) hr9 hx2 (by omega) fun a10 c10 H10 m10 => ?_
  have D10 := D9.upd0 m10.upd
  (repeat first | refine HReg.step ?_ | refine HCode.step ?_)
  refine HCall.mk ⟨Try.f11, Try.func11, by rfl, by rfl⟩ ?_
  refine append_t (n := tmpN) (s := (swA old (fresh.take q) c keep).2) D10 (ys := fresh.drop q) m10.own.rows hx2 (off_made D9 m10) (fun x y h => by have := L.roomB x y h; omega) (by omega) fun fl11 H11 D11 _ => ?_
  (repeat first | refine HReg.step ?_ | refine HCode.step ?_)
  refine HCall.mk ⟨Try.f13, Try.func13, by rfl, by rfl⟩ ?_
  refine sync_f (n := tmpN) (s := (swB old (fresh.take q) (fresh.drop q) c keep).2) D11 fun fl12 H12 D12 _ => ?_
  (repeat first | refine HReg.step ?_ | refine HCode.step ?_)
  refine HCall.mk ⟨Try.f15, Try.func15, by rfl, by rfl⟩ ?_
  refine rename_t (n := tmpN) (to := snapN) (s := (swC old (fresh.take q) (fresh.drop q) c keep).2) D12 fun fl13 H13 D13 _ => ?_
  (repeat first | refine HReg.step ?_ | refine HCode.step ?_)
  refine HCall.mk ⟨Try.f16, Try.func16, by rfl, by rfl⟩ ?_
  refine delete_t (n := junkN) (s := (swE old (fresh.take q) (fresh.drop q) c keep).2) D13 fun fl14 H14 D14 _ => ?_
  (repeat first | refine HReg.step ?_ | refine HCode.step ?_)
  refine HCall.mk ⟨Try.f17, Try.func17, by rfl, by rfl⟩ ?_
  refine up_t (s := (swF old (fresh.take q) (fresh.drop q) c keep).2) D14 fun H15 D15 _ => ?_
  (repeat first | refine HReg.step ?_ | refine HCode.step ?_)
  refine HCall.mk ⟨Try.f18, Try.func18, by rfl, by rfl⟩ ?_
  refine read_f (n := snapN) (s := swU old (fresh.take q) (fresh.drop q) c keep) D15 fun a16 c16 fl16 H16' H16 D16' _ m16 => ?_
  have D16 := D16'.upd0 m16.upd
  (repeat first | refine HReg.step ?_ | refine HCode.step ?_)
  refine HCall.mk ⟨Try.f18, Try.func18, by rfl, by rfl⟩ ?_
  refine read_f (n := tmpN) (s := (swU old (fresh.take q) (fresh.drop q) c keep).call) D16 fun a17 c17 fl17 H17' H17 D17' st17 m17 => ?_
  have D17 := D17'.upd0 m17.upd
  have rg : RowAt H17 a16 (u8s (swG old (fresh.take q) (fresh.drop q) c keep).2) := by
    refine (m16.own.rows.upd st17.upd (.inr fun p hp hm => ?_)).upd (S := []) m17.upd (.inr (Off.nil _))
    have := m16.new p hp
    exact D16'.phys.live p.block hm this
  have rh : RowAt H17 a17 (u8s (swH old (fresh.take q) (fresh.drop q) c keep).2) := m17.own.rows
  have ho17 := keep_row D17 ho
  have hf17 := keep_row D17 hf
  have fin : K (.bool true) H17 := hk _ (u0.trans D17.base)
  (repeat first | refine HReg.step ?_ | refine HCode.step ?_)
  refine hif (fun h => absurd L.g (not_eqB_true.1 h)) (fun _ => ?_)
  (repeat first | refine HReg.step ?_ | refine HCode.step ?_)
  refine hif (fun h1 => ?_) (fun h1 => ?_)
  · (repeat first | refine HReg.step ?_ | refine HCode.step ?_)
    refine hif (fun h => absurd (L.ab (eqB_true.1 h1)) (not_eqB_true.1 h)) (fun _ => ?_)
    (repeat first | refine HReg.step ?_ | refine HCode.step ?_)
    refine hif (fun h2 => ?_) (fun h2 => ?_)
    · (repeat first | refine HReg.step ?_ | refine HCode.step ?_)
      refine hif (fun h => absurd (L.ce (eqB_true.1 h2)) (not_eqB_true.1 h)) (fun _ => ?_)
      (repeat first | refine HReg.step ?_ | refine HCode.step ?_)
      refine hif (fun h3 => ?_) (fun h3 => ?_)
      · (repeat first | refine HReg.step ?_ | refine HCode.step ?_)
        refine hif (fun h => absurd (L.ef (eqB_true.1 h3)) (not_eqB_true.1 h)) (fun _ => ?_)
        (repeat first | refine HReg.step ?_ | refine HCode.step ?_)
        refine hif (fun h5 => ?_) (fun h5 => ?_)
        · obtain ⟨y1, y2⟩ := L.yes (eqB_true.1 h5)
          rw [hcat] at y1
          (repeat first | refine HReg.step ?_ | refine HCode.step ?_)
          refine HCall.mk ⟨Try.f19, Try.func19, by rfl, by rfl⟩ ?_
          refine same_eq rg rfl hf17 hn1 y1 ?_
          (repeat first | refine HReg.step ?_ | refine HCode.step ?_)
          exact (show K (.bool (eqB (swH old (fresh.take q) (fresh.drop q) c keep).1 61)) H17 from by rw [eqB_true.2 y2]; exact fin)
        · have h5 := eqB_false.1 h5
          (repeat first | refine HReg.step ?_ | refine HCode.step ?_)
          refine HCall.mk ⟨Try.f19, Try.func19, by rfl, by rfl⟩ ?_
          refine same_eq rg rfl ho17 hn0 (L.no h5) ?_
          (repeat first | refine HReg.step ?_ | refine HCode.step ?_)
          refine hif (fun h6 => ?_) (fun h6 => ?_)
          · obtain ⟨y1, y2⟩ := L.no0 h5 (eqB_true.1 h6)
            rw [hcat] at y2
            (repeat first | refine HReg.step ?_ | refine HCode.step ?_)
            refine hif (fun _ => ?_) (fun h => absurd y1 (eqB_false.1 h))
            (repeat first | refine HReg.step ?_ | refine HCode.step ?_)
            refine HCall.mk ⟨Try.f19, Try.func19, by rfl, by rfl⟩ ?_
            refine same_eq rh rfl hf17 hn1 y2 ?_
            (repeat first | refine HReg.step ?_ | refine HCode.step ?_)
            exact fin
          · have y := L.no1 h5 (eqB_false.1 h6)
            rw [hcat] at y
            (repeat first | refine HReg.step ?_ | refine HCode.step ?_)
            refine hif (fun h7 => ?_) (fun h7 => ?_)
            · (repeat first | refine HReg.step ?_ | refine HCode.step ?_)
              exact fin
            · (repeat first | refine HReg.step ?_ | refine HCode.step ?_)
              refine HCall.mk ⟨Try.f20, Try.func20, by rfl, by rfl⟩ ?_
              refine begins_t rh rfl hf17 hn1 hc1 ?_
              rw [decide_eq_true (y.resolve_left (eqB_false.1 h7))]
              (repeat first | refine HReg.step ?_ | refine HCode.step ?_)
              exact fin
      · skip
        (repeat first | refine HReg.step ?_ | refine HCode.step ?_)
        refine hif (fun h5 => ?_) (fun h5 => ?_)
        · obtain ⟨y1, y2⟩ := L.yes (eqB_true.1 h5)
          rw [hcat] at y1
          (repeat first | refine HReg.step ?_ | refine HCode.step ?_)
          refine HCall.mk ⟨Try.f19, Try.func19, by rfl, by rfl⟩ ?_
          refine same_eq rg rfl hf17 hn1 y1 ?_
          (repeat first | refine HReg.step ?_ | refine HCode.step ?_)
          exact (show K (.bool (eqB (swH old (fresh.take q) (fresh.drop q) c keep).1 61)) H17 from by rw [eqB_true.2 y2]; exact fin)
        · have h5 := eqB_false.1 h5
          (repeat first | refine HReg.step ?_ | refine HCode.step ?_)
          refine HCall.mk ⟨Try.f19, Try.func19, by rfl, by rfl⟩ ?_
          refine same_eq rg rfl ho17 hn0 (L.no h5) ?_
          (repeat first | refine HReg.step ?_ | refine HCode.step ?_)
          refine hif (fun h6 => ?_) (fun h6 => ?_)
          · obtain ⟨y1, y2⟩ := L.no0 h5 (eqB_true.1 h6)
            rw [hcat] at y2
            (repeat first | refine HReg.step ?_ | refine HCode.step ?_)
            refine hif (fun _ => ?_) (fun h => absurd y1 (eqB_false.1 h))
            (repeat first | refine HReg.step ?_ | refine HCode.step ?_)
            refine HCall.mk ⟨Try.f19, Try.func19, by rfl, by rfl⟩ ?_
            refine same_eq rh rfl hf17 hn1 y2 ?_
            (repeat first | refine HReg.step ?_ | refine HCode.step ?_)
            exact fin
          · have y := L.no1 h5 (eqB_false.1 h6)
            rw [hcat] at y
            (repeat first | refine HReg.step ?_ | refine HCode.step ?_)
            refine hif (fun h7 => ?_) (fun h7 => ?_)
            · (repeat first | refine HReg.step ?_ | refine HCode.step ?_)
              exact fin
            · (repeat first | refine HReg.step ?_ | refine HCode.step ?_)
              refine HCall.mk ⟨Try.f20, Try.func20, by rfl, by rfl⟩ ?_
              refine begins_t rh rfl hf17 hn1 hc1 ?_
              rw [decide_eq_true (y.resolve_left (eqB_false.1 h7))]
              (repeat first | refine HReg.step ?_ | refine HCode.step ?_)
              exact fin
    · skip
      (repeat first | refine HReg.step ?_ | refine HCode.step ?_)
      refine hif (fun h3 => ?_) (fun h3 => ?_)
      · (repeat first | refine HReg.step ?_ | refine HCode.step ?_)
        refine hif (fun h => absurd (L.ef (eqB_true.1 h3)) (not_eqB_true.1 h)) (fun _ => ?_)
        (repeat first | refine HReg.step ?_ | refine HCode.step ?_)
        refine hif (fun h5 => ?_) (fun h5 => ?_)
        · obtain ⟨y1, y2⟩ := L.yes (eqB_true.1 h5)
          rw [hcat] at y1
          (repeat first | refine HReg.step ?_ | refine HCode.step ?_)
          refine HCall.mk ⟨Try.f19, Try.func19, by rfl, by rfl⟩ ?_
          refine same_eq rg rfl hf17 hn1 y1 ?_
          (repeat first | refine HReg.step ?_ | refine HCode.step ?_)
          exact (show K (.bool (eqB (swH old (fresh.take q) (fresh.drop q) c keep).1 61)) H17 from by rw [eqB_true.2 y2]; exact fin)
        · have h5 := eqB_false.1 h5
          (repeat first | refine HReg.step ?_ | refine HCode.step ?_)
          refine HCall.mk ⟨Try.f19, Try.func19, by rfl, by rfl⟩ ?_
          refine same_eq rg rfl ho17 hn0 (L.no h5) ?_
          (repeat first | refine HReg.step ?_ | refine HCode.step ?_)
          refine hif (fun h6 => ?_) (fun h6 => ?_)
          · obtain ⟨y1, y2⟩ := L.no0 h5 (eqB_true.1 h6)
            rw [hcat] at y2
            (repeat first | refine HReg.step ?_ | refine HCode.step ?_)
            refine hif (fun _ => ?_) (fun h => absurd y1 (eqB_false.1 h))
            (repeat first | refine HReg.step ?_ | refine HCode.step ?_)
            refine HCall.mk ⟨Try.f19, Try.func19, by rfl, by rfl⟩ ?_
            refine same_eq rh rfl hf17 hn1 y2 ?_
            (repeat first | refine HReg.step ?_ | refine HCode.step ?_)
            exact fin
          · have y := L.no1 h5 (eqB_false.1 h6)
            rw [hcat] at y
            (repeat first | refine HReg.step ?_ | refine HCode.step ?_)
            refine hif (fun h7 => ?_) (fun h7 => ?_)
            · (repeat first | refine HReg.step ?_ | refine HCode.step ?_)
              exact fin
            · (repeat first | refine HReg.step ?_ | refine HCode.step ?_)
              refine HCall.mk ⟨Try.f20, Try.func20, by rfl, by rfl⟩ ?_
              refine begins_t rh rfl hf17 hn1 hc1 ?_
              rw [decide_eq_true (y.resolve_left (eqB_false.1 h7))]
              (repeat first | refine HReg.step ?_ | refine HCode.step ?_)
              exact fin
      · skip
        (repeat first | refine HReg.step ?_ | refine HCode.step ?_)
        refine hif (fun h5 => ?_) (fun h5 => ?_)
        · obtain ⟨y1, y2⟩ := L.yes (eqB_true.1 h5)
          rw [hcat] at y1
          (repeat first | refine HReg.step ?_ | refine HCode.step ?_)
          refine HCall.mk ⟨Try.f19, Try.func19, by rfl, by rfl⟩ ?_
          refine same_eq rg rfl hf17 hn1 y1 ?_
          (repeat first | refine HReg.step ?_ | refine HCode.step ?_)
          exact (show K (.bool (eqB (swH old (fresh.take q) (fresh.drop q) c keep).1 61)) H17 from by rw [eqB_true.2 y2]; exact fin)
        · have h5 := eqB_false.1 h5
          (repeat first | refine HReg.step ?_ | refine HCode.step ?_)
          refine HCall.mk ⟨Try.f19, Try.func19, by rfl, by rfl⟩ ?_
          refine same_eq rg rfl ho17 hn0 (L.no h5) ?_
          (repeat first | refine HReg.step ?_ | refine HCode.step ?_)
          refine hif (fun h6 => ?_) (fun h6 => ?_)
          · obtain ⟨y1, y2⟩ := L.no0 h5 (eqB_true.1 h6)
            rw [hcat] at y2
            (repeat first | refine HReg.step ?_ | refine HCode.step ?_)
            refine hif (fun _ => ?_) (fun h => absurd y1 (eqB_false.1 h))
            (repeat first | refine HReg.step ?_ | refine HCode.step ?_)
            refine HCall.mk ⟨Try.f19, Try.func19, by rfl, by rfl⟩ ?_
            refine same_eq rh rfl hf17 hn1 y2 ?_
            (repeat first | refine HReg.step ?_ | refine HCode.step ?_)
            exact fin
          · have y := L.no1 h5 (eqB_false.1 h6)
            rw [hcat] at y
            (repeat first | refine HReg.step ?_ | refine HCode.step ?_)
            refine hif (fun h7 => ?_) (fun h7 => ?_)
            · (repeat first | refine HReg.step ?_ | refine HCode.step ?_)
              exact fin
            · (repeat first | refine HReg.step ?_ | refine HCode.step ?_)
              refine HCall.mk ⟨Try.f20, Try.func20, by rfl, by rfl⟩ ?_
              refine begins_t rh rfl hf17 hn1 hc1 ?_
              rw [decide_eq_true (y.resolve_left (eqB_false.1 h7))]
              (repeat first | refine HReg.step ?_ | refine HCode.step ?_)
              exact fin
  · skip
    (repeat first | refine HReg.step ?_ | refine HCode.step ?_)
    refine hif (fun h2 => ?_) (fun h2 => ?_)
    · (repeat first | refine HReg.step ?_ | refine HCode.step ?_)
      refine hif (fun h => absurd (L.ce (eqB_true.1 h2)) (not_eqB_true.1 h)) (fun _ => ?_)
      (repeat first | refine HReg.step ?_ | refine HCode.step ?_)
      refine hif (fun h3 => ?_) (fun h3 => ?_)
      · (repeat first | refine HReg.step ?_ | refine HCode.step ?_)
        refine hif (fun h => absurd (L.ef (eqB_true.1 h3)) (not_eqB_true.1 h)) (fun _ => ?_)
        (repeat first | refine HReg.step ?_ | refine HCode.step ?_)
        refine hif (fun h5 => ?_) (fun h5 => ?_)
        · obtain ⟨y1, y2⟩ := L.yes (eqB_true.1 h5)
          rw [hcat] at y1
          (repeat first | refine HReg.step ?_ | refine HCode.step ?_)
          refine HCall.mk ⟨Try.f19, Try.func19, by rfl, by rfl⟩ ?_
          refine same_eq rg rfl hf17 hn1 y1 ?_
          (repeat first | refine HReg.step ?_ | refine HCode.step ?_)
          exact (show K (.bool (eqB (swH old (fresh.take q) (fresh.drop q) c keep).1 61)) H17 from by rw [eqB_true.2 y2]; exact fin)
        · have h5 := eqB_false.1 h5
          (repeat first | refine HReg.step ?_ | refine HCode.step ?_)
          refine HCall.mk ⟨Try.f19, Try.func19, by rfl, by rfl⟩ ?_
          refine same_eq rg rfl ho17 hn0 (L.no h5) ?_
          (repeat first | refine HReg.step ?_ | refine HCode.step ?_)
          refine hif (fun h6 => ?_) (fun h6 => ?_)
          · obtain ⟨y1, y2⟩ := L.no0 h5 (eqB_true.1 h6)
            rw [hcat] at y2
            (repeat first | refine HReg.step ?_ | refine HCode.step ?_)
            refine hif (fun _ => ?_) (fun h => absurd y1 (eqB_false.1 h))
            (repeat first | refine HReg.step ?_ | refine HCode.step ?_)
            refine HCall.mk ⟨Try.f19, Try.func19, by rfl, by rfl⟩ ?_
            refine same_eq rh rfl hf17 hn1 y2 ?_
            (repeat first | refine HReg.step ?_ | refine HCode.step ?_)
            exact fin
          · have y := L.no1 h5 (eqB_false.1 h6)
            rw [hcat] at y
            (repeat first | refine HReg.step ?_ | refine HCode.step ?_)
            refine hif (fun h7 => ?_) (fun h7 => ?_)
            · (repeat first | refine HReg.step ?_ | refine HCode.step ?_)
              exact fin
            · (repeat first | refine HReg.step ?_ | refine HCode.step ?_)
              refine HCall.mk ⟨Try.f20, Try.func20, by rfl, by rfl⟩ ?_
              refine begins_t rh rfl hf17 hn1 hc1 ?_
              rw [decide_eq_true (y.resolve_left (eqB_false.1 h7))]
              (repeat first | refine HReg.step ?_ | refine HCode.step ?_)
              exact fin
      · skip
        (repeat first | refine HReg.step ?_ | refine HCode.step ?_)
        refine hif (fun h5 => ?_) (fun h5 => ?_)
        · obtain ⟨y1, y2⟩ := L.yes (eqB_true.1 h5)
          rw [hcat] at y1
          (repeat first | refine HReg.step ?_ | refine HCode.step ?_)
          refine HCall.mk ⟨Try.f19, Try.func19, by rfl, by rfl⟩ ?_
          refine same_eq rg rfl hf17 hn1 y1 ?_
          (repeat first | refine HReg.step ?_ | refine HCode.step ?_)
          exact (show K (.bool (eqB (swH old (fresh.take q) (fresh.drop q) c keep).1 61)) H17 from by rw [eqB_true.2 y2]; exact fin)
        · have h5 := eqB_false.1 h5
          (repeat first | refine HReg.step ?_ | refine HCode.step ?_)
          refine HCall.mk ⟨Try.f19, Try.func19, by rfl, by rfl⟩ ?_
          refine same_eq rg rfl ho17 hn0 (L.no h5) ?_
          (repeat first | refine HReg.step ?_ | refine HCode.step ?_)
          refine hif (fun h6 => ?_) (fun h6 => ?_)
          · obtain ⟨y1, y2⟩ := L.no0 h5 (eqB_true.1 h6)
            rw [hcat] at y2
            (repeat first | refine HReg.step ?_ | refine HCode.step ?_)
            refine hif (fun _ => ?_) (fun h => absurd y1 (eqB_false.1 h))
            (repeat first | refine HReg.step ?_ | refine HCode.step ?_)
            refine HCall.mk ⟨Try.f19, Try.func19, by rfl, by rfl⟩ ?_
            refine same_eq rh rfl hf17 hn1 y2 ?_
            (repeat first | refine HReg.step ?_ | refine HCode.step ?_)
            exact fin
          · have y := L.no1 h5 (eqB_false.1 h6)
            rw [hcat] at y
            (repeat first | refine HReg.step ?_ | refine HCode.step ?_)
            refine hif (fun h7 => ?_) (fun h7 => ?_)
            · (repeat first | refine HReg.step ?_ | refine HCode.step ?_)
              exact fin
            · (repeat first | refine HReg.step ?_ | refine HCode.step ?_)
              refine HCall.mk ⟨Try.f20, Try.func20, by rfl, by rfl⟩ ?_
              refine begins_t rh rfl hf17 hn1 hc1 ?_
              rw [decide_eq_true (y.resolve_left (eqB_false.1 h7))]
              (repeat first | refine HReg.step ?_ | refine HCode.step ?_)
              exact fin
    · skip
      (repeat first | refine HReg.step ?_ | refine HCode.step ?_)
      refine hif (fun h3 => ?_) (fun h3 => ?_)
      · (repeat first | refine HReg.step ?_ | refine HCode.step ?_)
        refine hif (fun h => absurd (L.ef (eqB_true.1 h3)) (not_eqB_true.1 h)) (fun _ => ?_)
        (repeat first | refine HReg.step ?_ | refine HCode.step ?_)
        refine hif (fun h5 => ?_) (fun h5 => ?_)
        · obtain ⟨y1, y2⟩ := L.yes (eqB_true.1 h5)
          rw [hcat] at y1
          (repeat first | refine HReg.step ?_ | refine HCode.step ?_)
          refine HCall.mk ⟨Try.f19, Try.func19, by rfl, by rfl⟩ ?_
          refine same_eq rg rfl hf17 hn1 y1 ?_
          (repeat first | refine HReg.step ?_ | refine HCode.step ?_)
          exact (show K (.bool (eqB (swH old (fresh.take q) (fresh.drop q) c keep).1 61)) H17 from by rw [eqB_true.2 y2]; exact fin)
        · have h5 := eqB_false.1 h5
          (repeat first | refine HReg.step ?_ | refine HCode.step ?_)
          refine HCall.mk ⟨Try.f19, Try.func19, by rfl, by rfl⟩ ?_
          refine same_eq rg rfl ho17 hn0 (L.no h5) ?_
          (repeat first | refine HReg.step ?_ | refine HCode.step ?_)
          refine hif (fun h6 => ?_) (fun h6 => ?_)
          · obtain ⟨y1, y2⟩ := L.no0 h5 (eqB_true.1 h6)
            rw [hcat] at y2
            (repeat first | refine HReg.step ?_ | refine HCode.step ?_)
            refine hif (fun _ => ?_) (fun h => absurd y1 (eqB_false.1 h))
            (repeat first | refine HReg.step ?_ | refine HCode.step ?_)
            refine HCall.mk ⟨Try.f19, Try.func19, by rfl, by rfl⟩ ?_
            refine same_eq rh rfl hf17 hn1 y2 ?_
            (repeat first | refine HReg.step ?_ | refine HCode.step ?_)
            exact fin
          · have y := L.no1 h5 (eqB_false.1 h6)
            rw [hcat] at y
            (repeat first | refine HReg.step ?_ | refine HCode.step ?_)
            refine hif (fun h7 => ?_) (fun h7 => ?_)
            · (repeat first | refine HReg.step ?_ | refine HCode.step ?_)
              exact fin
            · (repeat first | refine HReg.step ?_ | refine HCode.step ?_)
              refine HCall.mk ⟨Try.f20, Try.func20, by rfl, by rfl⟩ ?_
              refine begins_t rh rfl hf17 hn1 hc1 ?_
              rw [decide_eq_true (y.resolve_left (eqB_false.1 h7))]
              (repeat first | refine HReg.step ?_ | refine HCode.step ?_)
              exact fin
      · skip
        (repeat first | refine HReg.step ?_ | refine HCode.step ?_)
        refine hif (fun h5 => ?_) (fun h5 => ?_)
        · obtain ⟨y1, y2⟩ := L.yes (eqB_true.1 h5)
          rw [hcat] at y1
          (repeat first | refine HReg.step ?_ | refine HCode.step ?_)
          refine HCall.mk ⟨Try.f19, Try.func19, by rfl, by rfl⟩ ?_
          refine same_eq rg rfl hf17 hn1 y1 ?_
          (repeat first | refine HReg.step ?_ | refine HCode.step ?_)
          exact (show K (.bool (eqB (swH old (fresh.take q) (fresh.drop q) c keep).1 61)) H17 from by rw [eqB_true.2 y2]; exact fin)
        · have h5 := eqB_false.1 h5
          (repeat first | refine HReg.step ?_ | refine HCode.step ?_)
          refine HCall.mk ⟨Try.f19, Try.func19, by rfl, by rfl⟩ ?_
          refine same_eq rg rfl ho17 hn0 (L.no h5) ?_
          (repeat first | refine HReg.step ?_ | refine HCode.step ?_)
          refine hif (fun h6 => ?_) (fun h6 => ?_)
          · obtain ⟨y1, y2⟩ := L.no0 h5 (eqB_true.1 h6)
            rw [hcat] at y2
            (repeat first | refine HReg.step ?_ | refine HCode.step ?_)
            refine hif (fun _ => ?_) (fun h => absurd y1 (eqB_false.1 h))
            (repeat first | refine HReg.step ?_ | refine HCode.step ?_)
            refine HCall.mk ⟨Try.f19, Try.func19, by rfl, by rfl⟩ ?_
            refine same_eq rh rfl hf17 hn1 y2 ?_
            (repeat first | refine HReg.step ?_ | refine HCode.step ?_)
            exact fin
          · have y := L.no1 h5 (eqB_false.1 h6)
            rw [hcat] at y
            (repeat first | refine HReg.step ?_ | refine HCode.step ?_)
            refine hif (fun h7 => ?_) (fun h7 => ?_)
            · (repeat first | refine HReg.step ?_ | refine HCode.step ?_)
              exact fin
            · (repeat first | refine HReg.step ?_ | refine HCode.step ?_)
              refine HCall.mk ⟨Try.f20, Try.func20, by rfl, by rfl⟩ ?_
              refine begins_t rh rfl hf17 hn1 hc1 ?_
              rw [decide_eq_true (y.resolve_left (eqB_false.1 h7))]
              (repeat first | refine HReg.step ?_ | refine HCode.step ?_)
              exact fin
end Go.Proofs.Ytocejipjnklieaa
