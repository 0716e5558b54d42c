import Derived.Test.YtjnahdcolacldaaA27
namespace Go.Proofs.Ytjnahdcolacldaa
open Go Hv
set_option linter.unusedVariables false
set_option linter.unusedSimpArgs false
set_option maxRecDepth 10000
set_option maxHeartbeats 1000000
theorem own_cellsO {H : Heap} {e : TypeId} {n cap size : Nat} {a : Option Addr} {xs : List Value} {p : Addr} (h : OwnRow H e size a n cap xs) (hp : a = some p) : ∃ c f, H p.block = some (.cells c e f) := by
  subst hp
  rcases h.ok with ⟨ha, _⟩ | ⟨g', cur, ha, hg, _⟩
  · cases ha
  · cases ha; exact ⟨_, _, hg⟩
theorem told_le (w : W) : w.told.length ≤ w.out.length := by
  unfold W.told
  split
  · exact Nat.le_refl _
  · exact Nat.zero_le _
theorem packKeeps_t {ab a : Option Addr} {nb cb k c : Nat} {l : List UInt8} {ops : List Opk} {H : Heap} {K : Value → Heap → Prop}
    (rl : RowAt H ab (u8s l)) (hl : l.length = nb) (hnb : nb ≤ 140737488351232)
    (ro : RowAt H a (orow ops)) (lo : ops.length = k) (bo : ∀ o ∈ ops, OpOk H o ∧ OpSz o) (bl : k ≤ 140737488351232)
    (hk : ∀ H', Upd [] H H' → K (.bool true) H') : HCalls Try.prog 3 [.slice a k c, .slice ab nb cb] H K := by
  refine hcalls (fn := Try.f3) [(14, [(0, 0), (1, 0), (2, 1), (3, 1), (4, 1), (5, 1), (6, 0)]), (25, [(0, 0), (1, 0), (2, 0), (3, 0), (4, 0), (5, 0), (6, 0), (7, 0), (8, 0), (9, 0), (10, 0), (11, 0), (12, 0), (13, 0), (14, 0), (15, 0), (16, 0), (17, 0), (18, 0), (19, 0), (20, 0), (21, 0), (22, 0), (23, 0), (24, 0), (25, 0), (26, 0)])] mixed Try.func3 rfl rfl (by decide +kernel) ?_
  (repeat first | refine HReg.step ?_ | refine HCode.step ?_)
  refine HCall.mk ⟨Try.f8, Try.func8, by rfl, by rfl⟩ ?_
  refine newW_t (by decide) fun g1 S1 H1 d1 => ?_
  (repeat first | refine HReg.step ?_ | refine HCode.step ?_)
  refine HCall.mk ⟨Try.f8, Try.func8, by rfl, by rfl⟩ ?_
  refine newW_t (by decide) fun g2 S2 H2 d2 => ?_
  have ap2 : Apart S1 S2 := (Apart.new d2.new d1.live).symm
  have z1 := (d1.upd0 d2.base).z
  have z2 := (d2.z).back d1.base
  have u2 : Upd [] H H2 := d1.base.trans d2.base
  have e30 : (max (1073741824 : Int) 0).toNat = 1073741824 := by decide
  (repeat first | refine HReg.step ?_ | refine HCode.step ?_)
  refine append_made (xs := []) (Made.nil H2 5 1) (rl.upd (S := []) u2 (.inr (Off.nil _))) hl (by omega) fun a3 c3 H3 m3 => ?_
  rw [Nat.zero_add] at m3
  rw [List.nil_append] at m3
  rw [Nat.zero_add nb]
  (repeat first | refine HReg.step ?_ | refine HCode.step ?_)
  refine HReq.mk (by decide) ?_
  (repeat first | refine HReg.step ?_ | refine HCode.step ?_)
  refine HNew.mk fun b4 hb4 => ?_
  have u4 : Upd [] H3 (H3.upd b4 (.cells [Value.int .u8 171, .int .u8 172].toArray 5)) := Upd.new hb4 _
  have r4 : RowAt (H3.upd b4 (.cells [Value.int .u8 171, .int .u8 172].toArray 5)) (some ⟨b4, 0, none⟩) (u8s [171, 172]) := row_lit (upd_same _ _ _) rfl
  generalize hH4 : H3.upd b4 (.cells [Value.int .u8 171, .int .u8 172].toArray 5) = H4 at u4 r4
  (repeat first | refine HReg.step ?_ | refine HCode.step ?_)
  refine append_made (m3.step u4) r4 rfl (by omega) fun a5 c5 H5 m5 => ?_
  have u5 : Upd [] H H5 := u2.trans m5.upd
  have hc5 := m5.own.le
  obtain ⟨r5, rfl⟩ := m5.own.addr (by omega)
  have ra5 : RowAt H5 (some ⟨r5, 0, none⟩) (u8s l) := by
    have h := m5.own.rows.take nb
    rw [← u8s_take, List.take_append_of_le_length (by omega), List.take_of_length_le (by omega)] at h
    exact h
  (repeat first | refine HReg.step ?_ | refine HCode.step ?_)
  refine HReq.mk ⟨by omega, by omega⟩ ?_
  (repeat first | refine HReg.step ?_ | refine HCode.step ?_)
  refine HCall.mk ⟨Try.f9, Try.func9, by rfl, by rfl⟩ ?_
  refine newR_t ra5 (by simpa using hl) (by simp; omega) fun g3 S3 H6 e6 => ?_
  have u6 : Upd [] H H6 := u5.trans e6.base
  (repeat first | refine HReg.step ?_ | refine HCode.step ?_)
  refine hloopC [9, 37, 38, 39, 40, 41, 42, 43, 44, 45, 46, 47, 48, 49, 50] [9] (Kp0 H H6 r5 nb c5) rfl (by repeat' first | exact Resp.retD | exact Resp1.valuesK | refine Resp.blockD ?_ | refine Resp.thenD ?_ ?_ | refine Resp.hcode ?_) ?_ ?_
  · refine ⟨nb, Kp0.mk ⟨0, l ++ [171, 172], rfl, rfl, by simp [hl], ?_, ?_, ?_, Upd.refl _ _⟩⟩
    · rw [List.getElem?_append_right (by omega), hl, Nat.sub_self]; rfl
    · rw [List.getElem?_append_right (by omega), hl, Nat.add_sub_cancel_left]; rfl
    · exact m5.own.upd (S := []) e6.base (Off.nil _)
  rintro m _ fe H7 ⟨i, X, rfl, hmi, hX, hx1, hx2, o7, u7⟩
  (repeat first | refine HReg.step ?_ | refine HCode.step ?_)
  refine hif (fun h1 => ?_) (fun h1 => ?_)
  · have h1 := ltB_true.1 h1
    have w2 : wr .i64 ((i : Int) + 1) = ((i + 1 : Nat) : Int) := by rw [wr_i64 (by omega) (by omega)]; omega
    obtain ⟨x, hx⟩ : ∃ x, X[i]? = some x := ⟨X[i]'(by omega), by simp⟩
    (repeat first | refine HReg.step ?_ | refine HCode.step ?_)
    refine HReq.mk ⟨by omega, by omega⟩ ?_
    (repeat first | refine HReg.step ?_ | refine HCode.step ?_)
    refine HLoad.one (v := u8 x) (by exact o7.rows.get (u8s_get hx)) ?_
    (repeat first | refine HReg.step ?_ | refine HCode.step ?_)
    refine HReq.mk ⟨by omega, by omega⟩ ?_
    (repeat first | refine HReg.step ?_ | refine HCode.step ?_)
    have hy : Value.int .u8 (wr .u8 ((x.toNat : Int) + 1)) = u8 (UInt8.ofNat (x.toNat + 1)) := by
      unfold u8
      rw [wr_u8, UInt8.toNat_ofNat']
      norm_cast
    refine store_row o7 (v := Value.int .u8 (wr .u8 ((x.toNat : Int) + 1))) rfl (i := i) (by omega) (by show 0 + i + 0 = i; omega) fun H8 o8 u8' => ?_
    rw [hy] at o8
    have e8 : (u8s X).set i (u8 (UInt8.ofNat (x.toNat + 1))) = u8s (X.set i (UInt8.ofNat (x.toNat + 1))) := by unfold u8s; rw [List.map_set]
    rw [e8] at o8
    (repeat first | refine HReg.step ?_ | refine HCode.step ?_)
    rw [w2]
    exact ⟨m - 1, by omega, Kp0.mk ⟨i + 1, _, rfl, by omega, by rw [List.length_set]; exact hX, by rw [sets_get (by omega)]; exact hx1, by rw [sets_get (by omega)]; exact hx2, o8, u7.trans u8'⟩⟩
  have h1 := ltB_false.1 h1
  have nr5 : H r5 = none := Upd.none (S := []) u2 (by simp) (m5.new _ rfl)
  have u67 : Upd [] H H7 := Upd.drop u6 u7 fun b hb => by rw [List.mem_singleton.1 hb]; exact nr5
  have lr5 : H5 r5 ≠ none := m5.own.there rfl
  have ns3 : ∀ b ∈ S3, b ∉ [r5] := fun b hb hb' => by rw [List.mem_singleton.1 hb'] at hb; exact lr5 (e6.new _ hb)
  have e7 : RAt H H7 g3 S3 ⟨l, 0⟩ := by
    have := e6.back u5
    exact this.upd u7 ns3 fun b hb => by rw [List.mem_singleton.1 hb]; exact nr5
  (repeat first | refine HReg.step ?_ | refine HCode.step ?_)
  refine HCall.mk ⟨Try.f10, Try.func10, by rfl, by rfl⟩ ?_
  refine known_t fun H8 u8' => ?_
  have u08 : Upd [] H H8 := u67.trans u8'
  have o8 := o7.upd u8' (Off.nil _)
  (repeat first | refine HReg.step ?_ | refine HCode.step ?_)
  refine HReq.mk ⟨by omega, by omega⟩ ?_
  (repeat first | refine HReg.step ?_ | refine HCode.step ?_)
  refine HLoad.one (v := .int .u8 171) (by exact o8.rows.get (u8s_get hx1)) ?_
  (repeat first | refine HReg.step ?_ | refine HCode.step ?_)
  rw [eqB_self 171]
  have wnb : wr .i64 ((nb : Int) + 1) = ((nb + 1 : Nat) : Int) := by rw [wr_i64 (by omega) (by omega)]; omega
  (repeat first | refine HReg.step ?_ | refine HCode.step ?_)
  rw [wnb]
  refine HReq.mk ⟨by omega, by omega⟩ ?_
  (repeat first | refine HReg.step ?_ | refine HCode.step ?_)
  refine HLoad.one (v := .int .u8 172) (by exact o8.rows.get (u8s_get hx2)) ?_
  (repeat first | refine HReg.step ?_ | refine HCode.step ?_)
  rw [eqB_self 172]
  (repeat first | refine HReg.step ?_ | refine HCode.step ?_)
  refine hloopC [4, 10, 82, 83, 84, 85, 86, 87, 88, 89, 90, 91, 92, 93, 94] [10] (Kp2 H H g3 S3 l nb H8) rfl (by repeat' first | exact Resp.retD | exact Resp1.valuesK | refine Resp.blockD ?_ | refine Resp.thenD ?_ ?_ | refine Resp.hcode ?_) ?_ ?_
  · exact ⟨nb, Kp2.mk ⟨0, rfl, rfl, e7.upd0 u8', Upd.refl _ _⟩⟩
  rintro m _ fe2 H9 ⟨i, rfl, hmi, e9, u9⟩
  have u09 : Upd [] H H9 := Upd.drop u08 u9 (noneg e9.new e9.mem)
  have rl9 := rl.upd (S := []) u09 (.inr (Off.nil _))
  (repeat first | refine HReg.step ?_ | refine HCode.step ?_)
  refine hif (fun h2 => ?_) (fun h2 => ?_)
  · have h2 := ltB_true.1 h2
    have w2 : wr .i64 ((i : Int) + 1) = ((i + 1 : Nat) : Int) := by rw [wr_i64 (by omega) (by omega)]; omega
    obtain ⟨x, hx⟩ : ∃ x, l[i]? = some x := ⟨l[i]'(by omega), by simp⟩
    obtain ⟨gb, go, rfl, _⟩ := rl i _ (u8s_get hx)
    have edr := drop_get hx
    have enum : (⟨l.drop i, 0⟩ : R).number 1 = (x.toNat, ⟨l.drop (i + 1), 0⟩) := by
      rw [number_yes rfl (by rw [edr]; simp), edr]; simp [val]
    (repeat first | refine HReg.step ?_ | refine HCode.step ?_)
    refine HCall.mk ⟨Try.f11, Try.func11, by rfl, by rfl⟩ ?_
    refine ru8_t e9 fun H10 e10 u10 => ?_
    rw [enum] at e10 ⊢
    have u010 : Upd [] H H10 := Upd.drop u09 u10 (noneg e9.new e9.mem)
    (repeat first | refine HReg.step ?_ | refine HCode.step ?_)
    refine HReq.mk ⟨by omega, by omega⟩ ?_
    (repeat first | refine HReg.step ?_ | refine HCode.step ?_)
    refine HLoad_two (v := u8 x) (by exact (rl.upd (S := []) u010 (.inr (Off.nil _))).get (u8s_get hx)) (by exact rl9.get (u8s_get hx)) ?_
    (repeat first | refine HReg.step ?_ | refine HCode.step ?_)
    rw [eqB_self (x.toNat : Int)]
    (repeat first | refine HReg.step ?_ | refine HCode.step ?_)
    rw [w2]
    exact ⟨m - 1, by omega, Kp2.mk ⟨i + 1, rfl, by omega, e10, u9.trans u10⟩⟩
  have h2 := ltB_false.1 h2
  have w19 : ZAt H H9 g1 S1 ⟨1073741824, [], 0⟩ 1073741824 := by
    have hL : ∀ b ∈ S1, H2 b ≠ none := fun b hb => z1.live b hb
    have hL5 : ∀ b ∈ S1, b ≠ r5 := fun b hb h => by subst h; exact hL b hb (m5.new _ rfl)
    have hL3 : ∀ b ∈ S1, b ≠ g3 := fun b hb h => by
      subst h
      have h5 := z1.upd0 m5.upd
      exact h5.live b hb (e6.new _ e6.mem)
    have q := (((z1.upd0 m5.upd).upd0 e6.base).upd u7 (fun b hb hb' => hL5 b hb (List.mem_singleton.1 hb')) (fun b hb => by rw [List.mem_singleton.1 hb]; exact nr5)).upd0 u8'
    have q2 := q.upd u9 (fun b hb hb' => hL3 b hb (List.mem_singleton.1 hb')) (noneg e9.new e9.mem)
    exact q2
  have w29 : ZAt H H9 g2 S2 ⟨1073741824, [], 0⟩ 1073741824 := by
    have hL : ∀ b ∈ S2, H2 b ≠ none := fun b hb => z2.live b hb
    have hL5 : ∀ b ∈ S2, b ≠ r5 := fun b hb h => by subst h; exact hL b hb (m5.new _ rfl)
    have hL3 : ∀ b ∈ S2, b ≠ g3 := fun b hb h => by
      subst h
      have h5 := z2.upd0 m5.upd
      exact h5.live b hb (e6.new _ e6.mem)
    have q := (((z2.upd0 m5.upd).upd0 e6.base).upd u7 (fun b hb hb' => hL5 b hb (List.mem_singleton.1 hb')) (fun b hb => by rw [List.mem_singleton.1 hb]; exact nr5)).upd0 u8'
    have q2 := q.upd u9 (fun b hb hb' => hL3 b hb (List.mem_singleton.1 hb')) (noneg e9.new e9.mem)
    exact q2
  have s9 : P4S H 1073741824 g1 g2 0 none none 0 0 S1 S2 ⟨1073741824, [], 0⟩ ⟨1073741824, [], 0⟩ [] [] [] H9 :=
    ⟨w19, w29, ap2, OwnRow.nil _ _ _, OwnRow.nil _ _ _, fun p hp => (by cases hp), fun p hp => (by cases hp), fun p q hp => (by cases hp), Grp.nil _ _, fun v hv => by simp at hv, fun v hv => by simp at hv, fun i l hl => by simp at hl, fun v hv => by simp at hv, u09⟩
  clear w19 w29 e9 u9 rl9 u8' o8 e7 u67 ns3 lr5 nr5 u7 o7 hx1 hx2 hX
  first | refine hcutC (a := Code.seq (Code.region _ _ _) (Code.block _ _)) [4, 11, 12, 13, 14, 15, 16, 17, 18, 19, 20, 95, 96, 97, 98, 99, 100, 101, 102, 103, 104, 105, 106, 107, 108, 109, 110, 111, 112, 113, 114, 115, 116, 117, 118, 119, 120, 121, 122, 123, 124, 125, 126, 127, 128, 129, 130, 131, 132, 133, 134, 135, 136, 137, 138, 139, 140, 141, 142, 143, 144, 145, 146, 147, 148, 149, 150, 151, 152, 153, 154, 155, 156, 157, 158, 159, 160, 161, 162, 163, 164, 165, 166, 167, 168, 169, 170, 171, 172, 173, 174, 175, 176, 177, 178, 179, 180, 181, 182, 183, 184, 185, 186, 187, 188, 189, 190, 191, 192, 193, 194, 195, 196, 197, 198] [11, 12] (P4J H g1 g2) rfl (by repeat' first | exact Resp.retD | exact Resp1.valuesK | refine Resp.blockD ?_ | refine Resp.thenD ?_ ?_ | refine Resp.hcode ?_) ?_ ?_ | ((first | refine HReg.step ?_ | refine HCode.step ?_); first | refine hcutC (a := Code.seq (Code.region _ _ _) (Code.block _ _)) [4, 11, 12, 13, 14, 15, 16, 17, 18, 19, 20, 95, 96, 97, 98, 99, 100, 101, 102, 103, 104, 105, 106, 107, 108, 109, 110, 111, 112, 113, 114, 115, 116, 117, 118, 119, 120, 121, 122, 123, 124, 125, 126, 127, 128, 129, 130, 131, 132, 133, 134, 135, 136, 137, 138, 139, 140, 141, 142, 143, 144, 145, 146, 147, 148, 149, 150, 151, 152, 153, 154, 155, 156, 157, 158, 159, 160, 161, 162, 163, 164, 165, 166, 167, 168, 169, 170, 171, 172, 173, 174, 175, 176, 177, 178, 179, 180, 181, 182, 183, 184, 185, 186, 187, 188, 189, 190, 191, 192, 193, 194, 195, 196, 197, 198] [11, 12] (P4J H g1 g2) rfl (by repeat' first | exact Resp.retD | exact Resp1.valuesK | refine Resp.blockD ?_ | refine Resp.thenD ?_ ?_ | refine Resp.hcode ?_) ?_ ?_ | ((first | refine HReg.step ?_ | refine HCode.step ?_); first | refine hcutC (a := Code.seq (Code.region _ _ _) (Code.block _ _)) [4, 11, 12, 13, 14, 15, 16, 17, 18, 19, 20, 95, 96, 97, 98, 99, 100, 101, 102, 103, 104, 105, 106, 107, 108, 109, 110, 111, 112, 113, 114, 115, 116, 117, 118, 119, 120, 121, 122, 123, 124, 125, 126, 127, 128, 129, 130, 131, 132, 133, 134, 135, 136, 137, 138, 139, 140, 141, 142, 143, 144, 145, 146, 147, 148, 149, 150, 151, 152, 153, 154, 155, 156, 157, 158, 159, 160, 161, 162, 163, 164, 165, 166, 167, 168, 169, 170, 171, 172, 173, 174, 175, 176, 177, 178, 179, 180, 181, 182, 183, 184, 185, 186, 187, 188, 189, 190, 191, 192, 193, 194, 195, 196, 197, 198] [11, 12] (P4J H g1 g2) rfl (by repeat' first | exact Resp.retD | exact Resp1.valuesK | refine Resp.blockD ?_ | refine Resp.thenD ?_ ?_ | refine Resp.hcode ?_) ?_ ?_ | ((first | refine HReg.step ?_ | refine HCode.step ?_); first | refine hcutC (a := Code.seq (Code.region _ _ _) (Code.block _ _)) [4, 11, 12, 13, 14, 15, 16, 17, 18, 19, 20, 95, 96, 97, 98, 99, 100, 101, 102, 103, 104, 105, 106, 107, 108, 109, 110, 111, 112, 113, 114, 115, 116, 117, 118, 119, 120, 121, 122, 123, 124, 125, 126, 127, 128, 129, 130, 131, 132, 133, 134, 135, 136, 137, 138, 139, 140, 141, 142, 143, 144, 145, 146, 147, 148, 149, 150, 151, 152, 153, 154, 155, 156, 157, 158, 159, 160, 161, 162, 163, 164, 165, 166, 167, 168, 169, 170, 171, 172, 173, 174, 175, 176, 177, 178, 179, 180, 181, 182, 183, 184, 185, 186, 187, 188, 189, 190, 191, 192, 193, 194, 195, 196, 197, 198] [11, 12] (P4J H g1 g2) rfl (by repeat' first | exact Resp.retD | exact Resp1.valuesK | refine Resp.blockD ?_ | refine Resp.thenD ?_ ?_ | refine Resp.hcode ?_) ?_ ?_ | ((first | refine HReg.step ?_ | refine HCode.step ?_); first | refine hcutC (a := Code.seq (Code.region _ _ _) (Code.block _ _)) [4, 11, 12, 13, 14, 15, 16, 17, 18, 19, 20, 95, 96, 97, 98, 99, 100, 101, 102, 103, 104, 105, 106, 107, 108, 109, 110, 111, 112, 113, 114, 115, 116, 117, 118, 119, 120, 121, 122, 123, 124, 125, 126, 127, 128, 129, 130, 131, 132, 133, 134, 135, 136, 137, 138, 139, 140, 141, 142, 143, 144, 145, 146, 147, 148, 149, 150, 151, 152, 153, 154, 155, 156, 157, 158, 159, 160, 161, 162, 163, 164, 165, 166, 167, 168, 169, 170, 171, 172, 173, 174, 175, 176, 177, 178, 179, 180, 181, 182, 183, 184, 185, 186, 187, 188, 189, 190, 191, 192, 193, 194, 195, 196, 197, 198] [11, 12] (P4J H g1 g2) rfl (by repeat' first | exact Resp.retD | exact Resp1.valuesK | refine Resp.blockD ?_ | refine Resp.thenD ?_ ?_ | refine Resp.hcode ?_) ?_ ?_ | ((first | refine HReg.step ?_ | refine HCode.step ?_); first | refine hcutC (a := Code.seq (Code.region _ _ _) (Code.block _ _)) [4, 11, 12, 13, 14, 15, 16, 17, 18, 19, 20, 95, 96, 97, 98, 99, 100, 101, 102, 103, 104, 105, 106, 107, 108, 109, 110, 111, 112, 113, 114, 115, 116, 117, 118, 119, 120, 121, 122, 123, 124, 125, 126, 127, 128, 129, 130, 131, 132, 133, 134, 135, 136, 137, 138, 139, 140, 141, 142, 143, 144, 145, 146, 147, 148, 149, 150, 151, 152, 153, 154, 155, 156, 157, 158, 159, 160, 161, 162, 163, 164, 165, 166, 167, 168, 169, 170, 171, 172, 173, 174, 175, 176, 177, 178, 179, 180, 181, 182, 183, 184, 185, 186, 187, 188, 189, 190, 191, 192, 193, 194, 195, 196, 197, 198] [11, 12] (P4J H g1 g2) rfl (by repeat' first | exact Resp.retD | exact Resp1.valuesK | refine Resp.blockD ?_ | refine Resp.thenD ?_ ?_ | refine Resp.hcode ?_) ?_ ?_ | ((first | refine HReg.step ?_ | refine HCode.step ?_); first | refine hcutC (a := Code.seq (Code.region _ _ _) (Code.block _ _)) [4, 11, 12, 13, 14, 15, 16, 17, 18, 19, 20, 95, 96, 97, 98, 99, 100, 101, 102, 103, 104, 105, 106, 107, 108, 109, 110, 111, 112, 113, 114, 115, 116, 117, 118, 119, 120, 121, 122, 123, 124, 125, 126, 127, 128, 129, 130, 131, 132, 133, 134, 135, 136, 137, 138, 139, 140, 141, 142, 143, 144, 145, 146, 147, 148, 149, 150, 151, 152, 153, 154, 155, 156, 157, 158, 159, 160, 161, 162, 163, 164, 165, 166, 167, 168, 169, 170, 171, 172, 173, 174, 175, 176, 177, 178, 179, 180, 181, 182, 183, 184, 185, 186, 187, 188, 189, 190, 191, 192, 193, 194, 195, 196, 197, 198] [11, 12] (P4J H g1 g2) rfl (by repeat' first | exact Resp.retD | exact Resp1.valuesK | refine Resp.blockD ?_ | refine Resp.thenD ?_ ?_ | refine Resp.hcode ?_) ?_ ?_ | ((first | refine HReg.step ?_ | refine HCode.step ?_); first | refine hcutC (a := Code.seq (Code.region _ _ _) (Code.block _ _)) [4, 11, 12, 13, 14, 15, 16, 17, 18, 19, 20, 95, 96, 97, 98, 99, 100, 101, 102, 103, 104, 105, 106, 107, 108, 109, 110, 111, 112, 113, 114, 115, 116, 117, 118, 119, 120, 121, 122, 123, 124, 125, 126, 127, 128, 129, 130, 131, 132, 133, 134, 135, 136, 137, 138, 139, 140, 141, 142, 143, 144, 145, 146, 147, 148, 149, 150, 151, 152, 153, 154, 155, 156, 157, 158, 159, 160, 161, 162, 163, 164, 165, 166, 167, 168, 169, 170, 171, 172, 173, 174, 175, 176, 177, 178, 179, 180, 181, 182, 183, 184, 185, 186, 187, 188, 189, 190, 191, 192, 193, 194, 195, 196, 197, 198] [11, 12] (P4J H g1 g2) rfl (by repeat' first | exact Resp.retD | exact Resp1.valuesK | refine Resp.blockD ?_ | refine Resp.thenD ?_ ?_ | refine Resp.hcode ?_) ?_ ?_ | ((first | refine HReg.step ?_ | refine HCode.step ?_); first | refine hcutC (a := Code.seq (Code.region _ _ _) (Code.block _ _)) [4, 11, 12, 13, 14, 15, 16, 17, 18, 19, 20, 95, 96, 97, 98, 99, 100, 101, 102, 103, 104, 105, 106, 107, 108, 109, 110, 111, 112, 113, 114, 115, 116, 117, 118, 119, 120, 121, 122, 123, 124, 125, 126, 127, 128, 129, 130, 131, 132, 133, 134, 135, 136, 137, 138, 139, 140, 141, 142, 143, 144, 145, 146, 147, 148, 149, 150, 151, 152, 153, 154, 155, 156, 157, 158, 159, 160, 161, 162, 163, 164, 165, 166, 167, 168, 169, 170, 171, 172, 173, 174, 175, 176, 177, 178, 179, 180, 181, 182, 183, 184, 185, 186, 187, 188, 189, 190, 191, 192, 193, 194, 195, 196, 197, 198] [11, 12] (P4J H g1 g2) rfl (by repeat' first | exact Resp.retD | exact Resp1.valuesK | refine Resp.blockD ?_ | refine Resp.thenD ?_ ?_ | refine Resp.hcode ?_) ?_ ?_ | ((first | refine HReg.step ?_ | refine HCode.step ?_); first | refine hcutC (a := Code.seq (Code.region _ _ _) (Code.block _ _)) [4, 11, 12, 13, 14, 15, 16, 17, 18, 19, 20, 95, 96, 97, 98, 99, 100, 101, 102, 103, 104, 105, 106, 107, 108, 109, 110, 111, 112, 113, 114, 115, 116, 117, 118, 119, 120, 121, 122, 123, 124, 125, 126, 127, 128, 129, 130, 131, 132, 133, 134, 135, 136, 137, 138, 139, 140, 141, 142, 143, 144, 145, 146, 147, 148, 149, 150, 151, 152, 153, 154, 155, 156, 157, 158, 159, 160, 161, 162, 163, 164, 165, 166, 167, 168, 169, 170, 171, 172, 173, 174, 175, 176, 177, 178, 179, 180, 181, 182, 183, 184, 185, 186, 187, 188, 189, 190, 191, 192, 193, 194, 195, 196, 197, 198] [11, 12] (P4J H g1 g2) rfl (by repeat' first | exact Resp.retD | exact Resp1.valuesK | refine Resp.blockD ?_ | refine Resp.thenD ?_ ?_ | refine Resp.hcode ?_) ?_ ?_ | ((first | refine HReg.step ?_ | refine HCode.step ?_); first | refine hcutC (a := Code.seq (Code.region _ _ _) (Code.block _ _)) [4, 11, 12, 13, 14, 15, 16, 17, 18, 19, 20, 95, 96, 97, 98, 99, 100, 101, 102, 103, 104, 105, 106, 107, 108, 109, 110, 111, 112, 113, 114, 115, 116, 117, 118, 119, 120, 121, 122, 123, 124, 125, 126, 127, 128, 129, 130, 131, 132, 133, 134, 135, 136, 137, 138, 139, 140, 141, 142, 143, 144, 145, 146, 147, 148, 149, 150, 151, 152, 153, 154, 155, 156, 157, 158, 159, 160, 161, 162, 163, 164, 165, 166, 167, 168, 169, 170, 171, 172, 173, 174, 175, 176, 177, 178, 179, 180, 181, 182, 183, 184, 185, 186, 187, 188, 189, 190, 191, 192, 193, 194, 195, 196, 197, 198] [11, 12] (P4J H g1 g2) rfl (by repeat' first | exact Resp.retD | exact Resp1.valuesK | refine Resp.blockD ?_ | refine Resp.thenD ?_ ?_ | refine Resp.hcode ?_) ?_ ?_ | ((first | refine HReg.step ?_ | refine HCode.step ?_); first | refine hcutC (a := Code.seq (Code.region _ _ _) (Code.block _ _)) [4, 11, 12, 13, 14, 15, 16, 17, 18, 19, 20, 95, 96, 97, 98, 99, 100, 101, 102, 103, 104, 105, 106, 107, 108, 109, 110, 111, 112, 113, 114, 115, 116, 117, 118, 119, 120, 121, 122, 123, 124, 125, 126, 127, 128, 129, 130, 131, 132, 133, 134, 135, 136, 137, 138, 139, 140, 141, 142, 143, 144, 145, 146, 147, 148, 149, 150, 151, 152, 153, 154, 155, 156, 157, 158, 159, 160, 161, 162, 163, 164, 165, 166, 167, 168, 169, 170, 171, 172, 173, 174, 175, 176, 177, 178, 179, 180, 181, 182, 183, 184, 185, 186, 187, 188, 189, 190, 191, 192, 193, 194, 195, 196, 197, 198] [11, 12] (P4J H g1 g2) rfl (by repeat' first | exact Resp.retD | exact Resp1.valuesK | refine Resp.blockD ?_ | refine Resp.thenD ?_ ?_ | refine Resp.hcode ?_) ?_ ?_ | ((first | refine HReg.step ?_ | refine HCode.step ?_); first | refine hcutC (a := Code.seq (Code.region _ _ _) (Code.block _ _)) [4, 11, 12, 13, 14, 15, 16, 17, 18, 19, 20, 95, 96, 97, 98, 99, 100, 101, 102, 103, 104, 105, 106, 107, 108, 109, 110, 111, 112, 113, 114, 115, 116, 117, 118, 119, 120, 121, 122, 123, 124, 125, 126, 127, 128, 129, 130, 131, 132, 133, 134, 135, 136, 137, 138, 139, 140, 141, 142, 143, 144, 145, 146, 147, 148, 149, 150, 151, 152, 153, 154, 155, 156, 157, 158, 159, 160, 161, 162, 163, 164, 165, 166, 167, 168, 169, 170, 171, 172, 173, 174, 175, 176, 177, 178, 179, 180, 181, 182, 183, 184, 185, 186, 187, 188, 189, 190, 191, 192, 193, 194, 195, 196, 197, 198] [11, 12] (P4J H g1 g2) rfl (by repeat' first | exact Resp.retD | exact Resp1.valuesK | refine Resp.blockD ?_ | refine Resp.thenD ?_ ?_ | refine Resp.hcode ?_) ?_ ?_ | ((first | refine HReg.step ?_ | refine HCode.step ?_); first | refine hcutC (a := Code.seq (Code.region _ _ _) (Code.block _ _)) [4, 11, 12, 13, 14, 15, 16, 17, 18, 19, 20, 95, 96, 97, 98, 99, 100, 101, 102, 103, 104, 105, 106, 107, 108, 109, 110, 111, 112, 113, 114, 115, 116, 117, 118, 119, 120, 121, 122, 123, 124, 125, 126, 127, 128, 129, 130, 131, 132, 133, 134, 135, 136, 137, 138, 139, 140, 141, 142, 143, 144, 145, 146, 147, 148, 149, 150, 151, 152, 153, 154, 155, 156, 157, 158, 159, 160, 161, 162, 163, 164, 165, 166, 167, 168, 169, 170, 171, 172, 173, 174, 175, 176, 177, 178, 179, 180, 181, 182, 183, 184, 185, 186, 187, 188, 189, 190, 191, 192, 193, 194, 195, 196, 197, 198] [11, 12] (P4J H g1 g2) rfl (by repeat' first | exact Resp.retD | exact Resp1.valuesK | refine Resp.blockD ?_ | refine Resp.thenD ?_ ?_ | refine Resp.hcode ?_) ?_ ?_ | ((first | refine HReg.step ?_ | refine HCode.step ?_); first | refine hcutC (a := Code.seq (Code.region _ _ _) (Code.block _ _)) [4, 11, 12, 13, 14, 15, 16, 17, 18, 19, 20, 95, 96, 97, 98, 99, 100, 101, 102, 103, 104, 105, 106, 107, 108, 109, 110, 111, 112, 113, 114, 115, 116, 117, 118, 119, 120, 121, 122, 123, 124, 125, 126, 127, 128, 129, 130, 131, 132, 133, 134, 135, 136, 137, 138, 139, 140, 141, 142, 143, 144, 145, 146, 147, 148, 149, 150, 151, 152, 153, 154, 155, 156, 157, 158, 159, 160, 161, 162, 163, 164, 165, 166, 167, 168, 169, 170, 171, 172, 173, 174, 175, 176, 177, 178, 179, 180, 181, 182, 183, 184, 185, 186, 187, 188, 189, 190, 191, 192, 193, 194, 195, 196, 197, 198] [11, 12] (P4J H g1 g2) rfl (by repeat' first | exact Resp.retD | exact Resp1.valuesK | refine Resp.blockD ?_ | refine Resp.thenD ?_ ?_ | refine Resp.hcode ?_) ?_ ?_ | ((first | refine HReg.step ?_ | refine HCode.step ?_); first | refine hcutC (a := Code.seq (Code.region _ _ _) (Code.block _ _)) [4, 11, 12, 13, 14, 15, 16, 17, 18, 19, 20, 95, 96, 97, 98, 99, 100, 101, 102, 103, 104, 105, 106, 107, 108, 109, 110, 111, 112, 113, 114, 115, 116, 117, 118, 119, 120, 121, 122, 123, 124, 125, 126, 127, 128, 129, 130, 131, 132, 133, 134, 135, 136, 137, 138, 139, 140, 141, 142, 143, 144, 145, 146, 147, 148, 149, 150, 151, 152, 153, 154, 155, 156, 157, 158, 159, 160, 161, 162, 163, 164, 165, 166, 167, 168, 169, 170, 171, 172, 173, 174, 175, 176, 177, 178, 179, 180, 181, 182, 183, 184, 185, 186, 187, 188, 189, 190, 191, 192, 193, 194, 195, 196, 197, 198] [11, 12] (P4J H g1 g2) rfl (by repeat' first | exact Resp.retD | exact Resp1.valuesK | refine Resp.blockD ?_ | refine Resp.thenD ?_ ?_ | refine Resp.hcode ?_) ?_ ?_ | ((first | refine HReg.step ?_ | refine HCode.step ?_); first | refine hcutC (a := Code.seq (Code.region _ _ _) (Code.block _ _)) [4, 11, 12, 13, 14, 15, 16, 17, 18, 19, 20, 95, 96, 97, 98, 99, 100, 101, 102, 103, 104, 105, 106, 107, 108, 109, 110, 111, 112, 113, 114, 115, 116, 117, 118, 119, 120, 121, 122, 123, 124, 125, 126, 127, 128, 129, 130, 131, 132, 133, 134, 135, 136, 137, 138, 139, 140, 141, 142, 143, 144, 145, 146, 147, 148, 149, 150, 151, 152, 153, 154, 155, 156, 157, 158, 159, 160, 161, 162, 163, 164, 165, 166, 167, 168, 169, 170, 171, 172, 173, 174, 175, 176, 177, 178, 179, 180, 181, 182, 183, 184, 185, 186, 187, 188, 189, 190, 191, 192, 193, 194, 195, 196, 197, 198] [11, 12] (P4J H g1 g2) rfl (by repeat' first | exact Resp.retD | exact Resp1.valuesK | refine Resp.blockD ?_ | refine Resp.thenD ?_ ?_ | refine Resp.hcode ?_) ?_ ?_ | ((first | refine HReg.step ?_ | refine HCode.step ?_); first | refine hcutC (a := Code.seq (Code.region _ _ _) (Code.block _ _)) [4, 11, 12, 13, 14, 15, 16, 17, 18, 19, 20, 95, 96, 97, 98, 99, 100, 101, 102, 103, 104, 105, 106, 107, 108, 109, 110, 111, 112, 113, 114, 115, 116, 117, 118, 119, 120, 121, 122, 123, 124, 125, 126, 127, 128, 129, 130, 131, 132, 133, 134, 135, 136, 137, 138, 139, 140, 141, 142, 143, 144, 145, 146, 147, 148, 149, 150, 151, 152, 153, 154, 155, 156, 157, 158, 159, 160, 161, 162, 163, 164, 165, 166, 167, 168, 169, 170, 171, 172, 173, 174, 175, 176, 177, 178, 179, 180, 181, 182, 183, 184, 185, 186, 187, 188, 189, 190, 191, 192, 193, 194, 195, 196, 197, 198] [11, 12] (P4J H g1 g2) rfl (by repeat' first | exact Resp.retD | exact Resp1.valuesK | refine Resp.blockD ?_ | refine Resp.thenD ?_ ?_ | refine Resp.hcode ?_) ?_ ?_ | ((first | refine HReg.step ?_ | refine HCode.step ?_); first | refine hcutC (a := Code.seq (Code.region _ _ _) (Code.block _ _)) [4, 11, 12, 13, 14, 15, 16, 17, 18, 19, 20, 95, 96, 97, 98, 99, 100, 101, 102, 103, 104, 105, 106, 107, 108, 109, 110, 111, 112, 113, 114, 115, 116, 117, 118, 119, 120, 121, 122, 123, 124, 125, 126, 127, 128, 129, 130, 131, 132, 133, 134, 135, 136, 137, 138, 139, 140, 141, 142, 143, 144, 145, 146, 147, 148, 149, 150, 151, 152, 153, 154, 155, 156, 157, 158, 159, 160, 161, 162, 163, 164, 165, 166, 167, 168, 169, 170, 171, 172, 173, 174, 175, 176, 177, 178, 179, 180, 181, 182, 183, 184, 185, 186, 187, 188, 189, 190, 191, 192, 193, 194, 195, 196, 197, 198] [11, 12] (P4J H g1 g2) rfl (by repeat' first | exact Resp.retD | exact Resp1.valuesK | refine Resp.blockD ?_ | refine Resp.thenD ?_ ?_ | refine Resp.hcode ?_) ?_ ?_ | ((first | refine HReg.step ?_ | refine HCode.step ?_); first | refine hcutC (a := Code.seq (Code.region _ _ _) (Code.block _ _)) [4, 11, 12, 13, 14, 15, 16, 17, 18, 19, 20, 95, 96, 97, 98, 99, 100, 101, 102, 103, 104, 105, 106, 107, 108, 109, 110, 111, 112, 113, 114, 115, 116, 117, 118, 119, 120, 121, 122, 123, 124, 125, 126, 127, 128, 129, 130, 131, 132, 133, 134, 135, 136, 137, 138, 139, 140, 141, 142, 143, 144, 145, 146, 147, 148, 149, 150, 151, 152, 153, 154, 155, 156, 157, 158, 159, 160, 161, 162, 163, 164, 165, 166, 167, 168, 169, 170, 171, 172, 173, 174, 175, 176, 177, 178, 179, 180, 181, 182, 183, 184, 185, 186, 187, 188, 189, 190, 191, 192, 193, 194, 195, 196, 197, 198] [11, 12] (P4J H g1 g2) rfl (by repeat' first | exact Resp.retD | exact Resp1.valuesK | refine Resp.blockD ?_ | refine Resp.thenD ?_ ?_ | refine Resp.hcode ?_) ?_ ?_ | ((first | refine HReg.step ?_ | refine HCode.step ?_); first | refine hcutC (a := Code.seq (Code.region _ _ _) (Code.block _ _)) [4, 11, 12, 13, 14, 15, 16, 17, 18, 19, 20, 95, 96, 97, 98, 99, 100, 101, 102, 103, 104, 105, 106, 107, 108, 109, 110, 111, 112, 113, 114, 115, 116, 117, 118, 119, 120, 121, 122, 123, 124, 125, 126, 127, 128, 129, 130, 131, 132, 133, 134, 135, 136, 137, 138, 139, 140, 141, 142, 143, 144, 145, 146, 147, 148, 149, 150, 151, 152, 153, 154, 155, 156, 157, 158, 159, 160, 161, 162, 163, 164, 165, 166, 167, 168, 169, 170, 171, 172, 173, 174, 175, 176, 177, 178, 179, 180, 181, 182, 183, 184, 185, 186, 187, 188, 189, 190, 191, 192, 193, 194, 195, 196, 197, 198] [11, 12] (P4J H g1 g2) rfl (by repeat' first | exact Resp.retD | exact Resp1.valuesK | refine Resp.blockD ?_ | refine Resp.thenD ?_ ?_ | refine Resp.hcode ?_) ?_ ?_ | ((first | refine HReg.step ?_ | refine HCode.step ?_); first | refine hcutC (a := Code.seq (Code.region _ _ _) (Code.block _ _)) [4, 11, 12, 13, 14, 15, 16, 17, 18, 19, 20, 95, 96, 97, 98, 99, 100, 101, 102, 103, 104, 105, 106, 107, 108, 109, 110, 111, 112, 113, 114, 115, 116, 117, 118, 119, 120, 121, 122, 123, 124, 125, 126, 127, 128, 129, 130, 131, 132, 133, 134, 135, 136, 137, 138, 139, 140, 141, 142, 143, 144, 145, 146, 147, 148, 149, 150, 151, 152, 153, 154, 155, 156, 157, 158, 159, 160, 161, 162, 163, 164, 165, 166, 167, 168, 169, 170, 171, 172, 173, 174, 175, 176, 177, 178, 179, 180, 181, 182, 183, 184, 185, 186, 187, 188, 189, 190, 191, 192, 193, 194, 195, 196, 197, 198] [11, 12] (P4J H g1 g2) rfl (by repeat' first | exact Resp.retD | exact Resp1.valuesK | refine Resp.blockD ?_ | refine Resp.thenD ?_ ?_ | refine Resp.hcode ?_) ?_ ?_ | ((first | refine HReg.step ?_ | refine HCode.step ?_); first | refine hcutC (a := Code.seq (Code.region _ _ _) (Code.block _ _)) [4, 11, 12, 13, 14, 15, 16, 17, 18, 19, 20, 95, 96, 97, 98, 99, 100, 101, 102, 103, 104, 105, 106, 107, 108, 109, 110, 111, 112, 113, 114, 115, 116, 117, 118, 119, 120, 121, 122, 123, 124, 125, 126, 127, 128, 129, 130, 131, 132, 133, 134, 135, 136, 137, 138, 139, 140, 141, 142, 143, 144, 145, 146, 147, 148, 149, 150, 151, 152, 153, 154, 155, 156, 157, 158, 159, 160, 161, 162, 163, 164, 165, 166, 167, 168, 169, 170, 171, 172, 173, 174, 175, 176, 177, 178, 179, 180, 181, 182, 183, 184, 185, 186, 187, 188, 189, 190, 191, 192, 193, 194, 195, 196, 197, 198] [11, 12] (P4J H g1 g2) rfl (by repeat' first | exact Resp.retD | exact Resp1.valuesK | refine Resp.blockD ?_ | refine Resp.thenD ?_ ?_ | refine Resp.hcode ?_) ?_ ?_ | ((first | refine HReg.step ?_ | refine HCode.step ?_); first | refine hcutC (a := Code.seq (Code.region _ _ _) (Code.block _ _)) [4, 11, 12, 13, 14, 15, 16, 17, 18, 19, 20, 95, 96, 97, 98, 99, 100, 101, 102, 103, 104, 105, 106, 107, 108, 109, 110, 111, 112, 113, 114, 115, 116, 117, 118, 119, 120, 121, 122, 123, 124, 125, 126, 127, 128, 129, 130, 131, 132, 133, 134, 135, 136, 137, 138, 139, 140, 141, 142, 143, 144, 145, 146, 147, 148, 149, 150, 151, 152, 153, 154, 155, 156, 157, 158, 159, 160, 161, 162, 163, 164, 165, 166, 167, 168, 169, 170, 171, 172, 173, 174, 175, 176, 177, 178, 179, 180, 181, 182, 183, 184, 185, 186, 187, 188, 189, 190, 191, 192, 193, 194, 195, 196, 197, 198] [11, 12] (P4J H g1 g2) rfl (by repeat' first | exact Resp.retD | exact Resp1.valuesK | refine Resp.blockD ?_ | refine Resp.thenD ?_ ?_ | refine Resp.hcode ?_) ?_ ?_ | ((first | refine HReg.step ?_ | refine HCode.step ?_); first | refine hcutC (a := Code.seq (Code.region _ _ _) (Code.block _ _)) [4, 11, 12, 13, 14, 15, 16, 17, 18, 19, 20, 95, 96, 97, 98, 99, 100, 101, 102, 103, 104, 105, 106, 107, 108, 109, 110, 111, 112, 113, 114, 115, 116, 117, 118, 119, 120, 121, 122, 123, 124, 125, 126, 127, 128, 129, 130, 131, 132, 133, 134, 135, 136, 137, 138, 139, 140, 141, 142, 143, 144, 145, 146, 147, 148, 149, 150, 151, 152, 153, 154, 155, 156, 157, 158, 159, 160, 161, 162, 163, 164, 165, 166, 167, 168, 169, 170, 171, 172, 173, 174, 175, 176, 177, 178, 179, 180, 181, 182, 183, 184, 185, 186, 187, 188, 189, 190, 191, 192, 193, 194, 195, 196, 197, 198] [11, 12] (P4J H g1 g2) rfl (by repeat' first | exact Resp.retD | exact Resp1.valuesK | refine Resp.blockD ?_ | refine Resp.thenD ?_ ?_ | refine Resp.hcode ?_) ?_ ?_ | ((first | refine HReg.step ?_ | refine HCode.step ?_); first | refine hcutC (a := Code.seq (Code.region _ _ _) (Code.block _ _)) [4, 11, 12, 13, 14, 15, 16, 17, 18, 19, 20, 95, 96, 97, 98, 99, 100, 101, 102, 103, 104, 105, 106, 107, 108, 109, 110, 111, 112, 113, 114, 115, 116, 117, 118, 119, 120, 121, 122, 123, 124, 125, 126, 127, 128, 129, 130, 131, 132, 133, 134, 135, 136, 137, 138, 139, 140, 141, 142, 143, 144, 145, 146, 147, 148, 149, 150, 151, 152, 153, 154, 155, 156, 157, 158, 159, 160, 161, 162, 163, 164, 165, 166, 167, 168, 169, 170, 171, 172, 173, 174, 175, 176, 177, 178, 179, 180, 181, 182, 183, 184, 185, 186, 187, 188, 189, 190, 191, 192, 193, 194, 195, 196, 197, 198] [11, 12] (P4J H g1 g2) rfl (by repeat' first | exact Resp.retD | exact Resp1.valuesK | refine Resp.blockD ?_ | refine Resp.thenD ?_ ?_ | refine Resp.hcode ?_) ?_ ?_ | ((first | refine HReg.step ?_ | refine HCode.step ?_); first | refine hcutC (a := Code.seq (Code.region _ _ _) (Code.block _ _)) [4, 11, 12, 13, 14, 15, 16, 17, 18, 19, 20, 95, 96, 97, 98, 99, 100, 101, 102, 103, 104, 105, 106, 107, 108, 109, 110, 111, 112, 113, 114, 115, 116, 117, 118, 119, 120, 121, 122, 123, 124, 125, 126, 127, 128, 129, 130, 131, 132, 133, 134, 135, 136, 137, 138, 139, 140, 141, 142, 143, 144, 145, 146, 147, 148, 149, 150, 151, 152, 153, 154, 155, 156, 157, 158, 159, 160, 161, 162, 163, 164, 165, 166, 167, 168, 169, 170, 171, 172, 173, 174, 175, 176, 177, 178, 179, 180, 181, 182, 183, 184, 185, 186, 187, 188, 189, 190, 191, 192, 193, 194, 195, 196, 197, 198] [11, 12] (P4J H g1 g2) rfl (by repeat' first | exact Resp.retD | exact Resp1.valuesK | refine Resp.blockD ?_ | refine Resp.thenD ?_ ?_ | refine Resp.hcode ?_) ?_ ?_ | ((first | refine HReg.step ?_ | refine HCode.step ?_); first | refine hcutC (a := Code.seq (Code.region _ _ _) (Code.block _ _)) [4, 11, 12, 13, 14, 15, 16, 17, 18, 19, 20, 95, 96, 97, 98, 99, 100, 101, 102, 103, 104, 105, 106, 107, 108, 109, 110, 111, 112, 113, 114, 115, 116, 117, 118, 119, 120, 121, 122, 123, 124, 125, 126, 127, 128, 129, 130, 131, 132, 133, 134, 135, 136, 137, 138, 139, 140, 141, 142, 143, 144, 145, 146, 147, 148, 149, 150, 151, 152, 153, 154, 155, 156, 157, 158, 159, 160, 161, 162, 163, 164, 165, 166, 167, 168, 169, 170, 171, 172, 173, 174, 175, 176, 177, 178, 179, 180, 181, 182, 183, 184, 185, 186, 187, 188, 189, 190, 191, 192, 193, 194, 195, 196, 197, 198] [11, 12] (P4J H g1 g2) rfl (by repeat' first | exact Resp.retD | exact Resp1.valuesK | refine Resp.blockD ?_ | refine Resp.thenD ?_ ?_ | refine Resp.hcode ?_) ?_ ?_ | ((first | refine HReg.step ?_ | refine HCode.step ?_); first | refine hcutC (a := Code.seq (Code.region _ _ _) (Code.block _ _)) [4, 11, 12, 13, 14, 15, 16, 17, 18, 19, 20, 95, 96, 97, 98, 99, 100, 101, 102, 103, 104, 105, 106, 107, 108, 109, 110, 111, 112, 113, 114, 115, 116, 117, 118, 119, 120, 121, 122, 123, 124, 125, 126, 127, 128, 129, 130, 131, 132, 133, 134, 135, 136, 137, 138, 139, 140, 141, 142, 143, 144, 145, 146, 147, 148, 149, 150, 151, 152, 153, 154, 155, 156, 157, 158, 159, 160, 161, 162, 163, 164, 165, 166, 167, 168, 169, 170, 171, 172, 173, 174, 175, 176, 177, 178, 179, 180, 181, 182, 183, 184, 185, 186, 187, 188, 189, 190, 191, 192, 193, 194, 195, 196, 197, 198] [11, 12] (P4J H g1 g2) rfl (by repeat' first | exact Resp.retD | exact Resp1.valuesK | refine Resp.blockD ?_ | refine Resp.thenD ?_ ?_ | refine Resp.hcode ?_) ?_ ?_ | ((first | refine HReg.step ?_ | refine HCode.step ?_); first | refine hcutC (a := Code.seq (Code.region _ _ _) (Code.block _ _)) [4, 11, 12, 13, 14, 15, 16, 17, 18, 19, 20, 95, 96, 97, 98, 99, 100, 101, 102, 103, 104, 105, 106, 107, 108, 109, 110, 111, 112, 113, 114, 115, 116, 117, 118, 119, 120, 121, 122, 123, 124, 125, 126, 127, 128, 129, 130, 131, 132, 133, 134, 135, 136, 137, 138, 139, 140, 141, 142, 143, 144, 145, 146, 147, 148, 149, 150, 151, 152, 153, 154, 155, 156, 157, 158, 159, 160, 161, 162, 163, 164, 165, 166, 167, 168, 169, 170, 171, 172, 173, 174, 175, 176, 177, 178, 179, 180, 181, 182, 183, 184, 185, 186, 187, 188, 189, 190, 191, 192, 193, 194, 195, 196, 197, 198] [11, 12] (P4J H g1 g2) rfl (by repeat' first | exact Resp.retD | exact Resp1.valuesK | refine Resp.blockD ?_ | refine Resp.thenD ?_ ?_ | refine Resp.hcode ?_) ?_ ?_ | ((first | refine HReg.step ?_ | refine HCode.step ?_); first | refine hcutC (a := Code.seq (Code.region _ _ _) (Code.block _ _)) [4, 11, 12, 13, 14, 15, 16, 17, 18, 19, 20, 95, 96, 97, 98, 99, 100, 101, 102, 103, 104, 105, 106, 107, 108, 109, 110, 111, 112, 113, 114, 115, 116, 117, 118, 119, 120, 121, 122, 123, 124, 125, 126, 127, 128, 129, 130, 131, 132, 133, 134, 135, 136, 137, 138, 139, 140, 141, 142, 143, 144, 145, 146, 147, 148, 149, 150, 151, 152, 153, 154, 155, 156, 157, 158, 159, 160, 161, 162, 163, 164, 165, 166, 167, 168, 169, 170, 171, 172, 173, 174, 175, 176, 177, 178, 179, 180, 181, 182, 183, 184, 185, 186, 187, 188, 189, 190, 191, 192, 193, 194, 195, 196, 197, 198] [11, 12] (P4J H g1 g2) rfl (by repeat' first | exact Resp.retD | exact Resp1.valuesK | refine Resp.blockD ?_ | refine Resp.thenD ?_ ?_ | refine Resp.hcode ?_) ?_ ?_ | ((first | refine HReg.step ?_ | refine HCode.step ?_); first | refine hcutC (a := Code.seq (Code.region _ _ _) (Code.block _ _)) [4, 11, 12, 13, 14, 15, 16, 17, 18, 19, 20, 95, 96, 97, 98, 99, 100, 101, 102, 103, 104, 105, 106, 107, 108, 109, 110, 111, 112, 113, 114, 115, 116, 117, 118, 119, 120, 121, 122, 123, 124, 125, 126, 127, 128, 129, 130, 131, 132, 133, 134, 135, 136, 137, 138, 139, 140, 141, 142, 143, 144, 145, 146, 147, 148, 149, 150, 151, 152, 153, 154, 155, 156, 157, 158, 159, 160, 161, 162, 163, 164, 165, 166, 167, 168, 169, 170, 171, 172, 173, 174, 175, 176, 177, 178, 179, 180, 181, 182, 183, 184, 185, 186, 187, 188, 189, 190, 191, 192, 193, 194, 195, 196, 197, 198] [11, 12] (P4J H g1 g2) rfl (by repeat' first | exact Resp.retD | exact Resp1.valuesK | refine Resp.blockD ?_ | refine Resp.thenD ?_ ?_ | refine Resp.hcode ?_) ?_ ?_ | ((first | refine HReg.step ?_ | refine HCode.step ?_); first | refine hcutC (a := Code.seq (Code.region _ _ _) (Code.block _ _)) [4, 11, 12, 13, 14, 15, 16, 17, 18, 19, 20, 95, 96, 97, 98, 99, 100, 101, 102, 103, 104, 105, 106, 107, 108, 109, 110, 111, 112, 113, 114, 115, 116, 117, 118, 119, 120, 121, 122, 123, 124, 125, 126, 127, 128, 129, 130, 131, 132, 133, 134, 135, 136, 137, 138, 139, 140, 141, 142, 143, 144, 145, 146, 147, 148, 149, 150, 151, 152, 153, 154, 155, 156, 157, 158, 159, 160, 161, 162, 163, 164, 165, 166, 167, 168, 169, 170, 171, 172, 173, 174, 175, 176, 177, 178, 179, 180, 181, 182, 183, 184, 185, 186, 187, 188, 189, 190, 191, 192, 193, 194, 195, 196, 197, 198] [11, 12] (P4J H g1 g2) rfl (by repeat' first | exact Resp.retD | exact Resp1.valuesK | refine Resp.blockD ?_ | refine Resp.thenD ?_ ?_ | refine Resp.hcode ?_) ?_ ?_ | ((first | refine HReg.step ?_ | refine HCode.step ?_); first | refine hcutC (a := Code.seq (Code.region _ _ _) (Code.block _ _)) [4, 11, 12, 13, 14, 15, 16, 17, 18, 19, 20, 95, 96, 97, 98, 99, 100, 101, 102, 103, 104, 105, 106, 107, 108, 109, 110, 111, 112, 113, 114, 115, 116, 117, 118, 119, 120, 121, 122, 123, 124, 125, 126, 127, 128, 129, 130, 131, 132, 133, 134, 135, 136, 137, 138, 139, 140, 141, 142, 143, 144, 145, 146, 147, 148, 149, 150, 151, 152, 153, 154, 155, 156, 157, 158, 159, 160, 161, 162, 163, 164, 165, 166, 167, 168, 169, 170, 171, 172, 173, 174, 175, 176, 177, 178, 179, 180, 181, 182, 183, 184, 185, 186, 187, 188, 189, 190, 191, 192, 193, 194, 195, 196, 197, 198] [11, 12] (P4J H g1 g2) rfl (by repeat' first | exact Resp.retD | exact Resp1.valuesK | refine Resp.blockD ?_ | refine Resp.thenD ?_ ?_ | refine Resp.hcode ?_) ?_ ?_ | ((first | refine HReg.step ?_ | refine HCode.step ?_); first | refine hcutC (a := Code.seq (Code.region _ _ _) (Code.block _ _)) [4, 11, 12, 13, 14, 15, 16, 17, 18, 19, 20, 95, 96, 97, 98, 99, 100, 101, 102, 103, 104, 105, 106, 107, 108, 109, 110, 111, 112, 113, 114, 115, 116, 117, 118, 119, 120, 121, 122, 123, 124, 125, 126, 127, 128, 129, 130, 131, 132, 133, 134, 135, 136, 137, 138, 139, 140, 141, 142, 143, 144, 145, 146, 147, 148, 149, 150, 151, 152, 153, 154, 155, 156, 157, 158, 159, 160, 161, 162, 163, 164, 165, 166, 167, 168, 169, 170, 171, 172, 173, 174, 175, 176, 177, 178, 179, 180, 181, 182, 183, 184, 185, 186, 187, 188, 189, 190, 191, 192, 193, 194, 195, 196, 197, 198] [11, 12] (P4J H g1 g2) rfl (by repeat' first | exact Resp.retD | exact Resp1.valuesK | refine Resp.blockD ?_ | refine Resp.thenD ?_ ?_ | refine Resp.hcode ?_) ?_ ?_ | ((first | refine HReg.step ?_ | refine HCode.step ?_); first | refine hcutC (a := Code.seq (Code.region _ _ _) (Code.block _ _)) [4, 11, 12, 13, 14, 15, 16, 17, 18, 19, 20, 95, 96, 97, 98, 99, 100, 101, 102, 103, 104, 105, 106, 107, 108, 109, 110, 111, 112, 113, 114, 115, 116, 117, 118, 119, 120, 121, 122, 123, 124, 125, 126, 127, 128, 129, 130, 131, 132, 133, 134, 135, 136, 137, 138, 139, 140, 141, 142, 143, 144, 145, 146, 147, 148, 149, 150, 151, 152, 153, 154, 155, 156, 157, 158, 159, 160, 161, 162, 163, 164, 165, 166, 167, 168, 169, 170, 171, 172, 173, 174, 175, 176, 177, 178, 179, 180, 181, 182, 183, 184, 185, 186, 187, 188, 189, 190, 191, 192, 193, 194, 195, 196, 197, 198] [11, 12] (P4J H g1 g2) rfl (by repeat' first | exact Resp.retD | exact Resp1.valuesK | refine Resp.blockD ?_ | refine Resp.thenD ?_ ?_ | refine Resp.hcode ?_) ?_ ?_ | ((first | refine HReg.step ?_ | refine HCode.step ?_); first | refine hcutC (a := Code.seq (Code.region _ _ _) (Code.block _ _)) [4, 11, 12, 13, 14, 15, 16, 17, 18, 19, 20, 95, 96, 97, 98, 99, 100, 101, 102, 103, 104, 105, 106, 107, 108, 109, 110, 111, 112, 113, 114, 115, 116, 117, 118, 119, 120, 121, 122, 123, 124, 125, 126, 127, 128, 129, 130, 131, 132, 133, 134, 135, 136, 137, 138, 139, 140, 141, 142, 143, 144, 145, 146, 147, 148, 149, 150, 151, 152, 153, 154, 155, 156, 157, 158, 159, 160, 161, 162, 163, 164, 165, 166, 167, 168, 169, 170, 171, 172, 173, 174, 175, 176, 177, 178, 179, 180, 181, 182, 183, 184, 185, 186, 187, 188, 189, 190, 191, 192, 193, 194, 195, 196, 197, 198] [11, 12] (P4J H g1 g2) rfl (by repeat' first | exact Resp.retD | exact Resp1.valuesK | refine Resp.blockD ?_ | refine Resp.thenD ?_ ?_ | refine Resp.hcode ?_) ?_ ?_ | ((first | refine HReg.step ?_ | refine HCode.step ?_); first | refine hcutC (a := Code.seq (Code.region _ _ _) (Code.block _ _)) [4, 11, 12, 13, 14, 15, 16, 17, 18, 19, 20, 95, 96, 97, 98, 99, 100, 101, 102, 103, 104, 105, 106, 107, 108, 109, 110, 111, 112, 113, 114, 115, 116, 117, 118, 119, 120, 121, 122, 123, 124, 125, 126, 127, 128, 129, 130, 131, 132, 133, 134, 135, 136, 137, 138, 139, 140, 141, 142, 143, 144, 145, 146, 147, 148, 149, 150, 151, 152, 153, 154, 155, 156, 157, 158, 159, 160, 161, 162, 163, 164, 165, 166, 167, 168, 169, 170, 171, 172, 173, 174, 175, 176, 177, 178, 179, 180, 181, 182, 183, 184, 185, 186, 187, 188, 189, 190, 191, 192, 193, 194, 195, 196, 197, 198] [11, 12] (P4J H g1 g2) rfl (by repeat' first | exact Resp.retD | exact Resp1.valuesK | refine Resp.blockD ?_ | refine Resp.thenD ?_ ?_ | refine Resp.hcode ?_) ?_ ?_ | ((first | refine HReg.step ?_ | refine HCode.step ?_); first | refine hcutC (a := Code.seq (Code.region _ _ _) (Code.block _ _)) [4, 11, 12, 13, 14, 15, 16, 17, 18, 19, 20, 95, 96, 97, 98, 99, 100, 101, 102, 103, 104, 105, 106, 107, 108, 109, 110, 111, 112, 113, 114, 115, 116, 117, 118, 119, 120, 121, 122, 123, 124, 125, 126, 127, 128, 129, 130, 131, 132, 133, 134, 135, 136, 137, 138, 139, 140, 141, 142, 143, 144, 145, 146, 147, 148, 149, 150, 151, 152, 153, 154, 155, 156, 157, 158, 159, 160, 161, 162, 163, 164, 165, 166, 167, 168, 169, 170, 171, 172, 173, 174, 175, 176, 177, 178, 179, 180, 181, 182, 183, 184, 185, 186, 187, 188, 189, 190, 191, 192, 193, 194, 195, 196, 197, 198] [11, 12] (P4J H g1 g2) rfl (by repeat' first | exact Resp.retD | exact Resp1.valuesK | refine Resp.blockD ?_ | refine Resp.thenD ?_ ?_ | refine Resp.hcode ?_) ?_ ?_ | ((first | refine HReg.step ?_ | refine HCode.step ?_); first | refine hcutC (a := Code.seq (Code.region _ _ _) (Code.block _ _)) [4, 11, 12, 13, 14, 15, 16, 17, 18, 19, 20, 95, 96, 97, 98, 99, 100, 101, 102, 103, 104, 105, 106, 107, 108, 109, 110, 111, 112, 113, 114, 115, 116, 117, 118, 119, 120, 121, 122, 123, 124, 125, 126, 127, 128, 129, 130, 131, 132, 133, 134, 135, 136, 137, 138, 139, 140, 141, 142, 143, 144, 145, 146, 147, 148, 149, 150, 151, 152, 153, 154, 155, 156, 157, 158, 159, 160, 161, 162, 163, 164, 165, 166, 167, 168, 169, 170, 171, 172, 173, 174, 175, 176, 177, 178, 179, 180, 181, 182, 183, 184, 185, 186, 187, 188, 189, 190, 191, 192, 193, 194, 195, 196, 197, 198] [11, 12] (P4J H g1 g2) rfl (by repeat' first | exact Resp.retD | exact Resp1.valuesK | refine Resp.blockD ?_ | refine Resp.thenD ?_ ?_ | refine Resp.hcode ?_) ?_ ?_ | ((first | refine HReg.step ?_ | refine HCode.step ?_); first | refine hcutC (a := Code.seq (Code.region _ _ _) (Code.block _ _)) [4, 11, 12, 13, 14, 15, 16, 17, 18, 19, 20, 95, 96, 97, 98, 99, 100, 101, 102, 103, 104, 105, 106, 107, 108, 109, 110, 111, 112, 113, 114, 115, 116, 117, 118, 119, 120, 121, 122, 123, 124, 125, 126, 127, 128, 129, 130, 131, 132, 133, 134, 135, 136, 137, 138, 139, 140, 141, 142, 143, 144, 145, 146, 147, 148, 149, 150, 151, 152, 153, 154, 155, 156, 157, 158, 159, 160, 161, 162, 163, 164, 165, 166, 167, 168, 169, 170, 171, 172, 173, 174, 175, 176, 177, 178, 179, 180, 181, 182, 183, 184, 185, 186, 187, 188, 189, 190, 191, 192, 193, 194, 195, 196, 197, 198] [11, 12] (P4J H g1 g2) rfl (by repeat' first | exact Resp.retD | exact Resp1.valuesK | refine Resp.blockD ?_ | refine Resp.thenD ?_ ?_ | refine Resp.hcode ?_) ?_ ?_ | ((first | refine HReg.step ?_ | refine HCode.step ?_); first | refine hcutC (a := Code.seq (Code.region _ _ _) (Code.block _ _)) [4, 11, 12, 13, 14, 15, 16, 17, 18, 19, 20, 95, 96, 97, 98, 99, 100, 101, 102, 103, 104, 105, 106, 107, 108, 109, 110, 111, 112, 113, 114, 115, 116, 117, 118, 119, 120, 121, 122, 123, 124, 125, 126, 127, 128, 129, 130, 131, 132, 133, 134, 135, 136, 137, 138, 139, 140, 141, 142, 143, 144, 145, 146, 147, 148, 149, 150, 151, 152, 153, 154, 155, 156, 157, 158, 159, 160, 161, 162, 163, 164, 165, 166, 167, 168, 169, 170, 171, 172, 173, 174, 175, 176, 177, 178, 179, 180, 181, 182, 183, 184, 185, 186, 187, 188, 189, 190, 191, 192, 193, 194, 195, 196, 197, 198] [11, 12] (P4J H g1 g2) rfl (by repeat' first | exact Resp.retD | exact Resp1.valuesK | refine Resp.blockD ?_ | refine Resp.thenD ?_ ?_ | refine Resp.hcode ?_) ?_ ?_ | ((first | refine HReg.step ?_ | refine HCode.step ?_); first | refine hcutC (a := Code.seq (Code.region _ _ _) (Code.block _ _)) [4, 11, 12, 13, 14, 15, 16, 17, 18, 19, 20, 95, 96, 97, 98, 99, 100, 101, 102, 103, 104, 105, 106, 107, 108, 109, 110, 111, 112, 113, 114, 115, 116, 117, 118, 119, 120, 121, 122, 123, 124, 125, 126, 127, 128, 129, 130, 131, 132, 133, 134, 135, 136, 137, 138, 139, 140, 141, 142, 143, 144, 145, 146, 147, 148, 149, 150, 151, 152, 153, 154, 155, 156, 157, 158, 159, 160, 161, 162, 163, 164, 165, 166, 167, 168, 169, 170, 171, 172, 173, 174, 175, 176, 177, 178, 179, 180, 181, 182, 183, 184, 185, 186, 187, 188, 189, 190, 191, 192, 193, 194, 195, 196, 197, 198] [11, 12] (P4J H g1 g2) rfl (by repeat' first | exact Resp.retD | exact Resp1.valuesK | refine Resp.blockD ?_ | refine Resp.thenD ?_ ?_ | refine Resp.hcode ?_) ?_ ?_ | ((first | refine HReg.step ?_ | refine HCode.step ?_); first | refine hcutC (a := Code.seq (Code.region _ _ _) (Code.block _ _)) [4, 11, 12, 13, 14, 15, 16, 17, 18, 19, 20, 95, 96, 97, 98, 99, 100, 101, 102, 103, 104, 105, 106, 107, 108, 109, 110, 111, 112, 113, 114, 115, 116, 117, 118, 119, 120, 121, 122, 123, 124, 125, 126, 127, 128, 129, 130, 131, 132, 133, 134, 135, 136, 137, 138, 139, 140, 141, 142, 143, 144, 145, 146, 147, 148, 149, 150, 151, 152, 153, 154, 155, 156, 157, 158, 159, 160, 161, 162, 163, 164, 165, 166, 167, 168, 169, 170, 171, 172, 173, 174, 175, 176, 177, 178, 179, 180, 181, 182, 183, 184, 185, 186, 187, 188, 189, 190, 191, 192, 193, 194, 195, 196, 197, 198] [11, 12] (P4J H g1 g2) rfl (by repeat' first | exact Resp.retD | exact Resp1.valuesK | refine Resp.blockD ?_ | refine Resp.thenD ?_ ?_ | refine Resp.hcode ?_) ?_ ?_ | ((first | refine HReg.step ?_ | refine HCode.step ?_); first | refine hcutC (a := Code.seq (Code.region _ _ _) (Code.block _ _)) [4, 11, 12, 13, 14, 15, 16, 17, 18, 19, 20, 95, 96, 97, 98, 99, 100, 101, 102, 103, 104, 105, 106, 107, 108, 109, 110, 111, 112, 113, 114, 115, 116, 117, 118, 119, 120, 121, 122, 123, 124, 125, 126, 127, 128, 129, 130, 131, 132, 133, 134, 135, 136, 137, 138, 139, 140, 141, 142, 143, 144, 145, 146, 147, 148, 149, 150, 151, 152, 153, 154, 155, 156, 157, 158, 159, 160, 161, 162, 163, 164, 165, 166, 167, 168, 169, 170, 171, 172, 173, 174, 175, 176, 177, 178, 179, 180, 181, 182, 183, 184, 185, 186, 187, 188, 189, 190, 191, 192, 193, 194, 195, 196, 197, 198] [11, 12] (P4J H g1 g2) rfl (by repeat' first | exact Resp.retD | exact Resp1.valuesK | refine Resp.blockD ?_ | refine Resp.thenD ?_ ?_ | refine Resp.hcode ?_) ?_ ?_ | ((first | refine HReg.step ?_ | refine HCode.step ?_); first | refine hcutC (a := Code.seq (Code.region _ _ _) (Code.block _ _)) [4, 11, 12, 13, 14, 15, 16, 17, 18, 19, 20, 95, 96, 97, 98, 99, 100, 101, 102, 103, 104, 105, 106, 107, 108, 109, 110, 111, 112, 113, 114, 115, 116, 117, 118, 119, 120, 121, 122, 123, 124, 125, 126, 127, 128, 129, 130, 131, 132, 133, 134, 135, 136, 137, 138, 139, 140, 141, 142, 143, 144, 145, 146, 147, 148, 149, 150, 151, 152, 153, 154, 155, 156, 157, 158, 159, 160, 161, 162, 163, 164, 165, 166, 167, 168, 169, 170, 171, 172, 173, 174, 175, 176, 177, 178, 179, 180, 181, 182, 183, 184, 185, 186, 187, 188, 189, 190, 191, 192, 193, 194, 195, 196, 197, 198] [11, 12] (P4J H g1 g2) rfl (by repeat' first | exact Resp.retD | exact Resp1.valuesK | refine Resp.blockD ?_ | refine Resp.thenD ?_ ?_ | refine Resp.hcode ?_) ?_ ?_ | ((first | refine HReg.step ?_ | refine HCode.step ?_); first | refine hcutC (a := Code.seq (Code.region _ _ _) (Code.block _ _)) [4, 11, 12, 13, 14, 15, 16, 17, 18, 19, 20, 95, 96, 97, 98, 99, 100, 101, 102, 103, 104, 105, 106, 107, 108, 109, 110, 111, 112, 113, 114, 115, 116, 117, 118, 119, 120, 121, 122, 123, 124, 125, 126, 127, 128, 129, 130, 131, 132, 133, 134, 135, 136, 137, 138, 139, 140, 141, 142, 143, 144, 145, 146, 147, 148, 149, 150, 151, 152, 153, 154, 155, 156, 157, 158, 159, 160, 161, 162, 163, 164, 165, 166, 167, 168, 169, 170, 171, 172, 173, 174, 175, 176, 177, 178, 179, 180, 181, 182, 183, 184, 185, 186, 187, 188, 189, 190, 191, 192, 193, 194, 195, 196, 197, 198] [11, 12] (P4J H g1 g2) rfl (by repeat' first | exact Resp.retD | exact Resp1.valuesK | refine Resp.blockD ?_ | refine Resp.thenD ?_ ?_ | refine Resp.hcode ?_) ?_ ?_ | ((first | refine HReg.step ?_ | refine HCode.step ?_); first | refine hcutC (a := Code.seq (Code.region _ _ _) (Code.block _ _)) [4, 11, 12, 13, 14, 15, 16, 17, 18, 19, 20, 95, 96, 97, 98, 99, 100, 101, 102, 103, 104, 105, 106, 107, 108, 109, 110, 111, 112, 113, 114, 115, 116, 117, 118, 119, 120, 121, 122, 123, 124, 125, 126, 127, 128, 129, 130, 131, 132, 133, 134, 135, 136, 137, 138, 139, 140, 141, 142, 143, 144, 145, 146, 147, 148, 149, 150, 151, 152, 153, 154, 155, 156, 157, 158, 159, 160, 161, 162, 163, 164, 165, 166, 167, 168, 169, 170, 171, 172, 173, 174, 175, 176, 177, 178, 179, 180, 181, 182, 183, 184, 185, 186, 187, 188, 189, 190, 191, 192, 193, 194, 195, 196, 197, 198] [11, 12] (P4J H g1 g2) rfl (by repeat' first | exact Resp.retD | exact Resp1.valuesK | refine Resp.blockD ?_ | refine Resp.thenD ?_ ?_ | refine Resp.hcode ?_) ?_ ?_ | ((first | refine HReg.step ?_ | refine HCode.step ?_); first | refine hcutC (a := Code.seq (Code.region _ _ _) (Code.block _ _)) [4, 11, 12, 13, 14, 15, 16, 17, 18, 19, 20, 95, 96, 97, 98, 99, 100, 101, 102, 103, 104, 105, 106, 107, 108, 109, 110, 111, 112, 113, 114, 115, 116, 117, 118, 119, 120, 121, 122, 123, 124, 125, 126, 127, 128, 129, 130, 131, 132, 133, 134, 135, 136, 137, 138, 139, 140, 141, 142, 143, 144, 145, 146, 147, 148, 149, 150, 151, 152, 153, 154, 155, 156, 157, 158, 159, 160, 161, 162, 163, 164, 165, 166, 167, 168, 169, 170, 171, 172, 173, 174, 175, 176, 177, 178, 179, 180, 181, 182, 183, 184, 185, 186, 187, 188, 189, 190, 191, 192, 193, 194, 195, 196, 197, 198] [11, 12] (P4J H g1 g2) rfl (by repeat' first | exact Resp.retD | exact Resp1.valuesK | refine Resp.blockD ?_ | refine Resp.thenD ?_ ?_ | refine Resp.hcode ?_) ?_ ?_ | ((first | refine HReg.step ?_ | refine HCode.step ?_); first | refine hcutC (a := Code.seq (Code.region _ _ _) (Code.block _ _)) [4, 11, 12, 13, 14, 15, 16, 17, 18, 19, 20, 95, 96, 97, 98, 99, 100, 101, 102, 103, 104, 105, 106, 107, 108, 109, 110, 111, 112, 113, 114, 115, 116, 117, 118, 119, 120, 121, 122, 123, 124, 125, 126, 127, 128, 129, 130, 131, 132, 133, 134, 135, 136, 137, 138, 139, 140, 141, 142, 143, 144, 145, 146, 147, 148, 149, 150, 151, 152, 153, 154, 155, 156, 157, 158, 159, 160, 161, 162, 163, 164, 165, 166, 167, 168, 169, 170, 171, 172, 173, 174, 175, 176, 177, 178, 179, 180, 181, 182, 183, 184, 185, 186, 187, 188, 189, 190, 191, 192, 193, 194, 195, 196, 197, 198] [11, 12] (P4J H g1 g2) rfl (by repeat' first | exact Resp.retD | exact Resp1.valuesK | refine Resp.blockD ?_ | refine Resp.thenD ?_ ?_ | refine Resp.hcode ?_) ?_ ?_ | ((first | refine HReg.step ?_ | refine HCode.step ?_); first | refine hcutC (a := Code.seq (Code.region _ _ _) (Code.block _ _)) [4, 11, 12, 13, 14, 15, 16, 17, 18, 19, 20, 95, 96, 97, 98, 99, 100, 101, 102, 103, 104, 105, 106, 107, 108, 109, 110, 111, 112, 113, 114, 115, 116, 117, 118, 119, 120, 121, 122, 123, 124, 125, 126, 127, 128, 129, 130, 131, 132, 133, 134, 135, 136, 137, 138, 139, 140, 141, 142, 143, 144, 145, 146, 147, 148, 149, 150, 151, 152, 153, 154, 155, 156, 157, 158, 159, 160, 161, 162, 163, 164, 165, 166, 167, 168, 169, 170, 171, 172, 173, 174, 175, 176, 177, 178, 179, 180, 181, 182, 183, 184, 185, 186, 187, 188, 189, 190, 191, 192, 193, 194, 195, 196, 197, 198] [11, 12] (P4J H g1 g2) rfl (by repeat' first | exact Resp.retD | exact Resp1.valuesK | refine Resp.blockD ?_ | refine Resp.thenD ?_ ?_ | refine Resp.hcode ?_) ?_ ?_ | ((first | refine HReg.step ?_ | refine HCode.step ?_); first | refine hcutC (a := Code.seq (Code.region _ _ _) (Code.block _ _)) [4, 11, 12, 13, 14, 15, 16, 17, 18, 19, 20, 95, 96, 97, 98, 99, 100, 101, 102, 103, 104, 105, 106, 107, 108, 109, 110, 111, 112, 113, 114, 115, 116, 117, 118, 119, 120, 121, 122, 123, 124, 125, 126, 127, 128, 129, 130, 131, 132, 133, 134, 135, 136, 137, 138, 139, 140, 141, 142, 143, 144, 145, 146, 147, 148, 149, 150, 151, 152, 153, 154, 155, 156, 157, 158, 159, 160, 161, 162, 163, 164, 165, 166, 167, 168, 169, 170, 171, 172, 173, 174, 175, 176, 177, 178, 179, 180, 181, 182, 183, 184, 185, 186, 187, 188, 189, 190, 191, 192, 193, 194, 195, 196, 197, 198] [11, 12] (P4J H g1 g2) rfl (by repeat' first | exact Resp.retD | exact Resp1.valuesK | refine Resp.blockD ?_ | refine Resp.thenD ?_ ?_ | refine Resp.hcode ?_) ?_ ?_ | ((first | refine HReg.step ?_ | refine HCode.step ?_); first | refine hcutC (a := Code.seq (Code.region _ _ _) (Code.block _ _)) [4, 11, 12, 13, 14, 15, 16, 17, 18, 19, 20, 95, 96, 97, 98, 99, 100, 101, 102, 103, 104, 105, 106, 107, 108, 109, 110, 111, 112, 113, 114, 115, 116, 117, 118, 119, 120, 121, 122, 123, 124, 125, 126, 127, 128, 129, 130, 131, 132, 133, 134, 135, 136, 137, 138, 139, 140, 141, 142, 143, 144, 145, 146, 147, 148, 149, 150, 151, 152, 153, 154, 155, 156, 157, 158, 159, 160, 161, 162, 163, 164, 165, 166, 167, 168, 169, 170, 171, 172, 173, 174, 175, 176, 177, 178, 179, 180, 181, 182, 183, 184, 185, 186, 187, 188, 189, 190, 191, 192, 193, 194, 195, 196, 197, 198] [11, 12] (P4J H g1 g2) rfl (by repeat' first | exact Resp.retD | exact Resp1.valuesK | refine Resp.blockD ?_ | refine Resp.thenD ?_ ?_ | refine Resp.hcode ?_) ?_ ?_ | ((first | refine HReg.step ?_ | refine HCode.step ?_); first | refine hcutC (a := Code.seq (Code.region _ _ _) (Code.block _ _)) [4, 11, 12, 13, 14, 15, 16, 17, 18, 19, 20, 95, 96, 97, 98, 99, 100, 101, 102, 103, 104, 105, 106, 107, 108, 109, 110, 111, 112, 113, 114, 115, 116, 117, 118, 119, 120, 121, 122, 123, 124, 125, 126, 127, 128, 129, 130, 131, 132, 133, 134, 135, 136, 137, 138, 139, 140, 141, 142, 143, 144, 145, 146, 147, 148, 149, 150, 151, 152, 153, 154, 155, 156, 157, 158, 159, 160, 161, 162, 163, 164, 165, 166, 167, 168, 169, 170, 171, 172, 173, 174, 175, 176, 177, 178, 179, 180, 181, 182, 183, 184, 185, 186, 187, 188, 189, 190, 191, 192, 193, 194, 195, 196, 197, 198] [11, 12] (P4J H g1 g2) rfl (by repeat' first | exact Resp.retD | exact Resp1.valuesK | refine Resp.blockD ?_ | refine Resp.thenD ?_ ?_ | refine Resp.hcode ?_) ?_ ?_ | ((first | refine HReg.step ?_ | refine HCode.step ?_); first | refine hcutC (a := Code.seq (Code.region _ _ _) (Code.block _ _)) [4, 11, 12, 13, 14, 15, 16, 17, 18, 19, 20, 95, 96, 97, 98, 99, 100, 101, 102, 103, 104, 105, 106, 107, 108, 109, 110, 111, 112, 113, 114, 115, 116, 117, 118, 119, 120, 121, 122, 123, 124, 125, 126, 127, 128, 129, 130, 131, 132, 133, 134, 135, 136, 137, 138, 139, 140, 141, 142, 143, 144, 145, 146, 147, 148, 149, 150, 151, 152, 153, 154, 155, 156, 157, 158, 159, 160, 161, 162, 163, 164, 165, 166, 167, 168, 169, 170, 171, 172, 173, 174, 175, 176, 177, 178, 179, 180, 181, 182, 183, 184, 185, 186, 187, 188, 189, 190, 191, 192, 193, 194, 195, 196, 197, 198] [11, 12] (P4J H g1 g2) rfl (by repeat' first | exact Resp.retD | exact Resp1.valuesK | refine Resp.blockD ?_ | refine Resp.thenD ?_ ?_ | refine Resp.hcode ?_) ?_ ?_ | ((first | refine HReg.step ?_ | refine HCode.step ?_); first | refine hcutC (a := Code.seq (Code.region _ _ _) (Code.block _ _)) [4, 11, 12, 13, 14, 15, 16, 17, 18, 19, 20, 95, 96, 97, 98, 99, 100, 101, 102, 103, 104, 105, 106, 107, 108, 109, 110, 111, 112, 113, 114, 115, 116, 117, 118, 119, 120, 121, 122, 123, 124, 125, 126, 127, 128, 129, 130, 131, 132, 133, 134, 135, 136, 137, 138, 139, 140, 141, 142, 143, 144, 145, 146, 147, 148, 149, 150, 151, 152, 153, 154, 155, 156, 157, 158, 159, 160, 161, 162, 163, 164, 165, 166, 167, 168, 169, 170, 171, 172, 173, 174, 175, 176, 177, 178, 179, 180, 181, 182, 183, 184, 185, 186, 187, 188, 189, 190, 191, 192, 193, 194, 195, 196, 197, 198] [11, 12] (P4J H g1 g2) rfl (by repeat' first | exact Resp.retD | exact Resp1.valuesK | refine Resp.blockD ?_ | refine Resp.thenD ?_ ?_ | refine Resp.hcode ?_) ?_ ?_ | ((first | refine HReg.step ?_ | refine HCode.step ?_); first | refine hcutC (a := Code.seq (Code.region _ _ _) (Code.block _ _)) [4, 11, 12, 13, 14, 15, 16, 17, 18, 19, 20, 95, 96, 97, 98, 99, 100, 101, 102, 103, 104, 105, 106, 107, 108, 109, 110, 111, 112, 113, 114, 115, 116, 117, 118, 119, 120, 121, 122, 123, 124, 125, 126, 127, 128, 129, 130, 131, 132, 133, 134, 135, 136, 137, 138, 139, 140, 141, 142, 143, 144, 145, 146, 147, 148, 149, 150, 151, 152, 153, 154, 155, 156, 157, 158, 159, 160, 161, 162, 163, 164, 165, 166, 167, 168, 169, 170, 171, 172, 173, 174, 175, 176, 177, 178, 179, 180, 181, 182, 183, 184, 185, 186, 187, 188, 189, 190, 191, 192, 193, 194, 195, 196, 197, 198] [11, 12] (P4J H g1 g2) rfl (by repeat' first | exact Resp.retD | exact Resp1.valuesK | refine Resp.blockD ?_ | refine Resp.thenD ?_ ?_ | refine Resp.hcode ?_) ?_ ?_ | ((first | refine HReg.step ?_ | refine HCode.step ?_); first | refine hcutC (a := Code.seq (Code.region _ _ _) (Code.block _ _)) [4, 11, 12, 13, 14, 15, 16, 17, 18, 19, 20, 95, 96, 97, 98, 99, 100, 101, 102, 103, 104, 105, 106, 107, 108, 109, 110, 111, 112, 113, 114, 115, 116, 117, 118, 119, 120, 121, 122, 123, 124, 125, 126, 127, 128, 129, 130, 131, 132, 133, 134, 135, 136, 137, 138, 139, 140, 141, 142, 143, 144, 145, 146, 147, 148, 149, 150, 151, 152, 153, 154, 155, 156, 157, 158, 159, 160, 161, 162, 163, 164, 165, 166, 167, 168, 169, 170, 171, 172, 173, 174, 175, 176, 177, 178, 179, 180, 181, 182, 183, 184, 185, 186, 187, 188, 189, 190, 191, 192, 193, 194, 195, 196, 197, 198] [11, 12] (P4J H g1 g2) rfl (by repeat' first | exact Resp.retD | exact Resp1.valuesK | refine Resp.blockD ?_ | refine Resp.thenD ?_ ?_ | refine Resp.hcode ?_) ?_ ?_ | ((first | refine HReg.step ?_ | refine HCode.step ?_); first | refine hcutC (a := Code.seq (Code.region _ _ _) (Code.block _ _)) [4, 11, 12, 13, 14, 15, 16, 17, 18, 19, 20, 95, 96, 97, 98, 99, 100, 101, 102, 103, 104, 105, 106, 107, 108, 109, 110, 111, 112, 113, 114, 115, 116, 117, 118, 119, 120, 121, 122, 123, 124, 125, 126, 127, 128, 129, 130, 131, 132, 133, 134, 135, 136, 137, 138, 139, 140, 141, 142, 143, 144, 145, 146, 147, 148, 149, 150, 151, 152, 153, 154, 155, 156, 157, 158, 159, 160, 161, 162, 163, 164, 165, 166, 167, 168, 169, 170, 171, 172, 173, 174, 175, 176, 177, 178, 179, 180, 181, 182, 183, 184, 185, 186, 187, 188, 189, 190, 191, 192, 193, 194, 195, 196, 197, 198] [11, 12] (P4J H g1 g2) rfl (by repeat' first | exact Resp.retD | exact Resp1.valuesK | refine Resp.blockD ?_ | refine Resp.thenD ?_ ?_ | refine Resp.hcode ?_) ?_ ?_ | ((first | refine HReg.step ?_ | refine HCode.step ?_); first | refine hcutC (a := Code.seq (Code.region _ _ _) (Code.block _ _)) [4, 11, 12, 13, 14, 15, 16, 17, 18, 19, 20, 95, 96, 97, 98, 99, 100, 101, 102, 103, 104, 105, 106, 107, 108, 109, 110, 111, 112, 113, 114, 115, 116, 117, 118, 119, 120, 121, 122, 123, 124, 125, 126, 127, 128, 129, 130, 131, 132, 133, 134, 135, 136, 137, 138, 139, 140, 141, 142, 143, 144, 145, 146, 147, 148, 149, 150, 151, 152, 153, 154, 155, 156, 157, 158, 159, 160, 161, 162, 163, 164, 165, 166, 167, 168, 169, 170, 171, 172, 173, 174, 175, 176, 177, 178, 179, 180, 181, 182, 183, 184, 185, 186, 187, 188, 189, 190, 191, 192, 193, 194, 195, 196, 197, 198] [11, 12] (P4J H g1 g2) rfl (by repeat' first | exact Resp.retD | exact Resp1.valuesK | refine Resp.blockD ?_ | refine Resp.thenD ?_ ?_ | refine Resp.hcode ?_) ?_ ?_ | ((first | refine HReg.step ?_ | refine HCode.step ?_); refine hcutC (a := Code.seq (Code.region _ _ _) (Code.block _ _)) [4, 11, 12, 13, 14, 15, 16, 17, 18, 19, 20, 95, 96, 97, 98, 99, 100, 101, 102, 103, 104, 105, 106, 107, 108, 109, 110, 111, 112, 113, 114, 115, 116, 117, 118, 119, 120, 121, 122, 123, 124, 125, 126, 127, 128, 129, 130, 131, 132, 133, 134, 135, 136, 137, 138, 139, 140, 141, 142, 143, 144, 145, 146, 147, 148, 149, 150, 151, 152, 153, 154, 155, 156, 157, 158, 159, 160, 161, 162, 163, 164, 165, 166, 167, 168, 169, 170, 171, 172, 173, 174, 175, 176, 177, 178, 179, 180, 181, 182, 183, 184, 185, 186, 187, 188, 189, 190, 191, 192, 193, 194, 195, 196, 197, 198] [11, 12] (P4J H g1 g2) rfl (by repeat' first | exact Resp.retD | exact Resp1.valuesK | refine Resp.blockD ?_ | refine Resp.thenD ?_ ?_ | refine Resp.hcode ?_) ?_ ?_))))))))))))))))))))))))))))))))))))))))))))))))))))))))))))
  · (repeat first | refine HReg.step ?_ | refine HCode.step ?_)
    refine hloopC [4, 11, 12, 13, 14, 15, 16, 17, 18, 19, 20, 95, 96, 97, 98, 99, 100, 101, 102, 103, 104, 105, 106, 107, 108, 109, 110, 111, 112, 113, 114, 115, 116, 117, 118, 119, 120, 121, 122, 123, 124, 125, 126, 127, 128, 129, 130, 131, 132, 133, 134, 135, 136, 137, 138, 139, 140, 141, 142, 143, 144, 145, 146, 147, 148, 149, 150, 151, 152, 153, 154, 155, 156, 157, 158, 159, 160, 161, 162, 163, 164, 165, 166, 167, 168, 169, 170, 171, 172, 173, 174, 175, 176, 177, 178, 179, 180, 181, 182, 183, 184, 185, 186, 187, 188, 189, 190, 191, 192, 193, 194, 195, 196, 197, 198] [11, 12, 13] (P4Inv H g1 g2 k) rfl (by repeat' first | exact Resp.retD | exact Resp1.valuesK | refine Resp.blockD ?_ | refine Resp.thenD ?_ ?_ | refine Resp.hcode ?_) ?_ ?_
    · exact ⟨k, P4Inv.mk ⟨0, none, none, 0, 0, S1, S2, _, _, [], [], [], rfl, rfl, by omega, s9⟩⟩
    rintro m _ fe3 Ha ⟨i, aO, aW, cO, cW, T1, T2, w1, w2, V, U, ls, rfl, hmi, hi40, s⟩
    (repeat first | refine HReg.step ?_ | refine HCode.step ?_)
    refine hif (fun h3 => ?_) (fun h3 => ?_)
    · have h3 := ltB_true.1 h3
      (repeat first | refine HReg.step ?_ | refine HCode.step ?_)
      refine hif (fun h4 => ?_) (fun h4 => ?_)
      · have h4 := ltB_true.1 h4
        obtain ⟨o, ho⟩ : ∃ o, ops[i]? = some o := ⟨ops[i]'(by omega), by simp⟩
        obtain ⟨ok, sz⟩ := bo o (List.mem_of_getElem? ho)
        have szl := sz.n
        have roa := ro.upd (S := []) s.u (.inr (Off.nil _))
        obtain ⟨ba, bo', rfl, _⟩ := ro _ _ (orow_get ho 0 _ rfl)
        have w3 : wr .i64 ((i : Int) + 1) = ((i + 1 : Nat) : Int) := by rw [wr_i64 (by omega) (by omega)]; omega
        (repeat first | refine HReg.step ?_ | refine HCode.step ?_)
        refine HReq.mk ⟨by omega, by omega⟩ ?_
        (repeat first | refine HReg.step ?_ | refine HCode.step ?_)
        refine HLoadN_op roa ho ?_
        (repeat first | refine HReg.step ?_ | refine HCode.step ?_)
        refine HNew.mk fun b14 hb14 => ?_
        (repeat first | refine HReg.step ?_ | refine HCode.step ?_)
        refine store_op (o := o) (OwnRow.lit (upd_same _ _ _) rfl) rfl fun Hb ob ub => ?_
        have uab : Upd [] Ha Hb := Upd.drop (Upd.new hb14 _) ub (fun x hx => by rw [List.mem_singleton.1 hx]; exact hb14)
        have sb := s.upd0 uab
        (repeat first | refine HReg.step ?_ | refine HCode.step ?_)
        refine HLoad.one (v := .slice o.al o.nl o.cl) (by exact ob.rows.get (i := 3) rfl) ?_
        (repeat first | refine HReg.step ?_ | refine HCode.step ?_)
        refine app_textsZ (xs := []) (Made.nil Hb 9 1) (ok.upd0 sb.u).row ok.len (by omega) fun aL1 cL1 Hc mc => ?_
        rw [Nat.zero_add] at mc
        rw [List.nil_append] at mc
        rw [Nat.zero_add o.nl]
        (repeat first | refine HReg.step ?_ | refine HCode.step ?_)
        refine HReq.mk (by decide) ?_
        (repeat first | refine HReg.step ?_ | refine HCode.step ?_)
        refine HNew.mk fun bx hbx => ?_
        have ux : Upd [] Hc (Hc.upd bx (.cells [Value.string ⟨#[115, 112, 97, 114, 101]⟩, Value.string ⟨#[114, 111, 111, 109]⟩].toArray 9)) := Upd.new hbx _
        have rx : RowAt (Hc.upd bx (.cells [Value.string ⟨#[115, 112, 97, 114, 101]⟩, Value.string ⟨#[114, 111, 111, 109]⟩].toArray 9)) (some ⟨bx, 0, none⟩) (txts [[115, 112, 97, 114, 101], [114, 111, 111, 109]]) := RowAt.of_cells (upd_same _ _ _)
        generalize hHx : Hc.upd bx (.cells [Value.string ⟨#[115, 112, 97, 114, 101]⟩, Value.string ⟨#[114, 111, 111, 109]⟩].toArray 9) = Hx at ux rx
        (repeat first | refine HReg.step ?_ | refine HCode.step ?_)
        refine app_textsZ (mc.step ux) rx rfl (by omega) fun aL cL Hd md => ?_
        have hoL : (o.l ++ [[115, 112, 97, 114, 101], [114, 111, 111, 109]]).length = o.nl + 2 := by rw [List.length_append, ok.len]; rfl
        have hcL := md.own.le
        have od := ob.upd md.upd (Off.nil _)
        have sd := sb.upd0 md.upd
        obtain ⟨gL, rfl⟩ := md.own.addr (by omega)
        (repeat first | refine HReg.step ?_ | refine HCode.step ?_)
        refine HReq.mk ⟨by omega, by omega⟩ ?_
        (repeat first | refine HReg.step ?_ | refine HCode.step ?_)
        refine HLoad.one (v := .slice o.al o.nl o.cl) (by exact (ro.upd (S := []) sd.u (.inr (Off.nil _))).get (orow_get ho 3 _ rfl)) ?_
        (repeat first | refine HReg.step ?_ | refine HCode.step ?_)
        refine HReq.mk ⟨by omega, by omega⟩ ?_
        (repeat first | refine HReg.step ?_ | refine HCode.step ?_)
        refine store_row od (v := .slice (some ⟨gL, 0, none⟩) o.nl cL) rfl (i := 3) (by decide) (by rfl) fun He oe ue => ?_
        have oe : OwnRow He 34 1 (some ⟨b14, 0, none⟩) 6 6 (ocells (o.lent (some ⟨gL, 0, none⟩) cL)) := oe
        have uae : Upd [] Ha He := Upd.drop (uab.trans md.upd) ue (fun x hx => by rw [List.mem_singleton.1 hx]; exact hb14)
        have se := s.upd0 uae
        have Le := md.own.upd ue (od.offT md.own (by decide))
        have rLe : RowAt He (some ⟨gL, 0, none⟩) (txts o.l) := by
          have h := Le.rows.take o.nl
          have e : (txts (o.l ++ [[115, 112, 97, 114, 101], [114, 111, 111, 109]])).take o.nl = txts o.l := by
            unfold txts; rw [List.map_append, List.take_append_of_le_length (by rw [List.length_map, ok.len]; omega), List.take_of_length_le (by rw [List.length_map, ok.len]; omega)]
          rw [e] at h; exact h
        have okL : OpOk He (o.lent (some ⟨gL, 0, none⟩) cL) := ⟨ok.v, rLe, ok.len, ok.n, ok.m, by show o.nl ≤ cL; omega⟩
        have offL := se.d1.offRow Le (by decide) (by decide)
        (repeat first | refine HReg.step ?_ | refine HCode.step ?_)
        refine HLoadN_row oe.rows rfl ?_
        (repeat first | refine HReg.step ?_ | refine HCode.step ?_)
        refine HCall.mk ⟨Try.f12, Try.func12, by rfl, by rfl⟩ ?_
        refine write_z se.d1 (by omega) okL (.inr fun b hb hS => offL _ rfl (by cases hb with | head => exact hS | tail _ h => cases h)) ⟨sz.s, sz.l, sz.n⟩ fun T1' w1' Hf hlw1 df ff => ?_
        have sf := se.one df ff
        have of := oe.upd ff.upd (se.d1.offRow oe (by decide) (by decide))
        have Lf := Le.upd ff.upd offL
        obtain ⟨o2, ho2⟩ : ∃ o, ops[k - 1 - i]? = some o := ⟨ops[k - 1 - i]'(by omega), by simp⟩
        obtain ⟨ok2, sz2⟩ := bo o2 (List.mem_of_getElem? ho2)
        have w4 : wr .i64 (wr .i64 ((k : Int) - 1) - (i : Int)) = ((k - 1 - i : Nat) : Int) := by rw [wr_i64 (n := (k : Int) - 1) (by omega) (by omega), wr_i64 (by omega) (by omega)]; omega
        (repeat first | refine HReg.step ?_ | refine HCode.step ?_)
        rw [w4]
        refine HReq.mk ⟨by omega, by omega⟩ ?_
        (repeat first | refine HReg.step ?_ | refine HCode.step ?_)
        refine HLoadN_op (ro.upd (S := []) sf.u (.inr (Off.nil _))) ho2 ?_
        (repeat first | refine HReg.step ?_ | refine HCode.step ?_)
        refine HCall.mk ⟨Try.f12, Try.func12, by rfl, by rfl⟩ ?_
        refine write_z sf.d2 (by omega) (ok2.upd0 sf.u) (ok2.off sf.d2.new) sz2 fun T2' w2' Hg hlw2 dg fg => ?_
        have sg := (sf.swap.one dg fg).swap
        have og := of.upd fg.upd (sf.d2.offRow of (by decide) (by decide))
        have Lg := Lf.upd fg.upd (sf.d2.offRow Lf (by decide) (by decide))
        have rLg : RowAt Hg (some ⟨gL, 0, none⟩) (txts o.l) := by
          have h := Lg.rows.take o.nl
          have e : (txts (o.l ++ [[115, 112, 97, 114, 101], [114, 111, 111, 109]])).take o.nl = txts o.l := by
            unfold txts; rw [List.map_append, List.take_append_of_le_length (by rw [List.length_map, ok.len]; omega), List.take_of_length_le (by rw [List.length_map, ok.len]; omega)]
          rw [e] at h; exact h
        (repeat first | refine HReg.step ?_ | refine HCode.step ?_)
        refine HLoad.one (v := .slice (some ⟨gL, 0, none⟩) o.nl cL) (by exact og.rows.get (i := 3) rfl) ?_
        (repeat first | refine HReg.step ?_ | refine HCode.step ?_)
        refine HReq.mk ⟨by omega, by omega⟩ ?_
        (repeat first | refine HReg.step ?_ | refine HCode.step ?_)
        refine HLoad.one (v := .slice o.al o.nl o.cl) (by exact (ro.upd (S := []) sg.u (.inr (Off.nil _))).get (orow_get ho 3 _ rfl)) ?_
        (repeat first | refine HReg.step ?_ | refine HCode.step ?_)
        refine HCall.mk ⟨Try.f13, Try.func13, by rfl, by rfl⟩ ?_
        refine sameTexts_eq rLg (ok.upd0 sg.u).row ok.len (by omega) ?_
        have w5 : wr .i64 (((o.nl + 2 : Nat) : Int) - 1) = ((o.nl + 1 : Nat) : Int) := by rw [wr_i64 (by omega) (by omega)]; omega
        have w6 : wr .i64 (((o.nl + 2 : Nat) : Int) - 2) = ((o.nl : Nat) : Int) := by rw [wr_i64 (by omega) (by omega)]; omega
        (repeat first | refine HReg.step ?_ | refine HCode.step ?_)
        rw [w5]
        refine HReq.mk ⟨by omega, by omega⟩ ?_
        have t1 : (txts (o.l ++ [[115, 112, 97, 114, 101], [114, 111, 111, 109]]))[o.nl + 1]? = some (.string ⟨#[114, 111, 111, 109]⟩) := by
          unfold txts; rw [List.map_append, List.getElem?_append_right (by rw [List.length_map, ok.len]; omega), List.length_map, ok.len, Nat.add_sub_cancel_left]; rfl
        have t2 : (txts (o.l ++ [[115, 112, 97, 114, 101], [114, 111, 111, 109]]))[o.nl]? = some (.string ⟨#[115, 112, 97, 114, 101]⟩) := by
          unfold txts; rw [List.map_append, List.getElem?_append_right (by rw [List.length_map, ok.len]; omega), List.length_map, ok.len, Nat.sub_self]; rfl
        (repeat first | refine HReg.step ?_ | refine HCode.step ?_)
        refine HLoad.one (v := .string ⟨#[114, 111, 111, 109]⟩) (by exact Lg.rows.get t1) ?_
        (repeat first | refine HReg.step ?_ | refine HCode.step ?_)
        rw [seqB_self]
        (repeat first | refine HReg.step ?_ | refine HCode.step ?_)
        rw [w6]
        refine HReq.mk ⟨by omega, by omega⟩ ?_
        (repeat first | refine HReg.step ?_ | refine HCode.step ?_)
        refine HLoad.one (v := .string ⟨#[115, 112, 97, 114, 101]⟩) (by exact Lg.rows.get t2) ?_
        (repeat first | refine HReg.step ?_ | refine HCode.step ?_)
        rw [seqB_self]
        (repeat first | refine HReg.step ?_ | refine HCode.step ?_)
        refine hloopC [16, 163, 164, 165, 166, 167, 168, 169, 170, 171, 172, 173] [16] (Kp6 Hg (some ⟨gL, 0, none⟩) o.nl cL) rfl (by repeat' first | exact Resp.retD | exact Resp1.valuesK | refine Resp.blockD ?_ | refine Resp.thenD ?_ ?_ | refine Resp.hcode ?_) ?_ ?_
        · exact ⟨o.nl, Kp6.mk ⟨0, _, rfl, rfl, hoL, Lg, Upd.refl _ _⟩⟩
        rintro m6 _ fe6 Hh ⟨q, X, rfl, hq, hX, Lh, uh⟩
        have nL : H gL = none := by
          have h : Hb gL = none := md.new _ rfl
          exact Upd.none (S := []) sb.u (by simp) h
        have oh := og.upd uh (Lg.offT og (by decide))
        (repeat first | refine HReg.step ?_ | refine HCode.step ?_)
        refine HLoad.one (v := .slice (some ⟨gL, 0, none⟩) o.nl cL) (by exact oh.rows.get (i := 3) rfl) ?_
        (repeat first | refine HReg.step ?_ | refine HCode.step ?_)
        refine hif (fun h5 => ?_) (fun h5 => ?_)
        · have h5 := ltB_true.1 h5
          have w7 : wr .i64 ((q : Int) + 1) = ((q + 1 : Nat) : Int) := by rw [wr_i64 (by omega) (by omega)]; omega
          (repeat first | refine HReg.step ?_ | refine HCode.step ?_)
          refine HLoad.one (v := .slice (some ⟨gL, 0, none⟩) o.nl cL) (by exact oh.rows.get (i := 3) rfl) ?_
          (repeat first | refine HReg.step ?_ | refine HCode.step ?_)
          refine HReq.mk ⟨by omega, by omega⟩ ?_
          (repeat first | refine HReg.step ?_ | refine HCode.step ?_)
          refine store_row Lh (v := .string ⟨#[63]⟩) rfl (i := q) (by omega) (by show 0 + q + 0 = q; omega) fun Hi Li ui => ?_
          have e8 : (txts X).set q (.string ⟨#[63]⟩) = txts (X.set q [63]) := by unfold txts; rw [List.map_set]; rfl
          rw [e8] at Li
          (repeat first | refine HReg.step ?_ | refine HCode.step ?_)
          rw [w7]
          exact ⟨m6 - 1, by omega, Kp6.mk ⟨q + 1, _, rfl, by omega, by rw [List.length_set]; exact hX, Li, uh.trans ui⟩⟩
        have h5 := ltB_false.1 h5
        have sh := sg.upd uh (fun b hb => by
          have hb' : b = gL := by cases hb with | head => rfl | tail _ h => cases h
          subst hb'
          obtain ⟨cu, f, h⟩ := own_cells Lg
          exact ⟨nL, cu, 9, f, h, by decide, by decide, by decide⟩)
        (repeat first | refine HReg.step ?_ | refine HCode.step ?_)
        refine HCall.mk ⟨Try.f14, Try.func14, by rfl, by rfl⟩ ?_
        refine out_z sh.d1 (by omega) fun xa xc Hi mx => ?_
        have si := sh.upd0 mx.upd
        (repeat first | refine HReg.step ?_ | refine HCode.step ?_)
        refine HCall.mk ⟨Try.f14, Try.func14, by rfl, by rfl⟩ ?_
        refine out_z si.d2 (by omega) fun ya yc Hj my => ?_
        have sj := si.upd0 my.upd
        have pj := (sh.p.tell mx rfl).tell my rfl
        (repeat first | refine HReg.step ?_ | refine HCode.step ?_)
        refine HReq.mk (by decide) ?_
        (repeat first | refine HReg.step ?_ | refine HCode.step ?_)
        refine HNew.mk fun b7 hb7 => ?_
        have u7' : Upd [] Hj (Hj.upd b7 (.cells [Value.slice xa w1'.told.length xc, .slice ya w2'.told.length yc].toArray 23)) := Upd.new hb7 _
        have r7 : RowAt (Hj.upd b7 (.cells [Value.slice xa w1'.told.length xc, .slice ya w2'.told.length yc].toArray 23)) (some ⟨b7, 0, none⟩) [Value.slice xa w1'.told.length xc, .slice ya w2'.told.length yc] := RowAt.of_cells (upd_same _ _ _)
        generalize hHk : Hj.upd b7 (.cells [Value.slice xa w1'.told.length xc, .slice ya w2'.told.length yc].toArray 23) = Hk at u7' r7
        have sk := sj.upd0 u7'
        have pk := pj.upd (T := []) u7' (by simp)
        (repeat first | refine HReg.step ?_ | refine HCode.step ?_)
        refine append_rows (ie := Try.t23) (z := .slice none 0 0) (xs := V) (ys := [Value.slice xa w1'.told.length xc, .slice ya w2'.told.length yc]) Try.underlying30 rfl rfl rfl (by decide) sk.oO r7 rfl ?_ ?_ (by omega) fun aO2 cO2 Hl oO2 uO2 fO2 => ?_
        · intro v hv
          rcases List.mem_cons.1 hv with rfl | hv
          · rfl
          · rw [List.mem_singleton.1 hv]; rfl
        · show (2 * i + 2) * 24 ≤ _; omega
        have bO : ∀ b ∈ blk aO, H b = none ∧ ∃ c e f, Hk b = some (.cells c e f) ∧ e ≠ 65 ∧ e ≠ 5 := fun b hb => by
          obtain ⟨p, hp, rfl⟩ := blk_of hb
          obtain ⟨cu, f, h⟩ := own_cellsO sk.oO hp
          exact ⟨sk.nO p hp, cu, 23, f, h, by decide, by decide⟩
        have pl := pk.upd uO2 bO
        have oWl := sk.oW.upd uO2 (fun p hp hb => by
          obtain ⟨q, hq, e⟩ := blk_of hb
          exact sk.aOW q p hq hp e)
        have nkH : ∀ b, Hk b = none → H b = none := fun b hb => Upd.none (S := []) sk.u (by simp) hb
        have nO2 : ∀ p, aO2 = some p → H p.block = none := fun p hp => by
          rcases fO2 p hp with h | h
          · exact sk.nO p h
          · exact nkH _ h
        have aOW2 : ∀ p q, aO2 = some p → aW = some q → p.block ≠ q.block := fun p q hp hq => by
          rcases fO2 p hp with h | h
          · exact sk.aOW p q h hq
          · intro e
            rw [e] at h
            exact sk.oW.there hq h
        have rxl : RowAt Hl xa (u8s w1'.told) := by
          obtain ⟨a', c', h1, h2⟩ := pl.G.ok (V.length) (.slice xa w1'.told.length xc) w1'.told (by simp) (by simp [s.G.len])
          cases h1; exact h2.rows
        have ryl : RowAt Hl ya (u8s w2'.told) := by
          obtain ⟨a', c', h1, h2⟩ := pl.G.ok (V.length + 1) (.slice ya w2'.told.length yc) w2'.told (by rw [List.getElem?_append_right (by simp)]; simp) (by rw [List.getElem?_append_right (by simp [s.G.len])]; simp [s.G.len])
          cases h1; exact h2.rows
        have bo1 := sk.d1.b
        have bo2 := sk.d2.b
        have tl1 : w1'.told.length ≤ 2147483648 := Nat.le_trans (told_le w1') (by omega)
        have tl2 : w2'.told.length ≤ 2147483648 := Nat.le_trans (told_le w2') (by omega)
        (repeat first | refine HReg.step ?_ | refine HCode.step ?_)
        refine append_made (xs := []) (Made.nil Hl 5 1) rxl rfl (by omega) fun xa2 xc2 Hm mx2 => ?_
        rw [Nat.zero_add] at mx2
        rw [List.nil_append] at mx2
        rw [Nat.zero_add w1'.told.length]
        have pm := pl.keep mx2 rfl (by have := s.oW.len; have := s.oO.len; have := s.G.len; omega)
        (repeat first | refine HReg.step ?_ | refine HCode.step ?_)
        refine append_made (xs := []) (Made.nil Hm 5 1) (ryl.upd (S := []) mx2.upd (.inr (Off.nil _))) rfl (by omega) fun ya2 yc2 Hn my2 => ?_
        rw [Nat.zero_add] at my2
        rw [List.nil_append] at my2
        rw [Nat.zero_add w2'.told.length]
        have pn := pm.keep my2 rfl (by have := s.oW.len; have := s.oO.len; have := s.G.len; simp; omega)
        (repeat first | refine HReg.step ?_ | refine HCode.step ?_)
        refine HReq.mk (by decide) ?_
        (repeat first | refine HReg.step ?_ | refine HCode.step ?_)
        refine HNew.mk fun b8 hb8 => ?_
        have u8'' : Upd [] Hn (Hn.upd b8 (.cells [Value.slice xa2 w1'.told.length xc2, .slice ya2 w2'.told.length yc2].toArray 23)) := Upd.new hb8 _
        have r8 : RowAt (Hn.upd b8 (.cells [Value.slice xa2 w1'.told.length xc2, .slice ya2 w2'.told.length yc2].toArray 23)) (some ⟨b8, 0, none⟩) [Value.slice xa2 w1'.told.length xc2, .slice ya2 w2'.told.length yc2] := RowAt.of_cells (upd_same _ _ _)
        generalize hHo : Hn.upd b8 (.cells [Value.slice xa2 w1'.told.length xc2, .slice ya2 w2'.told.length yc2].toArray 23) = Ho at u8'' r8
        have ulo : Upd [] Hl Ho := (mx2.upd.trans my2.upd).trans u8''
        have po := pn.upd (T := []) u8'' (by simp)
        have oWo := oWl.upd ulo (Off.nil _)
        have oOo := oO2.upd ulo (Off.nil _)
        (repeat first | refine HReg.step ?_ | refine HCode.step ?_)
        refine append_rows (ie := Try.t23) (z := .slice none 0 0) (xs := U) (ys := [Value.slice xa2 w1'.told.length xc2, .slice ya2 w2'.told.length yc2]) Try.underlying30 rfl rfl rfl (by decide) oWo r8 rfl ?_ ?_ (by omega) fun aW2 cW2 Hp oW2 uW2 fW2 => ?_
        · intro v hv
          rcases List.mem_cons.1 hv with rfl | hv
          · rfl
          · rw [List.mem_singleton.1 hv]; rfl
        · show (2 * i + 2) * 24 ≤ _; omega
        have pp := po.upd uW2 (fun b hb => by
          obtain ⟨p, hp, rfl⟩ := blk_of hb
          obtain ⟨cu, f, h⟩ := own_cellsO oWo hp
          exact ⟨sk.nW p hp, cu, 23, f, h, by decide, by decide⟩)
        have oOp := oOo.upd uW2 (fun p hp hb => by
          obtain ⟨q, hq, e⟩ := blk_of hb
          exact aOW2 p q hp hq e.symm)
        have sNew : P4S H (1073741824 + 8 * (i + 1)) g1 g2 (i + 1) aO2 aW2 cO2 cW2 T1' T2' w1' w2' (V ++ [Value.slice xa w1'.told.length xc, .slice ya w2'.told.length yc]) (U ++ [Value.slice xa2 w1'.told.length xc2, .slice ya2 w2'.told.length yc2]) (ls ++ [w1'.told, w2'.told]) Hp := by
          have eV : V ++ [Value.slice xa w1'.told.length xc, .slice ya w2'.told.length yc] = V ++ [Value.slice xa w1'.told.length xc] ++ [.slice ya w2'.told.length yc] := by simp
          have eU : U ++ [Value.slice xa2 w1'.told.length xc2, .slice ya2 w2'.told.length yc2] = U ++ [Value.slice xa2 w1'.told.length xc2] ++ [.slice ya2 w2'.told.length yc2] := by simp
          have eL : ls ++ [w1'.told, w2'.told] = ls ++ [w1'.told] ++ [w2'.told] := by simp
          refine ⟨pp.d1.wide (by omega), pp.d2.wide (by omega), sk.ap, oOp, oW2, nO2, fun p hp => ?_, fun p q hp hq => ?_, by rw [eV, eL]; exact pp.G, by rw [eV]; exact pp.nV, fun l hl => ?_, by rw [eU, eL]; exact pp.C, by rw [eU]; exact pp.nU, pp.u⟩
          · rcases fW2 p hp with h | h
            · exact sk.nW p h
            · exact Upd.none (S := []) po.u (by simp) h
          · rcases fW2 q hq with h | h
            · exact aOW2 p q hp h
            · intro e
              rw [← e] at h
              exact oOo.there hp h
          · rcases List.mem_append.1 hl with h | h
            · exact s.hl l h
            · rcases List.mem_cons.1 h with rfl | h
              · exact tl1
              · rw [List.mem_singleton.1 h]; exact tl2
        (repeat first | refine HReg.step ?_ | refine HCode.step ?_)
        refine hif (fun h6 => ?_) (fun h6 => ?_)
        · (repeat first | refine HReg.step ?_ | refine HCode.step ?_)
          exact P4J.mk ⟨i + 1, _, _, _, _, _, _, _, _, _, _, _, rfl, by omega, sNew.wide (by omega)⟩
        · (repeat first | refine HReg.step ?_ | refine HCode.step ?_)
          rw [w3]
          exact ⟨m - 1, by omega, P4Inv.mk ⟨i + 1, _, _, _, _, _, _, _, _, _, _, _, rfl, by omega, by omega, sNew⟩⟩
      · have h4 := ltB_false.1 h4
        (repeat first | refine HReg.step ?_ | refine HCode.step ?_)
        exact P4J.mk ⟨i, aO, aW, cO, cW, T1, T2, w1, w2, V, U, ls, rfl, by omega, s.wide (by omega)⟩
    · have h3 := ltB_false.1 h3
      (repeat first | refine HReg.step ?_ | refine HCode.step ?_)
      exact P4J.mk ⟨i, aO, aW, cO, cW, T1, T2, w1, w2, V, U, ls, rfl, by omega, s.wide (by omega)⟩
  rintro _ fe5 Ha ⟨i, aO, aW, cO, cW, T1, T2, w1, w2, V, U, ls, rfl, hi, s⟩
  have bw := s.d1.b
  have tl1 : w1.told.length ≤ 2147483648 := by
    unfold W.told; split
    · omega
    · exact Nat.zero_le _
  (repeat first | refine HReg.step ?_ | refine HCode.step ?_)
  refine HCall.mk ⟨Try.f14, Try.func14, by rfl, by rfl⟩ ?_
  refine out_z s.d1 (by omega) fun xa xc Hb mb => ?_
  have sb := s.upd0 mb.upd
  (repeat first | refine HReg.step ?_ | refine HCode.step ?_)
  refine append_made (xs := []) (Made.nil Hb 5 1) mb.own.rows rfl (by omega) fun ka kc Hc mc => ?_
  rw [Nat.zero_add] at mc
  rw [List.nil_append] at mc
  rw [Nat.zero_add w1.told.length]
  have sc := sb.upd0 mc.upd
  have ma := mb.step mc.upd
  (repeat first | refine HReg.step ?_ | refine HCode.step ?_)
  refine HCall.mk ⟨Try.f15, Try.func15, by rfl, by rfl⟩ ?_
  refine marked_t (H1 := H) ⟨sc.G, fun v hv b hb => (sc.nV v hv b hb).2.2, sc.u⟩ sc.oO sc.oW.rows rfl sc.C (by omega) (fun l hl => by have := sc.hl l hl; omega) fun Hd ud => ?_
  have liveV : ∀ b ∈ V.flatMap vblk, Ha b ≠ none := fun b hb => by
    obtain ⟨v, hv, hb⟩ := List.mem_flatMap.1 hb
    obtain ⟨k, hk⟩ := List.getElem?_of_mem hv
    obtain ⟨cu, z, h⟩ := s.G.live hk hb
    rw [h]; simp
  have liveVb : ∀ b ∈ V.flatMap vblk, Hb b ≠ none := fun b hb => by rw [mb.upd b (by simp) (liveV b hb)]; exact liveV b hb
  have nV : ∀ b ∈ V.flatMap vblk, H b = none := fun b hb => by
    obtain ⟨v, hv, hb⟩ := List.mem_flatMap.1 hb
    exact (s.nV v hv b hb).2.2
  have dd := sc.d1.upd ud (fun b hb hb' => by
    obtain ⟨v, hv, hb'⟩ := List.mem_flatMap.1 hb'
    exact (s.nV v hv b hb').1 hb) nV
  have rA : RowAt Hd xa (u8s w1.told) := ma.own.rows.upd ud (.inr fun p hp hb => liveV _ hb (ma.new p hp))
  have rK : RowAt Hd ka (u8s w1.told) := mc.own.rows.upd ud (.inr fun p hp hb => liveVb _ hb (mc.new p hp))
  have uD : Upd [] H Hd := Upd.drop sc.u ud nV
  (repeat first | refine HReg.step ?_ | refine HCode.step ?_)
  refine HCall.mk ⟨Try.f14, Try.func14, by rfl, by rfl⟩ ?_
  refine out_z dd (by omega) fun za zc He me => ?_
  (repeat first | refine HReg.step ?_ | refine HCode.step ?_)
  refine HCall.mk ⟨Try.f16, Try.func16, by rfl, by rfl⟩ ?_
  refine same_eq me.own.rows rfl (rK.upd (S := []) me.upd (.inr (Off.nil _))) rfl rfl ?_
  (repeat first | refine HReg.step ?_ | refine HCode.step ?_)
  refine HCall.mk ⟨Try.f16, Try.func16, by rfl, by rfl⟩ ?_
  refine same_eq (rA.upd (S := []) me.upd (.inr (Off.nil _))) rfl (rK.upd (S := []) me.upd (.inr (Off.nil _))) rfl rfl ?_
  (repeat first | refine HReg.step ?_ | refine HCode.step ?_)
  exact hk He (uD.trans me.upd)
end Go.Proofs.Ytjnahdcolacldaa
