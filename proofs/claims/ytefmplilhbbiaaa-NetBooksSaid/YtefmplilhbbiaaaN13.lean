import Derived.Test.YtefmplilhbbiaaaN12
namespace Go.Proofs.Ytefmplilhbbiaaa
open Go Hv
set_option linter.unusedVariables false
set_option maxRecDepth 10000
set_option maxHeartbeats 4000000
theorem net_other {T F T2 F2 : TypeId} {H1 H H' : Heap} {g g2 : Nat} {P C L P2 C2 L2 : Int} {a a2 : Option Addr} {n cap n2 cap2 : Nat} {fs fs2 : List Fr} (N : NetAt T F H1 H g P C L a n cap fs) (N2 : NetAt T2 F2 H1 H g2 P2 C2 L2 a2 n2 cap2 fs2) (u : Upd (nblk g2 a2) H H') (h1 : T2 ≠ T) (h2 : F2 ≠ T) (h3 : T2 ≠ F) (h4 : F2 ≠ F) : NetAt T F H1 H' g P C L a n cap fs :=
  N.upd u (fun hb => net_off N2 N.obj h1 h2 _ rfl hb) (net_off N2 N.row h3 h4) N2.old
theorem all_fresh {H H' : Heap} {S : List Nat} {vs : List Value} {ls : List (List UInt8)} (s : All2 (Sle 5 H) vs ls) (u : Upd S H H') (hS : ∀ v ∈ vs, ∀ b ∈ vblk v, b ∉ S) : All2 (Sle 5 H') vs ls := by
  revert ls
  induction vs with
  | nil => intro ls s; cases ls with
    | nil => trivial
    | cons y ys => exact s
  | cons x xs ih => intro ls s; cases ls with
    | nil => exact s
    | cons y ys => exact ⟨s.1.upd u (hS x (by simp)), ih (fun v hv => hS v (by simp [hv])) s.2⟩
theorem all_live {H : Heap} {vs : List Value} {ls : List (List UInt8)} (s : All2 (Sle 5 H) vs ls) : ∀ v ∈ vs, ∀ b ∈ vblk v, H b ≠ none := by
  revert ls
  induction vs with
  | nil => intro ls s v hv; simp at hv
  | cons x xs ih => intro ls s v hv b hb; cases ls with
    | nil => exact s.elim
    | cons y ys =>
      rcases List.mem_cons.1 hv with rfl | h
      · obtain ⟨c, f, hc⟩ := s.1.live hb; rw [hc]; simp
      · exact ih s.2 v h b hb
structure PairAt (H1 H : Heap) (g g' : Nat) (P C : Int) (S : List Nat) (k : Nat) : Prop where
  ex : ∃ (L : Int) (a : Option Addr) (n cap : Nat) (fs : List Fr) (a' : Option Addr) (cap' : Nat) (fs' : List Fr) (ls : List (List UInt8)), NetAt 61 33 H1 H g P C L a n cap fs ∧ NetAt 66 67 H1 H g' P C L a' n cap' fs' ∧ All2 (Sle 5 H) (fs.map Fr.v) ls ∧ All2 (Sle 5 H) (fs'.map Fr.v) ls ∧ All2 FrSame fs fs' ∧
    S = nblk g a ++ nblk g' a' ∧ 1 ≤ P ∧ (1 ≤ C ∧ C ≤ 16) ∧ 0 ≤ L ∧ L ≤ k ∧ n ≤ k ∧ (∀ l ∈ ls, List.length l ≤ 140737488351232)
structure LoInv (gf n c : Nat) (H6 : Heap) (m : Nat) (vs : List Value) (H' : Heap) : Prop where
  ex : ∃ (i : Nat) (X : List UInt8), vs = [.int .i64 (i : Int)] ∧ m + i = n ∧ X.length = n ∧ OwnRow H' 5 1 (some ⟨gf, 0, none⟩) n c (u8s X) ∧ Upd [gf] H6 H'
theorem frSame_erase {X Y : List Fr} (h : All2 FrSame X Y) (i : Nat) : All2 FrSame (X.eraseIdx i) (Y.eraseIdx i) := by
  induction X generalizing Y i with
  | nil => cases Y with
    | nil => trivial
    | cons y ys => exact h.elim
  | cons x xs ih => cases Y with
    | nil => exact h.elim
    | cons y ys => cases i with
      | zero => exact h.2
      | succ i => exact ⟨h.1, ih h.2 i⟩
theorem sle_erase {H : Heap} {X : List Fr} {ls : List (List UInt8)} (h : All2 (Sle 5 H) (X.map Fr.v) ls) (i : Nat) : All2 (Sle 5 H) ((X.eraseIdx i).map Fr.v) (ls.eraseIdx i) := by
  induction X generalizing ls i with
  | nil => cases ls with
    | nil => trivial
    | cons y ys => exact h.elim
  | cons x xs ih => cases ls with
    | nil => exact h.elim
    | cons y ys => cases i with
      | zero => exact h.2
      | succ i => exact ⟨h.1, ih h.2 i⟩
theorem plays_t {H1 H : Heap} {g g' : Nat} {P C : Int} {S : List Nat} {k : Nat} {kind who A B : Int} {ab : Option Addr} {nb cb : Nat} {ys : List UInt8} {K : Value → Heap → Prop} (Q : PairAt H1 H g g' P C S k) (hy : RowAt H1 ab (u8s ys)) (hn : ys.length = nb) (hlim : nb ≤ 140737488351232) (hk63 : k + 1 ≤ 2932031007402)
    (hK : ∀ H' S', PairAt H1 H' g g' P C S' (k + 1) → Upd S H H' → (∀ b ∈ S', b ∈ S ∨ H b = none) → K (.bool true) H') :
    HCalls Try.prog 19 [.pointer (some ⟨g, 0, none⟩), .pointer (some ⟨g', 0, none⟩), .agg #[.int .i64 kind, .int .i64 who, .int .i64 A, .int .i64 B, .slice ab nb cb]] H K := by
  obtain ⟨L, a, n, cap, fs, a', cap', fs', ls, N, N', SA, SB, FS, hS, hP, hC, hL0, hLk, hnk, hll⟩ := Q
  have hfs := isSl_of SA
  have hfs' := isSl_of SB
  have base := N.base
  have l1 := N.len
  have l1' := N'.len
  have hlim' : ∀ l ∈ ls, List.length l ≤ 140737488355328 := fun l hl => by have := hll l hl; omega
  have hoffy : ys = [] ∨ Off [g'] ab := by
    cases ys with
    | nil => exact .inl rfl
    | cons y t =>
      right
      intro p hp hb
      obtain ⟨b', off, hh, hc⟩ := hy 0 _ rfl
      rw [hp] at hh; cases hh
      have h1 := N'.newg
      have e : b' = g' := List.mem_singleton.1 hb
      unfold Heap.cell? at hc
      simp only at hc
      rw [e, h1] at hc
      cases hc
  refine hcalls (fn := Try.f19) [(4, [(0, 0), (1, 0), (2, 0), (3, 0), (4, 0), (5, 0), (6, 0), (7, 0), (8, 0), (9, 0), (10, 0), (11, 0), (12, 0), (13, 0), (14, 0), (15, 0)]), (17, [(0, 0), (1, 0), (2, 0), (3, 0), (4, 1), (5, 1), (6, 1), (7, 0), (8, 0), (9, 0)])] mixed Try.func19 rfl rfl (by decide +kernel) ?_
  (repeat first | refine HReg.step ?_ | refine HCode.step ?_)
  refine HNew.mk fun b5 hb5 => ?_
  have u5 : Upd [] H (H.upd b5 (.cells [.int .i64 kind, .int .i64 who, .int .i64 A, .int .i64 B, .slice ab nb cb].toArray 52)) := Upd.new hb5 _
  have o5 : OwnRow (H.upd b5 (.cells [.int .i64 kind, .int .i64 who, .int .i64 A, .int .i64 B, .slice ab nb cb].toArray 52)) 52 1 (some ⟨b5, 0, none⟩) 5 5 [.int .i64 kind, .int .i64 who, .int .i64 A, .int .i64 B, .slice ab nb cb] := OwnRow.lit (upd_same _ _ _) rfl
  have N5 := N.upd0 u5
  have N5' := N'.upd0 u5
  have SA5 := all_upd SA u5
  have SB5 := all_upd SB u5
  (repeat first | refine HReg.step ?_ | refine HCode.step ?_)
  refine HLoad.one (v := .int .i64 kind) (by exact o5.rows.get (i := 0) rfl) ?_
  (repeat first | refine HReg.step ?_ | refine HCode.step ?_)
  refine hif (fun e1 => ?_) (fun e1 => ?_)
  · (repeat first | refine HReg.step ?_ | refine HCode.step ?_)
    refine HLoad.one (v := .slice ab nb cb) (by exact o5.rows.get (i := 4) rfl) ?_
    (repeat first | refine HReg.step ?_ | refine HCode.step ?_)
    refine HCall.mk ⟨Try.f10, Try.func10, by rfl, by rfl⟩ ?_
    refine own_t (hy.upd (base.trans u5) (.inr (Off.nil _))) hn (by omega) fun a6 c6 H6 m6 => ?_
    (repeat first | refine HReg.step ?_ | refine HCode.step ?_)
    refine HReq.mk (by decide) ?_
    (repeat first | refine HReg.step ?_ | refine HCode.step ?_)
    refine HNew.mk fun b7 hb7 => ?_
    (repeat first | refine HReg.step ?_ | refine HCode.step ?_)
    have u7 : Upd [] H6 (H6.upd b7 (.cells [Value.int .u8 165, Value.int .u8 166].toArray 5)) := Upd.new hb7 _
    refine append_made (ys := [165, 166]) (m6.step u7) (row_lit (upd_same _ _ _) rfl) rfl (by omega) fun a8 c8 H8 m8 => ?_
    obtain ⟨gf, rfl⟩ := m8.own.addr (by omega)
    have le8 := m8.own.le
    have lfull : (ys ++ [165, 166]).length = nb + 2 := by simp [hn]
    have ngf : H gf = none := Upd.none (S := []) u5 (by simp) (m8.new _ rfl)
    have ngf1 : H1 gf = none := Upd.none (S := []) base (by simp) ngf
    have N8 := N5.upd0 m8.upd
    have N8' := N5'.upd0 m8.upd
    have SA8 := all_upd SA5 m8.upd
    have SB8 := all_upd SB5 m8.upd
    have o58 := o5.upd m8.upd (Off.nil _)
    have dA0 : ∀ v ∈ fs.map Fr.v, ∀ b ∈ vblk v, b ≠ gf := fun v hv b hb e => all_live SA v hv b hb (by rw [e]; exact ngf)
    have dB0 : ∀ v ∈ fs'.map Fr.v, ∀ b ∈ vblk v, b ≠ gf := fun v hv b hb e => all_live SB v hv b hb (by rw [e]; exact ngf)
    have x8 : RowAt H8 (some ⟨gf, 0, none⟩) (u8s ys) := by
      have := m8.own.rows.take nb
      rw [← u8s_take, List.take_append_of_le_length (by omega), List.take_of_length_le (by omega)] at this
      exact this
    have u08 : Upd [] H H8 := u5.trans m8.upd
    (repeat first | refine HReg.step ?_ | refine HCode.step ?_)
    refine HLoad.one (v := .int .i64 A) (by exact o58.rows.get (i := 2) rfl) ?_
    (repeat first | refine HReg.step ?_ | refine HCode.step ?_)
    refine HLoad.one (v := .int .i64 B) (by exact o58.rows.get (i := 3) rfl) ?_
    (repeat first | refine HReg.step ?_ | refine HCode.step ?_)
    refine HLoad.one (v := .slice ab nb cb) (by exact o58.rows.get (i := 4) rfl) ?_
    (repeat first | refine HReg.step ?_ | refine HCode.step ?_)
    refine HReq.mk ⟨by omega, by omega⟩ ?_
    (repeat first | refine HReg.step ?_ | refine HCode.step ?_)
    refine HCall.mk ⟨Try.f9, Try.func9, by rfl, by rfl⟩ ?_
    refine send_t N8 hC ⟨hL0, by omega⟩ (by omega) hfs x8 (N8.obj.offT m8.own (by decide)) hn (by omega) (fun hc H9 l9 => ?_) (fun hc => ?_)
    · obtain ⟨v9, a9, cap9, N9, s9, w9, u9, f9⟩ := l9
      have N9' := net_other N8' N8 u9 (by decide) (by decide) (by decide) (by decide)
      have SA9 := all_net SA8 N8 (by decide) (by decide) u9
      have SB9 := all_net SB8 N8 (by decide) (by decide) u9
      have o59 := o58.upd u9 (net_off N8 o58 (by decide) (by decide))
      have mf9 := m8.own.upd u9 (net_off N8 m8.own (by decide) (by decide))
      (repeat first | refine HReg.step ?_ | refine HCode.step ?_)
      refine HLoad.one (v := .int .i64 A) (by exact o59.rows.get (i := 2) rfl) ?_
      (repeat first | refine HReg.step ?_ | refine HCode.step ?_)
      refine HLoad.one (v := .int .i64 B) (by exact o59.rows.get (i := 3) rfl) ?_
      (repeat first | refine HReg.step ?_ | refine HCode.step ?_)
      refine HLoad.one (v := .slice ab nb cb) (by exact o59.rows.get (i := 4) rfl) ?_
      (repeat first | refine HReg.step ?_ | refine HCode.step ?_)
      refine HCall.mk ⟨Try.f29, Try.func29, by rfl, by rfl⟩ ?_
      refine rsend_t N9' hP hC ⟨hL0, by omega⟩ (by omega) hfs' (hy.upd N9.base (.inr (Off.nil _))) hoffy hn (by omega) (fun _ H10 l10 => ?_) (fun h => absurd hc h)
      obtain ⟨v10, a10, cap10, Nx', s10, w10, u10, f10⟩ := l10
      have Nx := net_other N9 N9' u10 (by decide) (by decide) (by decide) (by decide)
      have SAx : All2 (Sle 5 H10) ((fs ++ [(⟨L + 1, A, B, v9⟩ : Fr)]).map Fr.v) (ls ++ [ys]) := by
        rw [List.map_append]
        exact (all_net SA9 N9' (by decide) (by decide) u10).append ⟨sle_net s9 N9' (by decide) (by decide) u10, trivial⟩
      have SBx : All2 (Sle 5 H10) ((fs' ++ [(⟨L + 1, A, B, v10⟩ : Fr)]).map Fr.v) (ls ++ [ys]) := by
        rw [List.map_append]
        exact (all_net SB9 N9' (by decide) (by decide) u10).append ⟨s10, trivial⟩
      have o5x := o59.upd u10 (net_off N9' o59 (by decide) (by decide))
      have mfx := mf9.upd u10 (net_off N9' mf9 (by decide) (by decide))
      have FSx : All2 FrSame (fs ++ [⟨L + 1, A, B, v9⟩]) (fs' ++ [⟨L + 1, A, B, v10⟩]) := FS.append ⟨⟨rfl, rfl, rfl⟩, trivial⟩
      have dA : ∀ v ∈ (fs ++ [(⟨L + 1, A, B, v9⟩ : Fr)]).map Fr.v, ∀ b ∈ vblk v, b ≠ gf := fun v hv b hb e => by
        rw [List.map_append] at hv
        rcases List.mem_append.1 hv with h | h
        · exact dA0 v h b hb e
        · rw [List.mem_singleton.1 h] at hb
          exact m8.own.there rfl (by show H8 gf = none; rw [← e]; exact w9 b hb)
      have dB : ∀ v ∈ (fs' ++ [(⟨L + 1, A, B, v10⟩ : Fr)]).map Fr.v, ∀ b ∈ vblk v, b ≠ gf := fun v hv b hb e => by
        rw [List.map_append] at hv
        rcases List.mem_append.1 hv with h | h
        · exact dB0 v h b hb e
        · rw [List.mem_singleton.1 h] at hb
          exact mf9.there rfl (by show H9 gf = none; rw [← e]; exact w10 b hb)
      have hllx : ∀ l ∈ ls ++ [ys], List.length l ≤ 140737488351232 := fun l hl => by
        rcases List.mem_append.1 hl with h | h
        · exact hll l h
        · rw [List.mem_singleton.1 h]; omega
      have ux : Upd S H H10 := by
        rw [hS]
        refine upd_join (upd_join (u08.mono (by simp)) u9 fun b hb => .inl (List.mem_append_left _ hb)) u10 fun b hb => .inl (List.mem_append_right _ hb)
      have hSx : ∀ b ∈ nblk g a9 ++ nblk g' a10, b ∈ S ∨ H b = none := fun b hb => by
        rw [hS]
        rcases List.mem_append.1 hb with h | h
        · rcases List.mem_cons.1 h with rfl | h
          · exact .inl (List.mem_append_left _ (mem_nblk_g _ _))
          · obtain ⟨p, hp, rfl⟩ := blk_of h
            rcases f9 p hp with h | h
            · exact .inl (List.mem_append_left _ (blk_nblk _ _ _ (by rw [h]; simp [blk])))
            · exact .inr (Upd.none (S := []) u08 (by simp) h)
        · rcases List.mem_cons.1 h with rfl | h
          · exact .inl (List.mem_append_right _ (mem_nblk_g _ _))
          · obtain ⟨p, hp, rfl⟩ := blk_of h
            rcases f10 p hp with h | h
            · exact .inl (List.mem_append_right _ (blk_nblk _ _ _ (by rw [h]; simp [blk])))
            · by_cases hm : p.block ∈ nblk g a
              · exact .inl (List.mem_append_left _ hm)
              · exact .inr (Upd.none (S := []) u08 (by simp) (Upd.none u9 hm h))
      (repeat first | refine HReg.step ?_ | refine HCode.step ?_)
      refine HLoad.one (v := .slice ab nb cb) (by exact o5x.rows.get (i := 4) rfl) ?_
      (repeat first | refine HReg.step ?_ | refine HCode.step ?_)
      refine HCall.mk ⟨Try.f10, Try.func10, by rfl, by rfl⟩ ?_
      refine own_t (hy.upd (Nx.base) (.inr (Off.nil _))) hn (by omega) fun a11 c11 H11 m11 => ?_
      (repeat first | refine HReg.step ?_ | refine HCode.step ?_)
      refine HReq.mk (by decide) ?_
      (repeat first | refine HReg.step ?_ | refine HCode.step ?_)
      refine HNew.mk fun b12 hb12 => ?_
      (repeat first | refine HReg.step ?_ | refine HCode.step ?_)
      have u12 : Upd [] H11 (H11.upd b12 (.cells [Value.int .u8 165, Value.int .u8 166].toArray 5)) := Upd.new hb12 _
      refine append_made (ys := [165, 166]) (m11.step u12) (row_lit (upd_same _ _ _) rfl) rfl (by omega) fun a13 c13 H13 m13 => ?_
      have mf13 := mfx.upd m13.upd (Off.nil _)
      (repeat first | refine HReg.step ?_ | refine HCode.step ?_)
      refine HCall.mk ⟨Try.f16, Try.func16, by rfl, by rfl⟩ ?_
      refine same_eq (x := ys ++ [165, 166]) (y := ys ++ [165, 166]) mf13.rows lfull m13.own.rows lfull rfl ?_
      (repeat first | refine HReg.step ?_ | refine HCode.step ?_)
      refine hloopC [13, 63, 64, 65, 66, 67, 68, 69, 70, 71] [13] (LoInv gf (nb + 2) c8 H13) rfl (by repeat' first | exact Resp.retD | exact Resp1.valuesK | refine Resp.blockD ?_ | refine Resp.thenD ?_ ?_ | refine Resp.hcode ?_) ?_ ?_
      · exact ⟨nb + 2, LoInv.mk ⟨0, _, rfl, rfl, lfull, mf13, Upd.refl _ _⟩⟩
      rintro m14 vs14 f14 H14 ⟨i, X, rfl, hmi, lX, oX, uX⟩
      (repeat first | refine HReg.step ?_ | refine HCode.step ?_)
      refine hif (fun h => ?_) (fun h => ?_)
      · have h := ltB_true.1 h
        (repeat first | refine HReg.step ?_ | refine HCode.step ?_)
        refine HReq.mk ⟨by omega, by omega⟩ ?_
        (repeat first | refine HReg.step ?_ | refine HCode.step ?_)
        refine store_row oX (v := u8 238) rfl (i := i) (by omega) (by show 0 + i + 0 = i; omega) fun H15 o15 u15 => ?_
        (repeat first | refine HReg.step ?_ | refine HCode.step ?_)
        have hw : wr .i64 ((i : Int) + 1) = ((i + 1 : Nat) : Int) := by rw [wr_i64 (by omega) (by omega)]; omega
        rw [hw]
        refine Exists.intro (m14 - 1) ?_
        refine And.intro (by omega) ?_
        refine LoInv.mk ⟨i + 1, X.set i 238, rfl, by omega, by rw [List.length_set]; exact lX, ?_, uX.trans u15⟩
        have e1 : u8s (X.set i 238) = (u8s X).set i (u8 238) := by unfold u8s; rw [List.map_set]
        rw [e1]; exact o15
      (repeat first | refine HReg.step ?_ | refine HCode.step ?_)
      refine hif (fun _ => ?_) (fun h => absurd rfl (eqB_false.1 h))
      (repeat first | refine HReg.step ?_ | refine HCode.step ?_)
      have sgf : ∀ b ∈ [gf], H1 b = none := fun b hb => by rw [List.mem_singleton.1 hb]; exact ngf1
      have Ny := (Nx.upd0 m13.upd).upd uX (fun hb => mf13.offT (Nx.upd0 m13.upd).obj (by decide) _ rfl hb) (mf13.offT (Nx.upd0 m13.upd).row (by decide)) sgf
      have Ny' := (Nx'.upd0 m13.upd).upd uX (fun hb => mf13.offT (Nx'.upd0 m13.upd).obj (by decide) _ rfl hb) (mf13.offT (Nx'.upd0 m13.upd).row (by decide)) sgf
      have SAy := all_fresh (all_upd SAx m13.upd) uX (fun v hv b hb hb' => dA v hv b hb (List.mem_singleton.1 hb'))
      have SBy := all_fresh (all_upd SBx m13.upd) uX (fun v hv b hb hb' => dB v hv b hb (List.mem_singleton.1 hb'))
      have uy : Upd S H H14 := upd_join (upd_join ux m13.upd (by simp)) uX fun b hb => .inr (by rw [List.mem_singleton.1 hb]; exact ngf)
      rw [show eqB 0 0 = true from eqB_true.2 rfl]
      exact hK H14 _ (PairAt.mk ⟨_, _, _, _, _, _, _, _, _, Ny, Ny', SAy, SBy, FSx, rfl, hP, hC, by omega, by omega, by omega, hllx⟩) uy hSx
    · (repeat first | refine HReg.step ?_ | refine HCode.step ?_)
      refine HLoad.one (v := .int .i64 A) (by exact o58.rows.get (i := 2) rfl) ?_
      (repeat first | refine HReg.step ?_ | refine HCode.step ?_)
      refine HLoad.one (v := .int .i64 B) (by exact o58.rows.get (i := 3) rfl) ?_
      (repeat first | refine HReg.step ?_ | refine HCode.step ?_)
      refine HLoad.one (v := .slice ab nb cb) (by exact o58.rows.get (i := 4) rfl) ?_
      (repeat first | refine HReg.step ?_ | refine HCode.step ?_)
      refine HCall.mk ⟨Try.f29, Try.func29, by rfl, by rfl⟩ ?_
      refine rsend_t N8' hP hC ⟨hL0, by omega⟩ (by omega) hfs' (hy.upd N8.base (.inr (Off.nil _))) hoffy hn (by omega) (fun h _ _ => absurd h hc) (fun _ => ?_)
      have Nx := N8
      have Nx' := N8'
      have SAx := SA8
      have SBx := SB8
      have o5x := o58
      have mfx := m8.own
      have FSx := FS
      have dA := dA0
      have dB := dB0
      have hllx := hll
      have ux : Upd S H H8 := u08.mono (by simp)
      have hSx : ∀ b ∈ nblk g a ++ nblk g' a', b ∈ S ∨ H b = none := fun b hb => .inl (by rw [hS]; exact hb)
      (repeat first | refine HReg.step ?_ | refine HCode.step ?_)
      refine HLoad.one (v := .slice ab nb cb) (by exact o5x.rows.get (i := 4) rfl) ?_
      (repeat first | refine HReg.step ?_ | refine HCode.step ?_)
      refine HCall.mk ⟨Try.f10, Try.func10, by rfl, by rfl⟩ ?_
      refine own_t (hy.upd (Nx.base) (.inr (Off.nil _))) hn (by omega) fun a11 c11 H11 m11 => ?_
      (repeat first | refine HReg.step ?_ | refine HCode.step ?_)
      refine HReq.mk (by decide) ?_
      (repeat first | refine HReg.step ?_ | refine HCode.step ?_)
      refine HNew.mk fun b12 hb12 => ?_
      (repeat first | refine HReg.step ?_ | refine HCode.step ?_)
      have u12 : Upd [] H11 (H11.upd b12 (.cells [Value.int .u8 165, Value.int .u8 166].toArray 5)) := Upd.new hb12 _
      refine append_made (ys := [165, 166]) (m11.step u12) (row_lit (upd_same _ _ _) rfl) rfl (by omega) fun a13 c13 H13 m13 => ?_
      have mf13 := mfx.upd m13.upd (Off.nil _)
      (repeat first | refine HReg.step ?_ | refine HCode.step ?_)
      refine HCall.mk ⟨Try.f16, Try.func16, by rfl, by rfl⟩ ?_
      refine same_eq (x := ys ++ [165, 166]) (y := ys ++ [165, 166]) mf13.rows lfull m13.own.rows lfull rfl ?_
      (repeat first | refine HReg.step ?_ | refine HCode.step ?_)
      refine hloopC [13, 63, 64, 65, 66, 67, 68, 69, 70, 71] [13] (LoInv gf (nb + 2) c8 H13) rfl (by repeat' first | exact Resp.retD | exact Resp1.valuesK | refine Resp.blockD ?_ | refine Resp.thenD ?_ ?_ | refine Resp.hcode ?_) ?_ ?_
      · exact ⟨nb + 2, LoInv.mk ⟨0, _, rfl, rfl, lfull, mf13, Upd.refl _ _⟩⟩
      rintro m14 vs14 f14 H14 ⟨i, X, rfl, hmi, lX, oX, uX⟩
      (repeat first | refine HReg.step ?_ | refine HCode.step ?_)
      refine hif (fun h => ?_) (fun h => ?_)
      · have h := ltB_true.1 h
        (repeat first | refine HReg.step ?_ | refine HCode.step ?_)
        refine HReq.mk ⟨by omega, by omega⟩ ?_
        (repeat first | refine HReg.step ?_ | refine HCode.step ?_)
        refine store_row oX (v := u8 238) rfl (i := i) (by omega) (by show 0 + i + 0 = i; omega) fun H15 o15 u15 => ?_
        (repeat first | refine HReg.step ?_ | refine HCode.step ?_)
        have hw : wr .i64 ((i : Int) + 1) = ((i + 1 : Nat) : Int) := by rw [wr_i64 (by omega) (by omega)]; omega
        rw [hw]
        refine Exists.intro (m14 - 1) ?_
        refine And.intro (by omega) ?_
        refine LoInv.mk ⟨i + 1, X.set i 238, rfl, by omega, by rw [List.length_set]; exact lX, ?_, uX.trans u15⟩
        have e1 : u8s (X.set i 238) = (u8s X).set i (u8 238) := by unfold u8s; rw [List.map_set]
        rw [e1]; exact o15
      (repeat first | refine HReg.step ?_ | refine HCode.step ?_)
      refine hif (fun _ => ?_) (fun h => absurd rfl (eqB_false.1 h))
      (repeat first | refine HReg.step ?_ | refine HCode.step ?_)
      have sgf : ∀ b ∈ [gf], H1 b = none := fun b hb => by rw [List.mem_singleton.1 hb]; exact ngf1
      have Ny := (Nx.upd0 m13.upd).upd uX (fun hb => mf13.offT (Nx.upd0 m13.upd).obj (by decide) _ rfl hb) (mf13.offT (Nx.upd0 m13.upd).row (by decide)) sgf
      have Ny' := (Nx'.upd0 m13.upd).upd uX (fun hb => mf13.offT (Nx'.upd0 m13.upd).obj (by decide) _ rfl hb) (mf13.offT (Nx'.upd0 m13.upd).row (by decide)) sgf
      have SAy := all_fresh (all_upd SAx m13.upd) uX (fun v hv b hb hb' => dA v hv b hb (List.mem_singleton.1 hb'))
      have SBy := all_fresh (all_upd SBx m13.upd) uX (fun v hv b hb hb' => dB v hv b hb (List.mem_singleton.1 hb'))
      have uy : Upd S H H14 := upd_join (upd_join ux m13.upd (by simp)) uX fun b hb => .inr (by rw [List.mem_singleton.1 hb]; exact ngf)
      rw [show eqB 210 210 = true from eqB_true.2 rfl]
      exact hK H14 _ (PairAt.mk ⟨_, _, _, _, _, _, _, _, _, Ny, Ny', SAy, SBy, FSx, rfl, hP, hC, by omega, by omega, by omega, hllx⟩) uy hSx
  (repeat first | refine HReg.step ?_ | refine HCode.step ?_)
  refine hif (fun e2 => ?_) (fun e2 => ?_)
  · (repeat first | refine HReg.step ?_ | refine HCode.step ?_)
    refine HLoad.one (v := .int .i64 A) (by exact o5.rows.get (i := 2) rfl) ?_
    (repeat first | refine HReg.step ?_ | refine HCode.step ?_)
    refine HCall.mk ⟨Try.f12, Try.func12, by rfl, by rfl⟩ ?_
    refine deliver_t N5 hfs (by omega) (fun i f H6 hi hf N6 u6 => ?_) (fun hno H6 u6 => ?_)
    · have N6' := net_other N5' N5 u6 (by decide) (by decide) (by decide) (by decide)
      have SA6 := all_net SA5 N5 (by decide) (by decide) u6
      have SB6 := all_net SB5 N5 (by decide) (by decide) u6
      have o56 := o5.upd u6 (net_off N5 o5 (by decide) (by decide))
      have hsl := hfs f (List.mem_of_getElem? hf)
      have hi1 := (List.getElem?_eq_some_iff.1 hf).1
      (repeat first | refine HReg.step ?_ | refine HCode.step ?_)
      refine HNew.mk fun b7 hb7 => ?_
      have o7 : OwnRow (H6.upd b7 (.cells zfr.toArray 33)) 33 1 (some ⟨b7, 0, none⟩) 4 4 zfr := OwnRow.lit (upd_same _ _ _) rfl
      (repeat first | refine HReg.step ?_ | refine HCode.step ?_)
      refine storeN_own (i := 0) (fcells f) o7 rfl (plain_fcells hsl) fun H8 p7 u8' => ?_
      have q7 : OwnRow H8 33 1 (some ⟨b7, 0, none⟩) 4 4 (fcells f) := p7
      have u68 : Upd [] H6 H8 := Upd.drop (Upd.new hb7 _) u8' fun z hz => by rw [List.mem_singleton.1 hz]; exact hb7
      have N8 := N6.upd0 u68
      have N8' := N6'.upd0 u68
      have o58 := o56.upd u68 (Off.nil _)
      (repeat first | refine HReg.step ?_ | refine HCode.step ?_)
      refine HLoad.one (v := .int .i64 A) (by exact o58.rows.get (i := 2) rfl) ?_
      (repeat first | refine HReg.step ?_ | refine HCode.step ?_)
      refine HCall.mk ⟨Try.f30, Try.func30, by rfl, by rfl⟩ ?_
      refine rdeliver_t N8' hfs' (by omega) (fun i' f' a9 c9 H9 hi' hf' N9' u9 f9 => ?_) (fun h => absurd ⟨by omega, by omega⟩ h)
      have hii : i' = i := by omega
      subst hii
      have hsl' := hfs' f' (List.mem_of_getElem? hf')
      have N9 := net_other N8 N8' u9 (by decide) (by decide) (by decide) (by decide)
      have SA9 := all_net (all_upd SA6 u68) N8' (by decide) (by decide) u9
      have SB9 := all_net (all_upd SB6 u68) N8' (by decide) (by decide) u9
      have q79 := q7.upd u9 (net_off N8' q7 (by decide) (by decide))
      (repeat first | refine HReg.step ?_ | refine HCode.step ?_)
      refine HNew.mk fun b10 hb10 => ?_
      have o10 : OwnRow (H9.upd b10 (.cells zfr.toArray 67)) 67 1 (some ⟨b10, 0, none⟩) 4 4 zfr := OwnRow.lit (upd_same _ _ _) rfl
      (repeat first | refine HReg.step ?_ | refine HCode.step ?_)
      refine storeN_own (i := 0) (fcells f') o10 rfl (plain_fcells hsl') fun H11 p10 u11 => ?_
      have q10 : OwnRow H11 67 1 (some ⟨b10, 0, none⟩) 4 4 (fcells f') := p10
      have u911 : Upd [] H9 H11 := Upd.drop (Upd.new hb10 _) u11 fun z hz => by rw [List.mem_singleton.1 hz]; exact hb10
      have q711 := q79.upd u911 (Off.nil _)
      (repeat first | refine HReg.step ?_ | refine HCode.step ?_)
      refine HLoadN.mk ⟨fcells f, fun Hx hx j v hv => ?_, rfl, ?_⟩
      · rw [List.mem_singleton.1 hx]
        exact q711.rows.get hv
      (repeat first | refine HReg.step ?_ | refine HCode.step ?_)
      refine HLoadN.mk ⟨fcells f', fun Hx hx j v hv => ?_, rfl, ?_⟩
      · rw [List.mem_singleton.1 hx]
        exact q10.rows.get hv
      (repeat first | refine HReg.step ?_ | refine HCode.step ?_)
      have hll' := SA.length
      rw [List.length_map] at hll'
      obtain ⟨l, hl⟩ : ∃ l, ls[i']? = some l := ⟨ls[i']'(by omega), by simp⟩
      have s1 : Sle 5 H9 f.v l := All2.geti SA9 (by rw [List.getElem?_map, hf]; rfl) hl
      have s2 : Sle 5 H9 f'.v l := All2.geti SB9 (by rw [List.getElem?_map, hf']; rfl) hl
      refine HCall.mk ⟨Try.f31, Try.func31, by rfl, by rfl⟩ ?_
      refine sameF_t (All2.geti FS hf hf') (s1.upd u911 (by simp)) (s2.upd u911 (by simp)) fun H12 u12 => ?_
      (repeat first | refine HReg.step ?_ | refine HCode.step ?_)
      rw [show eqB 0 0 = true from eqB_true.2 rfl]
      have u912 := u911.trans u12
      refine hK H12 (nblk g a ++ nblk g' a9) (PairAt.mk ⟨L, a, n - 1, cap, fs.eraseIdx i', a9, c9, fs'.eraseIdx i', ls.eraseIdx i', N9.upd0 u912, N9'.upd0 u912, all_upd (sle_erase SA9 i') u912, all_upd (sle_erase SB9 i') u912, frSame_erase FS i', rfl, hP, hC, hL0, by omega, by omega, fun l hl => hll l (List.mem_of_mem_eraseIdx hl)⟩) ?_ fun b hb => ?_
      · rw [hS]
        exact upd_join (upd_join (upd_join (upd_join (u5.mono (by simp)) u6 fun b hb => .inl (List.mem_append_left _ hb)) u68 (by simp)) u9 fun b hb => .inl (List.mem_append_right _ hb)) u912 (by simp)
      · rw [hS]
        rcases List.mem_append.1 hb with h | h
        · exact .inl (List.mem_append_left _ h)
        · rcases List.mem_cons.1 h with rfl | h
          · exact .inl (List.mem_append_right _ (mem_nblk_g _ _))
          · obtain ⟨p, hp, rfl⟩ := blk_of h
            by_cases hm : p.block ∈ nblk g a
            · exact .inl (List.mem_append_left _ hm)
            · exact .inr (Upd.none (S := []) u5 (by simp) (Upd.none u6 hm (Upd.none (S := []) u68 (by simp) (f9 p hp))))
    · (repeat first | refine HReg.step ?_ | refine HCode.step ?_)
      refine HNew.mk fun b7 hb7 => ?_
      have o7 : OwnRow (H6.upd b7 (.cells zfr.toArray 33)) 33 1 (some ⟨b7, 0, none⟩) 4 4 zfr := OwnRow.lit (upd_same _ _ _) rfl
      (repeat first | refine HReg.step ?_ | refine HCode.step ?_)
      refine storeN_own (i := 0) zfr o7 rfl plain_zfr fun H8 p7 u8' => ?_
      have q7 : OwnRow H8 33 1 (some ⟨b7, 0, none⟩) 4 4 zfr := p7
      have u68 : Upd [] H6 H8 := Upd.drop (Upd.new hb7 _) u8' fun z hz => by rw [List.mem_singleton.1 hz]; exact hb7
      have u08 : Upd [] H H8 := u5.trans (u6.trans u68)
      have o58 := o5.upd (u6.trans u68) (Off.nil _)
      (repeat first | refine HReg.step ?_ | refine HCode.step ?_)
      refine HLoad.one (v := .int .i64 A) (by exact o58.rows.get (i := 2) rfl) ?_
      (repeat first | refine HReg.step ?_ | refine HCode.step ?_)
      refine HCall.mk ⟨Try.f30, Try.func30, by rfl, by rfl⟩ ?_
      refine rdeliver_t (N'.upd0 u08) hfs' (by omega) (fun i' f' a9 c9 H9 hi' hf' N9' u9 f9 => absurd ⟨by omega, by have := (List.getElem?_eq_some_iff.1 hf').1; omega⟩ hno) (fun _ H9 u9 => ?_)
      have q79 := q7.upd u9 (Off.nil _)
      (repeat first | refine HReg.step ?_ | refine HCode.step ?_)
      refine HNew.mk fun b10 hb10 => ?_
      have o10 : OwnRow (H9.upd b10 (.cells zfr.toArray 67)) 67 1 (some ⟨b10, 0, none⟩) 4 4 zfr := OwnRow.lit (upd_same _ _ _) rfl
      (repeat first | refine HReg.step ?_ | refine HCode.step ?_)
      refine storeN_own (i := 0) zfr o10 rfl plain_zfr fun H11 p10 u11 => ?_
      have q10 : OwnRow H11 67 1 (some ⟨b10, 0, none⟩) 4 4 zfr := p10
      have u911 : Upd [] H9 H11 := Upd.drop (Upd.new hb10 _) u11 fun z hz => by rw [List.mem_singleton.1 hz]; exact hb10
      have q711 := q79.upd u911 (Off.nil _)
      (repeat first | refine HReg.step ?_ | refine HCode.step ?_)
      refine HLoadN.mk ⟨zfr, fun Hx hx j v hv => ?_, rfl, ?_⟩
      · rw [List.mem_singleton.1 hx]
        exact q711.rows.get hv
      (repeat first | refine HReg.step ?_ | refine HCode.step ?_)
      refine HLoadN.mk ⟨zfr, fun Hx hx j v hv => ?_, rfl, ?_⟩
      · rw [List.mem_singleton.1 hx]
        exact q10.rows.get hv
      (repeat first | refine HReg.step ?_ | refine HCode.step ?_)
      refine HCall.mk ⟨Try.f31, Try.func31, by rfl, by rfl⟩ ?_
      refine sameF_t (f := ⟨0, 0, 0, .slice none 0 0⟩) (f' := ⟨0, 0, 0, .slice none 0 0⟩) (l := []) ⟨rfl, rfl, rfl⟩ ⟨none, 0, rfl, OwnRow.nil _ _ _⟩ ⟨none, 0, rfl, OwnRow.nil _ _ _⟩ fun H12 u12 => ?_
      (repeat first | refine HReg.step ?_ | refine HCode.step ?_)
      rw [show eqB 210 210 = true from eqB_true.2 rfl]
      have u012 := u08.trans (u9.trans (u911.trans u12))
      exact hK H12 S (PairAt.mk ⟨L, a, n, cap, fs, a', cap', fs', ls, N.upd0 u012, N'.upd0 u012, all_upd SA u012, all_upd SB u012, FS, hS, hP, hC, hL0, by omega, by omega, hll⟩) (u012.mono (by simp)) fun b hb => .inl hb
  (repeat first | refine HReg.step ?_ | refine HCode.step ?_)
  refine hif (fun e3 => ?_) (fun e3 => ?_)
  · (repeat first | refine HReg.step ?_ | refine HCode.step ?_)
    refine HLoad.one (v := .int .i64 A) (by exact o5.rows.get (i := 2) rfl) ?_
    (repeat first | refine HReg.step ?_ | refine HCode.step ?_)
    refine HCall.mk ⟨Try.f13, Try.func13, by rfl, by rfl⟩ ?_
    refine lose_t N5 hfs (by omega) (fun i f H6 hi hf N6 u6 => ?_) (fun hno H6 u6 => ?_)
    · have N6' := net_other N5' N5 u6 (by decide) (by decide) (by decide) (by decide)
      have SA6 := all_net SA5 N5 (by decide) (by decide) u6
      have SB6 := all_net SB5 N5 (by decide) (by decide) u6
      have o56 := o5.upd u6 (net_off N5 o5 (by decide) (by decide))
      have hi1 := (List.getElem?_eq_some_iff.1 hf).1
      (repeat first | refine HReg.step ?_ | refine HCode.step ?_)
      refine HLoad_two (v := .int .i64 A) (by exact o56.rows.get (i := 2) rfl) (by exact o5.rows.get (i := 2) rfl) ?_
      (repeat first | refine HReg.step ?_ | refine HCode.step ?_)
      refine HCall.mk ⟨Try.f32, Try.func32, by rfl, by rfl⟩ ?_
      refine rlose_t N6' hfs' (by omega) (fun i' f' a9 c9 H9 hi' hf' N9' u9 f9 => ?_) (fun h => absurd ⟨by omega, by omega⟩ h)
      have hii : i' = i := by omega
      subst hii
      have N9 := net_other N6 N6' u9 (by decide) (by decide) (by decide) (by decide)
      have SA9 := all_net SA6 N6' (by decide) (by decide) u9
      have SB9 := all_net SB6 N6' (by decide) (by decide) u9
      (repeat first | refine HReg.step ?_ | refine HCode.step ?_)
      rw [show eqB 0 0 = true from eqB_true.2 rfl]
      refine hK H9 (nblk g a ++ nblk g' a9) (PairAt.mk ⟨L, a, n - 1, cap, fs.eraseIdx i', a9, c9, fs'.eraseIdx i', ls.eraseIdx i', N9, N9', sle_erase SA9 i', sle_erase SB9 i', frSame_erase FS i', rfl, hP, hC, hL0, by omega, by omega, fun l hl => hll l (List.mem_of_mem_eraseIdx hl)⟩) ?_ fun b hb => ?_
      · rw [hS]
        exact upd_join (upd_join (u5.mono (by simp)) u6 fun b hb => .inl (List.mem_append_left _ hb)) u9 fun b hb => .inl (List.mem_append_right _ hb)
      · rw [hS]
        rcases List.mem_append.1 hb with h | h
        · exact .inl (List.mem_append_left _ h)
        · rcases List.mem_cons.1 h with rfl | h
          · exact .inl (List.mem_append_right _ (mem_nblk_g _ _))
          · obtain ⟨p, hp, rfl⟩ := blk_of h
            by_cases hm : p.block ∈ nblk g a
            · exact .inl (List.mem_append_left _ hm)
            · exact .inr (Upd.none (S := []) u5 (by simp) (Upd.none u6 hm (f9 p hp)))
    · have o56 := o5.upd u6 (Off.nil _)
      (repeat first | refine HReg.step ?_ | refine HCode.step ?_)
      refine HLoad_two (v := .int .i64 A) (by exact o56.rows.get (i := 2) rfl) (by exact o5.rows.get (i := 2) rfl) ?_
      (repeat first | refine HReg.step ?_ | refine HCode.step ?_)
      refine HCall.mk ⟨Try.f32, Try.func32, by rfl, by rfl⟩ ?_
      refine rlose_t (N5'.upd0 u6) hfs' (by omega) (fun i' f' a9 c9 H9 hi' hf' N9' u9 f9 => absurd ⟨by omega, by have := (List.getElem?_eq_some_iff.1 hf').1; omega⟩ hno) (fun _ H9 u9 => ?_)
      (repeat first | refine HReg.step ?_ | refine HCode.step ?_)
      rw [show eqB 210 210 = true from eqB_true.2 rfl]
      have u012 : Upd [] H H9 := u5.trans (u6.trans u9)
      exact hK H9 S (PairAt.mk ⟨L, a, n, cap, fs, a', cap', fs', ls, N.upd0 u012, N'.upd0 u012, all_upd SA u012, all_upd SB u012, FS, hS, hP, hC, hL0, by omega, by omega, hll⟩) (u012.mono (by simp)) fun b hb => .inl hb
  (repeat first | refine HReg.step ?_ | refine HCode.step ?_)
  refine hif (fun e4 => ?_) (fun e4 => ?_)
  · (repeat first | refine HReg.step ?_ | refine HCode.step ?_)
    refine HLoad.one (v := .int .i64 A) (by exact o5.rows.get (i := 2) rfl) ?_
    (repeat first | refine HReg.step ?_ | refine HCode.step ?_)
    refine HCall.mk ⟨Try.f14, Try.func14, by rfl, by rfl⟩ ?_
    refine twin_t (ls := ls) N5 SA5 hlim' ⟨hL0, by omega⟩ (by omega) (fun i f l H6 hi hf hl l6 => ?_) (fun hno => ?_)
    · obtain ⟨v6, a6, cap6, N6, s6, w6, u6, f6⟩ := l6
      have N6' := net_other N5' N5 u6 (by decide) (by decide) (by decide) (by decide)
      have SA6 := all_net SA5 N5 (by decide) (by decide) u6
      have SB6 := all_net SB5 N5 (by decide) (by decide) u6
      have o56 := o5.upd u6 (net_off N5 o5 (by decide) (by decide))
      have hi1 := (List.getElem?_eq_some_iff.1 hf).1
      (repeat first | refine HReg.step ?_ | refine HCode.step ?_)
      refine HLoad.one (v := .int .i64 A) (by exact o56.rows.get (i := 2) rfl) ?_
      (repeat first | refine HReg.step ?_ | refine HCode.step ?_)
      refine HCall.mk ⟨Try.f33, Try.func33, by rfl, by rfl⟩ ?_
      refine rtwin_t (ls := ls) N6' SB6 hlim' ⟨hL0, by omega⟩ (by omega) (fun i' f' l' H9 hi' hf' hl' l9 => ?_) (fun h => absurd ⟨by omega, by omega⟩ h)
      obtain ⟨v9, a9, c9, N9', s9, w9, u9, f9⟩ := l9
      have hii : i' = i := by omega
      subst hii
      rw [hl] at hl'; cases hl'
      have hff := All2.geti FS hf hf'
      have N9 := net_other N6 N6' u9 (by decide) (by decide) (by decide) (by decide)
      have SA9 : All2 (Sle 5 H9) ((fs ++ [(⟨L + 1, f.frm, f.to, v6⟩ : Fr)]).map Fr.v) (ls ++ [l]) := by
        rw [List.map_append]
        exact (all_net SA6 N6' (by decide) (by decide) u9).append ⟨sle_net s6 N6' (by decide) (by decide) u9, trivial⟩
      have SB9 : All2 (Sle 5 H9) ((fs' ++ [(⟨L + 1, f'.frm, f'.to, v9⟩ : Fr)]).map Fr.v) (ls ++ [l]) := by
        rw [List.map_append]
        exact (all_net SB6 N6' (by decide) (by decide) u9).append ⟨s9, trivial⟩
      (repeat first | refine HReg.step ?_ | refine HCode.step ?_)
      refine hif (fun _ => ?_) (fun h => absurd rfl (eqB_false.1 h))
      (repeat first | refine HReg.step ?_ | refine HCode.step ?_)
      rw [show eqB 0 0 = true from eqB_true.2 rfl]
      refine hK H9 (nblk g a6 ++ nblk g' a9) (PairAt.mk ⟨L + 1, a6, n + 1, cap6, _, a9, c9, _, _, N9, N9', SA9, SB9, FS.append ⟨⟨rfl, hff.2.1, hff.2.2⟩, trivial⟩, rfl, hP, hC, by omega, by omega, by omega, fun l' hl' => ?_⟩) ?_ fun b hb => ?_
      · rcases List.mem_append.1 hl' with h | h
        · exact hll l' h
        · rw [List.mem_singleton.1 h]; exact hll l (List.mem_of_getElem? hl)
      · rw [hS]
        exact upd_join (upd_join (u5.mono (by simp)) u6 fun b hb => .inl (List.mem_append_left _ hb)) u9 fun b hb => .inl (List.mem_append_right _ hb)
      · rw [hS]
        rcases List.mem_append.1 hb with h | h
        · rcases List.mem_cons.1 h with rfl | h
          · exact .inl (List.mem_append_left _ (mem_nblk_g _ _))
          · obtain ⟨p, hp, rfl⟩ := blk_of h
            rcases f6 p hp with h | h
            · exact .inl (List.mem_append_left _ (blk_nblk _ _ _ (by rw [h]; simp [blk])))
            · exact .inr (Upd.none (S := []) u5 (by simp) h)
        · rcases List.mem_cons.1 h with rfl | h
          · exact .inl (List.mem_append_right _ (mem_nblk_g _ _))
          · obtain ⟨p, hp, rfl⟩ := blk_of h
            rcases f9 p hp with h | h
            · exact .inl (List.mem_append_right _ (blk_nblk _ _ _ (by rw [h]; simp [blk])))
            · by_cases hm : p.block ∈ nblk g a
              · exact .inl (List.mem_append_left _ hm)
              · exact .inr (Upd.none (S := []) u5 (by simp) (Upd.none u6 hm h))
    · (repeat first | refine HReg.step ?_ | refine HCode.step ?_)
      refine HLoad.one (v := .int .i64 A) (by exact o5.rows.get (i := 2) rfl) ?_
      (repeat first | refine HReg.step ?_ | refine HCode.step ?_)
      refine HCall.mk ⟨Try.f33, Try.func33, by rfl, by rfl⟩ ?_
      refine rtwin_t (ls := ls) N5' SB5 hlim' ⟨hL0, by omega⟩ (by omega) (fun i' f' l' H9 hi' hf' hl' l9 => absurd ⟨by omega, by have := (List.getElem?_eq_some_iff.1 hf').1; omega⟩ hno) (fun _ => ?_)
      (repeat first | refine HReg.step ?_ | refine HCode.step ?_)
      refine hif (fun _ => ?_) (fun h => absurd rfl (eqB_false.1 h))
      (repeat first | refine HReg.step ?_ | refine HCode.step ?_)
      rw [show eqB 210 210 = true from eqB_true.2 rfl]
      exact hK _ S (PairAt.mk ⟨L, a, n, cap, fs, a', cap', fs', ls, N5, N5', SA5, SB5, FS, hS, hP, hC, hL0, by omega, by omega, hll⟩) (u5.mono (by simp)) fun b hb => .inl hb
  (repeat first | refine HReg.step ?_ | refine HCode.step ?_)
  exact hK _ S (PairAt.mk ⟨L, a, n, cap, fs, a', cap', fs', ls, N5, N5', SA5, SB5, FS, hS, hP, hC, hL0, by omega, by omega, hll⟩) (u5.mono (by simp)) fun b hb => .inl hb
end Go.Proofs.Ytefmplilhbbiaaa
