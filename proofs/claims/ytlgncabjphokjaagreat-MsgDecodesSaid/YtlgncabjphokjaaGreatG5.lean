import Derived.Test.YtlgncabjphokjaaGreatG4
namespace Go.Proofs.YtlgncabjphokjaaGreat
open Go Hv
set_option linter.unusedVariables false
set_option linter.unusedSimpArgs false
set_option maxRecDepth 10000
set_option maxHeartbeats 1000000
/-! Messages are laid; frames. CUT2 -/
theorem WAt.lim {H0 H : Heap} {g : Nat} {S : List Nat} {w : W} (d : WAt H0 H g S w) : w.out.length ≤ w.lim := d.ok.le
theorem WAt.back {H0 H1 H : Heap} {g : Nat} {S : List Nat} {w : W} (d : WAt H1 H g S w) (u : Upd [] H0 H1) : WAt H0 H g S w := ⟨d.ok, u.trans d.base, fun b hb => Upd.none (S := []) u (by simp) (d.new b hb), d.ex⟩
/-- A block that is there, and is none of the writer's, is held. -/
theorem WAt.hold {H0 H : Heap} {g b : Nat} {S : List Nat} {w : W} {o : Obj} (d : WAt H0 H g S w) (hb : H b = some o) (hS : b ∉ S) : WAt (H0.upd b o) H g S w := by
  refine ⟨d.ok, fun k hk hn => ?_, fun k hk => ?_, d.ex⟩
  · unfold Heap.upd at hn ⊢
    by_cases e : k = b
    · subst e; rw [if_pos rfl]; exact hb
    · rw [if_neg e] at hn ⊢; exact d.base k hk hn
  · unfold Heap.upd
    rw [if_neg (fun e => hS (by rw [← e]; exact hk))]
    exact d.new k hk
section
variable {H0 H : Heap} {g : Nat} {S : List Nat} {w : W} {K : Value → Heap → Prop}
theorem len_bytes (n : Nat) : [Value.int .u8 (wr .u8 (shrS .i64 (n : Int) 24)), .int .u8 (wr .u8 (shrS .i64 (n : Int) 16)), .int .u8 (wr .u8 (shrS .i64 (n : Int) 8)), .int .u8 (wr .u8 (n : Int))] = u8s (num n 4) := by
  have sh : ∀ k : Nat, k ≤ 63 → Value.int .u8 (wr .u8 (shrS .i64 (n : Int) (k : Int))) = u8 (UInt8.ofNat (n / 2 ^ k)) := fun k hk => by
    unfold u8
    congr 1
    have e8 : min k IntKind.i64.bits = k := Nat.min_eq_left (by show k ≤ 64; omega)
    have e2 : Int.fdiv (n : Int) (2 ^ k) = ((n / 2 ^ k : Nat) : Int) := by
      rw [show ((2 : Int) ^ k) = ((2 ^ k : Nat) : Int) by simp, Int.fdiv_eq_ediv_of_nonneg _ (by exact Int.natCast_nonneg _)]
      simp
    rw [shrS_eq, Int.toNat_natCast, e8, e2, wr_u8, UInt8.toNat_ofNat']
    omega
  have h1 := sh 24 (by decide)
  have h2 := sh 16 (by decide)
  have h3 := sh 8 (by decide)
  have s0 : Value.int .u8 (wr .u8 (n : Int)) = u8 (UInt8.ofNat n) := by
    unfold u8
    congr 1
    rw [wr_u8, UInt8.toNat_ofNat']
    omega
  simp only [Int.cast_ofNat_Int] at h1 h2 h3
  rw [h1, h2, h3, s0]
  show _ = [u8 (UInt8.ofNat (n / 256 ^ 3)), u8 (UInt8.ofNat (n / 256 ^ 2)), u8 (UInt8.ofNat (n / 256 ^ 1)), u8 (UInt8.ofNat (n / 256 ^ 0))]
  have q1 : (2 : Nat) ^ 24 = 256 ^ 3 := by decide
  have q2 : (2 : Nat) ^ 16 = 256 ^ 2 := by decide
  have q3 : (2 : Nat) ^ 8 = 256 ^ 1 := by decide
  rw [q1, q2, q3, Nat.pow_zero, Nat.div_one]
theorem build_t {a : Option Addr} {n c : Nat} {p : List UInt8} (hr : RowAt H a (u8s p)) (hl : p.length = n) (hlim : n ≤ 1048576)
    (hk : ∀ a' c' H', Made H H' 5 1 a' (4 + n) c' (u8s (frameM p)) → K (.tuple #[.slice a' (4 + n) c', .int .i64 0]) H') : HCalls Tryz.prog 35 [.slice a n c] H K := by
  refine hcalls (fn := Tryz.f35) [] mixed Tryz.func35 rfl rfl (by decide +kernel) ?_
  (repeat first | refine HReg.step ?_ | refine HCode.step ?_)
  rw [ltB_false.2 (by omega)]
  (repeat first | refine HReg.step ?_ | refine HCode.step ?_)
  refine HReq.mk (by decide) ?_
  (repeat first | refine HReg.step ?_ | refine HCode.step ?_)
  refine HReq.mk (by decide) ?_
  (repeat first | refine HReg.step ?_ | refine HCode.step ?_)
  refine HReq.mk (by decide) ?_
  (repeat first | refine HReg.step ?_ | refine HCode.step ?_)
  refine HReq.mk (by decide) ?_
  (repeat first | refine HReg.step ?_ | refine HCode.step ?_)
  refine HNew.mk fun b hb => ?_
  have eb := len_bytes n
  rw [eb]
  have m1 : Made H (H.upd b (.cells (u8s (num n 4)).toArray 5)) 5 1 (some ⟨b, 0, none⟩) 4 4 (u8s (num n 4)) := ⟨OwnRow.lit (upd_same _ _ _) (by rw [u8s_length, num_length]), Upd.new hb _, fun p hp => by cases hp; exact hb⟩
  generalize hH1 : H.upd b (.cells (u8s (num n 4)).toArray 5) = H1 at m1
  (repeat first | refine HReg.step ?_ | refine HCode.step ?_)
  refine append_made m1 (hr.upd (S := []) m1.upd (.inr (Off.nil _))) hl (by omega) fun a' c' H' m' => ?_
  have e : num n 4 ++ p = frameM p := by unfold frameM; rw [hl]
  rw [e] at m'
  (repeat first | refine HReg.step ?_ | refine HCode.step ?_)
  exact hk a' c' H' m'
structure LyInv (H0 : Heap) (g : Nat) (w : W) (ps : List (Txt × Txt)) (H1 : Heap) (m : Nat) (vs : List Value) (H' : Heap) : Prop where
  ex : ∃ (i : Nat) (S' : List Nat), vs = [.int .i64 (i : Int)] ∧ m + i = ps.length ∧ WAt H0 H' g S' (layL w (pairPieces (ps.take i)))
structure LwInv (H0 : Heap) (g : Nat) (w : W) (ps : List (Txt × Nat)) (H1 : Heap) (m : Nat) (vs : List Value) (H' : Heap) : Prop where
  ex : ∃ (i : Nat) (S' : List Nat), vs = [.int .i64 (i : Int)] ∧ m + i = ps.length ∧ WAt H0 H' g S' (layL w (wantPieces (ps.take i)))
theorem wpieces_take {ps : List (Txt × Nat)} {i : Nat} {p : Txt × Nat} (hp : ps[i]? = some p) : wantPieces (ps.take (i + 1)) = wantPieces (ps.take i) ++ [textB p.1, num p.2 8] := by
  unfold wantPieces; rw [List.take_add_one, hp, List.flatMap_append]; simp
theorem textsB_small {l : List Txt} (h : l.length ≤ 1024 ∧ ∀ s ∈ l, s.length ≤ 65535) : (textsB l).length ≤ 4 + 1024 * 65539 := by
  have := flat_bound h.2
  unfold textsB
  rw [List.length_append, num_length]
  have : l.length * (4 + 65535) ≤ 1024 * 65539 := Nat.mul_le_mul h.1 (by decide)
  omega
theorem lay_t {x : MsgA} (hx : MsgIn H0 x) (hm : MayM x.m) (d : WAt H0 H g S w) (hw : w.lim = 1048576)
    (hk : ∀ S' H', WAt H0 H' g S' (layL w (pieces x.m)) → K (.tuple #[]) H') : HCalls Tryz.prog 33 [.pointer (some ⟨g, 0, none⟩), x.val] H K := by
  refine hcalls (fn := Tryz.f33) [] mixed Tryz.func33 rfl rfl (by decide +kernel) ?_
  obtain ⟨kn, hkn, hkl⟩ : ∃ kn : Nat, x.kind = (kn : Int) ∧ kn < 256 := by
    have h : 1 ≤ x.kind ∧ x.kind ≤ 8 := hm.kinds
    exact ⟨x.kind.toNat, by omega, by omega⟩
  obtain ⟨cn, hcn, hcl⟩ : ∃ cn : Nat, x.client = (cn : Int) ∧ cn < 256 := by
    have h : 0 ≤ x.client ∧ x.client < 16 ∧ 1 ≤ x.req := hm.1
    exact ⟨x.client.toNat, by omega, by omega⟩
  have wk : wr .u8 x.kind = (kn : Int) := by rw [hkn, wr_u8]; omega
  have wc : wr .u8 x.client = (cn : Int) := by rw [hcn, wr_u8]; omega
  (repeat first | refine HReg.step ?_ | refine HCode.step ?_)
  refine HNew.mk fun b1 hb1 => ?_
  have u1 : Upd [] H (H.upd b1 (.cells x.cells.toArray 30)) := Upd.new hb1 _
  have d1 := (d.upd0 u1).hold (b := b1) (upd_same _ _ _) (fun h => d.live b1 h hb1)
  have n1 : H0 b1 = none := Upd.none (S := []) d.base (by simp) hb1
  have u0 : Upd [] H0 (H0.upd b1 (.cells x.cells.toArray 30)) := Upd.new n1 _
  have o1 : RowAt (H0.upd b1 (.cells x.cells.toArray 30)) (some ⟨b1, 0, none⟩) x.cells := RowAt.of_cells (upd_same _ _ _)
  have hk : ∀ S' H', WAt (H0.upd b1 (.cells x.cells.toArray 30)) H' g S' (layL w (pieces x.m)) → K (.tuple #[]) H' := fun S' H' d' => hk S' H' (d'.back u0)
  have hH' : H.upd b1 (.cells [Value.int .i64 x.kind, .int .i64 x.client, .int .u64 (x.req : Int), .int .u64 (x.id : Int), .slice x.ap x.ps.length x.cp, .slice x.ak x.ks.length x.ck, .slice x.aw x.ws.length x.cw, .slice x.av x.vs.length x.cv].toArray 30) = H.upd b1 (.cells x.cells.toArray 30) := rfl
  rw [hH']
  have hx := hx.upd0 u0
  generalize hB : H0.upd b1 (.cells x.cells.toArray 30) = B at d1 o1 hk hx
  generalize hH1 : H.upd b1 (.cells x.cells.toArray 30) = H1 at d1
  clear hH' u1 u0 d hB hH1 hb1 n1
  have ro : ∀ {H' : Heap} {S' : List Nat} {w' : W}, WAt B H' g S' w' → RowAt H' (some ⟨b1, 0, none⟩) x.cells := fun d => o1.upd (S := []) d.base (.inr (Off.nil _))
  have hwl := d1.lim
  (repeat first | refine HReg.step ?_ | refine HCode.step ?_)
  refine HLoad.one (v := .int .i64 x.kind) (by exact (ro d1).get (i := 0) rfl) ?_
  (repeat first | refine HReg.step ?_ | refine HCode.step ?_)
  rw [wk]
  refine HCall.mk ⟨Tryz.f55, Tryz.func55, by rfl, by rfl⟩ ?_
  refine u8_t d1 hkl (by omega) fun S3 H3 d3 f3 => ?_
  have hm3 : (w.lay (num kn 1)).lim = 1048576 := W.lay_len.2.trans hw
  have hl3 := d3.lim
  (repeat first | refine HReg.step ?_ | refine HCode.step ?_)
  refine HLoad.one (v := .int .i64 x.client) (by exact (ro d3).get (i := 1) rfl) ?_
  (repeat first | refine HReg.step ?_ | refine HCode.step ?_)
  rw [wc]
  refine HCall.mk ⟨Tryz.f55, Tryz.func55, by rfl, by rfl⟩ ?_
  refine u8_t d3 hcl (by omega) fun S4 H4 d4 f4 => ?_
  have hm4 : ((w.lay (num kn 1)).lay (num cn 1)).lim = 1048576 := W.lay_len.2.trans hm3
  have hl4 := d4.lim
  (repeat first | refine HReg.step ?_ | refine HCode.step ?_)
  refine HLoad.one (v := .int .u64 (x.req : Int)) (by exact (ro d4).get (i := 2) rfl) ?_
  (repeat first | refine HReg.step ?_ | refine HCode.step ?_)
  refine HCall.mk ⟨Tryz.f56, Tryz.func56, by rfl, by rfl⟩ ?_
  refine u64_t d4 (by omega) fun S5 H5 d5 f5 => ?_
  have e5 : layL w (pieces x.m) = layL (((w.lay (num kn 1)).lay (num cn 1)).lay (num x.req 8)) (kindPieces x.m) := by
    unfold pieces
    rw [layL_append]
    show layL (((w.lay (num x.kind.toNat 1)).lay (num x.client.toNat 1)).lay (num x.req 8)) _ = _
    rw [hkn, hcn, Int.toNat_natCast, Int.toNat_natCast]
  have hm5 : (((w.lay (num kn 1)).lay (num cn 1)).lay (num x.req 8)).lim = 1048576 := W.lay_len.2.trans hm4
  rw [e5] at hk
  generalize hw5 : ((w.lay (num kn 1)).lay (num cn 1)).lay (num x.req 8) = w5 at d5 hm5 hk
  have hl5 := d5.lim
  (repeat first | refine HReg.step ?_ | refine HCode.step ?_)
  refine HLoad.one (v := .int .i64 x.kind) (by exact (ro d5).get (i := 0) rfl) ?_
  (repeat first | refine HReg.step ?_ | refine HCode.step ?_)
  by_cases h1 : x.kind = 1
  · obtain ⟨hid, ⟨hwh, hpo⟩, _⟩ := (kind1 h1).1 hm.2
    obtain ⟨hfp, hsp⟩ := hpo.few hwh
    rw [kp1 (m := x.m) h1] at hk
    have wn : wr .u32 (x.ps.length : Int) = (x.ps.length : Int) := by rw [wr32 x.ps.length]; omega
    rw [show eqB x.kind 1 = true from eqB_true.2 h1]
    (repeat first | refine HReg.step ?_ | refine HCode.step ?_)
    refine HLoad.one (v := .int .u64 (x.id : Int)) (by exact (ro d5).get (i := 3) rfl) ?_
    (repeat first | refine HReg.step ?_ | refine HCode.step ?_)
    refine HCall.mk ⟨Tryz.f56, Tryz.func56, by rfl, by rfl⟩ ?_
    refine u64_t d5 (by omega) fun S6 H6 d6 f6 => ?_
    have hm6 : (w5.lay (num x.id 8)).lim = 1048576 := W.lay_len.2.trans hm5
    have hl6 := d6.lim
    (repeat first | refine HReg.step ?_ | refine HCode.step ?_)
    refine HLoad.one (v := .slice x.ak x.ks.length x.ck) (by exact (ro d6).get (i := 5) rfl) ?_
    (repeat first | refine HReg.step ?_ | refine HCode.step ?_)
    refine HCall.mk ⟨Tryz.f57, Tryz.func57, by rfl, by rfl⟩ ?_
    refine texts_t d6 hx.rk rfl (by have := textsB_small hwh.few; omega) fun S7 H7 d7 f7 => ?_
    have hm7 : ((w5.lay (num x.id 8)).lay (textsB x.ks)).lim = 1048576 := W.lay_len.2.trans hm6
    have hl7 := d7.lim
    (repeat first | refine HReg.step ?_ | refine HCode.step ?_)
    refine HLoad.one (v := .slice x.ap x.ps.length x.cp) (by exact (ro d7).get (i := 4) rfl) ?_
    (repeat first | refine HReg.step ?_ | refine HCode.step ?_)
    rw [wn]
    refine HCall.mk ⟨Tryz.f58, Tryz.func58, by rfl, by rfl⟩ ?_
    refine u32_t d7 (by omega) (by omega) fun S8 H8 d8 f8 => ?_
    have hm8 : (((w5.lay (num x.id 8)).lay (textsB x.ks)).lay (num x.ps.length 4)).lim = 1048576 := W.lay_len.2.trans hm7
    have e8 : layL w5 ([num x.m.id 8, textsB x.m.ks, num x.m.ps.length 4] ++ pairPieces x.m.ps) = layL (((w5.lay (num x.id 8)).lay (textsB x.ks)).lay (num x.ps.length 4)) (pairPieces x.ps) := by rw [layL_append]; rfl
    rw [e8] at hk
    generalize hw8 : ((w5.lay (num x.id 8)).lay (textsB x.ks)).lay (num x.ps.length 4) = w8 at d8 hm8 hk
    (repeat first | refine HReg.step ?_ | refine HCode.step ?_)
    refine HLoad.one (v := .slice x.ap x.ps.length x.cp) (by exact (ro d8).get (i := 4) rfl) ?_
    (repeat first | refine HReg.step ?_ | refine HCode.step ?_)
    refine hloopC [5, 48, 49, 50, 51, 52, 53, 54, 55, 56, 57, 58, 59, 60] [48] (LyInv B g w8 x.ps H8) rfl (by repeat' first | exact Resp.retD | exact Resp1.valuesK | refine Resp.blockD ?_ | refine Resp.thenD ?_ ?_ | refine Resp.hcode ?_) ?_ ?_
    · exact ⟨x.ps.length, LyInv.mk ⟨0, S8, rfl, rfl, by rw [List.take_zero]; exact d8⟩⟩
    rintro m _ fe H6 ⟨i, S6, rfl, hmi, d6⟩
    (repeat first | refine HReg.step ?_ | refine HCode.step ?_)
    refine hif (fun h2 => ?_) (fun h2 => ?_)
    · have h2 := ltB_true.1 h2
      have w2 : wr .i64 ((i : Int) + 1) = ((i + 1 : Nat) : Int) := by rw [wr_i64 (by omega) (by omega)]; omega
      obtain ⟨p, hp⟩ : ∃ p, x.ps[i]? = some p := ⟨x.ps[i]'(by omega), by simp⟩
      obtain ⟨hs1, hs2⟩ := hsp p (List.mem_of_getElem? hp)
      have hr6 := (hx.upd0 d6.base).rp
      have hm6 : (layL w8 (pairPieces (x.ps.take i))).lim = 1048576 := (layL_lim _ _).trans hm8
      have hpt := pieces_take hp
      generalize hw6 : layL w8 (pairPieces (x.ps.take i)) = w6 at d6 hm6
      have hl6 := d6.lim
      obtain ⟨ba, bo, hap, _⟩ := hx.rp _ _ (pairsV_get hp).1
      rw [hap] at hr6 ⊢
      (repeat first | refine HReg.step ?_ | refine HCode.step ?_)
      refine HReq.mk ⟨by omega, by omega⟩ ?_
      (repeat first | refine HReg.step ?_ | refine HCode.step ?_)
      refine HLoadN_pair hr6 hp ?_
      (repeat first | refine HReg.step ?_ | refine HCode.step ?_)
      refine HNew.mk fun b7 hb7 => ?_
      (repeat first | refine HReg.step ?_ | refine HCode.step ?_)
      refine store_pair (p := p) (OwnRow.lit (upd_same _ _ _) rfl) rfl fun H7 o7 u7 => ?_
      have u67 : Upd [] H6 H7 := Upd.drop (Upd.new hb7 _) u7 (fun x hx => by rw [List.mem_singleton.1 hx]; exact hb7)
      have d7 := d6.upd0 u67
      (repeat first | refine HReg.step ?_ | refine HCode.step ?_)
      refine HLoad.one (v := .string (bs p.1)) (by exact o7.rows.get (i := 0) rfl) ?_
      (repeat first | refine HReg.step ?_ | refine HCode.step ?_)
      refine HCall.mk ⟨Tryz.f59, Tryz.func59, by rfl, by rfl⟩ ?_
      refine text_t d7 (by omega) fun S8 H8 d8 f8 => ?_
      have hl8 := d8.lim
      have hm8 : (w6.lay (textB p.1)).lim = 1048576 := W.lay_len.2.trans hm6
      have b7S : b7 ∉ S6 := fun h => d6.live b7 h hb7
      have o8 : RowAt H8 (some ⟨b7, 0, none⟩) [.string (bs p.1), .string (bs p.2)] := o7.rows.upd f8.upd (.inr fun q hq hqS => by cases hq; exact b7S hqS)
      (repeat first | refine HReg.step ?_ | refine HCode.step ?_)
      refine HLoad.one (v := .string (bs p.2)) (by exact o8.get (i := 1) rfl) ?_
      (repeat first | refine HReg.step ?_ | refine HCode.step ?_)
      refine HCall.mk ⟨Tryz.f59, Tryz.func59, by rfl, by rfl⟩ ?_
      refine text_t d8 (by omega) fun S9 H9 d9 f9 => ?_
      (repeat first | refine HReg.step ?_ | refine HCode.step ?_)
      rw [w2]
      refine ⟨m - 1, by omega, LyInv.mk ⟨i + 1, S9, rfl, by omega, ?_⟩⟩
      rw [hpt, layL_append, hw6]; exact d9
    · have h2 := ltB_false.1 h2
      have hi : i = x.ps.length := by omega
      subst hi
      rw [List.take_length] at d6
      (repeat first | refine HReg.step ?_ | refine HCode.step ?_)
      exact hk S6 H6 d6
  rw [show eqB x.kind 1 = false from eqB_false.2 h1]
  (repeat first | refine HReg.step ?_ | refine HCode.step ?_)
  by_cases h3 : x.kind = 3
  · obtain ⟨hid, hva, _⟩ := (kind3 h3).1 hm.2
    rw [kp3 (m := x.m) h3] at hk
    rw [show eqB x.kind 3 = true from eqB_true.2 h3]
    (repeat first | refine HReg.step ?_ | refine HCode.step ?_)
    refine HLoad.one (v := .slice x.ak x.ks.length x.ck) (by exact (ro d5).get (i := 5) rfl) ?_
    (repeat first | refine HReg.step ?_ | refine HCode.step ?_)
    refine HCall.mk ⟨Tryz.f57, Tryz.func57, by rfl, by rfl⟩ ?_
    refine texts_t d5 hx.rk rfl (by have := textsB_small ⟨hva.1.2.1, hva.1.2.2⟩; omega) fun S7 H7 d7 f7 => ?_
    (repeat first | refine HReg.step ?_ | refine HCode.step ?_)
    exact hk S7 H7 d7
  rw [show eqB x.kind 3 = false from eqB_false.2 h3]
  (repeat first | refine HReg.step ?_ | refine HCode.step ?_)
  by_cases h4 : x.kind = 4
  · obtain ⟨hid, hwa, _⟩ := (kind4 h4).1 hm.2
    obtain ⟨hfw, hsw⟩ := hwa.few
    rw [kp4 (m := x.m) h4] at hk
    have wn : wr .u32 (x.ws.length : Int) = (x.ws.length : Int) := by rw [wr32 x.ws.length]; omega
    rw [show eqB x.kind 4 = true from eqB_true.2 h4]
    (repeat first | refine HReg.step ?_ | refine HCode.step ?_)
    refine HLoad.one (v := .slice x.aw x.ws.length x.cw) (by exact (ro d5).get (i := 6) rfl) ?_
    (repeat first | refine HReg.step ?_ | refine HCode.step ?_)
    rw [wn]
    refine HCall.mk ⟨Tryz.f58, Tryz.func58, by rfl, by rfl⟩ ?_
    refine u32_t d5 (by omega) (by omega) fun S8 H8 d8 f8 => ?_
    have hm8 : (w5.lay (num x.ws.length 4)).lim = 1048576 := W.lay_len.2.trans hm5
    have e8 : layL w5 ([num x.m.ws.length 4] ++ wantPieces x.m.ws) = layL (w5.lay (num x.ws.length 4)) (wantPieces x.ws) := by rw [layL_append]; rfl
    rw [e8] at hk
    generalize hw8 : w5.lay (num x.ws.length 4) = w8 at d8 hm8 hk
    (repeat first | refine HReg.step ?_ | refine HCode.step ?_)
    refine HLoad.one (v := .slice x.aw x.ws.length x.cw) (by exact (ro d8).get (i := 6) rfl) ?_
    (repeat first | refine HReg.step ?_ | refine HCode.step ?_)
    refine hloopC [7, 78, 79, 80, 81, 82, 83, 84, 85, 86, 87, 88, 89, 90] [78] (LwInv B g w8 x.ws H8) rfl (by repeat' first | exact Resp.retD | exact Resp1.valuesK | refine Resp.blockD ?_ | refine Resp.thenD ?_ ?_ | refine Resp.hcode ?_) ?_ ?_
    · exact ⟨x.ws.length, LwInv.mk ⟨0, S8, rfl, rfl, by rw [List.take_zero]; exact d8⟩⟩
    rintro m _ fe H6 ⟨i, S6, rfl, hmi, d6⟩
    (repeat first | refine HReg.step ?_ | refine HCode.step ?_)
    refine hif (fun h2 => ?_) (fun h2 => ?_)
    · have h2 := ltB_true.1 h2
      have w2 : wr .i64 ((i : Int) + 1) = ((i + 1 : Nat) : Int) := by rw [wr_i64 (by omega) (by omega)]; omega
      obtain ⟨p, hp⟩ : ∃ p, x.ws[i]? = some p := ⟨x.ws[i]'(by omega), by simp⟩
      have hs1 := hsw p (List.mem_of_getElem? hp)
      have hr6 := (hx.upd0 d6.base).rw
      have hm6 : (layL w8 (wantPieces (x.ws.take i))).lim = 1048576 := (layL_lim _ _).trans hm8
      have hpt := wpieces_take hp
      generalize hw6 : layL w8 (wantPieces (x.ws.take i)) = w6 at d6 hm6
      have hl6 := d6.lim
      obtain ⟨ba, bo, hap, _⟩ := hx.rw _ _ (wantsV_get hp).1
      rw [hap] at hr6 ⊢
      (repeat first | refine HReg.step ?_ | refine HCode.step ?_)
      refine HReq.mk ⟨by omega, by omega⟩ ?_
      (repeat first | refine HReg.step ?_ | refine HCode.step ?_)
      refine HLoadN_want hr6 hp ?_
      (repeat first | refine HReg.step ?_ | refine HCode.step ?_)
      refine HNew.mk fun b7 hb7 => ?_
      (repeat first | refine HReg.step ?_ | refine HCode.step ?_)
      refine store_want (p := p) (OwnRow.lit (upd_same _ _ _) rfl) rfl fun H7 o7 u7 => ?_
      have u67 : Upd [] H6 H7 := Upd.drop (Upd.new hb7 _) u7 (fun x hx => by rw [List.mem_singleton.1 hx]; exact hb7)
      have d7 := d6.upd0 u67
      (repeat first | refine HReg.step ?_ | refine HCode.step ?_)
      refine HLoad.one (v := .string (bs p.1)) (by exact o7.rows.get (i := 0) rfl) ?_
      (repeat first | refine HReg.step ?_ | refine HCode.step ?_)
      refine HCall.mk ⟨Tryz.f59, Tryz.func59, by rfl, by rfl⟩ ?_
      refine text_t d7 (by omega) fun S8 H8 d8 f8 => ?_
      have hl8 := d8.lim
      have hm8 : (w6.lay (textB p.1)).lim = 1048576 := W.lay_len.2.trans hm6
      have b7S : b7 ∉ S6 := fun h => d6.live b7 h hb7
      have o8 : RowAt H8 (some ⟨b7, 0, none⟩) [.string (bs p.1), .int .u64 (p.2 : Int)] := o7.rows.upd f8.upd (.inr fun q hq hqS => by cases hq; exact b7S hqS)
      (repeat first | refine HReg.step ?_ | refine HCode.step ?_)
      refine HLoad.one (v := .int .u64 (p.2 : Int)) (by exact o8.get (i := 1) rfl) ?_
      (repeat first | refine HReg.step ?_ | refine HCode.step ?_)
      refine HCall.mk ⟨Tryz.f56, Tryz.func56, by rfl, by rfl⟩ ?_
      refine u64_t d8 (by omega) fun S9 H9 d9 f9 => ?_
      (repeat first | refine HReg.step ?_ | refine HCode.step ?_)
      rw [w2]
      refine ⟨m - 1, by omega, LwInv.mk ⟨i + 1, S9, rfl, by omega, ?_⟩⟩
      rw [hpt, layL_append, hw6]; exact d9
    · have h2 := ltB_false.1 h2
      have hi : i = x.ws.length := by omega
      subst hi
      rw [List.take_length] at d6
      (repeat first | refine HReg.step ?_ | refine HCode.step ?_)
      exact hk S6 H6 d6
  rw [show eqB x.kind 4 = false from eqB_false.2 h4]
  (repeat first | refine HReg.step ?_ | refine HCode.step ?_)
  by_cases h7 : x.kind = 7
  · obtain ⟨hid, ⟨v, hvs, hco⟩, _⟩ := (kind7 h7).1 hm.2
    have hv : x.vs[0]? = some v := by rw [hvs]; rfl
    rw [kp7 (m := x.m) h7] at hk
    have ev : versPieces x.m.vs = verPieces v.v := by show versPieces (x.vs.map VerA.v) = _; rw [hvs]; rfl
    rw [ev] at hk
    have hkey : v.v.key.length ≤ 65535 := by
      rcases hco with h | h
      · exact h.2.1
      · exact h.2.2.1.few.2 _ h.2.2.2
    obtain ⟨bv, ov, hav, _⟩ := hx.rv _ _ (versV_get hv 0 _ rfl)
    rw [show eqB x.kind 7 = true from eqB_true.2 h7]
    (repeat first | refine HReg.step ?_ | refine HCode.step ?_)
    refine HLoad.one (v := .slice x.av x.vs.length x.cv) (by exact (ro d5).get (i := 7) rfl) ?_
    have hrv := (hx.upd0 d5.base).rv
    rw [hav] at hrv ⊢
    (repeat first | refine HReg.step ?_ | refine HCode.step ?_)
    refine HReq.mk ⟨by omega, by rw [hvs]; simp⟩ ?_
    (repeat first | refine HReg.step ?_ | refine HCode.step ?_)
    refine HLoadN_ver (i := 0) hrv hv ?_
    (repeat first | refine HReg.step ?_ | refine HCode.step ?_)
    refine HNew.mk fun b7 hb7 => ?_
    (repeat first | refine HReg.step ?_ | refine HCode.step ?_)
    refine store_ver (x := v) (OwnRow.lit (upd_same _ _ _) rfl) rfl fun H7 o7 u7 => ?_
    have u67 : Upd [] H5 H7 := Upd.drop (Upd.new hb7 _) u7 (fun x hx => by rw [List.mem_singleton.1 hx]; exact hb7)
    obtain ⟨cc, zz, hob⟩ := own_cells o7
    have d7 := (d5.upd0 u67).hold (b := b7) hob (fun h => d5.live b7 h hb7)
    have n7 : B b7 = none := Upd.none (S := []) d5.base (by simp) hb7
    have u0 : Upd [] B (B.upd b7 (.cells cc 56 zz)) := Upd.new n7 _
    have o7' : RowAt (B.upd b7 (.cells cc 56 zz)) (some ⟨b7, 0, none⟩) v.cells := fun i v hv => by
      obtain ⟨b', off', ha', hc'⟩ := o7.rows i v hv
      cases ha'
      refine ⟨b7, 0, rfl, ?_⟩
      unfold Heap.cell? at hc' ⊢
      have e : (B.upd b7 (.cells cc 56 zz)) b7 = H7 b7 := by rw [upd_same, hob]
      simp only at hc' ⊢
      rw [e]; exact hc'
    have hk : ∀ S' H', WAt (B.upd b7 (.cells cc 56 zz)) H' g S' (layL w5 (verPieces v.v)) → K (.tuple #[]) H' := fun S' H' d' => hk S' H' (d'.back u0)
    have hvk := (hx.upd0 u0).vk v (List.mem_of_getElem? hv)
    generalize hB : B.upd b7 (.cells cc 56 zz) = B' at d7 o7' hk hvk
    have ro : ∀ {H' : Heap} {S' : List Nat} {w' : W}, WAt B' H' g S' w' → RowAt H' (some ⟨b7, 0, none⟩) v.cells := fun d => o7'.upd (S := []) d.base (.inr (Off.nil _))
    (repeat first | refine HReg.step ?_ | refine HCode.step ?_)
    refine HLoad.one (v := .string (bs v.v.key)) (by exact (ro d7).get (i := 0) rfl) ?_
    (repeat first | refine HReg.step ?_ | refine HCode.step ?_)
    refine HCall.mk ⟨Tryz.f59, Tryz.func59, by rfl, by rfl⟩ ?_
    refine text_t d7 (by omega) fun S8 H8 d8 f8 => ?_
    have hl8 := d8.lim
    have hm8 : (w5.lay (textB v.v.key)).lim = 1048576 := W.lay_len.2.trans hm5
    (repeat first | refine HReg.step ?_ | refine HCode.step ?_)
    refine HLoad.one (v := .int .u64 (v.v.id : Int)) (by exact (ro d8).get (i := 1) rfl) ?_
    (repeat first | refine HReg.step ?_ | refine HCode.step ?_)
    refine HCall.mk ⟨Tryz.f56, Tryz.func56, by rfl, by rfl⟩ ?_
    refine u64_t d8 (by omega) fun S9 H9 d9 f9 => ?_
    have hl9 := d9.lim
    have hm9 : ((w5.lay (textB v.v.key)).lay (num v.v.id 8)).lim = 1048576 := W.lay_len.2.trans hm8
    (repeat first | refine HReg.step ?_ | refine HCode.step ?_)
    refine HLoad.one (v := .int .u64 (v.v.id : Int)) (by exact (ro d9).get (i := 1) rfl) ?_
    (repeat first | refine HReg.step ?_ | refine HCode.step ?_)
    by_cases h0 : v.v.id = 0
    · rw [show eqB ((v.v.id : Nat) : Int) 0 = true from eqB_true.2 (by omega)]
      (repeat first | refine HReg.step ?_ | refine HCode.step ?_)
      refine hk S9 H9 ?_
      unfold verPieces
      rw [if_pos h0, List.append_nil]
      exact d9
    · have hco : 65536 ≤ v.v.id ∧ v.v.val.length ≤ 65535 ∧ Whole v.v.ks ∧ v.v.key ∈ v.v.ks := by
        rcases hco with h | h
        · exact absurd h.1 h0
        · exact h
      rw [show eqB ((v.v.id : Nat) : Int) 0 = false from eqB_false.2 (by omega)]
      (repeat first | refine HReg.step ?_ | refine HCode.step ?_)
      refine HLoad.one (v := .string (bs v.v.val)) (by exact (ro d9).get (i := 2) rfl) ?_
      (repeat first | refine HReg.step ?_ | refine HCode.step ?_)
      refine HCall.mk ⟨Tryz.f59, Tryz.func59, by rfl, by rfl⟩ ?_
      refine text_t d9 (by omega) fun S10 H10 d10 f10 => ?_
      have hl10 := d10.lim
      have hm10 : (((w5.lay (textB v.v.key)).lay (num v.v.id 8)).lay (textB v.v.val)).lim = 1048576 := W.lay_len.2.trans hm9
      (repeat first | refine HReg.step ?_ | refine HCode.step ?_)
      refine HLoad.one (v := .slice v.a v.v.ks.length v.c) (by exact (ro d10).get (i := 3) rfl) ?_
      (repeat first | refine HReg.step ?_ | refine HCode.step ?_)
      refine HCall.mk ⟨Tryz.f57, Tryz.func57, by rfl, by rfl⟩ ?_
      refine texts_t d10 hvk rfl (by have := textsB_small hco.2.2.1.few; omega) fun S11 H11 d11 f11 => ?_
      (repeat first | refine HReg.step ?_ | refine HCode.step ?_)
      refine hk S11 H11 ?_
      unfold verPieces
      rw [if_neg h0, layL_append]
      exact d11
  rw [show eqB x.kind 7 = false from eqB_false.2 h7]
  (repeat first | refine HReg.step ?_ | refine HCode.step ?_)
  rw [kpn (m := x.m) h1 h3 h4 h7] at hk
  refine HLoad.one (v := .int .u64 (x.id : Int)) (by exact (ro d5).get (i := 3) rfl) ?_
  (repeat first | refine HReg.step ?_ | refine HCode.step ?_)
  refine HCall.mk ⟨Tryz.f56, Tryz.func56, by rfl, by rfl⟩ ?_
  refine u64_t d5 (by omega) fun S6 H6 d6 f6 => ?_
  (repeat first | refine HReg.step ?_ | refine HCode.step ?_)
  exact hk S6 H6 d6
end
end Go.Proofs.YtlgncabjphokjaaGreat
