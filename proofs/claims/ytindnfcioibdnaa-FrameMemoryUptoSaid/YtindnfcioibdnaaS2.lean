import Derived.Test.YtindnfcioibdnaaS1
import Derived.Laws.BitsAllLaws
namespace Go.Proofs.Ytindnfcioibdnaa
open Go Hv
set_option linter.unusedVariables false
set_option maxRecDepth 10000

theorem shl_i64 (b k : Nat) (hk : k < 64) (h : b * 2 ^ k ≤ 9223372036854775807) : shlS .i64 (b : Int) (k : Int) = ((b * 2 ^ k : Nat) : Int) := by
  rw [shlS_eq]
  have e1 : min ((k : Int).toNat) IntKind.i64.bits = k := by show min _ 64 = k; simp; omega
  rw [e1]
  have e2 : (b : Int) * 2 ^ k = ((b * 2 ^ k : Nat) : Int) := by push_cast; rfl
  rw [e2]; exact IntWalk.i64_in _ (by omega)
theorem or_i64 (a k b : Nat) (hb : b < 2 ^ k) (h : 2 ^ k * a + b < 9223372036854775808) : bitsS .or .i64 ((2 ^ k * a : Nat) : Int) (b : Int) = ((2 ^ k * a + b : Nat) : Int) := by
  rw [bitsS_eq]
  have ofi : ∀ x : Nat, x < 18446744073709551616 → (BitVec.ofInt 64 (x : Int)).toNat = x := fun x hx => by
    rw [BitVec.ofInt_natCast, BitVec.toNat_ofNat]; exact Nat.mod_eq_of_lt (by omega)
  show IntKind.i64.wrap ((BitVec.ofInt 64 ((2 ^ k * a : Nat) : Int) ||| BitVec.ofInt 64 (b : Int)).toNat : Int) = _
  rw [BitVec.toNat_or, ofi _ (by omega), ofi _ (by omega), ← Nat.two_pow_add_eq_or_of_lt hb]
  exact IntWalk.i64_in _ (by omega)
/-- The number that four bytes tell. -/
def num (r : List UInt8) : Nat := ((r.getD 0 0).toNat * 16777216 + (r.getD 1 0).toNat * 65536 + (r.getD 2 0).toNat * 256) + (r.getD 3 0).toNat
theorem num_or (x y z w : UInt8) : bitsS .or .i64 (bitsS .or .i64 (bitsS .or .i64 (shlS .i64 (wr .i64 (x.toNat : Int)) 24) (shlS .i64 (wr .i64 (y.toNat : Int)) 16)) (shlS .i64 (wr .i64 (z.toNat : Int)) 8)) (wr .i64 (w.toNat : Int))
    = ((x.toNat * 16777216 + y.toNat * 65536 + z.toNat * 256 + w.toNat : Nat) : Int) := by
  have hx := x.toNat_lt; have hy := y.toNat_lt; have hz := z.toNat_lt; have hw := w.toNat_lt
  rw [wr_i64n _ (by omega), wr_i64n _ (by omega), wr_i64n _ (by omega), wr_i64n _ (by omega)]
  rw [show (24 : Int) = ((24 : Nat) : Int) from rfl, show (16 : Int) = ((16 : Nat) : Int) from rfl, show (8 : Int) = ((8 : Nat) : Int) from rfl]
  rw [shl_i64 _ _ (by omega) (by omega), shl_i64 _ _ (by omega) (by omega), shl_i64 _ _ (by omega) (by omega)]
  have e1 := or_i64 x.toNat 24 (y.toNat * 2 ^ 16) (by omega) (by omega)
  rw [show x.toNat * 2 ^ 24 = 2 ^ 24 * x.toNat from Nat.mul_comm _ _, e1]
  have e2 := or_i64 (2 ^ 8 * x.toNat + y.toNat) 16 (z.toNat * 2 ^ 8) (by omega) (by omega)
  rw [show 2 ^ 24 * x.toNat + y.toNat * 2 ^ 16 = 2 ^ 16 * (2 ^ 8 * x.toNat + y.toNat) by omega, e2]
  have e3 := or_i64 (2 ^ 16 * x.toNat + 2 ^ 8 * y.toNat + z.toNat) 8 w.toNat (by omega) (by omega)
  rw [show 2 ^ 16 * (2 ^ 8 * x.toNat + y.toNat) + z.toNat * 2 ^ 8 = 2 ^ 8 * (2 ^ 16 * x.toNat + 2 ^ 8 * y.toNat + z.toNat) by omega, e3]
theorem num_add (x y z w : UInt8) : wr .i64 (wr .i64 (wr .i64 (wr .i64 (wr .i64 (x.toNat : Int) * 16777216) + wr .i64 (wr .i64 (y.toNat : Int) * 65536)) + wr .i64 (wr .i64 (z.toNat : Int) * 256)) + wr .i64 (w.toNat : Int))
    = ((x.toNat * 16777216 + y.toNat * 65536 + z.toNat * 256 + w.toNat : Nat) : Int) := by
  have hx := x.toNat_lt; have hy := y.toNat_lt; have hz := z.toNat_lt; have hw := w.toNat_lt
  rw [wr_i64n _ (by omega), wr_i64n _ (by omega), wr_i64n _ (by omega), wr_i64n _ (by omega)]
  rw [wr_i64 (n := (x.toNat : Int) * 16777216) (by omega) (by omega), wr_i64 (n := (y.toNat : Int) * 65536) (by omega) (by omega), wr_i64 (n := (z.toNat : Int) * 256) (by omega) (by omega)]
  rw [wr_i64 (n := (x.toNat : Int) * 16777216 + (y.toNat : Int) * 65536) (by omega) (by omega), wr_i64 (n := (x.toNat : Int) * 16777216 + (y.toNat : Int) * 65536 + (z.toNat : Int) * 256) (by omega) (by omega), wr_i64 (by omega) (by omega)]
  omega

/-- What Split tells, from the bodies told up to now and the bytes left. -/
def splitF : Nat → List (List UInt8) → List UInt8 → Option (List (List UInt8) × List UInt8)
  | 0, out, r => some (out, r)
  | k + 1, out, r => if 4 ≤ r.length then
      if 1048576 < num r then none
      else if r.length - 4 < num r then some (out, r)
      else splitF k (out ++ [(r.drop 4).take (num r)]) (r.drop (4 + num r))
    else some (out, r)
theorem splitF_more : ∀ (k j : Nat) (out : List (List UInt8)) (r : List UInt8), r.length ≤ k → r.length ≤ j → splitF k out r = splitF j out r
  | 0, 0, _, _, _, _ => rfl
  | 0, j + 1, out, r, h, _ => by unfold splitF; rw [if_neg (by omega)]
  | k + 1, 0, out, r, _, h => by unfold splitF; rw [if_neg (by omega)]
  | k + 1, j + 1, out, r, h, h' => by
    unfold splitF
    split
    · split
      · rfl
      · split
        · rfl
        · exact splitF_more k j _ _ (by rw [List.length_drop]; omega) (by rw [List.length_drop]; omega)
    · rfl
def splitA (out : List (List UInt8)) (r : List UInt8) : Option (List (List UInt8) × List UInt8) := splitF r.length out r
theorem splitA_eq (out : List (List UInt8)) (r : List UInt8) : splitA out r = if 4 ≤ r.length then
      if 1048576 < num r then none
      else if r.length - 4 < num r then some (out, r)
      else splitA (out ++ [(r.drop 4).take (num r)]) (r.drop (4 + num r))
    else some (out, r) := by
  unfold splitA
  rw [splitF_more r.length (r.length + 1) out r (by omega) (by omega)]
  rw [splitF]
  split
  · split
    · rfl
    · split
      · rfl
      · exact splitF_more _ _ _ _ (by rw [List.length_drop]; omega) (Nat.le_refl _)
  · rfl
theorem splitA_short {out : List (List UInt8)} {r : List UInt8} (h : r.length < 4) : splitA out r = some (out, r) := by rw [splitA_eq, if_neg (by omega)]
theorem splitA_long {out : List (List UInt8)} {r : List UInt8} (h : 4 ≤ r.length) (h1 : 1048576 < num r) : splitA out r = none := by rw [splitA_eq, if_pos h, if_pos h1]
theorem splitA_part {out : List (List UInt8)} {r : List UInt8} (h : 4 ≤ r.length) (h1 : num r ≤ 1048576) (h2 : r.length - 4 < num r) : splitA out r = some (out, r) := by
  rw [splitA_eq, if_pos h, if_neg (by omega), if_pos h2]
theorem splitA_next {out : List (List UInt8)} {r : List UInt8} (h : 4 ≤ r.length) (h1 : num r ≤ 1048576) (h2 : num r ≤ r.length - 4) : splitA out r = splitA (out ++ [(r.drop 4).take (num r)]) (r.drop (4 + num r)) := by
  rw [splitA_eq, if_pos h, if_neg (by omega), if_neg (by omega)]

/-- A slice of bytes of its own. -/
def Slo (H : Heap) (v : Value) (l : List UInt8) : Prop := ∃ a c, v = .slice a l.length c ∧ OwnRow H 5 1 a l.length c (u8s l)
theorem Slo.upd {S : List Nat} {H H' : Heap} {v : Value} {l : List UInt8} (h : Slo H v l) (hu : Upd S H H') (ho : ∀ b ∈ S, ∀ c f, H b ≠ some (.cells c 5 f)) : Slo H' v l := by
  obtain ⟨a, c, rfl, ho'⟩ := h
  refine ⟨a, c, rfl, ho'.upd hu fun p hp hS => ?_⟩
  rcases ho'.ok with ⟨ha, _⟩ | ⟨g, cur, ha, hg, _⟩
  · rw [ha] at hp; cases hp
  · rw [ha] at hp; cases hp
    exact ho _ hS _ _ hg
theorem row22 {H : Heap} {a : Option Addr} {n cap : Nat} {xs : List Value} (h : OwnRow H 22 1 a n cap xs) : ∀ b ∈ blk a, ∀ c f, H b ≠ some (.cells c 5 f) := by
  intro b hb c f he
  rcases h.ok with ⟨ha, _⟩ | ⟨g, cur, ha, hg, _⟩
  · rw [ha] at hb; simp [blk] at hb
  · rw [ha] at hb; simp [blk] at hb; subst hb
    rw [hg] at he; cases he

structure SplitOk (H : Heap) (out : List (List UInt8)) (rest : List UInt8) (v : Value) (H' : Heap) : Prop where
  ex : ∃ H1 ao no co ar cr hs, v = .tuple #[.slice ao no co, .slice ar rest.length cr, .int .i64 0] ∧ Upd [] H H1 ∧ OwnRow H1 22 1 ao no co hs ∧ All2 (Slo H1) hs out ∧ Made H1 H' 5 1 ar rest.length cr (u8s rest) ∧ (∀ p, ao = some p → H p.block = none) ∧ no ≤ 1073741824
theorem SplitOk.now {H : Heap} {out : List (List UInt8)} {rest : List UInt8} {v : Value} {H' : Heap} (h : SplitOk H out rest v H') :
    ∃ ao no co ar cr hs, v = .tuple #[.slice ao no co, .slice ar rest.length cr, .int .i64 0] ∧ OwnRow H' 22 1 ao no co hs ∧ All2 (Slo H') hs out ∧ OwnRow H' 5 1 ar rest.length cr (u8s rest) ∧ no ≤ 1073741824 := by
  obtain ⟨H1, ao, no, co, ar, cr, hs, hv, _, ho, hl, hm, _, hn⟩ := h
  exact ⟨ao, no, co, ar, cr, hs, hv, ho.upd hm.upd (Off.nil _), hl.mono fun x y hxy => hxy.upd hm.upd (by simp), hm.own, hn⟩
def SplitPost (H : Heap) (ys : List UInt8) (v : Value) (H' : Heap) : Prop := Upd [] H H' ∧ (match splitA [] ys with
  | none => v = .tuple #[.slice none 0 0, .slice none 0 0, .int .i64 3]
  | some (out, rest) => SplitOk H out rest v H')

theorem getD_get {l : List UInt8} {i : Nat} (h : i < l.length) : l[i]? = some (l.getD i 0) := by simp [List.getD, h]

structure SpInv (ys : List UInt8) (n : Nat) (H : Heap) (m : Nat) (vs : List Value) (H' : Heap) : Prop where
  ex : ∃ out r hs ao no co ar cr, vs = [.slice ao no co, .slice ar m cr] ∧ splitA [] ys = splitA out r ∧ r.length = m ∧ m ≤ cr ∧ m + 4 * no ≤ n ∧ RowAt H ar (u8s r) ∧ OwnRow H' 22 1 ao no co hs ∧ All2 (Slo H') hs out ∧ Upd [] H H' ∧ (∀ p, ao = some p → H p.block = none)

theorem split_t {a : Option Addr} {n c : Nat} {ys : List UInt8} {H : Heap} (hy : RowAt H a (u8s ys)) (hn : ys.length = n) (hc : n ≤ c) (hlim : n ≤ 1073741824) : HCalls Try.prog 12 [.slice a n c] H (SplitPost H ys) := by
  refine hcalls (fn := Try.f12) [(4, [(0, 0), (1, 0), (2, 0), (3, 0), (4, 0), (5, 0), (6, 0), (7, 0), (8, 0), (9, 0), (10, 0), (11, 0), (12, 0), (13, 0), (14, 0), (15, 0), (16, 0), (17, 0), (18, 0), (19, 0), (20, 0), (21, 0), (22, 0)])] mixed Try.func12 rfl rfl (by decide +kernel) ?_
  (repeat first | refine HReg.step ?_ | refine HCode.step ?_)
  refine hloopC [2, 3, 4, 5, 6, 7, 9, 10, 11, 12, 13, 14, 15, 16, 17, 18, 19, 20, 21, 22, 23, 24, 25, 26, 27, 28, 29, 30, 31, 32, 33, 34, 35, 36, 37, 38, 39, 40, 41, 42, 43, 44, 45, 46, 47, 48, 49, 50, 51, 52] [5, 6]
    (SpInv ys n H) rfl (.blockD (.thenD (Resp.hcode .retD) .retD)) ?_ ?_
  · refine ⟨n, ?_⟩
    refine SpInv.mk ⟨[], ys, [], none, 0, 0, a, c, rfl, rfl, hn, hc, by omega, hy, OwnRow.nil _ _ _, trivial, Upd.refl _ _, fun p hp => by cases hp⟩
  · rintro m vs f H' ⟨out, r, hs, ao, no, co, ar, cr, rfl, hsp, hr, hcr, hno, hra, ho, hl, hu, hf⟩
    (repeat first | refine HReg.step ?_ | refine HCode.step ?_)
    refine hif (fun h => ?_) (fun h => ?_)
    · have h := not_ltB_true.1 h
      have h4 : 4 ≤ r.length := by omega
      obtain ⟨x, y, z, w, t, rfl⟩ : ∃ x y z w t, r = x :: y :: z :: w :: t := by
        match r, h4 with
        | x :: y :: z :: w :: t, _ => exact ⟨x, y, z, w, t, rfl⟩
      obtain ⟨b, off, rfl⟩ : ∃ b off, ar = some ⟨b, off, none⟩ := by
        obtain ⟨b, off, hh, _⟩ := hra 0 _ rfl
        exact ⟨b, off, hh⟩
      have hrb := hra.upd hu (.inr (Off.nil _))
      (repeat first | refine HReg.step ?_ | refine HCode.step ?_)
      refine HReq.mk ⟨by decide, by omega⟩ ?_
      (repeat first | refine HReg.step ?_ | refine HCode.step ?_)
      refine HLoad.one (hrb.get (i := 0) (v := u8 x) rfl) ?_
      (repeat first | refine HReg.step ?_ | refine HCode.step ?_)
      refine HReq.mk (by decide) ?_
      (repeat first | refine HReg.step ?_ | refine HCode.step ?_)
      refine HReq.mk ⟨by decide, by omega⟩ ?_
      (repeat first | refine HReg.step ?_ | refine HCode.step ?_)
      refine HLoad.one (hrb.get (i := 1) (v := u8 y) rfl) ?_
      (repeat first | refine HReg.step ?_ | refine HCode.step ?_)
      refine HReq.mk (by decide) ?_
      (repeat first | refine HReg.step ?_ | refine HCode.step ?_)
      refine HReq.mk ⟨by decide, by omega⟩ ?_
      (repeat first | refine HReg.step ?_ | refine HCode.step ?_)
      refine HLoad.one (hrb.get (i := 2) (v := u8 z) rfl) ?_
      (repeat first | refine HReg.step ?_ | refine HCode.step ?_)
      refine HReq.mk (by decide) ?_
      (repeat first | refine HReg.step ?_ | refine HCode.step ?_)
      refine HReq.mk ⟨by decide, by omega⟩ ?_
      (repeat first | refine HReg.step ?_ | refine HCode.step ?_)
      refine HLoad.one (hrb.get (i := 3) (v := u8 w) rfl) ?_
      (repeat first | refine HReg.step ?_ | refine HCode.step ?_)
      refine hif (fun h1 => ?_) (fun h1 => ?_)
      · rw [num_or] at h1
        (repeat first | refine HReg.step ?_ | refine HCode.step ?_)
        refine ⟨hu, ?_⟩
        have hlg : splitA out (x :: y :: z :: w :: t) = none := splitA_long h4 (by have := ltB_true.1 h1; simp only [num, List.getD_cons_zero, List.getD_cons_succ]; omega)
        rw [hsp, hlg]
        rfl
      · rw [num_or] at h1 ⊢
        have h1 := ltB_false.1 h1
        have hnum : num (x :: y :: z :: w :: t) = x.toNat * 16777216 + y.toNat * 65536 + z.toNat * 256 + w.toNat := by
          simp only [num, List.getD_cons_zero, List.getD_cons_succ]
        rw [← hnum] at h1 ⊢
        generalize hN : num (x :: y :: z :: w :: t) = N at h1 ⊢
        (repeat first | refine HReg.step ?_ | refine HCode.step ?_)
        refine hif (fun h2 => ?_) (fun h2 => ?_)
        · have hw : wr .i64 ((m : Int) - 4) = (m : Int) - 4 := wr_i64 (by omega) (by omega)
          rw [hw] at h2
          have h2 := ltB_true.1 h2
          (repeat first | refine HReg.step ?_ | refine HCode.step ?_)
          refine HCall.mk ⟨Try.f17, Try.func17, by rfl, by rfl⟩ ?_
          refine clone_t hrb hr (by omega) fun a' cap' H'' hm => ?_
          (repeat first | refine HReg.step ?_ | refine HCode.step ?_)
          refine ⟨hu.trans hm.upd, ?_⟩
          have hsh : splitA out (x :: y :: z :: w :: t) = some (out, (x :: y :: z :: w :: t)) := splitA_part h4 (by omega) (by omega)
          rw [hsp, hsh]
          subst hr
          refine SplitOk.mk ⟨H', ao, no, co, a', cap', hs, rfl, hu, ho, hl, hm, hf, by omega⟩
        · have hw : wr .i64 ((m : Int) - 4) = (m : Int) - 4 := wr_i64 (by omega) (by omega)
          rw [hw] at h2
          have h2 := ltB_false.1 h2
          have hw4 : wr .i64 (4 + (N : Int)) = ((4 + N : Nat) : Int) := by rw [wr_i64 (by omega) (by omega)]; omega
          (repeat first | refine HReg.step ?_ | refine HCode.step ?_)
          refine HReq.mk ⟨by rw [hw4]; omega, by rw [hw4]; omega⟩ ?_
          (repeat first | refine HReg.step ?_ | refine HCode.step ?_)
          refine HReq.mk ⟨by decide, by rw [hw4]; omega⟩ ?_
          (repeat first | refine HReg.step ?_ | refine HCode.step ?_)
          refine HCall.mk ⟨Try.f17, Try.func17, by rfl, by rfl⟩ ?_
          have hnext := splitA_next (out := out) h4 (by omega) (by omega)
          refine clone_t (ys := ((x :: y :: z :: w :: t).drop 4).take N) ?_ ?_ ?_ fun a' cap' H1 hm => ?_
          · rw [u8s_take, u8s_drop]
            exact (hrb.sl (l := 4) (cap := cr) (size := 1) (by rw [u8s_length]; omega)).take N
          · rw [hw4, List.length_take, List.length_drop]
            omega
          · rw [hw4]; omega
          · (repeat first | refine HReg.step ?_ | refine HCode.step ?_)
            refine HReq.mk (by decide) ?_
            (repeat first | refine HReg.step ?_ | refine HCode.step ?_)
            refine HNew.mk fun b2 hb2 => ?_
            have hlen : (((x :: y :: z :: w :: t).drop 4).take N).length = (wr .i64 (4 + (N : Int))).toNat - 4 := by
              rw [hw4, List.length_take, List.length_drop]; omega
            have ho1 := ho.upd hm.upd (Off.nil _)
            have hu2 : Upd [] H1 (H1.upd b2 (.cells [Value.slice a' ((wr .i64 (4 + (N : Int))).toNat - 4) cap'].toArray 22)) := Upd.new hb2 _
            (repeat first | refine HReg.step ?_ | refine HCode.step ?_)
            refine append_rows (ie := Try.t22) (z := .slice none 0 0) (xs := hs) (ys := [.slice a' ((wr .i64 (4 + (N : Int))).toNat - 4) cap']) Try.underlying28 rfl rfl rfl (by decide) (ho1.upd hu2 (Off.nil _)) ?_ ?_ ?_ ?_ ?_ ?_
            · exact RowAt.of_cells (upd_same _ _ _)
            · rfl
            · intro v hv; rw [List.mem_singleton.1 hv]; rfl
            · show (no + 1) * 24 ≤ _; omega
            · omega
            · intro a3 cap3 H3 ho3 hu3 hf3
              (repeat first | refine HReg.step ?_ | refine HCode.step ?_)
              refine HReq.mk ⟨by rw [hw4]; omega, by rw [hw4]; omega⟩ ?_
              (repeat first | refine HReg.step ?_ | refine HCode.step ?_)
              refine Exists.intro (m - (wr .i64 (4 + (N : Int))).toNat) ?_
              refine And.intro (by rw [hw4]; omega) ?_
              have huo : ∀ b ∈ blk ao, ∀ c f, (H1.upd b2 (.cells [Value.slice a' ((wr .i64 (4 + (N : Int))).toNat - 4) cap'].toArray 22)) b ≠ some (.cells c 5 f) := row22 (ho1.upd hu2 (Off.nil _))
              have hsl : Slo (H1.upd b2 (.cells [Value.slice a' ((wr .i64 (4 + (N : Int))).toNat - 4) cap'].toArray 22)) (.slice a' ((wr .i64 (4 + (N : Int))).toNat - 4) cap') (((x :: y :: z :: w :: t).drop 4).take N) := by
                have hm' : Made H' H1 5 1 a' (((x :: y :: z :: w :: t).drop 4).take N).length cap' (u8s (((x :: y :: z :: w :: t).drop 4).take N)) := by
                  rw [hlen]; exact hm
                rw [← hlen]
                exact ⟨a', cap', rfl, hm'.own.upd (Upd.new hb2 _) (Off.nil _)⟩
              refine SpInv.mk ⟨out ++ [((x :: y :: z :: w :: t).drop 4).take N], (x :: y :: z :: w :: t).drop (4 + N), hs ++ [.slice a' ((wr .i64 (4 + (N : Int))).toNat - 4) cap'], a3, no + 1, cap3, _, _, rfl, ?_, ?_, ?_, ?_, ?_, ?_, ?_, ?_, ?_⟩
              · rw [hsp, hnext, hN]
              · rw [hw4, List.length_drop, hr]; rfl
              · omega
              · rw [hw4]; show m - (4 + N) + 4 * (no + 1) ≤ n; omega
              · rw [hw4, u8s_drop]
                have := (hra.sl (l := 4 + N) (cap := cr) (size := 1) (by rw [u8s_length]; omega))
                rw [Nat.mul_one] at this
                exact this
              · exact ho3
              · exact (All2.append (hl.mono fun x y hxy => (hxy.upd (hm.upd.trans hu2) (by simp)).upd hu3 huo) ⟨hsl.upd hu3 huo, trivial⟩)
              · refine Upd.drop (hu.trans (hm.upd.trans hu2)) hu3 fun b hb => ?_
                obtain ⟨p, hp, rfl⟩ := blk_of hb
                exact hf p hp
              · intro p hp
                rcases hf3 p hp with h | h
                · exact hf p h
                · exact Upd.none (S := []) (hu.trans (hm.upd.trans hu2)) (by simp) h
    · have h := not_ltB_false.1 h
      (repeat first | refine HReg.step ?_ | refine HCode.step ?_)
      refine HCall.mk ⟨Try.f17, Try.func17, by rfl, by rfl⟩ ?_
      refine clone_t (ys := r) ?_ hr (by omega) fun a' cap' H'' hm => ?_
      · exact hra.upd hu (.inr (Off.nil _))
      · (repeat first | refine HReg.step ?_ | refine HCode.step ?_)
        refine ⟨hu.trans hm.upd, ?_⟩
        have hsh : splitA out r = some (out, r) := splitA_short (by omega)
        rw [hsp, hsh]
        subst hr
        refine SplitOk.mk ⟨H', ao, no, co, a', cap', hs, rfl, hu, ho, hl, hm, hf, by omega⟩
end Go.Proofs.Ytindnfcioibdnaa
