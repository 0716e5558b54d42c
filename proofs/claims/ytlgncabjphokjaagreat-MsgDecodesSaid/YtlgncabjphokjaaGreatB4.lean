import Derived.Test.YtlgncabjphokjaaGreatB3
import Derived.Test.YtlgncabjphokjaaGreatG8
import Derived.Test.YtlgncabjphokjaaGreatG10
namespace Go.Proofs.YtlgncabjphokjaaGreat
open Go Hv
set_option linter.unusedVariables false
set_option linter.unusedSimpArgs false
set_option maxRecDepth 10000
set_option maxHeartbeats 1000000
/-! The document's Decode; MsgDecodes. CUT2 -/
section
variable {H : Heap} {K : Value → Heap → Prop}
theorem rdecode_t {a : Option Addr} {n c : Nat} {l : List UInt8} (hr : RowAt H a (u8s l)) (hl : l.length = n) (hc : n ≤ c) (hlim : n ≤ 4000000000000000000)
    (hk : ∀ (x : MsgA) H', x.m = (decodeM l).1 → MsgNew H H' x → Upd [] H H' → K (.tuple #[x.val, .int .i64 (decodeM l).2]) H') : HCalls Tryz.prog 5 [.slice a n c] H K := by
  refine hcalls (fn := Tryz.f5) [(3, [(0, 0), (1, 0), (2, 0), (3, 0), (4, 0), (5, 0), (6, 0), (7, 0), (8, 0), (9, 0), (10, 0), (11, 0), (12, 0), (13, 0), (14, 0), (15, 0), (16, 0), (17, 0), (18, 0), (19, 0), (20, 0), (21, 0), (22, 0)])] mixed Tryz.func5 rfl rfl (by decide +kernel) ?_
  (repeat first | refine HReg.step ?_ | refine HCode.step ?_)
  refine HNew.mk fun b2 hb2 => ?_
  have u2 : Upd [] H (H.upd b2 (.cells zeroA.cells.toArray 30)) := Upd.new hb2 _
  have o2 : OwnRow (H.upd b2 (.cells zeroA.cells.toArray 30)) 30 1 (some ⟨b2, 0, none⟩) 8 8 zeroA.cells := OwnRow.lit (upd_same _ _ _) rfl
  have hH2' : H.upd b2 (.cells [Value.int .i64 0, .int .i64 0, .int .u64 0, .int .u64 0, .slice none 0 0, .slice none 0 0, .slice none 0 0, .slice none 0 0].toArray 30) = H.upd b2 (.cells zeroA.cells.toArray 30) := rfl
  rw [hH2']
  generalize hH2 : H.upd b2 (.cells zeroA.cells.toArray 30) = H2 at u2 o2
  have hr2 := hr.upd (S := []) u2 (.inr (Off.nil _))
  have fin0 : ∀ {H1 : Heap} (e : Int), Upd [] H H1 → decodeM l = (zeroM, e) → ∀ H9, OwnRow H9 30 1 (some ⟨b2, 0, none⟩) 8 8 zeroA.cells → Upd [b2] H1 H9 → K (.tuple #[zeroA.val, .int .i64 e]) H9 := fun e u1 hp H9 o9 u9 => by
    rw [hp] at hk
    exact hk zeroA H9 zeroA_m (zero_new _ _) (Upd.drop u1 u9 fun b hb => by rw [List.mem_singleton.1 hb]; exact hb2)
  (repeat first | refine HReg.step ?_ | refine HCode.step ?_)
  refine hif (fun h1 => ?_) (fun h1 => ?_)
  · have h1 := ltB_true.1 h1
    have hp : decodeM l = (zeroM, 4) := by unfold decodeM; rw [if_pos (by omega)]
    (repeat first | refine HReg.step ?_ | refine HCode.step ?_)
    refine store_msg (x := zeroA) o2 rfl fun H9 o9 u9 => ?_
    (repeat first | refine HReg.step ?_ | refine HCode.step ?_)
    refine HLoadN_row o9.rows rfl ?_
    exact fin0 4 u2 hp H9 o9 u9
  have h1 := ltB_false.1 h1
  have hn8 : ¬ l.length < 4 := by omega
  obtain ⟨x, y, z, w, rest, hlx⟩ := list_four (l := l) (by omega)
  have hv : val (l.take 4) = x.toNat * 16777216 + y.toNat * 65536 + z.toNat * 256 + w.toNat := by rw [hlx, ← val_four]; rfl
  obtain ⟨L, hL⟩ : ∃ L, L = val (l.take 4) := ⟨_, rfl⟩
  have hor := num_or x y z w
  rw [← hv, ← hL] at hor
  have hx := x.toNat_lt
  have hy := y.toNat_lt
  have hz := z.toNat_lt
  have hw := w.toNat_lt
  have hLlt : L < 4294967296 := by omega
  have g0 : (u8s l)[0]? = some (u8 x) := by rw [hlx]; rfl
  have g1 : (u8s l)[1]? = some (u8 y) := by rw [hlx]; rfl
  have g2 : (u8s l)[2]? = some (u8 z) := by rw [hlx]; rfl
  have g3 : (u8s l)[3]? = some (u8 w) := by rw [hlx]; rfl
  obtain ⟨ba, bo, rfl, _⟩ := hr _ _ g0
  (repeat first | refine HReg.step ?_ | refine HCode.step ?_)
  refine HReq.mk ⟨by omega, by omega⟩ ?_
  (repeat first | refine HReg.step ?_ | refine HCode.step ?_)
  refine HLoad.one (v := u8 x) (by exact hr2.get g0) ?_
  (repeat first | refine HReg.step ?_ | refine HCode.step ?_)
  refine HReq.mk (by decide) ?_
  (repeat first | refine HReg.step ?_ | refine HCode.step ?_)
  refine HReq.mk ⟨by omega, by omega⟩ ?_
  (repeat first | refine HReg.step ?_ | refine HCode.step ?_)
  refine HLoad.one (v := u8 y) (by exact hr2.get g1) ?_
  (repeat first | refine HReg.step ?_ | refine HCode.step ?_)
  refine HReq.mk (by decide) ?_
  (repeat first | refine HReg.step ?_ | refine HCode.step ?_)
  refine HReq.mk ⟨by omega, by omega⟩ ?_
  (repeat first | refine HReg.step ?_ | refine HCode.step ?_)
  refine HLoad.one (v := u8 z) (by exact hr2.get g2) ?_
  (repeat first | refine HReg.step ?_ | refine HCode.step ?_)
  refine HReq.mk (by decide) ?_
  (repeat first | refine HReg.step ?_ | refine HCode.step ?_)
  refine HReq.mk ⟨by omega, by omega⟩ ?_
  (repeat first | refine HReg.step ?_ | refine HCode.step ?_)
  refine HLoad.one (v := u8 w) (by exact hr2.get g3) ?_
  (repeat first | refine HReg.step ?_ | refine HCode.step ?_)
  have w4 : wr .i64 ((n : Int) - 4) = ((n - 4 : Nat) : Int) := by rw [wr_i64 (by omega) (by omega)]; omega
  rw [hor]
  refine hif (fun h2 => ?_) (fun h2 => ?_)
  · have h2 := ltB_true.1 h2
    have hp : decodeM l = (zeroM, 3) := by unfold decodeM; rw [if_neg hn8, ← hL, if_pos (by omega)]
    (repeat first | refine HReg.step ?_ | refine HCode.step ?_)
    refine store_msg (x := zeroA) o2 rfl fun H9 o9 u9 => ?_
    (repeat first | refine HReg.step ?_ | refine HCode.step ?_)
    refine HLoadN_row o9.rows rfl ?_
    exact fin0 3 u2 hp H9 o9 u9
  have h2 := ltB_false.1 h2
  (repeat first | refine HReg.step ?_ | refine HCode.step ?_)
  rw [w4]
  refine hif (fun h3 => ?_) (fun h3 => ?_)
  · have h3 := ltB_true.1 h3
    have hp : decodeM l = (zeroM, 4) := by unfold decodeM; rw [if_neg hn8, ← hL, if_neg (by omega), if_pos (by omega)]
    (repeat first | refine HReg.step ?_ | refine HCode.step ?_)
    refine store_msg (x := zeroA) o2 rfl fun H9 o9 u9 => ?_
    (repeat first | refine HReg.step ?_ | refine HCode.step ?_)
    refine HLoadN_row o9.rows rfl ?_
    exact fin0 4 u2 hp H9 o9 u9
  have h3 := ltB_false.1 h3
  (repeat first | refine HReg.step ?_ | refine HCode.step ?_)
  rw [w4]
  refine hif (fun h4 => ?_) (fun h4 => ?_)
  · have h4 := ltB_true.1 h4
    have hp : decodeM l = (zeroM, 5) := by unfold decodeM; rw [if_neg hn8, ← hL, if_neg (by omega), if_neg (by omega), if_pos (by omega)]
    (repeat first | refine HReg.step ?_ | refine HCode.step ?_)
    refine store_msg (x := zeroA) o2 rfl fun H9 o9 u9 => ?_
    (repeat first | refine HReg.step ?_ | refine HCode.step ?_)
    refine HLoadN_row o9.rows rfl ?_
    exact fin0 5 u2 hp H9 o9 u9
  have h4 := ltB_false.1 h4
  have hbad : ¬ ReadOkM (l.drop 4) → decodeM l = (zeroM, 2) := fun h => by unfold decodeM; rw [if_neg hn8, ← hL, if_neg (by omega), if_neg (by omega), if_neg (by omega), if_pos h]
  have hgood : ReadOkM (l.drop 4) → decodeM l = ((readBody (l.drop 4)).1, 0) := fun h => by unfold decodeM; rw [if_neg hn8, ← hL, if_neg (by omega), if_neg (by omega), if_neg (by omega), if_neg (fun hh => hh h)]
  (repeat first | refine HReg.step ?_ | refine HCode.step ?_)
  refine HReq.mk ⟨by omega, by omega⟩ ?_
  (repeat first | refine HReg.step ?_ | refine HCode.step ?_)
  refine HCall.mk ⟨Tryz.f12, Tryz.func12, by rfl, by rfl⟩ ?_
  have rd : RowAt H2 (slAddr (some ⟨ba, bo, none⟩) 4 c 1) (u8s (l.drop 4)) := by
    have h := RowAt.sl (size := 1) (l := 4) (cap := c) hr2 (by rw [u8s_length]; omega)
    rw [Nat.mul_one, ← u8s_drop] at h; exact h
  refine read_t (l := l.drop 4) rd (by rw [List.length_drop]; omega) (by omega) fun x t H3 hxm ht n3 u3 => ?_
  have o3 := o2.upd u3 (Off.nil _)
  have u03 := u2.trans u3
  (repeat first | refine HReg.step ?_ | refine HCode.step ?_)
  refine HNew.mk fun b7 hb7 => ?_
  (repeat first | refine HReg.step ?_ | refine HCode.step ?_)
  refine store_msg (x := x) (OwnRow.lit (upd_same _ _ _) rfl) rfl fun H5 o5 u5 => ?_
  have u35 : Upd [] H3 H5 := Upd.drop (Upd.new hb7 _) u5 (fun x hx => by rw [List.mem_singleton.1 hx]; exact hb7)
  have n5 := (n3.back u2).upd0 u35
  have o25 := o3.upd u35 (Off.nil _)
  have u05 := u03.trans u35
  (repeat first | refine HReg.step ?_ | refine HCode.step ?_)
  cases t with
  | false =>
    have hp : decodeM l = (zeroM, 2) := hbad fun h => by have := ht.2 h; cases this
    (repeat first | refine HReg.step ?_ | refine HCode.step ?_)
    refine store_msg (x := zeroA) o25 rfl fun H9 o9 u9 => ?_
    (repeat first | refine HReg.step ?_ | refine HCode.step ?_)
    refine HLoadN_row o9.rows rfl ?_
    exact fin0 2 u05 hp H9 o9 u9
  | true =>
    have hp : decodeM l = ((readBody (l.drop 4)).1, 0) := hgood (ht.1 rfl)
    rw [hp] at hk
    (repeat first | refine HReg.step ?_ | refine HCode.step ?_)
    refine HLoadN_row o5.rows rfl ?_
    (repeat first | refine HReg.step ?_ | refine HCode.step ?_)
    refine store_msg (x := x) o25 rfl fun H9 o9 u9 => ?_
    (repeat first | refine HReg.step ?_ | refine HCode.step ?_)
    refine HLoadN_row o9.rows rfl ?_
    exact hk x H9 hxm (n5.off o25 (by decide) u9) (Upd.drop u05 u9 fun b hb => by rw [List.mem_singleton.1 hb]; exact hb2)
theorem msgDecodes_t {a : Option Addr} {n c : Nat} {l : List UInt8} (hr : RowAt H a (u8s l)) (hl : l.length = n) (hc : n ≤ c) (hlim : n ≤ 140737488355328)
    (hk : ∀ H', Upd [] H H' → K (.bool true) H') : HCalls Tryz.prog 3 [.slice a n c] H K := by
  refine hcalls (fn := Tryz.f3) [] mixed Tryz.func3 rfl rfl (by decide +kernel) ?_
  (repeat first | refine HReg.step ?_ | refine HCode.step ?_)
  refine HCall.mk ⟨Tryz.f4, Tryz.func4, by rfl, by rfl⟩ ?_
  refine decode_t hr hl hc (by omega) fun x H1 hx n1 u1 => ?_
  (repeat first | refine HReg.step ?_ | refine HCode.step ?_)
  refine HNew.mk fun b2 hb2 => ?_
  (repeat first | refine HReg.step ?_ | refine HCode.step ?_)
  refine store_msg (x := x) (OwnRow.lit (upd_same _ _ _) rfl) rfl fun H2 o2 u2 => ?_
  have u12 : Upd [] H1 H2 := Upd.drop (Upd.new hb2 _) u2 (fun x hx => by rw [List.mem_singleton.1 hx]; exact hb2)
  have u02 := u1.trans u12
  have i2 := n1.msgIn.upd0 u12
  (repeat first | refine HReg.step ?_ | refine HCode.step ?_)
  refine HCall.mk ⟨Tryz.f5, Tryz.func5, by rfl, by rfl⟩ ?_
  refine rdecode_t (hr.upd (S := []) u02 (.inr (Off.nil _))) hl hc (by omega) fun y H3 hy n3 u3 => ?_
  (repeat first | refine HReg.step ?_ | refine HCode.step ?_)
  refine HNew.mk fun b4 hb4 => ?_
  (repeat first | refine HReg.step ?_ | refine HCode.step ?_)
  refine store_msg (x := y) (OwnRow.lit (upd_same _ _ _) rfl) rfl fun H4 o4 u4 => ?_
  have u34 : Upd [] H3 H4 := Upd.drop (Upd.new hb4 _) u4 (fun x hx => by rw [List.mem_singleton.1 hx]; exact hb4)
  have u24 := u3.trans u34
  (repeat first | refine HReg.step ?_ | refine HCode.step ?_)
  refine HCall.mk ⟨Tryz.f6, Tryz.func6, by rfl, by rfl⟩ ?_
  refine known_t fun H5 u5 => ?_
  have u25 := u24.trans u5
  have i5 := i2.upd0 u25
  have j5 := (n3.msgIn.upd0 u34).upd0 u5
  (repeat first | refine HReg.step ?_ | refine HCode.step ?_)
  rw [eqB_self (decodeM l).2]
  (repeat first | refine HReg.step ?_ | refine HCode.step ?_)
  refine HLoadN_row (o2.rows.upd (S := []) u25 (.inr (Off.nil _))) rfl ?_
  (repeat first | refine HReg.step ?_ | refine HCode.step ?_)
  refine HLoadN_row (o4.rows.upd (S := []) u5 (.inr (Off.nil _))) rfl ?_
  (repeat first | refine HReg.step ?_ | refine HCode.step ?_)
  refine HCall.mk ⟨Tryz.f7, Tryz.func7, by rfl, by rfl⟩ ?_
  refine same_t2 i5 j5 fun t H6 ht u6 => ?_
  have htt : t = true := ht.2 (by rw [hx, hy])
  subst htt
  (repeat first | refine HReg.step ?_ | refine HCode.step ?_)
  exact hk H6 ((u02.trans u25).trans u6)
end
end Go.Proofs.YtlgncabjphokjaaGreat
