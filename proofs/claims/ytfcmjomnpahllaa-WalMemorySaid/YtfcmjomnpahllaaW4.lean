import Derived.Test.YtfcmjomnpahllaaW3
namespace Go.Proofs.Ytfcmjomnpahllaa
open Go Hv
set_option linter.unusedVariables false
set_option linter.unusedSimpArgs false
set_option maxRecDepth 10000
set_option maxHeartbeats 1000000
/-! commit, own; two records that are alike. CUT2 -/
open Go.Op in
theorem eqs {P : Program} (d : Nat) {t : TypeId} (hu : P.underlying t = some .string) (a : ByteArray) (w : World) : (Op.equalIn (d + 1) t (.string a) (.string a)).run P w = .ok true w := by
  unfold Op.equalIn; simp [run_underlying hu]
  cases a with
  | mk d => show (d == d) = true; simp
def pv (p : Txt × Txt) : Value := .agg [Value.string (bs p.1), .string (bs p.2)].toArray
open Go.Op in
theorem pair_neq {x y : Operand} {p : Txt × Txt} {K : Value → Prop} (hk : K (.bool false)) : HBin Try.prog .neq 50 x y (pv p) (pv p) K := by
  refine ⟨_, hk, fun w => ?_⟩
  have part0 : ∀ (a b : ByteArray) (w : World), (part 9 [Value.string a, .string b].toArray 0).run Try.prog w = .ok (.string a) w := fun a b w => by kernel_rfl
  have part1 : ∀ (a b : ByteArray) (w : World), (part 9 [Value.string a, .string b].toArray 1).run Try.prog w = .ok (.string b) w := fun a b w => by kernel_rfl
  have g : (eqGuard .neq 50 x y (pv p) (pv p)).run Try.prog w = .ok () w := by
    kernel_rfl
  have e := (binOp_eq_ 50 (pv p) (pv p) (by simp [pv]) (by simp [pv]) (by simp [pv]) (by simp [pv])).2
  rw [Sem.run_bind, g, Result.andThen_ok, e, Sem.run_bind]
  have : (Op.equalIn (9999 + 1) 50 (pv p) (pv p)).run Try.prog w = .ok true w := by
    unfold Op.equalIn
    rw [Sem.run_bind, run_underlying Try.underlying50, Result.andThen_ok]
    have hst : Try.prog.stoodInHeld 50 = false := by kernel_rfl
    have q := fun a w => eqs (P := Try.prog) 9998 Try.underlying9 a w
    simp only [pv]
    simp [program, hst, part0, part1, q, Sem.run]
  rw [this]; rfl
theorem txts_take (l : List Txt) (j : Nat) : txts (l.take j) = (txts l).take j := List.map_take
def commitR (q : Nat) : Rec := ⟨2, q * 65536, [], []⟩
theorem commit_good {q : Nat} (h1 : 1 ≤ q) (h2 : q ≤ 100000000) : Good (commitR q) := by
  refine ⟨⟨by show 65536 ≤ q * 65536; omega, .inl ⟨rfl, rfl, rfl⟩⟩, by show q * 65536 < _; omega, ?_⟩
  have e : pay (commitR q) = num 2 1 ++ num (q * 65536) 8 := pay2 rfl
  rw [e, List.length_append, num_length, num_length]; decide
theorem shl16 {q : Nat} (h : q ≤ 100000000) : shlS .u64 (wr .u64 (q : Int)) 16 = ((q * 65536 : Nat) : Int) := by
  have e0 : wr .u64 (q : Int) = (q : Int) := by rw [wr_u64]; omega
  rw [e0, shlS_eq]
  have e8 : min ((16 : Int).toNat) IntKind.u64.bits = 16 := by decide
  rw [e8]
  have e2 : IntKind.u64.wrap ((q : Int) * 2 ^ 16) = (q : Int) * 2 ^ 16 := by
    have := wr_u64 ((q : Int) * 2 ^ 16)
    rw [wr_eq] at this
    rw [this]; omega
  rw [e2]; omega
structure SmInv (n : Nat) (H : Heap) (m : Nat) (vs : List Value) (H' : Heap) : Prop where
  ex : ∃ i : Nat, vs = [.int .i64 (i : Int)] ∧ m + i = n ∧ H' = H
structure SnInv (n : Nat) (H : Heap) (m : Nat) (vs : List Value) (H' : Heap) : Prop where
  ex : ∃ i : Nat, vs = [.int .i64 (i : Int)] ∧ m + i = n ∧ Upd [] H H'
section
variable {H : Heap} {K : Value → Heap → Prop}
theorem app_pairsZ {a b : Option Addr} {k cap m c : Nat} {xs ys : List (Txt × Txt)} {H0 H : Heap} {K : Value → Heap → Prop} (hm : Made H0 H 50 2 a k cap (pairsV xs)) (hy : RowAt H b (pairsV ys)) (hyl : ys.length = m) (hb : k + m ≤ 4398046511104)
    (hk : ∀ a' cap' H', Made H0 H' 50 2 a' (k + m) cap' (pairsV (xs ++ ys)) → K (.slice a' (k + m) cap') H') :
    HSem Try.prog (Builtin.append_ #[25, 25] 25 [.slice a k cap, .slice b m c].toArray) H K := by
  refine append_madeG (ie := Try.t50) (z := .agg #[.string ⟨#[]⟩, .string ⟨#[]⟩]) (xs := pairsV xs) (ys := pairsV ys) Try.underlying25 rfl rfl rfl (by decide) hm hy (by rw [pairsV_length, hyl]; rfl) (plain_pairs _) (by show (k + m) * 32 ≤ _; omega) (by omega) fun a' cap' H' m' => ?_
  rw [← pairsV_append] at m'
  exact hk a' cap' H' m'
theorem commit_t {q : Nat} (hq : q ≤ 100000000) (hk : ∀ H', Upd [] H H' → K (rv (commitR q) none 0 none 0) H') : HCalls Try.prog 12 [.int .i64 (q : Int)] H K := by
  refine hcalls (fn := Try.f12) [] mixed Try.func12 rfl rfl (by decide +kernel) ?_
  (repeat first | refine HReg.step ?_ | refine HCode.step ?_)
  refine HNew.mk fun b hb => ?_
  (repeat first | refine HReg.step ?_ | refine HCode.step ?_)
  refine HReq.mk (by decide) ?_
  (repeat first | refine HReg.step ?_ | refine HCode.step ?_)
  rw [shl16 hq]
  refine store_rec (x := commitR q) (ap := none) (cp := 0) (ak := none) (ck := 0) (OwnRow.lit (upd_same _ _ _) rfl) rfl fun H1 o1 u1 => ?_
  (repeat first | refine HReg.step ?_ | refine HCode.step ?_)
  refine HLoadN_row o1.rows rfl ?_
  exact hk H1 (Upd.drop (Upd.new hb _) u1 fun x hx => by rw [List.mem_singleton.1 hx]; exact hb)
/-- A record with lists of its own. -/
structure Owned (H H' : Heap) (x : Rec) (bp : Option Addr) (dp : Nat) (bk : Option Addr) (dk : Nat) : Prop where
  p : OwnRow H' 50 2 bp x.ps.length dp (pairsV x.ps)
  k : OwnRow H' 9 1 bk x.ks.length dk (txts x.ks)
  pn : ∀ b ∈ blk bp, H b = none
  kn : ∀ b ∈ blk bk, H b = none
  np : x.ps.length ≤ 4398046510976
  nk : x.ks.length ≤ 8796093021952
theorem Owned.recIn {H H' : Heap} {x : Rec} {bp bk : Option Addr} {dp dk : Nat} (h : Owned H H' x bp dp bk dk) : RecIn H' x bp bk := ⟨h.p.rows, h.k.rows, h.np, h.nk⟩
theorem own_t {x : Rec} {ap ak : Option Addr} {cp ck : Nat} (hx : RecIn H x ap ak)
    (hk : ∀ bp dp bk dk H', Owned H H' x bp dp bk dk → Upd [] H H' → K (rv x bp dp bk dk) H') : HCalls Try.prog 10 [rv x ap cp ak ck] H K := by
  refine hcalls (fn := Try.f10) [] mixed Try.func10 rfl rfl (by decide +kernel) ?_
  have hnp := hx.np
  have hnk := hx.nk
  (repeat first | refine HReg.step ?_ | refine HCode.step ?_)
  refine HNew.mk fun b1 hb1 => ?_
  have u1 : Upd [] H (H.upd b1 (.cells (rcells x ap cp ak ck).toArray 28)) := Upd.new hb1 _
  have o1 : OwnRow (H.upd b1 (.cells (rcells x ap cp ak ck).toArray 28)) 28 1 (some ⟨b1, 0, none⟩) 4 4 (rcells x ap cp ak ck) := OwnRow.lit (upd_same _ _ _) rfl
  have hH' : H.upd b1 (.cells [Value.int .i64 x.kind, .int .u64 (x.id : Int), .slice ap x.ps.length cp, .slice ak x.ks.length ck].toArray 28) = H.upd b1 (.cells (rcells x ap cp ak ck).toArray 28) := rfl
  rw [hH']
  generalize hH1 : H.upd b1 (.cells (rcells x ap cp ak ck).toArray 28) = H1 at u1 o1
  (repeat first | refine HReg.step ?_ | refine HCode.step ?_)
  refine HNew.mk fun b2 hb2 => ?_
  have u2 : Upd [] H1 (H1.upd b2 (.cells [Value.int .i64 0, .int .u64 0, .slice none 0 0, .slice none 0 0].toArray 28)) := Upd.new hb2 _
  have o2 : OwnRow (H1.upd b2 (.cells [Value.int .i64 0, .int .u64 0, .slice none 0 0, .slice none 0 0].toArray 28)) 28 1 (some ⟨b2, 0, none⟩) 4 4 zeroR := OwnRow.lit (upd_same _ _ _) rfl
  generalize hH2 : H1.upd b2 (.cells [Value.int .i64 0, .int .u64 0, .slice none 0 0, .slice none 0 0].toArray 28) = H2 at u2 o2
  have ne : b1 ≠ b2 := fun e => by subst e; exact o1.there rfl hb2
  have o1 := o1.upd u2 (Off.nil _)
  have u02 := u1.trans u2
  have n2 : H b2 = none := Upd.none (S := []) u1 (by simp) hb2
  (repeat first | refine HReg.step ?_ | refine HCode.step ?_)
  refine HReq.mk (by decide) ?_
  (repeat first | refine HReg.step ?_ | refine HCode.step ?_)
  refine HNew.mk fun b3 hb3 => ?_
  have m3 : Made H2 (H2.upd b3 (.cells [].toArray 50)) 50 2 (some ⟨b3, 0, none⟩) 0 0 (pairsV []) := ⟨OwnRow.lit (upd_same _ _ _) rfl, Upd.new hb3 _, fun q hq => by cases hq; exact hb3⟩
  generalize hH3 : H2.upd b3 (.cells [].toArray 50) = H3 at m3
  (repeat first | refine HReg.step ?_ | refine HCode.step ?_)
  refine HLoad.one (v := .slice ap x.ps.length cp) (by exact (o1.upd m3.upd (Off.nil _)).rows.get (i := 2) rfl) ?_
  (repeat first | refine HReg.step ?_ | refine HCode.step ?_)
  refine app_pairsZ m3 (hx.upd0 (u02.trans m3.upd)).rp rfl (by omega) fun a4 c4 H4 m4 => ?_
  rw [List.nil_append, Nat.zero_add] at m4
  rw [Nat.zero_add x.ps.length]
  have o1 := o1.upd m4.upd (Off.nil _)
  (repeat first | refine HReg.step ?_ | refine HCode.step ?_)
  refine store_row o1 (v := .slice a4 x.ps.length c4) rfl (i := 2) (by decide) (by rfl) fun H5 o5 u5 => ?_
  have u05 : Upd [] H H5 := Upd.drop (u02.trans m4.upd) u5 (fun q hq => by rw [List.mem_singleton.1 hq]; exact hb1)
  (repeat first | refine HReg.step ?_ | refine HCode.step ?_)
  refine HReq.mk (by decide) ?_
  (repeat first | refine HReg.step ?_ | refine HCode.step ?_)
  refine HNew.mk fun b6 hb6 => ?_
  have m6 : Made H5 (H5.upd b6 (.cells [].toArray 9)) 9 1 (some ⟨b6, 0, none⟩) 0 0 (txts []) := ⟨OwnRow.lit (upd_same _ _ _) rfl, Upd.new hb6 _, fun q hq => by cases hq; exact hb6⟩
  generalize hH6 : H5.upd b6 (.cells [].toArray 9) = H6 at m6
  (repeat first | refine HReg.step ?_ | refine HCode.step ?_)
  refine HLoad.one (v := .slice ak x.ks.length ck) (by exact (o5.upd m6.upd (Off.nil _)).rows.get (i := 3) rfl) ?_
  (repeat first | refine HReg.step ?_ | refine HCode.step ?_)
  refine app_textsZ m6 (hx.upd0 (u05.trans m6.upd)).rk rfl (by omega) fun a7 c7 H7 m7 => ?_
  rw [List.nil_append, Nat.zero_add] at m7
  rw [Nat.zero_add x.ks.length]
  have o5' := o5.upd m7.upd (Off.nil _)
  (repeat first | refine HReg.step ?_ | refine HCode.step ?_)
  refine store_row o5' (v := .slice a7 x.ks.length c7) rfl (i := 3) (by decide) (by rfl) fun H8 o8 u8_ => ?_
  have u08 : Upd [] H H8 := Upd.drop (u05.trans m7.upd) u8_ (fun q hq => by rw [List.mem_singleton.1 hq]; exact hb1)
  have off2 : Off [b1] (some ⟨b2, 0, none⟩) := fun q hq hb => by cases hq; exact ne (List.mem_singleton.1 hb).symm
  have o28 := (((o2.upd m4.upd (Off.nil _)).upd u5 off2).upd m7.upd (Off.nil _)).upd u8_ off2
  (repeat first | refine HReg.step ?_ | refine HCode.step ?_)
  refine HLoadN_row o8.rows rfl ?_
  (repeat first | refine HReg.step ?_ | refine HCode.step ?_)
  refine store_rec (x := x) (ap := a4) (cp := c4) (ak := a7) (ck := c7) o28 rfl fun H9 o9 u9 => ?_
  (repeat first | refine HReg.step ?_ | refine HCode.step ?_)
  refine HLoadN_row o9.rows rfl ?_
  have u09 : Upd [] H H9 := Upd.drop u08 u9 (fun q hq => by rw [List.mem_singleton.1 hq]; exact n2)
  have p5 := m4.own.upd u5 (o1.offT m4.own (by decide))
  have p8 := (p5.upd m7.upd (Off.nil _)).upd u8_ (o5'.offT (p5.upd m7.upd (Off.nil _)) (by decide))
  have k8 := m7.own.upd u8_ (o5'.offT m7.own (by decide))
  refine hk a4 c4 a7 c7 H9 ⟨p8.upd u9 (o28.offT p8 (by decide)), k8.upd u9 (o28.offT k8 (by decide)), fun b hb => ?_, fun b hb => ?_, hnp, hnk⟩ u09
  · obtain ⟨q, hq, rfl⟩ := blk_of hb
    exact Upd.none (S := []) u02 (by simp) (m4.new q hq)
  · obtain ⟨q, hq, rfl⟩ := blk_of hb
    exact Upd.none (S := []) u05 (by simp) (m7.new q hq)
theorem sameS_t {a b : Option Addr} {n m c d : Nat} {l : List Txt} (hx : RowAt H a (txts l)) (hy : RowAt H b (txts l)) (hn : l.length = n) (hm : l.length = m) (hlim : n ≤ 9000000000000000000)
    (hk : K (.bool true) H) : HCalls Try.prog 40 [.slice a n c, .slice b m d] H K := by
  refine hcalls (fn := Try.f40) [(6, [(0, 0), (1, 0), (2, 0), (3, 0), (4, 0), (5, 0), (6, 0), (7, 0), (8, 0)])] mixed Try.func40 rfl rfl (by decide +kernel) ?_
  subst hn hm
  (repeat first | refine HReg.step ?_ | refine HCode.step ?_)
  rw [eqB_self ((l.length : Nat) : Int)]
  (repeat first | refine HReg.step ?_ | refine HCode.step ?_)
  refine hloopC [4, 5, 11, 12, 13, 14, 15, 16, 17, 18, 19, 20, 21, 22, 23, 24, 25] [5] (SmInv l.length H) rfl (by repeat' first | exact Resp.retD | exact Resp1.valuesK | refine Resp.blockD ?_ | refine Resp.thenD ?_ ?_ | refine Resp.hcode ?_) ?_ ?_
  · exact ⟨l.length, SmInv.mk ⟨0, rfl, rfl, rfl⟩⟩
  rintro q _ fe H1 ⟨i, rfl, hmi, rfl⟩
  have w2 : wr .i64 ((i : Int) + 1) = ((i + 1 : Nat) : Int) := by rw [wr_i64 (by omega) (by omega)]; omega
  (repeat first | refine HReg.step ?_ | refine HCode.step ?_)
  refine hif (fun h1 => ?_) (fun h1 => ?_)
  · have h1 := ltB_true.1 h1
    obtain ⟨s, hs⟩ : ∃ s, l[i]? = some s := ⟨l[i]'(by omega), by simp⟩
    obtain ⟨ba, bo, rfl, _⟩ := hx i _ (txts_get hs)
    obtain ⟨bb, bo2, rfl, _⟩ := hy i _ (txts_get hs)
    (repeat first | refine HReg.step ?_ | refine HCode.step ?_)
    refine HReq.mk ⟨by omega, by omega⟩ ?_
    (repeat first | refine HReg.step ?_ | refine HCode.step ?_)
    refine HLoad.one (v := .string (bs s)) (by exact hx.get (txts_get hs)) ?_
    (repeat first | refine HReg.step ?_ | refine HCode.step ?_)
    refine HReq.mk ⟨by omega, by omega⟩ ?_
    (repeat first | refine HReg.step ?_ | refine HCode.step ?_)
    refine HLoad.one (v := .string (bs s)) (by exact hy.get (txts_get hs)) ?_
    (repeat first | refine HReg.step ?_ | refine HCode.step ?_)
    rw [seqB_bs, decide_eq_true rfl]
    (repeat first | refine HReg.step ?_ | refine HCode.step ?_)
    rw [w2]
    exact ⟨q - 1, by omega, SmInv.mk ⟨i + 1, rfl, by omega, rfl⟩⟩
  · (repeat first | refine HReg.step ?_ | refine HCode.step ?_)
    exact hk
theorem sameR_t {x : Rec} {ap ak bp bk : Option Addr} {cp ck dp dk : Nat} (hx : RecIn H x ap ak) (hy : RecIn H x bp bk)
    (hk : ∀ H', Upd [] H H' → K (.bool true) H') : HCalls Try.prog 18 [rv x ap cp ak ck, rv x bp dp bk dk] H K := by
  refine hcalls (fn := Try.f18) [(6, [(0, 0), (1, 0), (2, 0), (3, 0), (4, 0), (5, 0), (6, 0), (7, 0), (8, 0), (9, 0), (10, 0)])] mixed Try.func18 rfl rfl (by decide +kernel) ?_
  have hnp := hx.np
  have hnk := hx.nk
  (repeat first | refine HReg.step ?_ | refine HCode.step ?_)
  refine HNew.mk fun b1 hb1 => ?_
  have u1 : Upd [] H (H.upd b1 (.cells (rcells x ap cp ak ck).toArray 28)) := Upd.new hb1 _
  have o1 : RowAt (H.upd b1 (.cells (rcells x ap cp ak ck).toArray 28)) (some ⟨b1, 0, none⟩) (rcells x ap cp ak ck) := RowAt.of_cells (upd_same _ _ _)
  have hH' : H.upd b1 (.cells [Value.int .i64 x.kind, .int .u64 (x.id : Int), .slice ap x.ps.length cp, .slice ak x.ks.length ck].toArray 28) = H.upd b1 (.cells (rcells x ap cp ak ck).toArray 28) := rfl
  rw [hH']
  generalize hH1 : H.upd b1 (.cells (rcells x ap cp ak ck).toArray 28) = H1 at u1 o1
  (repeat first | refine HReg.step ?_ | refine HCode.step ?_)
  refine HNew.mk fun b2 hb2 => ?_
  have u2 : Upd [] H1 (H1.upd b2 (.cells (rcells x bp dp bk dk).toArray 28)) := Upd.new hb2 _
  have o2 : RowAt (H1.upd b2 (.cells (rcells x bp dp bk dk).toArray 28)) (some ⟨b2, 0, none⟩) (rcells x bp dp bk dk) := RowAt.of_cells (upd_same _ _ _)
  have hH'' : H1.upd b2 (.cells [Value.int .i64 x.kind, .int .u64 (x.id : Int), .slice bp x.ps.length dp, .slice bk x.ks.length dk].toArray 28) = H1.upd b2 (.cells (rcells x bp dp bk dk).toArray 28) := rfl
  rw [hH'']
  generalize hH2 : H1.upd b2 (.cells (rcells x bp dp bk dk).toArray 28) = H2 at u2 o2
  have o1 := o1.upd (S := []) u2 (.inr (Off.nil _))
  have u := u1.trans u2
  have hx2 := hx.upd0 u
  have hy2 := hy.upd0 u
  (repeat first | refine HReg.step ?_ | refine HCode.step ?_)
  refine HLoad.one (v := .int .i64 x.kind) (by exact o1.get (i := 0) rfl) ?_
  (repeat first | refine HReg.step ?_ | refine HCode.step ?_)
  refine HLoad.one (v := .int .i64 x.kind) (by exact o2.get (i := 0) rfl) ?_
  (repeat first | refine HReg.step ?_ | refine HCode.step ?_)
  rw [eqB_self x.kind]
  (repeat first | refine HReg.step ?_ | refine HCode.step ?_)
  refine HLoad.one (v := .int .u64 (x.id : Int)) (by exact o1.get (i := 1) rfl) ?_
  (repeat first | refine HReg.step ?_ | refine HCode.step ?_)
  refine HLoad.one (v := .int .u64 (x.id : Int)) (by exact o2.get (i := 1) rfl) ?_
  (repeat first | refine HReg.step ?_ | refine HCode.step ?_)
  rw [eqB_self (x.id : Int)]
  (repeat first | refine HReg.step ?_ | refine HCode.step ?_)
  refine HLoad.one (v := .slice ap x.ps.length cp) (by exact o1.get (i := 2) rfl) ?_
  (repeat first | refine HReg.step ?_ | refine HCode.step ?_)
  refine HLoad.one (v := .slice bp x.ps.length dp) (by exact o2.get (i := 2) rfl) ?_
  (repeat first | refine HReg.step ?_ | refine HCode.step ?_)
  rw [eqB_self ((x.ps.length : Nat) : Int)]
  (repeat first | refine HReg.step ?_ | refine HCode.step ?_)
  refine hloopC [4, 5, 27, 28, 29, 30, 31, 32, 33, 34, 35, 36, 37, 38, 39, 40, 41, 42, 43, 44] [5] (SmInv x.ps.length H2) rfl (by repeat' first | exact Resp.retD | exact Resp1.valuesK | refine Resp.blockD ?_ | refine Resp.thenD ?_ ?_ | refine Resp.hcode ?_) ?_ ?_
  · exact ⟨x.ps.length, SmInv.mk ⟨0, rfl, rfl, rfl⟩⟩
  rintro q _ fe H3 ⟨i, rfl, hmi, rfl⟩
  have w2 : wr .i64 ((i : Int) + 1) = ((i + 1 : Nat) : Int) := by rw [wr_i64 (by omega) (by omega)]; omega
  (repeat first | refine HReg.step ?_ | refine HCode.step ?_)
  refine HLoad.one (v := .slice ap x.ps.length cp) (by exact o1.get (i := 2) rfl) ?_
  (repeat first | refine HReg.step ?_ | refine HCode.step ?_)
  refine hif (fun h1 => ?_) (fun h1 => ?_)
  · have h1 := ltB_true.1 h1
    obtain ⟨p, hp⟩ : ∃ s, x.ps[i]? = some s := ⟨x.ps[i]'(by omega), by simp⟩
    have rx := hx2.rp
    have ry := hy2.rp
    obtain ⟨ba, bo, ha, _⟩ := rx _ _ (pairsV_get hp).1
    obtain ⟨bb, bo2, hb, _⟩ := ry _ _ (pairsV_get hp).1
    rw [ha] at rx
    rw [hb] at ry
    (repeat first | refine HReg.step ?_ | refine HCode.step ?_)
    refine HLoad.one (v := .slice ap x.ps.length cp) (by exact o1.get (i := 2) rfl) ?_
    rw [ha]
    (repeat first | refine HReg.step ?_ | refine HCode.step ?_)
    refine HReq.mk ⟨by omega, by omega⟩ ?_
    (repeat first | refine HReg.step ?_ | refine HCode.step ?_)
    refine HLoadN_pair rx hp ?_
    (repeat first | refine HReg.step ?_ | refine HCode.step ?_)
    refine HLoad.one (v := .slice bp x.ps.length dp) (by exact o2.get (i := 2) rfl) ?_
    rw [hb]
    (repeat first | refine HReg.step ?_ | refine HCode.step ?_)
    refine HReq.mk ⟨by omega, by omega⟩ ?_
    (repeat first | refine HReg.step ?_ | refine HCode.step ?_)
    refine HLoadN_pair ry hp ?_
    (repeat first | refine HReg.step ?_ | refine HCode.step ?_)
    refine pair_neq (p := p) ?_
    (repeat first | refine HReg.step ?_ | refine HCode.step ?_)
    rw [w2]
    exact ⟨q - 1, by omega, SmInv.mk ⟨i + 1, rfl, by omega, rfl⟩⟩
  · (repeat first | refine HReg.step ?_ | refine HCode.step ?_)
    refine HLoad.one (v := .slice ak x.ks.length ck) (by exact o1.get (i := 3) rfl) ?_
    (repeat first | refine HReg.step ?_ | refine HCode.step ?_)
    refine HLoad.one (v := .slice bk x.ks.length dk) (by exact o2.get (i := 3) rfl) ?_
    (repeat first | refine HReg.step ?_ | refine HCode.step ?_)
    refine HCall.mk ⟨Try.f40, Try.func40, by rfl, by rfl⟩ ?_
    refine sameS_t hx2.rk hy2.rk rfl rfl (by omega) ?_
    (repeat first | refine HReg.step ?_ | refine HCode.step ?_)
    exact hk H3 u
end
end Go.Proofs.Ytfcmjomnpahllaa
