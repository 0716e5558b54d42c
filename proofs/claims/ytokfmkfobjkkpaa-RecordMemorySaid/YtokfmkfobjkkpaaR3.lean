import Derived.Test.YtokfmkfobjkkpaaR5
namespace Go.Proofs.Ytokfmkfobjkkpaa
open Go Hv
set_option linter.unusedVariables false
set_option linter.unusedSimpArgs false
set_option maxRecDepth 10000
set_option maxHeartbeats 4000000
/-! RecordMemory, walked. CUT2 -/
structure FillInv (P : List (List UInt8) → Heap → Prop) (ls : List (List UInt8)) (idx : Nat) (l : List UInt8) (x : UInt8) (n m : Nat) (vs : List Value) (H' : Heap) : Prop where
  ex : ∃ i : Nat, vs = [.int .i64 (i : Int)] ∧ m + i = n ∧ P (ls.set idx (List.replicate i x ++ l.drop i)) H'
structure FillJ (P : List (List UInt8) → Heap → Prop) (ls : List (List UInt8)) (idx : Nat) (l : List UInt8) (x : UInt8) (vs : List Value) (H' : Heap) : Prop where
  ex : vs = [] ∧ P (ls.set idx (List.replicate l.length x)) H'
theorem St.fill {H1 : Heap} {vs : List Value} {ls : List (List UInt8)} {q0 q1 q2 q3 q4 q5 : PRec} {al am : Option Addr} {cl cm b4 b5 : Nat} {H : Heap} {idx b n c i : Nat} {l : List UInt8} {x : UInt8} {K : Heap → Prop}
    (s : St H1 vs (ls.set idx (List.replicate i x ++ l.drop i)) q0 q1 q2 q3 q4 q5 al am cl cm b4 b5 H) (hi : vs[idx]? = some (.slice (some ⟨b, 0, none⟩) n c)) (hx : idx < ls.length) (hl : i < l.length)
    (hK : ∀ H', St H1 vs (ls.set idx (List.replicate (i + 1) x ++ l.drop (i + 1))) q0 q1 q2 q3 q4 q5 al am cl cm b4 b5 H' → K H') : HStore H ⟨b, 0 + i, none⟩ (u8 x) K := by
  refine s.store (k := i) (l := List.replicate i x ++ l.drop i) hi (by rw [List.getElem?_set]; simp [hx]) (by rw [List.length_append, List.length_replicate, List.length_drop]; omega) (Nat.zero_add i) fun H' s' => hK H' ?_
  rw [List.set_set, set_rep hl] at s'
  exact s'
theorem St.addr {H1 : Heap} {vs : List Value} {ls : List (List UInt8)} {q0 q1 q2 q3 q4 q5 : PRec} {al am : Option Addr} {cl cm b4 b5 : Nat} {H : Heap} {idx n c : Nat} {a : Option Addr}
    (s : St H1 vs ls q0 q1 q2 q3 q4 q5 al am cl cm b4 b5 H) (hi : vs[idx]? = some (.slice a n c)) (hn : 0 < n) : ∃ b, a = some ⟨b, 0, none⟩ := by
  obtain ⟨l, hl, _⟩ := s.g.grp.val hi
  obtain ⟨h1, o⟩ := s.g.grp.own hi hl
  exact o.addr (by omega)
section
variable {H : Heap} {K : Value → Heap → Prop}
theorem recordMemory_t {x y : Plain} {ak bk : Option Addr} {ck dk : Nat} (hr : RowAt H ak (txts x.ks)) (hn : x.ks.length ≤ 9000000000000000000) (hid : x.id < 18446744073709551616)
    (hr' : RowAt H bk (txts y.ks)) (hn' : y.ks.length ≤ 9000000000000000000) (hid' : y.id < 18446744073709551616)
    (hk : ∀ H', Upd [] H H' → K (.bool true) H') : HCalls Try.prog 9 [.agg (x.cells ak ck).toArray, .agg (y.cells bk dk).toArray] H K := by
  refine hcalls (fn := Try.f9) [(20, [(0, 0), (1, 0), (2, 0), (3, 0), (4, 0), (5, 0), (6, 0), (7, 0), (8, 0), (9, 0), (10, 0), (11, 0), (12, 0), (13, 0), (14, 0), (15, 0), (16, 0), (17, 0), (18, 0), (19, 0), (20, 0), (21, 0), (22, 0), (23, 0), (24, 0), (25, 0), (26, 0), (27, 0), (28, 0), (29, 0), (30, 0), (31, 0), (32, 0), (33, 0), (34, 0), (35, 0), (36, 0), (37, 0), (38, 0), (39, 0), (40, 0), (41, 0), (42, 0), (43, 0), (44, 0), (45, 0), (46, 0), (47, 0), (48, 0), (49, 0), (50, 0), (51, 0), (52, 0), (53, 0), (54, 0), (55, 0), (56, 0), (57, 0), (58, 0), (59, 0), (60, 0), (61, 0), (62, 0), (63, 0), (64, 0), (65, 0)]), (39, [(0, 0), (1, 0), (2, 0), (3, 0), (4, 0), (5, 0), (6, 0), (7, 0), (8, 0), (9, 0), (10, 0), (11, 0), (12, 0), (13, 0), (14, 0), (15, 0)]), (47, [(0, 0), (1, 0), (2, 0), (3, 0), (4, 0), (5, 0), (6, 0), (7, 0), (8, 0), (9, 0), (10, 0), (11, 0)]), (51, [(0, 0), (1, 0), (2, 0), (3, 0), (4, 0), (5, 0), (6, 0), (7, 0), (8, 0), (9, 0), (10, 0), (11, 0), (12, 0)]), (70, [(0, 0), (1, 0), (2, 0), (3, 0), (4, 0), (5, 0), (6, 0), (7, 0), (8, 0), (9, 0), (10, 0), (11, 0), (12, 0)]), (75, [(0, 0), (1, 0), (2, 0), (3, 0), (4, 0), (5, 0), (6, 0), (7, 0), (8, 0), (9, 0), (10, 0), (11, 0), (12, 0), (13, 0)]), (79, [(0, 0), (1, 0), (2, 0), (3, 0), (4, 0), (5, 0), (6, 0), (7, 0), (8, 0), (9, 0), (10, 0), (11, 0), (12, 0), (13, 0), (14, 0), (15, 0), (16, 0), (17, 0), (18, 0), (19, 0), (20, 0), (21, 0), (22, 0), (23, 0), (24, 0), (25, 0), (26, 0), (27, 0), (28, 0), (29, 0)])] mixed Try.func9 rfl rfl (by decide +kernel) ?_
  (repeat first | refine HReg.step ?_ | refine HCode.step ?_)
  refine HNew.mk fun b1 hb1 => ?_
  have u1 : Upd [] H (H.upd b1 (.cells (x.cells ak ck).toArray 40)) := Upd.new hb1 _
  have o1 : OwnRow (H.upd b1 (.cells (x.cells ak ck).toArray 40)) 40 1 (some ⟨b1, 0, none⟩) 5 5 (x.cells ak ck) := OwnRow.lit (upd_same _ _ _) rfl
  have hH' : H.upd b1 (.cells [Value.bool x.commit, .int .u64 (x.id : Int), .slice ak x.ks.length ck, .int .u64 (x.some : Int), .string (bs x.v)].toArray 40) = H.upd b1 (.cells (x.cells ak ck).toArray 40) := rfl
  rw [hH']
  generalize hH1 : H.upd b1 (.cells (x.cells ak ck).toArray 40) = H1 at u1 o1
  (repeat first | refine HReg.step ?_ | refine HCode.step ?_)
  refine HNew.mk fun b2 hb2 => ?_
  have u2 : Upd [] H1 (H1.upd b2 (.cells (y.cells bk dk).toArray 40)) := Upd.new hb2 _
  have o2 : OwnRow (H1.upd b2 (.cells (y.cells bk dk).toArray 40)) 40 1 (some ⟨b2, 0, none⟩) 5 5 (y.cells bk dk) := OwnRow.lit (upd_same _ _ _) rfl
  have hH2' : H1.upd b2 (.cells [Value.bool y.commit, .int .u64 (y.id : Int), .slice bk y.ks.length dk, .int .u64 (y.some : Int), .string (bs y.v)].toArray 40) = H1.upd b2 (.cells (y.cells bk dk).toArray 40) := rfl
  rw [hH2']
  generalize hH2 : H1.upd b2 (.cells (y.cells bk dk).toArray 40) = H2 at u2 o2
  (repeat first | refine HReg.step ?_ | refine HCode.step ?_)
  refine HCall.mk ⟨Try.f10, Try.func10, by rfl, by rfl⟩ ?_
  refine alive_t fun H3 u3 => ?_
  have u03 := u1.trans (u2.trans u3)
  (repeat first | refine HReg.step ?_ | refine HCode.step ?_)
  refine HLoadN_row (o1.upd (u2.trans u3) (Off.nil _)).rows rfl ?_
  (repeat first | refine HReg.step ?_ | refine HCode.step ?_)
  refine HCall.mk ⟨Try.f18, Try.func18, by rfl, by rfl⟩ ?_
  refine made_t (hr.upd (S := []) u03 (.inr (Off.nil _))) hn hid fun r ap cp a c H4 mr n4 u4 => ?_
  (repeat first | refine HReg.step ?_ | refine HCode.step ?_)
  refine HNew.mk fun b5 hb5 => ?_
  (repeat first | refine HReg.step ?_ | refine HCode.step ?_)
  refine store_rec (x := r) (ap := ap) (cp := cp) (ak := a) (ck := c) (OwnRow.lit (upd_same _ _ _) rfl) rfl fun H5 o5 u5 => ?_
  have u5 : Upd [] H4 H5 := Upd.drop (Upd.new hb5 _) u5 (fun q hq => by rw [List.mem_singleton.1 hq]; exact hb5)
  have ri := n4.recIn.upd0 u5
  have u05 := u03.trans (u4.trans u5)
  (repeat first | refine HReg.step ?_ | refine HCode.step ?_)
  refine HLoadN_row (o2.upd (u3.trans (u4.trans u5)) (Off.nil _)).rows rfl ?_
  (repeat first | refine HReg.step ?_ | refine HCode.step ?_)
  refine HCall.mk ⟨Try.f18, Try.func18, by rfl, by rfl⟩ ?_
  refine made_t (hr'.upd (S := []) u05 (.inr (Off.nil _))) hn' hid' fun s aq cq d e H6 ms n6 u6 => ?_
  (repeat first | refine HReg.step ?_ | refine HCode.step ?_)
  refine HNew.mk fun b6 hb6 => ?_
  (repeat first | refine HReg.step ?_ | refine HCode.step ?_)
  refine store_rec (x := s) (ap := aq) (cp := cq) (ak := d) (ck := e) (OwnRow.lit (upd_same _ _ _) rfl) rfl fun H7 o6 u7 => ?_
  have u7 : Upd [] H6 H7 := Upd.drop (Upd.new hb6 _) u7 (fun q hq => by rw [List.mem_singleton.1 hq]; exact hb6)
  have si := n6.recIn.upd0 u7
  have ri := ri.upd0 (u6.trans u7)
  have o5 := o5.upd (u6.trans u7) (Off.nil _)
  have u07 := u05.trans (u6.trans u7)
  clear n4 n6 o1 o2 hb5 hb6
  have hpr := mr.pay_le
  have hps := ms.pay_le
  have er : (buildR r).1 = frameR (pay r) ∧ (buildR r).2 = 0 ∧ (buildR r).1.length = 8 + (pay r).length := by rw [mr.built]; exact ⟨rfl, rfl, frame_len _⟩
  have es : (buildR s).1 = frameR (pay s) ∧ (buildR s).2 = 0 ∧ (buildR s).1.length = 8 + (pay s).length := by rw [ms.built]; exact ⟨rfl, rfl, frame_len _⟩
  (repeat first | refine HReg.step ?_ | refine HCode.step ?_)
  refine HLoadN_row o5.rows rfl ?_
  (repeat first | refine HReg.step ?_ | refine HCode.step ?_)
  refine HCall.mk ⟨Try.f13, Try.func13, by rfl, by rfl⟩ ?_
  refine build_t ri fun aA cA H8 mA => ?_
  rw [er.2.2, er.1] at mA
  rw [er.2.2, er.2.1]
  (repeat first | refine HReg.step ?_ | refine HCode.step ?_)
  refine HLoadN_row (o6.upd mA.upd (Off.nil _)).rows rfl ?_
  (repeat first | refine HReg.step ?_ | refine HCode.step ?_)
  refine HCall.mk ⟨Try.f13, Try.func13, by rfl, by rfl⟩ ?_
  refine build_t (si.upd0 mA.upd) fun aC cC H9 mC => ?_
  rw [es.2.2, es.1] at mC
  rw [es.2.2, es.2.1]
  have u79 := mA.upd.trans mC.upd
  (repeat first | refine HReg.step ?_ | refine HCode.step ?_)
  refine HLoadN_row (o5.upd u79 (Off.nil _)).rows rfl ?_
  (repeat first | refine HReg.step ?_ | refine HCode.step ?_)
  refine HCall.mk ⟨Try.f13, Try.func13, by rfl, by rfl⟩ ?_
  refine build_t (ri.upd0 u79) fun aB cB H10 mB => ?_
  rw [er.2.2, er.1] at mB
  rw [er.2.2, er.2.1]
  have g1 := ((((GrpM.nil 5 H7).add mA (frame_len _)).add mC (frame_len _)).add mB (frame_len _))
  (repeat first | refine HReg.step ?_ | refine HCode.step ?_)
  rw [eqB_self 0]
  (repeat first | refine HReg.step ?_ | refine HCode.step ?_)
  rw [eqB_self 0]
  (repeat first | refine HReg.step ?_ | refine HCode.step ?_)
  rw [eqB_self 0]
  (repeat first | refine HReg.step ?_ | refine HCode.step ?_)
  refine HCall.mk ⟨Try.f17, Try.func17, by rfl, by rfl⟩ ?_
  refine same_eq (mA.own.upd (mC.upd.trans mB.upd) (Off.nil _)).rows (frame_len _) mB.own.rows (frame_len _) rfl ?_
  (repeat first | refine HReg.step ?_ | refine HCode.step ?_)
  refine HCall.mk ⟨Try.f20, Try.func20, by rfl, by rfl⟩ ?_
  refine own_t (mA.own.upd (mC.upd.trans mB.upd) (Off.nil _)).rows (frame_len _) (by omega) fun aF cF H11 mF => ?_
  (repeat first | refine HReg.step ?_ | refine HCode.step ?_)
  refine append_made mF ((mC.own.upd mB.upd (Off.nil _)).upd mF.upd (Off.nil _)).rows (frame_len _) (by omega) fun aF cF H12 mF => ?_
  generalize hFr : frameR (pay r) ++ frameR (pay s) = F at mF
  have hFl : F.length = 8 + (pay r).length + (8 + (pay s).length) := by rw [← hFr, List.length_append, frame_len, frame_len]
  have hsc : scanR F = ([r, s], F.length) := by rw [← hFr]; exact scan_two mr ms
  have hpa : parseR F = (r, 8 + (pay r).length, 0) := by rw [← hFr]; exact mr.parsed _
  have hcF := mF.own.le
  have u712 := (u79.trans mB.upd).trans mF.upd
  rw [← hFl] at mF hcF ⊢
  have g3 := g1.add mF rfl
  (repeat first | refine HReg.step ?_ | refine HCode.step ?_)
  refine HCall.mk ⟨Try.f20, Try.func20, by rfl, by rfl⟩ ?_
  refine own_t mF.own.rows rfl (by omega) fun aK cK H13 mK => ?_
  have g2 := g3.add mK rfl
  (repeat first | refine HReg.step ?_ | refine HCode.step ?_)
  refine HCall.mk ⟨Try.f22, Try.func22, by rfl, by rfl⟩ ?_
  have oF := mF.own.upd mK.upd (Off.nil _)
  refine scan_t oF.rows rfl hcF (by omega) fun al cl ql H14 ol ln nl ul hl => ?_
  rw [hsc] at hl ⊢
  obtain ⟨⟨r0, p0, d0, k0, c0⟩, ⟨r1, p1, d1, k1, c1⟩, rfl, e0, e1⟩ : ∃ q0 q1, ql = [q0, q1] ∧ q0.r = r ∧ q1.r = s := by
    match ql, hl with
    | [q0, q1], h => injection h with h1 h2; injection h2 with h2 _; exact ⟨q0, q1, rfl, h1, h2⟩
  have e0 : r = r0 := e0.symm
  have e1 : s = r1 := e1.symm
  subst e0 e1
  rw [show [(⟨r, p0, d0, k0, c0⟩ : PRec), ⟨s, p1, d1, k1, c1⟩].length = 2 from rfl]
  clear hl
  (repeat first | refine HReg.step ?_ | refine HCode.step ?_)
  refine HCall.mk ⟨Try.f22, Try.func22, by rfl, by rfl⟩ ?_
  refine scan_t (oF.upd ul (Off.nil _)).rows rfl hcF (by omega) fun am cm qm H15 om mn nm um hm => ?_
  rw [hsc] at hm ⊢
  obtain ⟨⟨r2, p2, d2, k2, c2⟩, ⟨r3, p3, d3, k3, c3⟩, rfl, e2, e3⟩ : ∃ q0 q1, qm = [q0, q1] ∧ q0.r = r ∧ q1.r = s := by
    match qm, hm with
    | [q0, q1], h => injection h with h1 h2; injection h2 with h2 _; exact ⟨q0, q1, rfl, h1, h2⟩
  have e2 : r = r2 := e2.symm
  have e3 : s = r3 := e3.symm
  subst e2 e3
  rw [show [(⟨r, p2, d2, k2, c2⟩ : PRec), ⟨s, p3, d3, k3, c3⟩].length = 2 from rfl]
  clear hm
  (repeat first | refine HReg.step ?_ | refine HCode.step ?_)
  refine HCall.mk ⟨Try.f19, Try.func19, by rfl, by rfl⟩ ?_
  refine parse_t (oF.upd (ul.trans um) (Off.nil _)).rows rfl hcF (by omega) fun p4 d4 k4 c4 H16 n16 u16 => ?_
  rw [hpa] at n16 ⊢
  (repeat first | refine HReg.step ?_ | refine HCode.step ?_)
  refine HNew.mk fun b7 hb7 => ?_
  (repeat first | refine HReg.step ?_ | refine HCode.step ?_)
  refine store_rec (x := r) (ap := p4) (cp := d4) (ak := k4) (ck := c4) (OwnRow.lit (upd_same _ _ _) rfl) rfl fun H17 o17 u17 => ?_
  have u17 : Upd [] H16 H17 := Upd.drop (Upd.new hb7 _) u17 (fun q hq => by rw [List.mem_singleton.1 hq]; exact hb7)
  have u1317 := (ul.trans um).trans (u16.trans u17)
  (repeat first | refine HReg.step ?_ | refine HCode.step ?_)
  refine HCall.mk ⟨Try.f19, Try.func19, by rfl, by rfl⟩ ?_
  refine parse_t (oF.upd u1317 (Off.nil _)).rows rfl hcF (by omega) fun p5 d5 k5 c5 H18 n18 u18 => ?_
  rw [hpa] at n18 ⊢
  (repeat first | refine HReg.step ?_ | refine HCode.step ?_)
  refine HNew.mk fun b8 hb8 => ?_
  (repeat first | refine HReg.step ?_ | refine HCode.step ?_)
  refine store_rec (x := r) (ap := p5) (cp := d5) (ak := k5) (ck := c5) (OwnRow.lit (upd_same _ _ _) rfl) rfl fun H19 o19 u19 => ?_
  have u19 : Upd [] H18 H19 := Upd.drop (Upd.new hb8 _) u19 (fun q hq => by rw [List.mem_singleton.1 hq]; exact hb8)
  have rs : RecsNew H7 H19 [⟨r, p0, d0, k0, c0⟩, ⟨s, p1, d1, k1, c1⟩, ⟨r, p2, d2, k2, c2⟩, ⟨s, p3, d3, k3, c3⟩, ⟨r, p4, d4, k4, c4⟩, ⟨r, p5, d5, k5, c5⟩] := by
    have r1 : RecsNew H7 H15 [⟨r, p0, d0, k0, c0⟩, ⟨s, p1, d1, k1, c1⟩, ⟨r, p2, d2, k2, c2⟩, ⟨s, p3, d3, k3, c3⟩] := RecsNew.join (RecsNew.join (RecsNew.nil H7 H13) (u712.trans mK.upd) ul nl) (u712.trans (mK.upd.trans ul)) um nm
    have r2 := RecsNew.add (q := ⟨r, p4, d4, k4, c4⟩) r1 (u712.trans (mK.upd.trans (ul.trans um))) (u16.trans u17) (n16.upd0 u17)
    exact RecsNew.add (q := ⟨r, p5, d5, k5, c5⟩) r2 (u712.trans (mK.upd.trans u1317)) (u18.trans u19) (n18.upd0 u19)
  have st : St H7 [.slice aA (8 + (pay r).length) cA, .slice aC (8 + (pay s).length) cC, .slice aB (8 + (pay r).length) cB, .slice aF F.length cF, .slice aK F.length cK] [frameR (pay r), frameR (pay s), frameR (pay r), F, F] ⟨r, p0, d0, k0, c0⟩ ⟨s, p1, d1, k1, c1⟩ ⟨r, p2, d2, k2, c2⟩ ⟨s, p3, d3, k3, c3⟩ ⟨r, p4, d4, k4, c4⟩ ⟨r, p5, d5, k5, c5⟩ al am cl cm b7 b8 H19 :=
    ⟨g2.step0 (u1317.trans (u18.trans u19)), rs, ol.upd ((um.trans (u16.trans u17)).trans (u18.trans u19)) (Off.nil _), om.upd ((u16.trans u17).trans (u18.trans u19)) (Off.nil _), o17.upd (u18.trans u19) (Off.nil _), o19⟩
  clear rs g1 g2 g3 nl nm n16 n18 ol om o17 o19 oF mA mB mC mF mK
  obtain ⟨gF, rfl⟩ := st.addr (idx := 3) rfl (by omega)
  generalize hP : (fun ls H => St H7 [.slice aA (8 + (pay r).length) cA, .slice aC (8 + (pay s).length) cC, .slice aB (8 + (pay r).length) cB, .slice (some ⟨gF, 0, none⟩) F.length cF, .slice aK F.length cK] ls ⟨r, p0, d0, k0, c0⟩ ⟨s, p1, d1, k1, c1⟩ ⟨r, p2, d2, k2, c2⟩ ⟨s, p3, d3, k3, c3⟩ ⟨r, p4, d4, k4, c4⟩ ⟨r, p5, d5, k5, c5⟩ al am cl cm b7 b8 H) = P
  ((repeat refine HReg.step ?_); first | (show HCode _ _ _ (Code.seq (Code.seq (Code.region _ _ _) (Code.block _ _)) _) _ _ _; refine hcutC (a := Code.seq (Code.region _ _ _) (Code.block _ _)) [25, 112, 113, 114, 115, 116, 117, 118, 119, 120] [] (FillJ P [frameR (pay r), frameR (pay s), frameR (pay r), F, F] 3 F 238) rfl (by repeat' first | exact Resp.retD | exact Resp1.valuesK | refine Resp.blockD ?_ | refine Resp.thenD ?_ ?_ | refine Resp.hcode ?_) ?_ ?_) | (refine HCode.step ?_; (repeat refine HReg.step ?_); first | (show HCode _ _ _ (Code.seq (Code.seq (Code.region _ _ _) (Code.block _ _)) _) _ _ _; refine hcutC (a := Code.seq (Code.region _ _ _) (Code.block _ _)) [25, 112, 113, 114, 115, 116, 117, 118, 119, 120] [] (FillJ P [frameR (pay r), frameR (pay s), frameR (pay r), F, F] 3 F 238) rfl (by repeat' first | exact Resp.retD | exact Resp1.valuesK | refine Resp.blockD ?_ | refine Resp.thenD ?_ ?_ | refine Resp.hcode ?_) ?_ ?_) | (refine HCode.step ?_; (repeat refine HReg.step ?_); first | (show HCode _ _ _ (Code.seq (Code.seq (Code.region _ _ _) (Code.block _ _)) _) _ _ _; refine hcutC (a := Code.seq (Code.region _ _ _) (Code.block _ _)) [25, 112, 113, 114, 115, 116, 117, 118, 119, 120] [] (FillJ P [frameR (pay r), frameR (pay s), frameR (pay r), F, F] 3 F 238) rfl (by repeat' first | exact Resp.retD | exact Resp1.valuesK | refine Resp.blockD ?_ | refine Resp.thenD ?_ ?_ | refine Resp.hcode ?_) ?_ ?_) | (refine HCode.step ?_; (repeat refine HReg.step ?_); first | (show HCode _ _ _ (Code.seq (Code.seq (Code.region _ _ _) (Code.block _ _)) _) _ _ _; refine hcutC (a := Code.seq (Code.region _ _ _) (Code.block _ _)) [25, 112, 113, 114, 115, 116, 117, 118, 119, 120] [] (FillJ P [frameR (pay r), frameR (pay s), frameR (pay r), F, F] 3 F 238) rfl (by repeat' first | exact Resp.retD | exact Resp1.valuesK | refine Resp.blockD ?_ | refine Resp.thenD ?_ ?_ | refine Resp.hcode ?_) ?_ ?_) | (refine HCode.step ?_; (repeat refine HReg.step ?_); first | (show HCode _ _ _ (Code.seq (Code.seq (Code.region _ _ _) (Code.block _ _)) _) _ _ _; refine hcutC (a := Code.seq (Code.region _ _ _) (Code.block _ _)) [25, 112, 113, 114, 115, 116, 117, 118, 119, 120] [] (FillJ P [frameR (pay r), frameR (pay s), frameR (pay r), F, F] 3 F 238) rfl (by repeat' first | exact Resp.retD | exact Resp1.valuesK | refine Resp.blockD ?_ | refine Resp.thenD ?_ ?_ | refine Resp.hcode ?_) ?_ ?_) | (refine HCode.step ?_; (repeat refine HReg.step ?_); first | (show HCode _ _ _ (Code.seq (Code.seq (Code.region _ _ _) (Code.block _ _)) _) _ _ _; refine hcutC (a := Code.seq (Code.region _ _ _) (Code.block _ _)) [25, 112, 113, 114, 115, 116, 117, 118, 119, 120] [] (FillJ P [frameR (pay r), frameR (pay s), frameR (pay r), F, F] 3 F 238) rfl (by repeat' first | exact Resp.retD | exact Resp1.valuesK | refine Resp.blockD ?_ | refine Resp.thenD ?_ ?_ | refine Resp.hcode ?_) ?_ ?_) | (refine HCode.step ?_; (repeat refine HReg.step ?_); first | (show HCode _ _ _ (Code.seq (Code.seq (Code.region _ _ _) (Code.block _ _)) _) _ _ _; refine hcutC (a := Code.seq (Code.region _ _ _) (Code.block _ _)) [25, 112, 113, 114, 115, 116, 117, 118, 119, 120] [] (FillJ P [frameR (pay r), frameR (pay s), frameR (pay r), F, F] 3 F 238) rfl (by repeat' first | exact Resp.retD | exact Resp1.valuesK | refine Resp.blockD ?_ | refine Resp.thenD ?_ ?_ | refine Resp.hcode ?_) ?_ ?_) | (refine HCode.step ?_; (repeat refine HReg.step ?_); first | (show HCode _ _ _ (Code.seq (Code.seq (Code.region _ _ _) (Code.block _ _)) _) _ _ _; refine hcutC (a := Code.seq (Code.region _ _ _) (Code.block _ _)) [25, 112, 113, 114, 115, 116, 117, 118, 119, 120] [] (FillJ P [frameR (pay r), frameR (pay s), frameR (pay r), F, F] 3 F 238) rfl (by repeat' first | exact Resp.retD | exact Resp1.valuesK | refine Resp.blockD ?_ | refine Resp.thenD ?_ ?_ | refine Resp.hcode ?_) ?_ ?_) | (refine HCode.step ?_; (repeat refine HReg.step ?_); first | (show HCode _ _ _ (Code.seq (Code.seq (Code.region _ _ _) (Code.block _ _)) _) _ _ _; refine hcutC (a := Code.seq (Code.region _ _ _) (Code.block _ _)) [25, 112, 113, 114, 115, 116, 117, 118, 119, 120] [] (FillJ P [frameR (pay r), frameR (pay s), frameR (pay r), F, F] 3 F 238) rfl (by repeat' first | exact Resp.retD | exact Resp1.valuesK | refine Resp.blockD ?_ | refine Resp.thenD ?_ ?_ | refine Resp.hcode ?_) ?_ ?_) | (refine HCode.step ?_; (repeat refine HReg.step ?_); first | (show HCode _ _ _ (Code.seq (Code.seq (Code.region _ _ _) (Code.block _ _)) _) _ _ _; refine hcutC (a := Code.seq (Code.region _ _ _) (Code.block _ _)) [25, 112, 113, 114, 115, 116, 117, 118, 119, 120] [] (FillJ P [frameR (pay r), frameR (pay s), frameR (pay r), F, F] 3 F 238) rfl (by repeat' first | exact Resp.retD | exact Resp1.valuesK | refine Resp.blockD ?_ | refine Resp.thenD ?_ ?_ | refine Resp.hcode ?_) ?_ ?_) | (refine HCode.step ?_; (repeat refine HReg.step ?_); first | (show HCode _ _ _ (Code.seq (Code.seq (Code.region _ _ _) (Code.block _ _)) _) _ _ _; refine hcutC (a := Code.seq (Code.region _ _ _) (Code.block _ _)) [25, 112, 113, 114, 115, 116, 117, 118, 119, 120] [] (FillJ P [frameR (pay r), frameR (pay s), frameR (pay r), F, F] 3 F 238) rfl (by repeat' first | exact Resp.retD | exact Resp1.valuesK | refine Resp.blockD ?_ | refine Resp.thenD ?_ ?_ | refine Resp.hcode ?_) ?_ ?_) | (refine HCode.step ?_; (repeat refine HReg.step ?_); first | (show HCode _ _ _ (Code.seq (Code.seq (Code.region _ _ _) (Code.block _ _)) _) _ _ _; refine hcutC (a := Code.seq (Code.region _ _ _) (Code.block _ _)) [25, 112, 113, 114, 115, 116, 117, 118, 119, 120] [] (FillJ P [frameR (pay r), frameR (pay s), frameR (pay r), F, F] 3 F 238) rfl (by repeat' first | exact Resp.retD | exact Resp1.valuesK | refine Resp.blockD ?_ | refine Resp.thenD ?_ ?_ | refine Resp.hcode ?_) ?_ ?_) | (refine HCode.step ?_; (repeat refine HReg.step ?_); first | (show HCode _ _ _ (Code.seq (Code.seq (Code.region _ _ _) (Code.block _ _)) _) _ _ _; refine hcutC (a := Code.seq (Code.region _ _ _) (Code.block _ _)) [25, 112, 113, 114, 115, 116, 117, 118, 119, 120] [] (FillJ P [frameR (pay r), frameR (pay s), frameR (pay r), F, F] 3 F 238) rfl (by repeat' first | exact Resp.retD | exact Resp1.valuesK | refine Resp.blockD ?_ | refine Resp.thenD ?_ ?_ | refine Resp.hcode ?_) ?_ ?_) | (refine HCode.step ?_; (repeat refine HReg.step ?_); first | (show HCode _ _ _ (Code.seq (Code.seq (Code.region _ _ _) (Code.block _ _)) _) _ _ _; refine hcutC (a := Code.seq (Code.region _ _ _) (Code.block _ _)) [25, 112, 113, 114, 115, 116, 117, 118, 119, 120] [] (FillJ P [frameR (pay r), frameR (pay s), frameR (pay r), F, F] 3 F 238) rfl (by repeat' first | exact Resp.retD | exact Resp1.valuesK | refine Resp.blockD ?_ | refine Resp.thenD ?_ ?_ | refine Resp.hcode ?_) ?_ ?_) | (refine HCode.step ?_; (repeat refine HReg.step ?_); first | (show HCode _ _ _ (Code.seq (Code.seq (Code.region _ _ _) (Code.block _ _)) _) _ _ _; refine hcutC (a := Code.seq (Code.region _ _ _) (Code.block _ _)) [25, 112, 113, 114, 115, 116, 117, 118, 119, 120] [] (FillJ P [frameR (pay r), frameR (pay s), frameR (pay r), F, F] 3 F 238) rfl (by repeat' first | exact Resp.retD | exact Resp1.valuesK | refine Resp.blockD ?_ | refine Resp.thenD ?_ ?_ | refine Resp.hcode ?_) ?_ ?_) | (refine HCode.step ?_; (repeat refine HReg.step ?_); first | (show HCode _ _ _ (Code.seq (Code.seq (Code.region _ _ _) (Code.block _ _)) _) _ _ _; refine hcutC (a := Code.seq (Code.region _ _ _) (Code.block _ _)) [25, 112, 113, 114, 115, 116, 117, 118, 119, 120] [] (FillJ P [frameR (pay r), frameR (pay s), frameR (pay r), F, F] 3 F 238) rfl (by repeat' first | exact Resp.retD | exact Resp1.valuesK | refine Resp.blockD ?_ | refine Resp.thenD ?_ ?_ | refine Resp.hcode ?_) ?_ ?_) | (refine HCode.step ?_; (repeat refine HReg.step ?_); first | (show HCode _ _ _ (Code.seq (Code.seq (Code.region _ _ _) (Code.block _ _)) _) _ _ _; refine hcutC (a := Code.seq (Code.region _ _ _) (Code.block _ _)) [25, 112, 113, 114, 115, 116, 117, 118, 119, 120] [] (FillJ P [frameR (pay r), frameR (pay s), frameR (pay r), F, F] 3 F 238) rfl (by repeat' first | exact Resp.retD | exact Resp1.valuesK | refine Resp.blockD ?_ | refine Resp.thenD ?_ ?_ | refine Resp.hcode ?_) ?_ ?_) | (refine HCode.step ?_; (repeat refine HReg.step ?_); first | (show HCode _ _ _ (Code.seq (Code.seq (Code.region _ _ _) (Code.block _ _)) _) _ _ _; refine hcutC (a := Code.seq (Code.region _ _ _) (Code.block _ _)) [25, 112, 113, 114, 115, 116, 117, 118, 119, 120] [] (FillJ P [frameR (pay r), frameR (pay s), frameR (pay r), F, F] 3 F 238) rfl (by repeat' first | exact Resp.retD | exact Resp1.valuesK | refine Resp.blockD ?_ | refine Resp.thenD ?_ ?_ | refine Resp.hcode ?_) ?_ ?_) | (refine HCode.step ?_; (repeat refine HReg.step ?_); first | (show HCode _ _ _ (Code.seq (Code.seq (Code.region _ _ _) (Code.block _ _)) _) _ _ _; refine hcutC (a := Code.seq (Code.region _ _ _) (Code.block _ _)) [25, 112, 113, 114, 115, 116, 117, 118, 119, 120] [] (FillJ P [frameR (pay r), frameR (pay s), frameR (pay r), F, F] 3 F 238) rfl (by repeat' first | exact Resp.retD | exact Resp1.valuesK | refine Resp.blockD ?_ | refine Resp.thenD ?_ ?_ | refine Resp.hcode ?_) ?_ ?_) | (refine HCode.step ?_; (repeat refine HReg.step ?_); first | (show HCode _ _ _ (Code.seq (Code.seq (Code.region _ _ _) (Code.block _ _)) _) _ _ _; refine hcutC (a := Code.seq (Code.region _ _ _) (Code.block _ _)) [25, 112, 113, 114, 115, 116, 117, 118, 119, 120] [] (FillJ P [frameR (pay r), frameR (pay s), frameR (pay r), F, F] 3 F 238) rfl (by repeat' first | exact Resp.retD | exact Resp1.valuesK | refine Resp.blockD ?_ | refine Resp.thenD ?_ ?_ | refine Resp.hcode ?_) ?_ ?_) | (refine HCode.step ?_; (repeat refine HReg.step ?_); (show HCode _ _ _ (Code.seq (Code.seq (Code.region _ _ _) (Code.block _ _)) _) _ _ _; refine hcutC (a := Code.seq (Code.region _ _ _) (Code.block _ _)) [25, 112, 113, 114, 115, 116, 117, 118, 119, 120] [] (FillJ P [frameR (pay r), frameR (pay s), frameR (pay r), F, F] 3 F 238) rfl (by repeat' first | exact Resp.retD | exact Resp1.valuesK | refine Resp.blockD ?_ | refine Resp.thenD ?_ ?_ | refine Resp.hcode ?_) ?_ ?_))))))))))))))))))))))
  · (repeat first | refine HReg.step ?_ | refine HCode.step ?_)
    refine hloopC [25, 112, 113, 114, 115, 116, 117, 118, 119, 120] [25] (FillInv P [frameR (pay r), frameR (pay s), frameR (pay r), F, F] 3 F 238 F.length) rfl (by repeat' first | exact Resp.retD | exact Resp1.valuesK | refine Resp.blockD ?_ | refine Resp.thenD ?_ ?_ | refine Resp.hcode ?_) ?_ ?_
    · exact ⟨F.length, FillInv.mk ⟨0, rfl, rfl, by rw [← hP]; exact st⟩⟩
    rintro m _ fe H20 ⟨i, rfl, hmi, s20⟩
    rw [← hP] at s20
    have wi : wr .i64 ((i : Int) + 1) = ((i + 1 : Nat) : Int) := by rw [wr_i64 (by omega) (by omega)]; omega
    (repeat first | refine HReg.step ?_ | refine HCode.step ?_)
    refine hif (fun h1 => ?_) (fun h1 => ?_)
    · have h1 := ltB_true.1 h1
      (repeat first | refine HReg.step ?_ | refine HCode.step ?_)
      refine HReq.mk ⟨by omega, by omega⟩ ?_
      (repeat first | refine HReg.step ?_ | refine HCode.step ?_)
      refine s20.fill (idx := 3) rfl (by simp) (by omega) fun H21 s21 => ?_
      (repeat first | refine HReg.step ?_ | refine HCode.step ?_)
      rw [wi]
      exact ⟨m - 1, by omega, FillInv.mk ⟨i + 1, rfl, by omega, by rw [← hP]; exact s21⟩⟩
    · have h1 := ltB_false.1 h1
      (repeat first | refine HReg.step ?_ | refine HCode.step ?_)
      obtain rfl : i = F.length := by omega
      rw [List.drop_length, List.append_nil] at s20
      exact FillJ.mk ⟨rfl, by rw [← hP]; exact s20⟩
  rintro _ fe1 H20 ⟨rfl, st⟩
  rw [← hP] at st
  simp only [List.set] at st
  have u20 := st.g.upd
  have ri20 := ri.upd0 u20
  have si20 := si.upd0 u20
  have o520 := o5.upd u20 (Off.nil _)
  have o620 := o6.upd u20 (Off.nil _)
  have hin : ∀ q ∈ [(⟨r, p0, d0, k0, c0⟩ : PRec), ⟨s, p1, d1, k1, c1⟩, ⟨r, p2, d2, k2, c2⟩, ⟨s, p3, d3, k3, c3⟩, ⟨r, p4, d4, k4, c4⟩, ⟨r, p5, d5, k5, c5⟩], RecIn H20 q.r q.ap q.ak := fun q hq => (st.rs.each q hq).recIn
  have sl := st.l
  have sm := st.m
  have sp := st.p
  have sq := st.q
  obtain ⟨gl, rfl⟩ := sl.addr (by decide)
  obtain ⟨gm, rfl⟩ := sm.addr (by decide)
  (repeat first | refine HReg.step ?_ | refine HCode.step ?_)
  rw [eqB_self (F.length : Int)]
  (repeat first | refine HReg.step ?_ | refine HCode.step ?_)
  rw [eqB_self 0]
  (repeat first | refine HReg.step ?_ | refine HCode.step ?_)
  rw [eqB_self 0]
  (repeat first | refine HReg.step ?_ | refine HCode.step ?_)
  rw [show eqB ((2 : Nat) : Int) 2 = true from eqB_self 2]
  (repeat first | refine HReg.step ?_ | refine HCode.step ?_)
  rw [show eqB ((2 : Nat) : Int) 2 = true from eqB_self 2]
  (repeat first | refine HReg.step ?_ | refine HCode.step ?_)
  refine HReq.mk ⟨by decide, by decide⟩ ?_
  (repeat first | refine HReg.step ?_ | refine HCode.step ?_)
  refine HLoadN_rec (i := 0) sl.rows rfl ?_
  (repeat first | refine HReg.step ?_ | refine HCode.step ?_)
  refine HLoadN_row o520.rows rfl ?_
  (repeat first | refine HReg.step ?_ | refine HCode.step ?_)
  refine HCall.mk ⟨Try.f21, Try.func21, by rfl, by rfl⟩ ?_
  refine sameR_t (r := r) (hin ⟨r, p0, d0, k0, c0⟩ (by simp)) ri20 fun H21 w21 => ?_
  have hin : ∀ q ∈ [(⟨r, p0, d0, k0, c0⟩ : PRec), ⟨s, p1, d1, k1, c1⟩, ⟨r, p2, d2, k2, c2⟩, ⟨s, p3, d3, k3, c3⟩, ⟨r, p4, d4, k4, c4⟩, ⟨r, p5, d5, k5, c5⟩], RecIn H21 q.r q.ap q.ak := fun q hq => (hin q hq).upd0 w21
  have ri20 := ri20.upd0 w21
  have si20 := si20.upd0 w21
  have o520 := o520.upd w21 (Off.nil _)
  have o620 := o620.upd w21 (Off.nil _)
  have st := st.upd0 w21
  have sl := st.l
  have sm := st.m
  have sp := st.p
  have sq := st.q
  (repeat first | refine HReg.step ?_ | refine HCode.step ?_)
  refine HReq.mk ⟨by decide, by decide⟩ ?_
  (repeat first | refine HReg.step ?_ | refine HCode.step ?_)
  refine HLoadN_rec (i := 1) sl.rows rfl ?_
  (repeat first | refine HReg.step ?_ | refine HCode.step ?_)
  refine HLoadN_row o620.rows rfl ?_
  (repeat first | refine HReg.step ?_ | refine HCode.step ?_)
  refine HCall.mk ⟨Try.f21, Try.func21, by rfl, by rfl⟩ ?_
  refine sameR_t (r := s) (hin ⟨s, p1, d1, k1, c1⟩ (by simp)) si20 fun H22 w22 => ?_
  have hin : ∀ q ∈ [(⟨r, p0, d0, k0, c0⟩ : PRec), ⟨s, p1, d1, k1, c1⟩, ⟨r, p2, d2, k2, c2⟩, ⟨s, p3, d3, k3, c3⟩, ⟨r, p4, d4, k4, c4⟩, ⟨r, p5, d5, k5, c5⟩], RecIn H22 q.r q.ap q.ak := fun q hq => (hin q hq).upd0 w22
  have ri20 := ri20.upd0 w22
  have si20 := si20.upd0 w22
  have o520 := o520.upd w22 (Off.nil _)
  have o620 := o620.upd w22 (Off.nil _)
  have st := st.upd0 w22
  have sl := st.l
  have sm := st.m
  have sp := st.p
  have sq := st.q
  (repeat first | refine HReg.step ?_ | refine HCode.step ?_)
  refine HReq.mk ⟨by decide, by decide⟩ ?_
  (repeat first | refine HReg.step ?_ | refine HCode.step ?_)
  refine HLoadN_rec (i := 0) sm.rows rfl ?_
  (repeat first | refine HReg.step ?_ | refine HCode.step ?_)
  refine HLoadN_row o520.rows rfl ?_
  (repeat first | refine HReg.step ?_ | refine HCode.step ?_)
  refine HCall.mk ⟨Try.f21, Try.func21, by rfl, by rfl⟩ ?_
  refine sameR_t (r := r) (hin ⟨r, p2, d2, k2, c2⟩ (by simp)) ri20 fun H23 w23 => ?_
  have hin : ∀ q ∈ [(⟨r, p0, d0, k0, c0⟩ : PRec), ⟨s, p1, d1, k1, c1⟩, ⟨r, p2, d2, k2, c2⟩, ⟨s, p3, d3, k3, c3⟩, ⟨r, p4, d4, k4, c4⟩, ⟨r, p5, d5, k5, c5⟩], RecIn H23 q.r q.ap q.ak := fun q hq => (hin q hq).upd0 w23
  have ri20 := ri20.upd0 w23
  have si20 := si20.upd0 w23
  have o520 := o520.upd w23 (Off.nil _)
  have o620 := o620.upd w23 (Off.nil _)
  have st := st.upd0 w23
  have sl := st.l
  have sm := st.m
  have sp := st.p
  have sq := st.q
  (repeat first | refine HReg.step ?_ | refine HCode.step ?_)
  refine HReq.mk ⟨by decide, by decide⟩ ?_
  (repeat first | refine HReg.step ?_ | refine HCode.step ?_)
  refine HLoadN_rec (i := 1) sm.rows rfl ?_
  (repeat first | refine HReg.step ?_ | refine HCode.step ?_)
  refine HLoadN_row o620.rows rfl ?_
  (repeat first | refine HReg.step ?_ | refine HCode.step ?_)
  refine HCall.mk ⟨Try.f21, Try.func21, by rfl, by rfl⟩ ?_
  refine sameR_t (r := s) (hin ⟨s, p3, d3, k3, c3⟩ (by simp)) si20 fun H24 w24 => ?_
  have hin : ∀ q ∈ [(⟨r, p0, d0, k0, c0⟩ : PRec), ⟨s, p1, d1, k1, c1⟩, ⟨r, p2, d2, k2, c2⟩, ⟨s, p3, d3, k3, c3⟩, ⟨r, p4, d4, k4, c4⟩, ⟨r, p5, d5, k5, c5⟩], RecIn H24 q.r q.ap q.ak := fun q hq => (hin q hq).upd0 w24
  have ri20 := ri20.upd0 w24
  have si20 := si20.upd0 w24
  have o520 := o520.upd w24 (Off.nil _)
  have o620 := o620.upd w24 (Off.nil _)
  have st := st.upd0 w24
  have sl := st.l
  have sm := st.m
  have sp := st.p
  have sq := st.q
  (repeat first | refine HReg.step ?_ | refine HCode.step ?_)
  refine HLoadN_row sp.rows rfl ?_
  (repeat first | refine HReg.step ?_ | refine HCode.step ?_)
  refine HLoadN_row o520.rows rfl ?_
  (repeat first | refine HReg.step ?_ | refine HCode.step ?_)
  refine HCall.mk ⟨Try.f21, Try.func21, by rfl, by rfl⟩ ?_
  refine sameR_t (r := r) (hin ⟨r, p4, d4, k4, c4⟩ (by simp)) ri20 fun H25 w25 => ?_
  have hin : ∀ q ∈ [(⟨r, p0, d0, k0, c0⟩ : PRec), ⟨s, p1, d1, k1, c1⟩, ⟨r, p2, d2, k2, c2⟩, ⟨s, p3, d3, k3, c3⟩, ⟨r, p4, d4, k4, c4⟩, ⟨r, p5, d5, k5, c5⟩], RecIn H25 q.r q.ap q.ak := fun q hq => (hin q hq).upd0 w25
  have ri20 := ri20.upd0 w25
  have si20 := si20.upd0 w25
  have o520 := o520.upd w25 (Off.nil _)
  have o620 := o620.upd w25 (Off.nil _)
  have st := st.upd0 w25
  have sl := st.l
  have sm := st.m
  have sp := st.p
  have sq := st.q
  (repeat first | refine HReg.step ?_ | refine HCode.step ?_)
  refine HLoadN_row sq.rows rfl ?_
  (repeat first | refine HReg.step ?_ | refine HCode.step ?_)
  refine HLoadN_row o520.rows rfl ?_
  (repeat first | refine HReg.step ?_ | refine HCode.step ?_)
  refine HCall.mk ⟨Try.f21, Try.func21, by rfl, by rfl⟩ ?_
  refine sameR_t (r := r) (hin ⟨r, p5, d5, k5, c5⟩ (by simp)) ri20 fun H26 w26 => ?_
  have hin : ∀ q ∈ [(⟨r, p0, d0, k0, c0⟩ : PRec), ⟨s, p1, d1, k1, c1⟩, ⟨r, p2, d2, k2, c2⟩, ⟨s, p3, d3, k3, c3⟩, ⟨r, p4, d4, k4, c4⟩, ⟨r, p5, d5, k5, c5⟩], RecIn H26 q.r q.ap q.ak := fun q hq => (hin q hq).upd0 w26
  have ri20 := ri20.upd0 w26
  have si20 := si20.upd0 w26
  have o520 := o520.upd w26 (Off.nil _)
  have o620 := o620.upd w26 (Off.nil _)
  have st := st.upd0 w26
  have sl := st.l
  have sm := st.m
  have sp := st.p
  have sq := st.q
  obtain ⟨gA, rfl⟩ := st.addr (idx := 0) rfl (by omega)
  obtain ⟨gC, rfl⟩ := st.addr (idx := 1) rfl (by omega)
  obtain ⟨gB, rfl⟩ := st.addr (idx := 2) rfl (by omega)
  clear hP sl sm sp sq hin ri20 si20 o520 o620 w21 w22 w23 w24 w25 w26
  generalize hP : (fun ls H => St H7 [.slice (some ⟨gA, 0, none⟩) (8 + (pay r).length) cA, .slice (some ⟨gC, 0, none⟩) (8 + (pay s).length) cC, .slice (some ⟨gB, 0, none⟩) (8 + (pay r).length) cB, .slice (some ⟨gF, 0, none⟩) F.length cF, .slice aK F.length cK] ls ⟨r, p0, d0, k0, c0⟩ ⟨s, p1, d1, k1, c1⟩ ⟨r, p2, d2, k2, c2⟩ ⟨s, p3, d3, k3, c3⟩ ⟨r, p4, d4, k4, c4⟩ ⟨r, p5, d5, k5, c5⟩ (some ⟨gl, 0, none⟩) (some ⟨gm, 0, none⟩) cl cm b7 b8 H) = P
  ((repeat refine HReg.step ?_); first | (show HCode _ _ _ (Code.seq (Code.seq (Code.region _ _ _) (Code.block _ _)) _) _ _ _; refine hcutC (a := Code.seq (Code.region _ _ _) (Code.block _ _)) [26, 187, 188, 189, 190, 191, 192, 193, 194, 195] [] (FillJ P [frameR (pay r), frameR (pay s), frameR (pay r), List.replicate F.length 238, F] 0 (frameR (pay r)) 1) rfl (by repeat' first | exact Resp.retD | exact Resp1.valuesK | refine Resp.blockD ?_ | refine Resp.thenD ?_ ?_ | refine Resp.hcode ?_) ?_ ?_) | (refine HCode.step ?_; (repeat refine HReg.step ?_); first | (show HCode _ _ _ (Code.seq (Code.seq (Code.region _ _ _) (Code.block _ _)) _) _ _ _; refine hcutC (a := Code.seq (Code.region _ _ _) (Code.block _ _)) [26, 187, 188, 189, 190, 191, 192, 193, 194, 195] [] (FillJ P [frameR (pay r), frameR (pay s), frameR (pay r), List.replicate F.length 238, F] 0 (frameR (pay r)) 1) rfl (by repeat' first | exact Resp.retD | exact Resp1.valuesK | refine Resp.blockD ?_ | refine Resp.thenD ?_ ?_ | refine Resp.hcode ?_) ?_ ?_) | (refine HCode.step ?_; (repeat refine HReg.step ?_); first | (show HCode _ _ _ (Code.seq (Code.seq (Code.region _ _ _) (Code.block _ _)) _) _ _ _; refine hcutC (a := Code.seq (Code.region _ _ _) (Code.block _ _)) [26, 187, 188, 189, 190, 191, 192, 193, 194, 195] [] (FillJ P [frameR (pay r), frameR (pay s), frameR (pay r), List.replicate F.length 238, F] 0 (frameR (pay r)) 1) rfl (by repeat' first | exact Resp.retD | exact Resp1.valuesK | refine Resp.blockD ?_ | refine Resp.thenD ?_ ?_ | refine Resp.hcode ?_) ?_ ?_) | (refine HCode.step ?_; (repeat refine HReg.step ?_); first | (show HCode _ _ _ (Code.seq (Code.seq (Code.region _ _ _) (Code.block _ _)) _) _ _ _; refine hcutC (a := Code.seq (Code.region _ _ _) (Code.block _ _)) [26, 187, 188, 189, 190, 191, 192, 193, 194, 195] [] (FillJ P [frameR (pay r), frameR (pay s), frameR (pay r), List.replicate F.length 238, F] 0 (frameR (pay r)) 1) rfl (by repeat' first | exact Resp.retD | exact Resp1.valuesK | refine Resp.blockD ?_ | refine Resp.thenD ?_ ?_ | refine Resp.hcode ?_) ?_ ?_) | (refine HCode.step ?_; (repeat refine HReg.step ?_); first | (show HCode _ _ _ (Code.seq (Code.seq (Code.region _ _ _) (Code.block _ _)) _) _ _ _; refine hcutC (a := Code.seq (Code.region _ _ _) (Code.block _ _)) [26, 187, 188, 189, 190, 191, 192, 193, 194, 195] [] (FillJ P [frameR (pay r), frameR (pay s), frameR (pay r), List.replicate F.length 238, F] 0 (frameR (pay r)) 1) rfl (by repeat' first | exact Resp.retD | exact Resp1.valuesK | refine Resp.blockD ?_ | refine Resp.thenD ?_ ?_ | refine Resp.hcode ?_) ?_ ?_) | (refine HCode.step ?_; (repeat refine HReg.step ?_); first | (show HCode _ _ _ (Code.seq (Code.seq (Code.region _ _ _) (Code.block _ _)) _) _ _ _; refine hcutC (a := Code.seq (Code.region _ _ _) (Code.block _ _)) [26, 187, 188, 189, 190, 191, 192, 193, 194, 195] [] (FillJ P [frameR (pay r), frameR (pay s), frameR (pay r), List.replicate F.length 238, F] 0 (frameR (pay r)) 1) rfl (by repeat' first | exact Resp.retD | exact Resp1.valuesK | refine Resp.blockD ?_ | refine Resp.thenD ?_ ?_ | refine Resp.hcode ?_) ?_ ?_) | (refine HCode.step ?_; (repeat refine HReg.step ?_); first | (show HCode _ _ _ (Code.seq (Code.seq (Code.region _ _ _) (Code.block _ _)) _) _ _ _; refine hcutC (a := Code.seq (Code.region _ _ _) (Code.block _ _)) [26, 187, 188, 189, 190, 191, 192, 193, 194, 195] [] (FillJ P [frameR (pay r), frameR (pay s), frameR (pay r), List.replicate F.length 238, F] 0 (frameR (pay r)) 1) rfl (by repeat' first | exact Resp.retD | exact Resp1.valuesK | refine Resp.blockD ?_ | refine Resp.thenD ?_ ?_ | refine Resp.hcode ?_) ?_ ?_) | (refine HCode.step ?_; (repeat refine HReg.step ?_); first | (show HCode _ _ _ (Code.seq (Code.seq (Code.region _ _ _) (Code.block _ _)) _) _ _ _; refine hcutC (a := Code.seq (Code.region _ _ _) (Code.block _ _)) [26, 187, 188, 189, 190, 191, 192, 193, 194, 195] [] (FillJ P [frameR (pay r), frameR (pay s), frameR (pay r), List.replicate F.length 238, F] 0 (frameR (pay r)) 1) rfl (by repeat' first | exact Resp.retD | exact Resp1.valuesK | refine Resp.blockD ?_ | refine Resp.thenD ?_ ?_ | refine Resp.hcode ?_) ?_ ?_) | (refine HCode.step ?_; (repeat refine HReg.step ?_); first | (show HCode _ _ _ (Code.seq (Code.seq (Code.region _ _ _) (Code.block _ _)) _) _ _ _; refine hcutC (a := Code.seq (Code.region _ _ _) (Code.block _ _)) [26, 187, 188, 189, 190, 191, 192, 193, 194, 195] [] (FillJ P [frameR (pay r), frameR (pay s), frameR (pay r), List.replicate F.length 238, F] 0 (frameR (pay r)) 1) rfl (by repeat' first | exact Resp.retD | exact Resp1.valuesK | refine Resp.blockD ?_ | refine Resp.thenD ?_ ?_ | refine Resp.hcode ?_) ?_ ?_) | (refine HCode.step ?_; (repeat refine HReg.step ?_); first | (show HCode _ _ _ (Code.seq (Code.seq (Code.region _ _ _) (Code.block _ _)) _) _ _ _; refine hcutC (a := Code.seq (Code.region _ _ _) (Code.block _ _)) [26, 187, 188, 189, 190, 191, 192, 193, 194, 195] [] (FillJ P [frameR (pay r), frameR (pay s), frameR (pay r), List.replicate F.length 238, F] 0 (frameR (pay r)) 1) rfl (by repeat' first | exact Resp.retD | exact Resp1.valuesK | refine Resp.blockD ?_ | refine Resp.thenD ?_ ?_ | refine Resp.hcode ?_) ?_ ?_) | (refine HCode.step ?_; (repeat refine HReg.step ?_); first | (show HCode _ _ _ (Code.seq (Code.seq (Code.region _ _ _) (Code.block _ _)) _) _ _ _; refine hcutC (a := Code.seq (Code.region _ _ _) (Code.block _ _)) [26, 187, 188, 189, 190, 191, 192, 193, 194, 195] [] (FillJ P [frameR (pay r), frameR (pay s), frameR (pay r), List.replicate F.length 238, F] 0 (frameR (pay r)) 1) rfl (by repeat' first | exact Resp.retD | exact Resp1.valuesK | refine Resp.blockD ?_ | refine Resp.thenD ?_ ?_ | refine Resp.hcode ?_) ?_ ?_) | (refine HCode.step ?_; (repeat refine HReg.step ?_); first | (show HCode _ _ _ (Code.seq (Code.seq (Code.region _ _ _) (Code.block _ _)) _) _ _ _; refine hcutC (a := Code.seq (Code.region _ _ _) (Code.block _ _)) [26, 187, 188, 189, 190, 191, 192, 193, 194, 195] [] (FillJ P [frameR (pay r), frameR (pay s), frameR (pay r), List.replicate F.length 238, F] 0 (frameR (pay r)) 1) rfl (by repeat' first | exact Resp.retD | exact Resp1.valuesK | refine Resp.blockD ?_ | refine Resp.thenD ?_ ?_ | refine Resp.hcode ?_) ?_ ?_) | (refine HCode.step ?_; (repeat refine HReg.step ?_); first | (show HCode _ _ _ (Code.seq (Code.seq (Code.region _ _ _) (Code.block _ _)) _) _ _ _; refine hcutC (a := Code.seq (Code.region _ _ _) (Code.block _ _)) [26, 187, 188, 189, 190, 191, 192, 193, 194, 195] [] (FillJ P [frameR (pay r), frameR (pay s), frameR (pay r), List.replicate F.length 238, F] 0 (frameR (pay r)) 1) rfl (by repeat' first | exact Resp.retD | exact Resp1.valuesK | refine Resp.blockD ?_ | refine Resp.thenD ?_ ?_ | refine Resp.hcode ?_) ?_ ?_) | (refine HCode.step ?_; (repeat refine HReg.step ?_); first | (show HCode _ _ _ (Code.seq (Code.seq (Code.region _ _ _) (Code.block _ _)) _) _ _ _; refine hcutC (a := Code.seq (Code.region _ _ _) (Code.block _ _)) [26, 187, 188, 189, 190, 191, 192, 193, 194, 195] [] (FillJ P [frameR (pay r), frameR (pay s), frameR (pay r), List.replicate F.length 238, F] 0 (frameR (pay r)) 1) rfl (by repeat' first | exact Resp.retD | exact Resp1.valuesK | refine Resp.blockD ?_ | refine Resp.thenD ?_ ?_ | refine Resp.hcode ?_) ?_ ?_) | (refine HCode.step ?_; (repeat refine HReg.step ?_); first | (show HCode _ _ _ (Code.seq (Code.seq (Code.region _ _ _) (Code.block _ _)) _) _ _ _; refine hcutC (a := Code.seq (Code.region _ _ _) (Code.block _ _)) [26, 187, 188, 189, 190, 191, 192, 193, 194, 195] [] (FillJ P [frameR (pay r), frameR (pay s), frameR (pay r), List.replicate F.length 238, F] 0 (frameR (pay r)) 1) rfl (by repeat' first | exact Resp.retD | exact Resp1.valuesK | refine Resp.blockD ?_ | refine Resp.thenD ?_ ?_ | refine Resp.hcode ?_) ?_ ?_) | (refine HCode.step ?_; (repeat refine HReg.step ?_); first | (show HCode _ _ _ (Code.seq (Code.seq (Code.region _ _ _) (Code.block _ _)) _) _ _ _; refine hcutC (a := Code.seq (Code.region _ _ _) (Code.block _ _)) [26, 187, 188, 189, 190, 191, 192, 193, 194, 195] [] (FillJ P [frameR (pay r), frameR (pay s), frameR (pay r), List.replicate F.length 238, F] 0 (frameR (pay r)) 1) rfl (by repeat' first | exact Resp.retD | exact Resp1.valuesK | refine Resp.blockD ?_ | refine Resp.thenD ?_ ?_ | refine Resp.hcode ?_) ?_ ?_) | (refine HCode.step ?_; (repeat refine HReg.step ?_); first | (show HCode _ _ _ (Code.seq (Code.seq (Code.region _ _ _) (Code.block _ _)) _) _ _ _; refine hcutC (a := Code.seq (Code.region _ _ _) (Code.block _ _)) [26, 187, 188, 189, 190, 191, 192, 193, 194, 195] [] (FillJ P [frameR (pay r), frameR (pay s), frameR (pay r), List.replicate F.length 238, F] 0 (frameR (pay r)) 1) rfl (by repeat' first | exact Resp.retD | exact Resp1.valuesK | refine Resp.blockD ?_ | refine Resp.thenD ?_ ?_ | refine Resp.hcode ?_) ?_ ?_) | (refine HCode.step ?_; (repeat refine HReg.step ?_); first | (show HCode _ _ _ (Code.seq (Code.seq (Code.region _ _ _) (Code.block _ _)) _) _ _ _; refine hcutC (a := Code.seq (Code.region _ _ _) (Code.block _ _)) [26, 187, 188, 189, 190, 191, 192, 193, 194, 195] [] (FillJ P [frameR (pay r), frameR (pay s), frameR (pay r), List.replicate F.length 238, F] 0 (frameR (pay r)) 1) rfl (by repeat' first | exact Resp.retD | exact Resp1.valuesK | refine Resp.blockD ?_ | refine Resp.thenD ?_ ?_ | refine Resp.hcode ?_) ?_ ?_) | (refine HCode.step ?_; (repeat refine HReg.step ?_); first | (show HCode _ _ _ (Code.seq (Code.seq (Code.region _ _ _) (Code.block _ _)) _) _ _ _; refine hcutC (a := Code.seq (Code.region _ _ _) (Code.block _ _)) [26, 187, 188, 189, 190, 191, 192, 193, 194, 195] [] (FillJ P [frameR (pay r), frameR (pay s), frameR (pay r), List.replicate F.length 238, F] 0 (frameR (pay r)) 1) rfl (by repeat' first | exact Resp.retD | exact Resp1.valuesK | refine Resp.blockD ?_ | refine Resp.thenD ?_ ?_ | refine Resp.hcode ?_) ?_ ?_) | (refine HCode.step ?_; (repeat refine HReg.step ?_); first | (show HCode _ _ _ (Code.seq (Code.seq (Code.region _ _ _) (Code.block _ _)) _) _ _ _; refine hcutC (a := Code.seq (Code.region _ _ _) (Code.block _ _)) [26, 187, 188, 189, 190, 191, 192, 193, 194, 195] [] (FillJ P [frameR (pay r), frameR (pay s), frameR (pay r), List.replicate F.length 238, F] 0 (frameR (pay r)) 1) rfl (by repeat' first | exact Resp.retD | exact Resp1.valuesK | refine Resp.blockD ?_ | refine Resp.thenD ?_ ?_ | refine Resp.hcode ?_) ?_ ?_) | (refine HCode.step ?_; (repeat refine HReg.step ?_); (show HCode _ _ _ (Code.seq (Code.seq (Code.region _ _ _) (Code.block _ _)) _) _ _ _; refine hcutC (a := Code.seq (Code.region _ _ _) (Code.block _ _)) [26, 187, 188, 189, 190, 191, 192, 193, 194, 195] [] (FillJ P [frameR (pay r), frameR (pay s), frameR (pay r), List.replicate F.length 238, F] 0 (frameR (pay r)) 1) rfl (by repeat' first | exact Resp.retD | exact Resp1.valuesK | refine Resp.blockD ?_ | refine Resp.thenD ?_ ?_ | refine Resp.hcode ?_) ?_ ?_))))))))))))))))))))))
  · (repeat first | refine HReg.step ?_ | refine HCode.step ?_)
    refine hloopC [26, 187, 188, 189, 190, 191, 192, 193, 194, 195] [26] (FillInv P [frameR (pay r), frameR (pay s), frameR (pay r), List.replicate F.length 238, F] 0 (frameR (pay r)) 1 (8 + (pay r).length)) rfl (by repeat' first | exact Resp.retD | exact Resp1.valuesK | refine Resp.blockD ?_ | refine Resp.thenD ?_ ?_ | refine Resp.hcode ?_) ?_ ?_
    · exact ⟨8 + (pay r).length, FillInv.mk ⟨0, rfl, rfl, by rw [← hP]; exact st⟩⟩
    rintro m _ fe H30 ⟨i, rfl, hmi, s30⟩
    rw [← hP] at s30
    have hfl := (frame_len (pay r))
    have wi : wr .i64 ((i : Int) + 1) = ((i + 1 : Nat) : Int) := by rw [wr_i64 (by omega) (by omega)]; omega
    (repeat first | refine HReg.step ?_ | refine HCode.step ?_)
    refine hif (fun h1 => ?_) (fun h1 => ?_)
    · have h1 := ltB_true.1 h1
      (repeat first | refine HReg.step ?_ | refine HCode.step ?_)
      refine HReq.mk ⟨by omega, by omega⟩ ?_
      (repeat first | refine HReg.step ?_ | refine HCode.step ?_)
      refine s30.fill (idx := 0) rfl (by simp) (by omega) fun H31 s31 => ?_
      (repeat first | refine HReg.step ?_ | refine HCode.step ?_)
      rw [wi]
      exact ⟨m - 1, by omega, FillInv.mk ⟨i + 1, rfl, by omega, by rw [← hP]; exact s31⟩⟩
    · have h1 := ltB_false.1 h1
      (repeat first | refine HReg.step ?_ | refine HCode.step ?_)
      obtain rfl : i = (frameR (pay r)).length := by omega
      rw [List.drop_length, List.append_nil] at s30
      exact FillJ.mk ⟨rfl, by rw [← hP]; exact s30⟩
  rintro _ fe2 H30 ⟨rfl, st⟩
  rw [← hP] at st
  simp only [List.set, frame_len] at st
  ((repeat refine HReg.step ?_); first | (show HCode _ _ _ (Code.seq (Code.seq (Code.region _ _ _) (Code.block _ _)) _) _ _ _; refine hcutC (a := Code.seq (Code.region _ _ _) (Code.block _ _)) [27, 196, 197, 198, 199, 200, 201, 202, 203, 204] [] (FillJ P [List.replicate (8 + (pay r).length) 1, frameR (pay s), frameR (pay r), List.replicate F.length 238, F] 2 (frameR (pay r)) 2) rfl (by repeat' first | exact Resp.retD | exact Resp1.valuesK | refine Resp.blockD ?_ | refine Resp.thenD ?_ ?_ | refine Resp.hcode ?_) ?_ ?_) | (refine HCode.step ?_; (repeat refine HReg.step ?_); first | (show HCode _ _ _ (Code.seq (Code.seq (Code.region _ _ _) (Code.block _ _)) _) _ _ _; refine hcutC (a := Code.seq (Code.region _ _ _) (Code.block _ _)) [27, 196, 197, 198, 199, 200, 201, 202, 203, 204] [] (FillJ P [List.replicate (8 + (pay r).length) 1, frameR (pay s), frameR (pay r), List.replicate F.length 238, F] 2 (frameR (pay r)) 2) rfl (by repeat' first | exact Resp.retD | exact Resp1.valuesK | refine Resp.blockD ?_ | refine Resp.thenD ?_ ?_ | refine Resp.hcode ?_) ?_ ?_) | (refine HCode.step ?_; (repeat refine HReg.step ?_); first | (show HCode _ _ _ (Code.seq (Code.seq (Code.region _ _ _) (Code.block _ _)) _) _ _ _; refine hcutC (a := Code.seq (Code.region _ _ _) (Code.block _ _)) [27, 196, 197, 198, 199, 200, 201, 202, 203, 204] [] (FillJ P [List.replicate (8 + (pay r).length) 1, frameR (pay s), frameR (pay r), List.replicate F.length 238, F] 2 (frameR (pay r)) 2) rfl (by repeat' first | exact Resp.retD | exact Resp1.valuesK | refine Resp.blockD ?_ | refine Resp.thenD ?_ ?_ | refine Resp.hcode ?_) ?_ ?_) | (refine HCode.step ?_; (repeat refine HReg.step ?_); first | (show HCode _ _ _ (Code.seq (Code.seq (Code.region _ _ _) (Code.block _ _)) _) _ _ _; refine hcutC (a := Code.seq (Code.region _ _ _) (Code.block _ _)) [27, 196, 197, 198, 199, 200, 201, 202, 203, 204] [] (FillJ P [List.replicate (8 + (pay r).length) 1, frameR (pay s), frameR (pay r), List.replicate F.length 238, F] 2 (frameR (pay r)) 2) rfl (by repeat' first | exact Resp.retD | exact Resp1.valuesK | refine Resp.blockD ?_ | refine Resp.thenD ?_ ?_ | refine Resp.hcode ?_) ?_ ?_) | (refine HCode.step ?_; (repeat refine HReg.step ?_); first | (show HCode _ _ _ (Code.seq (Code.seq (Code.region _ _ _) (Code.block _ _)) _) _ _ _; refine hcutC (a := Code.seq (Code.region _ _ _) (Code.block _ _)) [27, 196, 197, 198, 199, 200, 201, 202, 203, 204] [] (FillJ P [List.replicate (8 + (pay r).length) 1, frameR (pay s), frameR (pay r), List.replicate F.length 238, F] 2 (frameR (pay r)) 2) rfl (by repeat' first | exact Resp.retD | exact Resp1.valuesK | refine Resp.blockD ?_ | refine Resp.thenD ?_ ?_ | refine Resp.hcode ?_) ?_ ?_) | (refine HCode.step ?_; (repeat refine HReg.step ?_); first | (show HCode _ _ _ (Code.seq (Code.seq (Code.region _ _ _) (Code.block _ _)) _) _ _ _; refine hcutC (a := Code.seq (Code.region _ _ _) (Code.block _ _)) [27, 196, 197, 198, 199, 200, 201, 202, 203, 204] [] (FillJ P [List.replicate (8 + (pay r).length) 1, frameR (pay s), frameR (pay r), List.replicate F.length 238, F] 2 (frameR (pay r)) 2) rfl (by repeat' first | exact Resp.retD | exact Resp1.valuesK | refine Resp.blockD ?_ | refine Resp.thenD ?_ ?_ | refine Resp.hcode ?_) ?_ ?_) | (refine HCode.step ?_; (repeat refine HReg.step ?_); first | (show HCode _ _ _ (Code.seq (Code.seq (Code.region _ _ _) (Code.block _ _)) _) _ _ _; refine hcutC (a := Code.seq (Code.region _ _ _) (Code.block _ _)) [27, 196, 197, 198, 199, 200, 201, 202, 203, 204] [] (FillJ P [List.replicate (8 + (pay r).length) 1, frameR (pay s), frameR (pay r), List.replicate F.length 238, F] 2 (frameR (pay r)) 2) rfl (by repeat' first | exact Resp.retD | exact Resp1.valuesK | refine Resp.blockD ?_ | refine Resp.thenD ?_ ?_ | refine Resp.hcode ?_) ?_ ?_) | (refine HCode.step ?_; (repeat refine HReg.step ?_); first | (show HCode _ _ _ (Code.seq (Code.seq (Code.region _ _ _) (Code.block _ _)) _) _ _ _; refine hcutC (a := Code.seq (Code.region _ _ _) (Code.block _ _)) [27, 196, 197, 198, 199, 200, 201, 202, 203, 204] [] (FillJ P [List.replicate (8 + (pay r).length) 1, frameR (pay s), frameR (pay r), List.replicate F.length 238, F] 2 (frameR (pay r)) 2) rfl (by repeat' first | exact Resp.retD | exact Resp1.valuesK | refine Resp.blockD ?_ | refine Resp.thenD ?_ ?_ | refine Resp.hcode ?_) ?_ ?_) | (refine HCode.step ?_; (repeat refine HReg.step ?_); first | (show HCode _ _ _ (Code.seq (Code.seq (Code.region _ _ _) (Code.block _ _)) _) _ _ _; refine hcutC (a := Code.seq (Code.region _ _ _) (Code.block _ _)) [27, 196, 197, 198, 199, 200, 201, 202, 203, 204] [] (FillJ P [List.replicate (8 + (pay r).length) 1, frameR (pay s), frameR (pay r), List.replicate F.length 238, F] 2 (frameR (pay r)) 2) rfl (by repeat' first | exact Resp.retD | exact Resp1.valuesK | refine Resp.blockD ?_ | refine Resp.thenD ?_ ?_ | refine Resp.hcode ?_) ?_ ?_) | (refine HCode.step ?_; (repeat refine HReg.step ?_); first | (show HCode _ _ _ (Code.seq (Code.seq (Code.region _ _ _) (Code.block _ _)) _) _ _ _; refine hcutC (a := Code.seq (Code.region _ _ _) (Code.block _ _)) [27, 196, 197, 198, 199, 200, 201, 202, 203, 204] [] (FillJ P [List.replicate (8 + (pay r).length) 1, frameR (pay s), frameR (pay r), List.replicate F.length 238, F] 2 (frameR (pay r)) 2) rfl (by repeat' first | exact Resp.retD | exact Resp1.valuesK | refine Resp.blockD ?_ | refine Resp.thenD ?_ ?_ | refine Resp.hcode ?_) ?_ ?_) | (refine HCode.step ?_; (repeat refine HReg.step ?_); first | (show HCode _ _ _ (Code.seq (Code.seq (Code.region _ _ _) (Code.block _ _)) _) _ _ _; refine hcutC (a := Code.seq (Code.region _ _ _) (Code.block _ _)) [27, 196, 197, 198, 199, 200, 201, 202, 203, 204] [] (FillJ P [List.replicate (8 + (pay r).length) 1, frameR (pay s), frameR (pay r), List.replicate F.length 238, F] 2 (frameR (pay r)) 2) rfl (by repeat' first | exact Resp.retD | exact Resp1.valuesK | refine Resp.blockD ?_ | refine Resp.thenD ?_ ?_ | refine Resp.hcode ?_) ?_ ?_) | (refine HCode.step ?_; (repeat refine HReg.step ?_); first | (show HCode _ _ _ (Code.seq (Code.seq (Code.region _ _ _) (Code.block _ _)) _) _ _ _; refine hcutC (a := Code.seq (Code.region _ _ _) (Code.block _ _)) [27, 196, 197, 198, 199, 200, 201, 202, 203, 204] [] (FillJ P [List.replicate (8 + (pay r).length) 1, frameR (pay s), frameR (pay r), List.replicate F.length 238, F] 2 (frameR (pay r)) 2) rfl (by repeat' first | exact Resp.retD | exact Resp1.valuesK | refine Resp.blockD ?_ | refine Resp.thenD ?_ ?_ | refine Resp.hcode ?_) ?_ ?_) | (refine HCode.step ?_; (repeat refine HReg.step ?_); first | (show HCode _ _ _ (Code.seq (Code.seq (Code.region _ _ _) (Code.block _ _)) _) _ _ _; refine hcutC (a := Code.seq (Code.region _ _ _) (Code.block _ _)) [27, 196, 197, 198, 199, 200, 201, 202, 203, 204] [] (FillJ P [List.replicate (8 + (pay r).length) 1, frameR (pay s), frameR (pay r), List.replicate F.length 238, F] 2 (frameR (pay r)) 2) rfl (by repeat' first | exact Resp.retD | exact Resp1.valuesK | refine Resp.blockD ?_ | refine Resp.thenD ?_ ?_ | refine Resp.hcode ?_) ?_ ?_) | (refine HCode.step ?_; (repeat refine HReg.step ?_); first | (show HCode _ _ _ (Code.seq (Code.seq (Code.region _ _ _) (Code.block _ _)) _) _ _ _; refine hcutC (a := Code.seq (Code.region _ _ _) (Code.block _ _)) [27, 196, 197, 198, 199, 200, 201, 202, 203, 204] [] (FillJ P [List.replicate (8 + (pay r).length) 1, frameR (pay s), frameR (pay r), List.replicate F.length 238, F] 2 (frameR (pay r)) 2) rfl (by repeat' first | exact Resp.retD | exact Resp1.valuesK | refine Resp.blockD ?_ | refine Resp.thenD ?_ ?_ | refine Resp.hcode ?_) ?_ ?_) | (refine HCode.step ?_; (repeat refine HReg.step ?_); first | (show HCode _ _ _ (Code.seq (Code.seq (Code.region _ _ _) (Code.block _ _)) _) _ _ _; refine hcutC (a := Code.seq (Code.region _ _ _) (Code.block _ _)) [27, 196, 197, 198, 199, 200, 201, 202, 203, 204] [] (FillJ P [List.replicate (8 + (pay r).length) 1, frameR (pay s), frameR (pay r), List.replicate F.length 238, F] 2 (frameR (pay r)) 2) rfl (by repeat' first | exact Resp.retD | exact Resp1.valuesK | refine Resp.blockD ?_ | refine Resp.thenD ?_ ?_ | refine Resp.hcode ?_) ?_ ?_) | (refine HCode.step ?_; (repeat refine HReg.step ?_); first | (show HCode _ _ _ (Code.seq (Code.seq (Code.region _ _ _) (Code.block _ _)) _) _ _ _; refine hcutC (a := Code.seq (Code.region _ _ _) (Code.block _ _)) [27, 196, 197, 198, 199, 200, 201, 202, 203, 204] [] (FillJ P [List.replicate (8 + (pay r).length) 1, frameR (pay s), frameR (pay r), List.replicate F.length 238, F] 2 (frameR (pay r)) 2) rfl (by repeat' first | exact Resp.retD | exact Resp1.valuesK | refine Resp.blockD ?_ | refine Resp.thenD ?_ ?_ | refine Resp.hcode ?_) ?_ ?_) | (refine HCode.step ?_; (repeat refine HReg.step ?_); first | (show HCode _ _ _ (Code.seq (Code.seq (Code.region _ _ _) (Code.block _ _)) _) _ _ _; refine hcutC (a := Code.seq (Code.region _ _ _) (Code.block _ _)) [27, 196, 197, 198, 199, 200, 201, 202, 203, 204] [] (FillJ P [List.replicate (8 + (pay r).length) 1, frameR (pay s), frameR (pay r), List.replicate F.length 238, F] 2 (frameR (pay r)) 2) rfl (by repeat' first | exact Resp.retD | exact Resp1.valuesK | refine Resp.blockD ?_ | refine Resp.thenD ?_ ?_ | refine Resp.hcode ?_) ?_ ?_) | (refine HCode.step ?_; (repeat refine HReg.step ?_); first | (show HCode _ _ _ (Code.seq (Code.seq (Code.region _ _ _) (Code.block _ _)) _) _ _ _; refine hcutC (a := Code.seq (Code.region _ _ _) (Code.block _ _)) [27, 196, 197, 198, 199, 200, 201, 202, 203, 204] [] (FillJ P [List.replicate (8 + (pay r).length) 1, frameR (pay s), frameR (pay r), List.replicate F.length 238, F] 2 (frameR (pay r)) 2) rfl (by repeat' first | exact Resp.retD | exact Resp1.valuesK | refine Resp.blockD ?_ | refine Resp.thenD ?_ ?_ | refine Resp.hcode ?_) ?_ ?_) | (refine HCode.step ?_; (repeat refine HReg.step ?_); first | (show HCode _ _ _ (Code.seq (Code.seq (Code.region _ _ _) (Code.block _ _)) _) _ _ _; refine hcutC (a := Code.seq (Code.region _ _ _) (Code.block _ _)) [27, 196, 197, 198, 199, 200, 201, 202, 203, 204] [] (FillJ P [List.replicate (8 + (pay r).length) 1, frameR (pay s), frameR (pay r), List.replicate F.length 238, F] 2 (frameR (pay r)) 2) rfl (by repeat' first | exact Resp.retD | exact Resp1.valuesK | refine Resp.blockD ?_ | refine Resp.thenD ?_ ?_ | refine Resp.hcode ?_) ?_ ?_) | (refine HCode.step ?_; (repeat refine HReg.step ?_); first | (show HCode _ _ _ (Code.seq (Code.seq (Code.region _ _ _) (Code.block _ _)) _) _ _ _; refine hcutC (a := Code.seq (Code.region _ _ _) (Code.block _ _)) [27, 196, 197, 198, 199, 200, 201, 202, 203, 204] [] (FillJ P [List.replicate (8 + (pay r).length) 1, frameR (pay s), frameR (pay r), List.replicate F.length 238, F] 2 (frameR (pay r)) 2) rfl (by repeat' first | exact Resp.retD | exact Resp1.valuesK | refine Resp.blockD ?_ | refine Resp.thenD ?_ ?_ | refine Resp.hcode ?_) ?_ ?_) | (refine HCode.step ?_; (repeat refine HReg.step ?_); (show HCode _ _ _ (Code.seq (Code.seq (Code.region _ _ _) (Code.block _ _)) _) _ _ _; refine hcutC (a := Code.seq (Code.region _ _ _) (Code.block _ _)) [27, 196, 197, 198, 199, 200, 201, 202, 203, 204] [] (FillJ P [List.replicate (8 + (pay r).length) 1, frameR (pay s), frameR (pay r), List.replicate F.length 238, F] 2 (frameR (pay r)) 2) rfl (by repeat' first | exact Resp.retD | exact Resp1.valuesK | refine Resp.blockD ?_ | refine Resp.thenD ?_ ?_ | refine Resp.hcode ?_) ?_ ?_))))))))))))))))))))))
  · (repeat first | refine HReg.step ?_ | refine HCode.step ?_)
    refine hloopC [27, 196, 197, 198, 199, 200, 201, 202, 203, 204] [27] (FillInv P [List.replicate (8 + (pay r).length) 1, frameR (pay s), frameR (pay r), List.replicate F.length 238, F] 2 (frameR (pay r)) 2 (8 + (pay r).length)) rfl (by repeat' first | exact Resp.retD | exact Resp1.valuesK | refine Resp.blockD ?_ | refine Resp.thenD ?_ ?_ | refine Resp.hcode ?_) ?_ ?_
    · exact ⟨8 + (pay r).length, FillInv.mk ⟨0, rfl, rfl, by rw [← hP]; exact st⟩⟩
    rintro m _ fe H30 ⟨i, rfl, hmi, s30⟩
    rw [← hP] at s30
    have hfl := (frame_len (pay r))
    have wi : wr .i64 ((i : Int) + 1) = ((i + 1 : Nat) : Int) := by rw [wr_i64 (by omega) (by omega)]; omega
    (repeat first | refine HReg.step ?_ | refine HCode.step ?_)
    refine hif (fun h1 => ?_) (fun h1 => ?_)
    · have h1 := ltB_true.1 h1
      (repeat first | refine HReg.step ?_ | refine HCode.step ?_)
      refine HReq.mk ⟨by omega, by omega⟩ ?_
      (repeat first | refine HReg.step ?_ | refine HCode.step ?_)
      refine s30.fill (idx := 2) rfl (by simp) (by omega) fun H31 s31 => ?_
      (repeat first | refine HReg.step ?_ | refine HCode.step ?_)
      rw [wi]
      exact ⟨m - 1, by omega, FillInv.mk ⟨i + 1, rfl, by omega, by rw [← hP]; exact s31⟩⟩
    · have h1 := ltB_false.1 h1
      (repeat first | refine HReg.step ?_ | refine HCode.step ?_)
      obtain rfl : i = (frameR (pay r)).length := by omega
      rw [List.drop_length, List.append_nil] at s30
      exact FillJ.mk ⟨rfl, by rw [← hP]; exact s30⟩
  rintro _ fe3 H31 ⟨rfl, st⟩
  rw [← hP] at st
  simp only [List.set, frame_len] at st
  ((repeat refine HReg.step ?_); first | (show HCode _ _ _ (Code.seq (Code.seq (Code.region _ _ _) (Code.block _ _)) _) _ _ _; refine hcutC (a := Code.seq (Code.region _ _ _) (Code.block _ _)) [28, 205, 206, 207, 208, 209, 210, 211, 212, 213] [] (FillJ P [List.replicate (8 + (pay r).length) 1, frameR (pay s), List.replicate (8 + (pay r).length) 2, List.replicate F.length 238, F] 1 (frameR (pay s)) 3) rfl (by repeat' first | exact Resp.retD | exact Resp1.valuesK | refine Resp.blockD ?_ | refine Resp.thenD ?_ ?_ | refine Resp.hcode ?_) ?_ ?_) | (refine HCode.step ?_; (repeat refine HReg.step ?_); first | (show HCode _ _ _ (Code.seq (Code.seq (Code.region _ _ _) (Code.block _ _)) _) _ _ _; refine hcutC (a := Code.seq (Code.region _ _ _) (Code.block _ _)) [28, 205, 206, 207, 208, 209, 210, 211, 212, 213] [] (FillJ P [List.replicate (8 + (pay r).length) 1, frameR (pay s), List.replicate (8 + (pay r).length) 2, List.replicate F.length 238, F] 1 (frameR (pay s)) 3) rfl (by repeat' first | exact Resp.retD | exact Resp1.valuesK | refine Resp.blockD ?_ | refine Resp.thenD ?_ ?_ | refine Resp.hcode ?_) ?_ ?_) | (refine HCode.step ?_; (repeat refine HReg.step ?_); first | (show HCode _ _ _ (Code.seq (Code.seq (Code.region _ _ _) (Code.block _ _)) _) _ _ _; refine hcutC (a := Code.seq (Code.region _ _ _) (Code.block _ _)) [28, 205, 206, 207, 208, 209, 210, 211, 212, 213] [] (FillJ P [List.replicate (8 + (pay r).length) 1, frameR (pay s), List.replicate (8 + (pay r).length) 2, List.replicate F.length 238, F] 1 (frameR (pay s)) 3) rfl (by repeat' first | exact Resp.retD | exact Resp1.valuesK | refine Resp.blockD ?_ | refine Resp.thenD ?_ ?_ | refine Resp.hcode ?_) ?_ ?_) | (refine HCode.step ?_; (repeat refine HReg.step ?_); first | (show HCode _ _ _ (Code.seq (Code.seq (Code.region _ _ _) (Code.block _ _)) _) _ _ _; refine hcutC (a := Code.seq (Code.region _ _ _) (Code.block _ _)) [28, 205, 206, 207, 208, 209, 210, 211, 212, 213] [] (FillJ P [List.replicate (8 + (pay r).length) 1, frameR (pay s), List.replicate (8 + (pay r).length) 2, List.replicate F.length 238, F] 1 (frameR (pay s)) 3) rfl (by repeat' first | exact Resp.retD | exact Resp1.valuesK | refine Resp.blockD ?_ | refine Resp.thenD ?_ ?_ | refine Resp.hcode ?_) ?_ ?_) | (refine HCode.step ?_; (repeat refine HReg.step ?_); first | (show HCode _ _ _ (Code.seq (Code.seq (Code.region _ _ _) (Code.block _ _)) _) _ _ _; refine hcutC (a := Code.seq (Code.region _ _ _) (Code.block _ _)) [28, 205, 206, 207, 208, 209, 210, 211, 212, 213] [] (FillJ P [List.replicate (8 + (pay r).length) 1, frameR (pay s), List.replicate (8 + (pay r).length) 2, List.replicate F.length 238, F] 1 (frameR (pay s)) 3) rfl (by repeat' first | exact Resp.retD | exact Resp1.valuesK | refine Resp.blockD ?_ | refine Resp.thenD ?_ ?_ | refine Resp.hcode ?_) ?_ ?_) | (refine HCode.step ?_; (repeat refine HReg.step ?_); first | (show HCode _ _ _ (Code.seq (Code.seq (Code.region _ _ _) (Code.block _ _)) _) _ _ _; refine hcutC (a := Code.seq (Code.region _ _ _) (Code.block _ _)) [28, 205, 206, 207, 208, 209, 210, 211, 212, 213] [] (FillJ P [List.replicate (8 + (pay r).length) 1, frameR (pay s), List.replicate (8 + (pay r).length) 2, List.replicate F.length 238, F] 1 (frameR (pay s)) 3) rfl (by repeat' first | exact Resp.retD | exact Resp1.valuesK | refine Resp.blockD ?_ | refine Resp.thenD ?_ ?_ | refine Resp.hcode ?_) ?_ ?_) | (refine HCode.step ?_; (repeat refine HReg.step ?_); first | (show HCode _ _ _ (Code.seq (Code.seq (Code.region _ _ _) (Code.block _ _)) _) _ _ _; refine hcutC (a := Code.seq (Code.region _ _ _) (Code.block _ _)) [28, 205, 206, 207, 208, 209, 210, 211, 212, 213] [] (FillJ P [List.replicate (8 + (pay r).length) 1, frameR (pay s), List.replicate (8 + (pay r).length) 2, List.replicate F.length 238, F] 1 (frameR (pay s)) 3) rfl (by repeat' first | exact Resp.retD | exact Resp1.valuesK | refine Resp.blockD ?_ | refine Resp.thenD ?_ ?_ | refine Resp.hcode ?_) ?_ ?_) | (refine HCode.step ?_; (repeat refine HReg.step ?_); first | (show HCode _ _ _ (Code.seq (Code.seq (Code.region _ _ _) (Code.block _ _)) _) _ _ _; refine hcutC (a := Code.seq (Code.region _ _ _) (Code.block _ _)) [28, 205, 206, 207, 208, 209, 210, 211, 212, 213] [] (FillJ P [List.replicate (8 + (pay r).length) 1, frameR (pay s), List.replicate (8 + (pay r).length) 2, List.replicate F.length 238, F] 1 (frameR (pay s)) 3) rfl (by repeat' first | exact Resp.retD | exact Resp1.valuesK | refine Resp.blockD ?_ | refine Resp.thenD ?_ ?_ | refine Resp.hcode ?_) ?_ ?_) | (refine HCode.step ?_; (repeat refine HReg.step ?_); first | (show HCode _ _ _ (Code.seq (Code.seq (Code.region _ _ _) (Code.block _ _)) _) _ _ _; refine hcutC (a := Code.seq (Code.region _ _ _) (Code.block _ _)) [28, 205, 206, 207, 208, 209, 210, 211, 212, 213] [] (FillJ P [List.replicate (8 + (pay r).length) 1, frameR (pay s), List.replicate (8 + (pay r).length) 2, List.replicate F.length 238, F] 1 (frameR (pay s)) 3) rfl (by repeat' first | exact Resp.retD | exact Resp1.valuesK | refine Resp.blockD ?_ | refine Resp.thenD ?_ ?_ | refine Resp.hcode ?_) ?_ ?_) | (refine HCode.step ?_; (repeat refine HReg.step ?_); first | (show HCode _ _ _ (Code.seq (Code.seq (Code.region _ _ _) (Code.block _ _)) _) _ _ _; refine hcutC (a := Code.seq (Code.region _ _ _) (Code.block _ _)) [28, 205, 206, 207, 208, 209, 210, 211, 212, 213] [] (FillJ P [List.replicate (8 + (pay r).length) 1, frameR (pay s), List.replicate (8 + (pay r).length) 2, List.replicate F.length 238, F] 1 (frameR (pay s)) 3) rfl (by repeat' first | exact Resp.retD | exact Resp1.valuesK | refine Resp.blockD ?_ | refine Resp.thenD ?_ ?_ | refine Resp.hcode ?_) ?_ ?_) | (refine HCode.step ?_; (repeat refine HReg.step ?_); first | (show HCode _ _ _ (Code.seq (Code.seq (Code.region _ _ _) (Code.block _ _)) _) _ _ _; refine hcutC (a := Code.seq (Code.region _ _ _) (Code.block _ _)) [28, 205, 206, 207, 208, 209, 210, 211, 212, 213] [] (FillJ P [List.replicate (8 + (pay r).length) 1, frameR (pay s), List.replicate (8 + (pay r).length) 2, List.replicate F.length 238, F] 1 (frameR (pay s)) 3) rfl (by repeat' first | exact Resp.retD | exact Resp1.valuesK | refine Resp.blockD ?_ | refine Resp.thenD ?_ ?_ | refine Resp.hcode ?_) ?_ ?_) | (refine HCode.step ?_; (repeat refine HReg.step ?_); first | (show HCode _ _ _ (Code.seq (Code.seq (Code.region _ _ _) (Code.block _ _)) _) _ _ _; refine hcutC (a := Code.seq (Code.region _ _ _) (Code.block _ _)) [28, 205, 206, 207, 208, 209, 210, 211, 212, 213] [] (FillJ P [List.replicate (8 + (pay r).length) 1, frameR (pay s), List.replicate (8 + (pay r).length) 2, List.replicate F.length 238, F] 1 (frameR (pay s)) 3) rfl (by repeat' first | exact Resp.retD | exact Resp1.valuesK | refine Resp.blockD ?_ | refine Resp.thenD ?_ ?_ | refine Resp.hcode ?_) ?_ ?_) | (refine HCode.step ?_; (repeat refine HReg.step ?_); first | (show HCode _ _ _ (Code.seq (Code.seq (Code.region _ _ _) (Code.block _ _)) _) _ _ _; refine hcutC (a := Code.seq (Code.region _ _ _) (Code.block _ _)) [28, 205, 206, 207, 208, 209, 210, 211, 212, 213] [] (FillJ P [List.replicate (8 + (pay r).length) 1, frameR (pay s), List.replicate (8 + (pay r).length) 2, List.replicate F.length 238, F] 1 (frameR (pay s)) 3) rfl (by repeat' first | exact Resp.retD | exact Resp1.valuesK | refine Resp.blockD ?_ | refine Resp.thenD ?_ ?_ | refine Resp.hcode ?_) ?_ ?_) | (refine HCode.step ?_; (repeat refine HReg.step ?_); first | (show HCode _ _ _ (Code.seq (Code.seq (Code.region _ _ _) (Code.block _ _)) _) _ _ _; refine hcutC (a := Code.seq (Code.region _ _ _) (Code.block _ _)) [28, 205, 206, 207, 208, 209, 210, 211, 212, 213] [] (FillJ P [List.replicate (8 + (pay r).length) 1, frameR (pay s), List.replicate (8 + (pay r).length) 2, List.replicate F.length 238, F] 1 (frameR (pay s)) 3) rfl (by repeat' first | exact Resp.retD | exact Resp1.valuesK | refine Resp.blockD ?_ | refine Resp.thenD ?_ ?_ | refine Resp.hcode ?_) ?_ ?_) | (refine HCode.step ?_; (repeat refine HReg.step ?_); first | (show HCode _ _ _ (Code.seq (Code.seq (Code.region _ _ _) (Code.block _ _)) _) _ _ _; refine hcutC (a := Code.seq (Code.region _ _ _) (Code.block _ _)) [28, 205, 206, 207, 208, 209, 210, 211, 212, 213] [] (FillJ P [List.replicate (8 + (pay r).length) 1, frameR (pay s), List.replicate (8 + (pay r).length) 2, List.replicate F.length 238, F] 1 (frameR (pay s)) 3) rfl (by repeat' first | exact Resp.retD | exact Resp1.valuesK | refine Resp.blockD ?_ | refine Resp.thenD ?_ ?_ | refine Resp.hcode ?_) ?_ ?_) | (refine HCode.step ?_; (repeat refine HReg.step ?_); first | (show HCode _ _ _ (Code.seq (Code.seq (Code.region _ _ _) (Code.block _ _)) _) _ _ _; refine hcutC (a := Code.seq (Code.region _ _ _) (Code.block _ _)) [28, 205, 206, 207, 208, 209, 210, 211, 212, 213] [] (FillJ P [List.replicate (8 + (pay r).length) 1, frameR (pay s), List.replicate (8 + (pay r).length) 2, List.replicate F.length 238, F] 1 (frameR (pay s)) 3) rfl (by repeat' first | exact Resp.retD | exact Resp1.valuesK | refine Resp.blockD ?_ | refine Resp.thenD ?_ ?_ | refine Resp.hcode ?_) ?_ ?_) | (refine HCode.step ?_; (repeat refine HReg.step ?_); first | (show HCode _ _ _ (Code.seq (Code.seq (Code.region _ _ _) (Code.block _ _)) _) _ _ _; refine hcutC (a := Code.seq (Code.region _ _ _) (Code.block _ _)) [28, 205, 206, 207, 208, 209, 210, 211, 212, 213] [] (FillJ P [List.replicate (8 + (pay r).length) 1, frameR (pay s), List.replicate (8 + (pay r).length) 2, List.replicate F.length 238, F] 1 (frameR (pay s)) 3) rfl (by repeat' first | exact Resp.retD | exact Resp1.valuesK | refine Resp.blockD ?_ | refine Resp.thenD ?_ ?_ | refine Resp.hcode ?_) ?_ ?_) | (refine HCode.step ?_; (repeat refine HReg.step ?_); first | (show HCode _ _ _ (Code.seq (Code.seq (Code.region _ _ _) (Code.block _ _)) _) _ _ _; refine hcutC (a := Code.seq (Code.region _ _ _) (Code.block _ _)) [28, 205, 206, 207, 208, 209, 210, 211, 212, 213] [] (FillJ P [List.replicate (8 + (pay r).length) 1, frameR (pay s), List.replicate (8 + (pay r).length) 2, List.replicate F.length 238, F] 1 (frameR (pay s)) 3) rfl (by repeat' first | exact Resp.retD | exact Resp1.valuesK | refine Resp.blockD ?_ | refine Resp.thenD ?_ ?_ | refine Resp.hcode ?_) ?_ ?_) | (refine HCode.step ?_; (repeat refine HReg.step ?_); first | (show HCode _ _ _ (Code.seq (Code.seq (Code.region _ _ _) (Code.block _ _)) _) _ _ _; refine hcutC (a := Code.seq (Code.region _ _ _) (Code.block _ _)) [28, 205, 206, 207, 208, 209, 210, 211, 212, 213] [] (FillJ P [List.replicate (8 + (pay r).length) 1, frameR (pay s), List.replicate (8 + (pay r).length) 2, List.replicate F.length 238, F] 1 (frameR (pay s)) 3) rfl (by repeat' first | exact Resp.retD | exact Resp1.valuesK | refine Resp.blockD ?_ | refine Resp.thenD ?_ ?_ | refine Resp.hcode ?_) ?_ ?_) | (refine HCode.step ?_; (repeat refine HReg.step ?_); first | (show HCode _ _ _ (Code.seq (Code.seq (Code.region _ _ _) (Code.block _ _)) _) _ _ _; refine hcutC (a := Code.seq (Code.region _ _ _) (Code.block _ _)) [28, 205, 206, 207, 208, 209, 210, 211, 212, 213] [] (FillJ P [List.replicate (8 + (pay r).length) 1, frameR (pay s), List.replicate (8 + (pay r).length) 2, List.replicate F.length 238, F] 1 (frameR (pay s)) 3) rfl (by repeat' first | exact Resp.retD | exact Resp1.valuesK | refine Resp.blockD ?_ | refine Resp.thenD ?_ ?_ | refine Resp.hcode ?_) ?_ ?_) | (refine HCode.step ?_; (repeat refine HReg.step ?_); (show HCode _ _ _ (Code.seq (Code.seq (Code.region _ _ _) (Code.block _ _)) _) _ _ _; refine hcutC (a := Code.seq (Code.region _ _ _) (Code.block _ _)) [28, 205, 206, 207, 208, 209, 210, 211, 212, 213] [] (FillJ P [List.replicate (8 + (pay r).length) 1, frameR (pay s), List.replicate (8 + (pay r).length) 2, List.replicate F.length 238, F] 1 (frameR (pay s)) 3) rfl (by repeat' first | exact Resp.retD | exact Resp1.valuesK | refine Resp.blockD ?_ | refine Resp.thenD ?_ ?_ | refine Resp.hcode ?_) ?_ ?_))))))))))))))))))))))
  · (repeat first | refine HReg.step ?_ | refine HCode.step ?_)
    refine hloopC [28, 205, 206, 207, 208, 209, 210, 211, 212, 213] [28] (FillInv P [List.replicate (8 + (pay r).length) 1, frameR (pay s), List.replicate (8 + (pay r).length) 2, List.replicate F.length 238, F] 1 (frameR (pay s)) 3 (8 + (pay s).length)) rfl (by repeat' first | exact Resp.retD | exact Resp1.valuesK | refine Resp.blockD ?_ | refine Resp.thenD ?_ ?_ | refine Resp.hcode ?_) ?_ ?_
    · exact ⟨8 + (pay s).length, FillInv.mk ⟨0, rfl, rfl, by rw [← hP]; exact st⟩⟩
    rintro m _ fe H30 ⟨i, rfl, hmi, s30⟩
    rw [← hP] at s30
    have hfl := (frame_len (pay s))
    have wi : wr .i64 ((i : Int) + 1) = ((i + 1 : Nat) : Int) := by rw [wr_i64 (by omega) (by omega)]; omega
    (repeat first | refine HReg.step ?_ | refine HCode.step ?_)
    refine hif (fun h1 => ?_) (fun h1 => ?_)
    · have h1 := ltB_true.1 h1
      (repeat first | refine HReg.step ?_ | refine HCode.step ?_)
      refine HReq.mk ⟨by omega, by omega⟩ ?_
      (repeat first | refine HReg.step ?_ | refine HCode.step ?_)
      refine s30.fill (idx := 1) rfl (by simp) (by omega) fun H31 s31 => ?_
      (repeat first | refine HReg.step ?_ | refine HCode.step ?_)
      rw [wi]
      exact ⟨m - 1, by omega, FillInv.mk ⟨i + 1, rfl, by omega, by rw [← hP]; exact s31⟩⟩
    · have h1 := ltB_false.1 h1
      (repeat first | refine HReg.step ?_ | refine HCode.step ?_)
      obtain rfl : i = (frameR (pay s)).length := by omega
      rw [List.drop_length, List.append_nil] at s30
      exact FillJ.mk ⟨rfl, by rw [← hP]; exact s30⟩
  rintro _ fe4 H32 ⟨rfl, st⟩
  rw [← hP] at st
  simp only [List.set, frame_len] at st
  (repeat first | refine HReg.step ?_ | refine HCode.step ?_)
  refine HReq.mk (by decide) ?_
  (repeat first | refine HReg.step ?_ | refine HCode.step ?_)
  refine HNew.mk fun b9 hb9 => ?_
  have u9 : Upd [] H32 (H32.upd b9 (.cells [Value.int .u8 7, .int .u8 7, .int .u8 7].toArray 5)) := Upd.new hb9 _
  have r9 : RowAt (H32.upd b9 (.cells [Value.int .u8 7, .int .u8 7, .int .u8 7].toArray 5)) (some ⟨b9, 0, none⟩) (u8s [7, 7, 7]) := RowAt.of_cells (upd_same _ _ _)
  generalize hH33 : H32.upd b9 (.cells [Value.int .u8 7, .int .u8 7, .int .u8 7].toArray 5) = H33 at u9 r9
  have st := st.upd0 u9
  (repeat first | refine HReg.step ?_ | refine HCode.step ?_)
  refine st.app (i := 0) (l := List.replicate (8 + (pay r).length) 1) rfl rfl r9 rfl (by omega) fun x1 z1 H34 st t1 v1 a1 => ?_
  (repeat first | refine HReg.step ?_ | refine HCode.step ?_)
  refine HReq.mk (by decide) ?_
  (repeat first | refine HReg.step ?_ | refine HCode.step ?_)
  refine HNew.mk fun b10 hb10 => ?_
  have u10 : Upd [] H34 (H34.upd b10 (.cells [Value.int .u8 8, .int .u8 8, .int .u8 8].toArray 5)) := Upd.new hb10 _
  have r10 : RowAt (H34.upd b10 (.cells [Value.int .u8 8, .int .u8 8, .int .u8 8].toArray 5)) (some ⟨b10, 0, none⟩) (u8s [8, 8, 8]) := RowAt.of_cells (upd_same _ _ _)
  generalize hH35 : H34.upd b10 (.cells [Value.int .u8 8, .int .u8 8, .int .u8 8].toArray 5) = H35 at u10 r10
  have st := st.upd0 u10
  (repeat first | refine HReg.step ?_ | refine HCode.step ?_)
  refine st.app (i := 2) (l := List.replicate (8 + (pay r).length) 2) rfl rfl r10 rfl (by omega) fun x2 z2 H36 st t2 v2 a2 => ?_
  have t1 := (t1.upd (S := []) u10 (.inr (Off.nil _))).upd v2 (.inr (a1 2 _ (by decide) rfl))
  (repeat first | refine HReg.step ?_ | refine HCode.step ?_)
  refine HReq.mk (by decide) ?_
  (repeat first | refine HReg.step ?_ | refine HCode.step ?_)
  refine HNew.mk fun b11 hb11 => ?_
  have u11 : Upd [] H36 (H36.upd b11 (.cells [Value.int .u8 9, .int .u8 9, .int .u8 9].toArray 5)) := Upd.new hb11 _
  have r11 : RowAt (H36.upd b11 (.cells [Value.int .u8 9, .int .u8 9, .int .u8 9].toArray 5)) (some ⟨b11, 0, none⟩) (u8s [9, 9, 9]) := RowAt.of_cells (upd_same _ _ _)
  generalize hH37 : H36.upd b11 (.cells [Value.int .u8 9, .int .u8 9, .int .u8 9].toArray 5) = H37 at u11 r11
  have st := st.upd0 u11
  (repeat first | refine HReg.step ?_ | refine HCode.step ?_)
  refine st.app (i := 1) (l := List.replicate (8 + (pay s).length) 3) rfl rfl r11 rfl (by omega) fun x3 z3 H38 st t3 v3 a3 => ?_
  have t1 := (t1.upd (S := []) u11 (.inr (Off.nil _))).upd v3 (.inr (a1 1 _ (by decide) rfl))
  have t2 := (t2.upd (S := []) u11 (.inr (Off.nil _))).upd v3 (.inr (a2 1 _ (by decide) rfl))
  clear hP u9 r9 hb9 hH33 u10 r10 hb10 hH35 u11 r11 hb11 hH37 v1 v2 v3 a1 a2 a3
  generalize hnr : 8 + (pay r).length = nr at *
  generalize hns : 8 + (pay s).length = ns at *
  obtain ⟨y1, f1, rfl, w1⟩ := t1 nr (u8 7) (u8s_get (by rw [List.getElem?_append_right (by simp)]; simp))
  obtain ⟨y2, f2, rfl, w2⟩ := t2 nr (u8 8) (u8s_get (by rw [List.getElem?_append_right (by simp)]; simp))
  obtain ⟨y3, f3, rfl, w3⟩ := t3 ns (u8 9) (u8s_get (by rw [List.getElem?_append_right (by simp)]; simp))
  have q7 : eqB ((UInt8.toNat 7 : Nat) : Int) 7 = true := eqB_self 7
  have q8 : eqB ((UInt8.toNat 8 : Nat) : Int) 8 = true := eqB_self 8
  have q9 : eqB ((UInt8.toNat 9 : Nat) : Int) 9 = true := eqB_self 9
  have q1 : eqB ((UInt8.toNat 1 : Nat) : Int) 1 = true := eqB_self 1
  have q2 : eqB ((UInt8.toNat 2 : Nat) : Int) 2 = true := eqB_self 2
  have q3 : eqB ((UInt8.toNat 3 : Nat) : Int) 3 = true := eqB_self 3
  have wA : ∀ k, k < nr → H38.cell? ⟨gA, 0 + k, none⟩ = some (u8 1) := fun k hk => (st.g.grp.own (i := 0) rfl rfl).2.rows.get (u8s_get (by rw [List.getElem?_replicate, if_pos hk]))
  have wB : ∀ k, k < nr → H38.cell? ⟨gB, 0 + k, none⟩ = some (u8 2) := fun k hk => (st.g.grp.own (i := 2) rfl rfl).2.rows.get (u8s_get (by rw [List.getElem?_replicate, if_pos hk]))
  have wC : ∀ k, k < ns → H38.cell? ⟨gC, 0 + k, none⟩ = some (u8 3) := fun k hk => (st.g.grp.own (i := 1) rfl rfl).2.rows.get (u8s_get (by rw [List.getElem?_replicate, if_pos hk]))
  have wr1 : wr .i64 ((nr : Int) - 1) = ((nr - 1 : Nat) : Int) := by rw [wr_i64 (by omega) (by omega)]; omega
  have ws1 : wr .i64 ((ns : Int) - 1) = ((ns - 1 : Nat) : Int) := by rw [wr_i64 (by omega) (by omega)]; omega
  (repeat first | refine HReg.step ?_ | refine HCode.step ?_)
  refine HReq.mk ⟨by omega, by omega⟩ ?_
  (repeat first | refine HReg.step ?_ | refine HCode.step ?_)
  refine HLoad.one w1 ?_
  (repeat first | refine HReg.step ?_ | refine HCode.step ?_)
  rw [q7]
  (repeat first | refine HReg.step ?_ | refine HCode.step ?_)
  refine HReq.mk ⟨by omega, by omega⟩ ?_
  (repeat first | refine HReg.step ?_ | refine HCode.step ?_)
  refine HLoad.one w2 ?_
  (repeat first | refine HReg.step ?_ | refine HCode.step ?_)
  rw [q8]
  (repeat first | refine HReg.step ?_ | refine HCode.step ?_)
  refine HReq.mk ⟨by omega, by omega⟩ ?_
  (repeat first | refine HReg.step ?_ | refine HCode.step ?_)
  refine HLoad.one w3 ?_
  (repeat first | refine HReg.step ?_ | refine HCode.step ?_)
  rw [q9]
  (repeat first | refine HReg.step ?_ | refine HCode.step ?_)
  refine HReq.mk ⟨by omega, by omega⟩ ?_
  (repeat first | refine HReg.step ?_ | refine HCode.step ?_)
  refine HLoad.one (by exact wA 0 (by omega)) ?_
  (repeat first | refine HReg.step ?_ | refine HCode.step ?_)
  rw [q1]
  (repeat first | refine HReg.step ?_ | refine HCode.step ?_)
  refine HReq.mk ⟨by omega, by omega⟩ ?_
  (repeat first | refine HReg.step ?_ | refine HCode.step ?_)
  refine HLoad.one (by exact wB 0 (by omega)) ?_
  (repeat first | refine HReg.step ?_ | refine HCode.step ?_)
  rw [q2]
  (repeat first | refine HReg.step ?_ | refine HCode.step ?_)
  refine HReq.mk ⟨by omega, by omega⟩ ?_
  (repeat first | refine HReg.step ?_ | refine HCode.step ?_)
  refine HLoad.one (by exact wC 0 (by omega)) ?_
  (repeat first | refine HReg.step ?_ | refine HCode.step ?_)
  rw [q3]
  (repeat first | refine HReg.step ?_ | refine HCode.step ?_)
  rw [wr1]
  (repeat first | refine HReg.step ?_ | refine HCode.step ?_)
  refine HReq.mk ⟨by omega, by omega⟩ ?_
  (repeat first | refine HReg.step ?_ | refine HCode.step ?_)
  refine HLoad.one (by exact wA (nr - 1) (by omega)) ?_
  (repeat first | refine HReg.step ?_ | refine HCode.step ?_)
  rw [q1]
  (repeat first | refine HReg.step ?_ | refine HCode.step ?_)
  rw [wr1]
  (repeat first | refine HReg.step ?_ | refine HCode.step ?_)
  refine HReq.mk ⟨by omega, by omega⟩ ?_
  (repeat first | refine HReg.step ?_ | refine HCode.step ?_)
  refine HLoad.one (by exact wB (nr - 1) (by omega)) ?_
  (repeat first | refine HReg.step ?_ | refine HCode.step ?_)
  rw [q2]
  (repeat first | refine HReg.step ?_ | refine HCode.step ?_)
  rw [ws1]
  (repeat first | refine HReg.step ?_ | refine HCode.step ?_)
  refine HReq.mk ⟨by omega, by omega⟩ ?_
  (repeat first | refine HReg.step ?_ | refine HCode.step ?_)
  refine HLoad.one (by exact wC (ns - 1) (by omega)) ?_
  (repeat first | refine HReg.step ?_ | refine HCode.step ?_)
  rw [q3]
  clear t1 t2 t3 w1 w2 w3 wA wB wC q1 q2 q3 q7 q8 q9 wr1 ws1
  have sl := st.l
  have sm := st.m
  (repeat first | refine HReg.step ?_ | refine HCode.step ?_)
  refine HReq.mk ⟨by decide, by decide⟩ ?_
  (repeat first | refine HReg.step ?_ | refine HCode.step ?_)
  refine HLoadN_rec (i := 0) sl.rows rfl ?_
  (repeat first | refine HReg.step ?_ | refine HCode.step ?_)
  refine HReq.mk ⟨by decide, by decide⟩ ?_
  (repeat first | refine HReg.step ?_ | refine HCode.step ?_)
  refine HLoadN_rec (i := 1) sl.rows rfl ?_
  (repeat first | refine HReg.step ?_ | refine HCode.step ?_)
  refine HReq.mk ⟨by decide, by decide⟩ ?_
  (repeat first | refine HReg.step ?_ | refine HCode.step ?_)
  refine HLoadN_rec (i := 0) sm.rows rfl ?_
  (repeat first | refine HReg.step ?_ | refine HCode.step ?_)
  refine HReq.mk ⟨by decide, by decide⟩ ?_
  (repeat first | refine HReg.step ?_ | refine HCode.step ?_)
  refine HLoadN_rec (i := 1) sm.rows rfl ?_
  (repeat first | refine HReg.step ?_ | refine HCode.step ?_)
  refine HLoadN_row st.p.rows rfl ?_
  (repeat first | refine HReg.step ?_ | refine HCode.step ?_)
  refine HLoadN_row st.q.rows rfl ?_
  (repeat first | refine HReg.step ?_ | refine HCode.step ?_)
  refine HReq.mk (by decide) ?_
  (repeat first | refine HReg.step ?_ | refine HCode.step ?_)
  refine HNew.as (o' := .cells (recsV [⟨r, p0, d0, k0, c0⟩, ⟨s, p1, d1, k1, c1⟩, ⟨r, p2, d2, k2, c2⟩, ⟨s, p3, d3, k3, c3⟩, ⟨r, p4, d4, k4, c4⟩, ⟨r, p5, d5, k5, c5⟩]).toArray 27) rfl fun b12 hb12 => ?_
  have uQ : Upd [] H38 (H38.upd b12 (.cells (recsV [⟨r, p0, d0, k0, c0⟩, ⟨s, p1, d1, k1, c1⟩, ⟨r, p2, d2, k2, c2⟩, ⟨s, p3, d3, k3, c3⟩, ⟨r, p4, d4, k4, c4⟩, ⟨r, p5, d5, k5, c5⟩]).toArray 27)) := Upd.new hb12 _
  have oQ : OwnRow (H38.upd b12 (.cells (recsV [⟨r, p0, d0, k0, c0⟩, ⟨s, p1, d1, k1, c1⟩, ⟨r, p2, d2, k2, c2⟩, ⟨s, p3, d3, k3, c3⟩, ⟨r, p4, d4, k4, c4⟩, ⟨r, p5, d5, k5, c5⟩]).toArray 27)) 27 4 (some ⟨b12, 0, none⟩) 6 6 (recsV [⟨r, p0, d0, k0, c0⟩, ⟨s, p1, d1, k1, c1⟩, ⟨r, p2, d2, k2, c2⟩, ⟨s, p3, d3, k3, c3⟩, ⟨r, p4, d4, k4, c4⟩, ⟨r, p5, d5, k5, c5⟩]) := OwnRow.lit (upd_same _ _ _) rfl
  generalize hH39 : H38.upd b12 (.cells (recsV [⟨r, p0, d0, k0, c0⟩, ⟨s, p1, d1, k1, c1⟩, ⟨r, p2, d2, k2, c2⟩, ⟨s, p3, d3, k3, c3⟩, ⟨r, p4, d4, k4, c4⟩, ⟨r, p5, d5, k5, c5⟩]).toArray 27) = H39 at uQ oQ ⊢
  have st := st.upd0 uQ
  clear hH39 sl sm
  (repeat first | refine HReg.step ?_ | refine HCode.step ?_)
  refine HReq.mk (by decide) ?_
  (repeat first | refine HReg.step ?_ | refine HCode.step ?_)
  refine HNew.as (o' := .cells (txts names6).toArray 9) rfl fun b13 hb13 => ?_
  have uN : Upd [] H39 (H39.upd b13 (.cells (txts names6).toArray 9)) := Upd.new hb13 _
  have oN : OwnRow (H39.upd b13 (.cells (txts names6).toArray 9)) 9 1 (some ⟨b13, 0, none⟩) 6 6 (txts names6) := OwnRow.lit (upd_same _ _ _) rfl
  generalize hH40 : H39.upd b13 (.cells (txts names6).toArray 9) = H40 at uN oN ⊢
  have hoN : Off (recsB [⟨r, p0, d0, k0, c0⟩, ⟨s, p1, d1, k1, c1⟩, ⟨r, p2, d2, k2, c2⟩, ⟨s, p3, d3, k3, c3⟩, ⟨r, p4, d4, k4, c4⟩, ⟨r, p5, d5, k5, c5⟩]) (some ⟨b13, 0, none⟩) := off_notin fun b hb hm => by
    obtain rfl : b = b13 := List.mem_singleton.1 hb
    obtain ⟨q, hq, hm⟩ := List.mem_flatMap.1 hm
    rcases (st.rs.each q hq).live _ hm with ⟨c', f, e1⟩ | ⟨c', f, e1⟩ <;> (rw [hb13] at e1; cases e1)
  have st := st.upd0 uN
  have oQ := oQ.upd uN (Off.nil _)
  have kK := (st.g.grp.own (i := 4) rfl rfl).2
  have rr := st.rs
  have u7 := st.g.upd
  have aw := rr.away
  clear hH40 hb12 hb13 uQ uN
  have rl := rr.less
  have ul := less_upd H40 (recsB [⟨r, p0, d0, k0, c0⟩, ⟨s, p1, d1, k1, c1⟩, ⟨r, p2, d2, k2, c2⟩, ⟨s, p3, d3, k3, c3⟩, ⟨r, p4, d4, k4, c4⟩, ⟨r, p5, d5, k5, c5⟩])
  have u7l := upd_less0 u7 aw
  have hQ := (oQ.upd (upd_less H40 _) (rr.types oQ (by decide) (by decide))).rows
  have hN := (oN.upd (upd_less H40 _) hoN).rows
  have kK := kK.upd (upd_less H40 _) (rr.types kK (by decide) (by decide))
  have ri := ri.upd0 u7l
  have si := si.upd0 u7l
  have o5 := o5.upd u7l (Off.nil _)
  have o6 := o6.upd u7l (Off.nil _)
  have hlim6 : ([⟨r, p0, d0, k0, c0⟩, ⟨s, p1, d1, k1, c1⟩, ⟨r, p2, d2, k2, c2⟩, ⟨s, p3, d3, k3, c3⟩, ⟨r, p4, d4, k4, c4⟩, ⟨r, p5, d5, k5, c5⟩] : List PRec).length = 6 := rfl
  have u0l : Upd [] H (lessH H40 (recsB [⟨r, p0, d0, k0, c0⟩, ⟨s, p1, d1, k1, c1⟩, ⟨r, p2, d2, k2, c2⟩, ⟨s, p3, d3, k3, c3⟩, ⟨r, p4, d4, k4, c4⟩, ⟨r, p5, d5, k5, c5⟩])) := u07.trans u7l
  generalize lessH H40 (recsB [⟨r, p0, d0, k0, c0⟩, ⟨s, p1, d1, k1, c1⟩, ⟨r, p2, d2, k2, c2⟩, ⟨s, p3, d3, k3, c3⟩, ⟨r, p4, d4, k4, c4⟩, ⟨r, p5, d5, k5, c5⟩]) = Hl at *
  have hM : Mks Hl [⟨r, p0, d0, k0, c0⟩, ⟨s, p1, d1, k1, c1⟩, ⟨r, p2, d2, k2, c2⟩, ⟨s, p3, d3, k3, c3⟩, ⟨r, p4, d4, k4, c4⟩, ⟨r, p5, d5, k5, c5⟩] H40 [⟨r, p0, d0, k0, c0⟩, ⟨s, p1, d1, k1, c1⟩, ⟨r, p2, d2, k2, c2⟩, ⟨s, p3, d3, k3, c3⟩, ⟨r, p4, d4, k4, c4⟩, ⟨r, p5, d5, k5, c5⟩] := ⟨rl, ul, rfl⟩
  generalize hQe : ([⟨r, p0, d0, k0, c0⟩, ⟨s, p1, d1, k1, c1⟩, ⟨r, p2, d2, k2, c2⟩, ⟨s, p3, d3, k3, c3⟩, ⟨r, p4, d4, k4, c4⟩, ⟨r, p5, d5, k5, c5⟩] : List PRec) = Q at hQ hM hlim6
  clear st rr rl ul u7 aw u7l oN oQ hoN
  ((repeat refine HReg.step ?_); first | (show HCode _ _ _ (Code.seq (Code.seq (Code.region _ _ _) (Code.block _ _)) _) _ _ _; refine hcutC (a := Code.seq (Code.region _ _ _) (Code.block _ _)) [34, 35, 36, 306, 307, 308, 309, 310, 311, 312, 313, 314, 315, 316, 317, 318, 319, 320, 321, 322, 323, 324, 325, 326, 327, 328, 329, 330, 331, 332, 333, 334, 335, 336, 337, 338, 339, 340, 341, 342, 343, 344, 345, 346, 347, 348, 349, 350, 351, 352] [] (MoJ Hl Q) rfl (by repeat' first | exact Resp.retD | exact Resp1.valuesK | refine Resp.blockD ?_ | refine Resp.thenD ?_ ?_ | refine Resp.hcode ?_) ?_ ?_) | (refine HCode.step ?_; (repeat refine HReg.step ?_); first | (show HCode _ _ _ (Code.seq (Code.seq (Code.region _ _ _) (Code.block _ _)) _) _ _ _; refine hcutC (a := Code.seq (Code.region _ _ _) (Code.block _ _)) [34, 35, 36, 306, 307, 308, 309, 310, 311, 312, 313, 314, 315, 316, 317, 318, 319, 320, 321, 322, 323, 324, 325, 326, 327, 328, 329, 330, 331, 332, 333, 334, 335, 336, 337, 338, 339, 340, 341, 342, 343, 344, 345, 346, 347, 348, 349, 350, 351, 352] [] (MoJ Hl Q) rfl (by repeat' first | exact Resp.retD | exact Resp1.valuesK | refine Resp.blockD ?_ | refine Resp.thenD ?_ ?_ | refine Resp.hcode ?_) ?_ ?_) | (refine HCode.step ?_; (repeat refine HReg.step ?_); first | (show HCode _ _ _ (Code.seq (Code.seq (Code.region _ _ _) (Code.block _ _)) _) _ _ _; refine hcutC (a := Code.seq (Code.region _ _ _) (Code.block _ _)) [34, 35, 36, 306, 307, 308, 309, 310, 311, 312, 313, 314, 315, 316, 317, 318, 319, 320, 321, 322, 323, 324, 325, 326, 327, 328, 329, 330, 331, 332, 333, 334, 335, 336, 337, 338, 339, 340, 341, 342, 343, 344, 345, 346, 347, 348, 349, 350, 351, 352] [] (MoJ Hl Q) rfl (by repeat' first | exact Resp.retD | exact Resp1.valuesK | refine Resp.blockD ?_ | refine Resp.thenD ?_ ?_ | refine Resp.hcode ?_) ?_ ?_) | (refine HCode.step ?_; (repeat refine HReg.step ?_); first | (show HCode _ _ _ (Code.seq (Code.seq (Code.region _ _ _) (Code.block _ _)) _) _ _ _; refine hcutC (a := Code.seq (Code.region _ _ _) (Code.block _ _)) [34, 35, 36, 306, 307, 308, 309, 310, 311, 312, 313, 314, 315, 316, 317, 318, 319, 320, 321, 322, 323, 324, 325, 326, 327, 328, 329, 330, 331, 332, 333, 334, 335, 336, 337, 338, 339, 340, 341, 342, 343, 344, 345, 346, 347, 348, 349, 350, 351, 352] [] (MoJ Hl Q) rfl (by repeat' first | exact Resp.retD | exact Resp1.valuesK | refine Resp.blockD ?_ | refine Resp.thenD ?_ ?_ | refine Resp.hcode ?_) ?_ ?_) | (refine HCode.step ?_; (repeat refine HReg.step ?_); first | (show HCode _ _ _ (Code.seq (Code.seq (Code.region _ _ _) (Code.block _ _)) _) _ _ _; refine hcutC (a := Code.seq (Code.region _ _ _) (Code.block _ _)) [34, 35, 36, 306, 307, 308, 309, 310, 311, 312, 313, 314, 315, 316, 317, 318, 319, 320, 321, 322, 323, 324, 325, 326, 327, 328, 329, 330, 331, 332, 333, 334, 335, 336, 337, 338, 339, 340, 341, 342, 343, 344, 345, 346, 347, 348, 349, 350, 351, 352] [] (MoJ Hl Q) rfl (by repeat' first | exact Resp.retD | exact Resp1.valuesK | refine Resp.blockD ?_ | refine Resp.thenD ?_ ?_ | refine Resp.hcode ?_) ?_ ?_) | (refine HCode.step ?_; (repeat refine HReg.step ?_); first | (show HCode _ _ _ (Code.seq (Code.seq (Code.region _ _ _) (Code.block _ _)) _) _ _ _; refine hcutC (a := Code.seq (Code.region _ _ _) (Code.block _ _)) [34, 35, 36, 306, 307, 308, 309, 310, 311, 312, 313, 314, 315, 316, 317, 318, 319, 320, 321, 322, 323, 324, 325, 326, 327, 328, 329, 330, 331, 332, 333, 334, 335, 336, 337, 338, 339, 340, 341, 342, 343, 344, 345, 346, 347, 348, 349, 350, 351, 352] [] (MoJ Hl Q) rfl (by repeat' first | exact Resp.retD | exact Resp1.valuesK | refine Resp.blockD ?_ | refine Resp.thenD ?_ ?_ | refine Resp.hcode ?_) ?_ ?_) | (refine HCode.step ?_; (repeat refine HReg.step ?_); first | (show HCode _ _ _ (Code.seq (Code.seq (Code.region _ _ _) (Code.block _ _)) _) _ _ _; refine hcutC (a := Code.seq (Code.region _ _ _) (Code.block _ _)) [34, 35, 36, 306, 307, 308, 309, 310, 311, 312, 313, 314, 315, 316, 317, 318, 319, 320, 321, 322, 323, 324, 325, 326, 327, 328, 329, 330, 331, 332, 333, 334, 335, 336, 337, 338, 339, 340, 341, 342, 343, 344, 345, 346, 347, 348, 349, 350, 351, 352] [] (MoJ Hl Q) rfl (by repeat' first | exact Resp.retD | exact Resp1.valuesK | refine Resp.blockD ?_ | refine Resp.thenD ?_ ?_ | refine Resp.hcode ?_) ?_ ?_) | (refine HCode.step ?_; (repeat refine HReg.step ?_); first | (show HCode _ _ _ (Code.seq (Code.seq (Code.region _ _ _) (Code.block _ _)) _) _ _ _; refine hcutC (a := Code.seq (Code.region _ _ _) (Code.block _ _)) [34, 35, 36, 306, 307, 308, 309, 310, 311, 312, 313, 314, 315, 316, 317, 318, 319, 320, 321, 322, 323, 324, 325, 326, 327, 328, 329, 330, 331, 332, 333, 334, 335, 336, 337, 338, 339, 340, 341, 342, 343, 344, 345, 346, 347, 348, 349, 350, 351, 352] [] (MoJ Hl Q) rfl (by repeat' first | exact Resp.retD | exact Resp1.valuesK | refine Resp.blockD ?_ | refine Resp.thenD ?_ ?_ | refine Resp.hcode ?_) ?_ ?_) | (refine HCode.step ?_; (repeat refine HReg.step ?_); first | (show HCode _ _ _ (Code.seq (Code.seq (Code.region _ _ _) (Code.block _ _)) _) _ _ _; refine hcutC (a := Code.seq (Code.region _ _ _) (Code.block _ _)) [34, 35, 36, 306, 307, 308, 309, 310, 311, 312, 313, 314, 315, 316, 317, 318, 319, 320, 321, 322, 323, 324, 325, 326, 327, 328, 329, 330, 331, 332, 333, 334, 335, 336, 337, 338, 339, 340, 341, 342, 343, 344, 345, 346, 347, 348, 349, 350, 351, 352] [] (MoJ Hl Q) rfl (by repeat' first | exact Resp.retD | exact Resp1.valuesK | refine Resp.blockD ?_ | refine Resp.thenD ?_ ?_ | refine Resp.hcode ?_) ?_ ?_) | (refine HCode.step ?_; (repeat refine HReg.step ?_); first | (show HCode _ _ _ (Code.seq (Code.seq (Code.region _ _ _) (Code.block _ _)) _) _ _ _; refine hcutC (a := Code.seq (Code.region _ _ _) (Code.block _ _)) [34, 35, 36, 306, 307, 308, 309, 310, 311, 312, 313, 314, 315, 316, 317, 318, 319, 320, 321, 322, 323, 324, 325, 326, 327, 328, 329, 330, 331, 332, 333, 334, 335, 336, 337, 338, 339, 340, 341, 342, 343, 344, 345, 346, 347, 348, 349, 350, 351, 352] [] (MoJ Hl Q) rfl (by repeat' first | exact Resp.retD | exact Resp1.valuesK | refine Resp.blockD ?_ | refine Resp.thenD ?_ ?_ | refine Resp.hcode ?_) ?_ ?_) | (refine HCode.step ?_; (repeat refine HReg.step ?_); first | (show HCode _ _ _ (Code.seq (Code.seq (Code.region _ _ _) (Code.block _ _)) _) _ _ _; refine hcutC (a := Code.seq (Code.region _ _ _) (Code.block _ _)) [34, 35, 36, 306, 307, 308, 309, 310, 311, 312, 313, 314, 315, 316, 317, 318, 319, 320, 321, 322, 323, 324, 325, 326, 327, 328, 329, 330, 331, 332, 333, 334, 335, 336, 337, 338, 339, 340, 341, 342, 343, 344, 345, 346, 347, 348, 349, 350, 351, 352] [] (MoJ Hl Q) rfl (by repeat' first | exact Resp.retD | exact Resp1.valuesK | refine Resp.blockD ?_ | refine Resp.thenD ?_ ?_ | refine Resp.hcode ?_) ?_ ?_) | (refine HCode.step ?_; (repeat refine HReg.step ?_); first | (show HCode _ _ _ (Code.seq (Code.seq (Code.region _ _ _) (Code.block _ _)) _) _ _ _; refine hcutC (a := Code.seq (Code.region _ _ _) (Code.block _ _)) [34, 35, 36, 306, 307, 308, 309, 310, 311, 312, 313, 314, 315, 316, 317, 318, 319, 320, 321, 322, 323, 324, 325, 326, 327, 328, 329, 330, 331, 332, 333, 334, 335, 336, 337, 338, 339, 340, 341, 342, 343, 344, 345, 346, 347, 348, 349, 350, 351, 352] [] (MoJ Hl Q) rfl (by repeat' first | exact Resp.retD | exact Resp1.valuesK | refine Resp.blockD ?_ | refine Resp.thenD ?_ ?_ | refine Resp.hcode ?_) ?_ ?_) | (refine HCode.step ?_; (repeat refine HReg.step ?_); first | (show HCode _ _ _ (Code.seq (Code.seq (Code.region _ _ _) (Code.block _ _)) _) _ _ _; refine hcutC (a := Code.seq (Code.region _ _ _) (Code.block _ _)) [34, 35, 36, 306, 307, 308, 309, 310, 311, 312, 313, 314, 315, 316, 317, 318, 319, 320, 321, 322, 323, 324, 325, 326, 327, 328, 329, 330, 331, 332, 333, 334, 335, 336, 337, 338, 339, 340, 341, 342, 343, 344, 345, 346, 347, 348, 349, 350, 351, 352] [] (MoJ Hl Q) rfl (by repeat' first | exact Resp.retD | exact Resp1.valuesK | refine Resp.blockD ?_ | refine Resp.thenD ?_ ?_ | refine Resp.hcode ?_) ?_ ?_) | (refine HCode.step ?_; (repeat refine HReg.step ?_); first | (show HCode _ _ _ (Code.seq (Code.seq (Code.region _ _ _) (Code.block _ _)) _) _ _ _; refine hcutC (a := Code.seq (Code.region _ _ _) (Code.block _ _)) [34, 35, 36, 306, 307, 308, 309, 310, 311, 312, 313, 314, 315, 316, 317, 318, 319, 320, 321, 322, 323, 324, 325, 326, 327, 328, 329, 330, 331, 332, 333, 334, 335, 336, 337, 338, 339, 340, 341, 342, 343, 344, 345, 346, 347, 348, 349, 350, 351, 352] [] (MoJ Hl Q) rfl (by repeat' first | exact Resp.retD | exact Resp1.valuesK | refine Resp.blockD ?_ | refine Resp.thenD ?_ ?_ | refine Resp.hcode ?_) ?_ ?_) | (refine HCode.step ?_; (repeat refine HReg.step ?_); first | (show HCode _ _ _ (Code.seq (Code.seq (Code.region _ _ _) (Code.block _ _)) _) _ _ _; refine hcutC (a := Code.seq (Code.region _ _ _) (Code.block _ _)) [34, 35, 36, 306, 307, 308, 309, 310, 311, 312, 313, 314, 315, 316, 317, 318, 319, 320, 321, 322, 323, 324, 325, 326, 327, 328, 329, 330, 331, 332, 333, 334, 335, 336, 337, 338, 339, 340, 341, 342, 343, 344, 345, 346, 347, 348, 349, 350, 351, 352] [] (MoJ Hl Q) rfl (by repeat' first | exact Resp.retD | exact Resp1.valuesK | refine Resp.blockD ?_ | refine Resp.thenD ?_ ?_ | refine Resp.hcode ?_) ?_ ?_) | (refine HCode.step ?_; (repeat refine HReg.step ?_); first | (show HCode _ _ _ (Code.seq (Code.seq (Code.region _ _ _) (Code.block _ _)) _) _ _ _; refine hcutC (a := Code.seq (Code.region _ _ _) (Code.block _ _)) [34, 35, 36, 306, 307, 308, 309, 310, 311, 312, 313, 314, 315, 316, 317, 318, 319, 320, 321, 322, 323, 324, 325, 326, 327, 328, 329, 330, 331, 332, 333, 334, 335, 336, 337, 338, 339, 340, 341, 342, 343, 344, 345, 346, 347, 348, 349, 350, 351, 352] [] (MoJ Hl Q) rfl (by repeat' first | exact Resp.retD | exact Resp1.valuesK | refine Resp.blockD ?_ | refine Resp.thenD ?_ ?_ | refine Resp.hcode ?_) ?_ ?_) | (refine HCode.step ?_; (repeat refine HReg.step ?_); first | (show HCode _ _ _ (Code.seq (Code.seq (Code.region _ _ _) (Code.block _ _)) _) _ _ _; refine hcutC (a := Code.seq (Code.region _ _ _) (Code.block _ _)) [34, 35, 36, 306, 307, 308, 309, 310, 311, 312, 313, 314, 315, 316, 317, 318, 319, 320, 321, 322, 323, 324, 325, 326, 327, 328, 329, 330, 331, 332, 333, 334, 335, 336, 337, 338, 339, 340, 341, 342, 343, 344, 345, 346, 347, 348, 349, 350, 351, 352] [] (MoJ Hl Q) rfl (by repeat' first | exact Resp.retD | exact Resp1.valuesK | refine Resp.blockD ?_ | refine Resp.thenD ?_ ?_ | refine Resp.hcode ?_) ?_ ?_) | (refine HCode.step ?_; (repeat refine HReg.step ?_); first | (show HCode _ _ _ (Code.seq (Code.seq (Code.region _ _ _) (Code.block _ _)) _) _ _ _; refine hcutC (a := Code.seq (Code.region _ _ _) (Code.block _ _)) [34, 35, 36, 306, 307, 308, 309, 310, 311, 312, 313, 314, 315, 316, 317, 318, 319, 320, 321, 322, 323, 324, 325, 326, 327, 328, 329, 330, 331, 332, 333, 334, 335, 336, 337, 338, 339, 340, 341, 342, 343, 344, 345, 346, 347, 348, 349, 350, 351, 352] [] (MoJ Hl Q) rfl (by repeat' first | exact Resp.retD | exact Resp1.valuesK | refine Resp.blockD ?_ | refine Resp.thenD ?_ ?_ | refine Resp.hcode ?_) ?_ ?_) | (refine HCode.step ?_; (repeat refine HReg.step ?_); first | (show HCode _ _ _ (Code.seq (Code.seq (Code.region _ _ _) (Code.block _ _)) _) _ _ _; refine hcutC (a := Code.seq (Code.region _ _ _) (Code.block _ _)) [34, 35, 36, 306, 307, 308, 309, 310, 311, 312, 313, 314, 315, 316, 317, 318, 319, 320, 321, 322, 323, 324, 325, 326, 327, 328, 329, 330, 331, 332, 333, 334, 335, 336, 337, 338, 339, 340, 341, 342, 343, 344, 345, 346, 347, 348, 349, 350, 351, 352] [] (MoJ Hl Q) rfl (by repeat' first | exact Resp.retD | exact Resp1.valuesK | refine Resp.blockD ?_ | refine Resp.thenD ?_ ?_ | refine Resp.hcode ?_) ?_ ?_) | (refine HCode.step ?_; (repeat refine HReg.step ?_); first | (show HCode _ _ _ (Code.seq (Code.seq (Code.region _ _ _) (Code.block _ _)) _) _ _ _; refine hcutC (a := Code.seq (Code.region _ _ _) (Code.block _ _)) [34, 35, 36, 306, 307, 308, 309, 310, 311, 312, 313, 314, 315, 316, 317, 318, 319, 320, 321, 322, 323, 324, 325, 326, 327, 328, 329, 330, 331, 332, 333, 334, 335, 336, 337, 338, 339, 340, 341, 342, 343, 344, 345, 346, 347, 348, 349, 350, 351, 352] [] (MoJ Hl Q) rfl (by repeat' first | exact Resp.retD | exact Resp1.valuesK | refine Resp.blockD ?_ | refine Resp.thenD ?_ ?_ | refine Resp.hcode ?_) ?_ ?_) | (refine HCode.step ?_; (repeat refine HReg.step ?_); (show HCode _ _ _ (Code.seq (Code.seq (Code.region _ _ _) (Code.block _ _)) _) _ _ _; refine hcutC (a := Code.seq (Code.region _ _ _) (Code.block _ _)) [34, 35, 36, 306, 307, 308, 309, 310, 311, 312, 313, 314, 315, 316, 317, 318, 319, 320, 321, 322, 323, 324, 325, 326, 327, 328, 329, 330, 331, 332, 333, 334, 335, 336, 337, 338, 339, 340, 341, 342, 343, 344, 345, 346, 347, 348, 349, 350, 351, 352] [] (MoJ Hl Q) rfl (by repeat' first | exact Resp.retD | exact Resp1.valuesK | refine Resp.blockD ?_ | refine Resp.thenD ?_ ?_ | refine Resp.hcode ?_) ?_ ?_))))))))))))))))))))))
  · (repeat first | refine HReg.step ?_ | refine HCode.step ?_)
    refine hloopC [34, 35, 36, 306, 307, 308, 309, 310, 311, 312, 313, 314, 315, 316, 317, 318, 319, 320, 321, 322, 323, 324, 325, 326, 327, 328, 329, 330, 331, 332, 333, 334, 335, 336, 337, 338, 339, 340, 341, 342, 343, 344, 345, 346, 347, 348, 349, 350, 351, 352] [34] (MoInv Hl Q) rfl (by repeat' first | exact Resp.retD | exact Resp1.valuesK | refine Resp.blockD ?_ | refine Resp.thenD ?_ ?_ | refine Resp.hcode ?_) ?_ ?_
    · exact ⟨6, MoInv.mk ⟨0, Q, rfl, rfl, by rw [← hQe] at hM ⊢; exact hM, Dn.zero _⟩⟩
    rintro m _ fe H41 ⟨i, cs, rfl, hmi, s, dn⟩
    have wi : wr .i64 ((i : Int) + 1) = ((i + 1 : Nat) : Int) := by rw [wr_i64 (by omega) (by omega)]; omega
    (repeat first | refine HReg.step ?_ | refine HCode.step ?_)
    refine hif (fun h1 => ?_) (fun h1 => ?_)
    · have h1 := ltB_true.1 h1
      have hi6 : i < 6 := by omega
      obtain ⟨q, hq, nq⟩ := s.get (i := i) (by omega)
      have hnk := nq.nk
      have hnp := nq.np
      ((repeat refine HReg.step ?_); first | (show HCode _ _ _ (Code.seq (Code.seq (Code.region _ _ _) (Code.block _ _)) _) _ _ _; refine hcutC (a := Code.seq (Code.region _ _ _) (Code.block _ _)) [35, 310, 311, 312, 313, 314, 315, 316, 317, 318, 319, 320, 321, 322, 323, 324, 325, 326, 327, 328, 329, 330] [] (MkJ' Hl Q i) rfl (by repeat' first | exact Resp.retD | exact Resp1.valuesK | refine Resp.blockD ?_ | refine Resp.thenD ?_ ?_ | refine Resp.hcode ?_) ?_ ?_) | (refine HCode.step ?_; (repeat refine HReg.step ?_); first | (show HCode _ _ _ (Code.seq (Code.seq (Code.region _ _ _) (Code.block _ _)) _) _ _ _; refine hcutC (a := Code.seq (Code.region _ _ _) (Code.block _ _)) [35, 310, 311, 312, 313, 314, 315, 316, 317, 318, 319, 320, 321, 322, 323, 324, 325, 326, 327, 328, 329, 330] [] (MkJ' Hl Q i) rfl (by repeat' first | exact Resp.retD | exact Resp1.valuesK | refine Resp.blockD ?_ | refine Resp.thenD ?_ ?_ | refine Resp.hcode ?_) ?_ ?_) | (refine HCode.step ?_; (repeat refine HReg.step ?_); first | (show HCode _ _ _ (Code.seq (Code.seq (Code.region _ _ _) (Code.block _ _)) _) _ _ _; refine hcutC (a := Code.seq (Code.region _ _ _) (Code.block _ _)) [35, 310, 311, 312, 313, 314, 315, 316, 317, 318, 319, 320, 321, 322, 323, 324, 325, 326, 327, 328, 329, 330] [] (MkJ' Hl Q i) rfl (by repeat' first | exact Resp.retD | exact Resp1.valuesK | refine Resp.blockD ?_ | refine Resp.thenD ?_ ?_ | refine Resp.hcode ?_) ?_ ?_) | (refine HCode.step ?_; (repeat refine HReg.step ?_); first | (show HCode _ _ _ (Code.seq (Code.seq (Code.region _ _ _) (Code.block _ _)) _) _ _ _; refine hcutC (a := Code.seq (Code.region _ _ _) (Code.block _ _)) [35, 310, 311, 312, 313, 314, 315, 316, 317, 318, 319, 320, 321, 322, 323, 324, 325, 326, 327, 328, 329, 330] [] (MkJ' Hl Q i) rfl (by repeat' first | exact Resp.retD | exact Resp1.valuesK | refine Resp.blockD ?_ | refine Resp.thenD ?_ ?_ | refine Resp.hcode ?_) ?_ ?_) | (refine HCode.step ?_; (repeat refine HReg.step ?_); first | (show HCode _ _ _ (Code.seq (Code.seq (Code.region _ _ _) (Code.block _ _)) _) _ _ _; refine hcutC (a := Code.seq (Code.region _ _ _) (Code.block _ _)) [35, 310, 311, 312, 313, 314, 315, 316, 317, 318, 319, 320, 321, 322, 323, 324, 325, 326, 327, 328, 329, 330] [] (MkJ' Hl Q i) rfl (by repeat' first | exact Resp.retD | exact Resp1.valuesK | refine Resp.blockD ?_ | refine Resp.thenD ?_ ?_ | refine Resp.hcode ?_) ?_ ?_) | (refine HCode.step ?_; (repeat refine HReg.step ?_); first | (show HCode _ _ _ (Code.seq (Code.seq (Code.region _ _ _) (Code.block _ _)) _) _ _ _; refine hcutC (a := Code.seq (Code.region _ _ _) (Code.block _ _)) [35, 310, 311, 312, 313, 314, 315, 316, 317, 318, 319, 320, 321, 322, 323, 324, 325, 326, 327, 328, 329, 330] [] (MkJ' Hl Q i) rfl (by repeat' first | exact Resp.retD | exact Resp1.valuesK | refine Resp.blockD ?_ | refine Resp.thenD ?_ ?_ | refine Resp.hcode ?_) ?_ ?_) | (refine HCode.step ?_; (repeat refine HReg.step ?_); first | (show HCode _ _ _ (Code.seq (Code.seq (Code.region _ _ _) (Code.block _ _)) _) _ _ _; refine hcutC (a := Code.seq (Code.region _ _ _) (Code.block _ _)) [35, 310, 311, 312, 313, 314, 315, 316, 317, 318, 319, 320, 321, 322, 323, 324, 325, 326, 327, 328, 329, 330] [] (MkJ' Hl Q i) rfl (by repeat' first | exact Resp.retD | exact Resp1.valuesK | refine Resp.blockD ?_ | refine Resp.thenD ?_ ?_ | refine Resp.hcode ?_) ?_ ?_) | (refine HCode.step ?_; (repeat refine HReg.step ?_); first | (show HCode _ _ _ (Code.seq (Code.seq (Code.region _ _ _) (Code.block _ _)) _) _ _ _; refine hcutC (a := Code.seq (Code.region _ _ _) (Code.block _ _)) [35, 310, 311, 312, 313, 314, 315, 316, 317, 318, 319, 320, 321, 322, 323, 324, 325, 326, 327, 328, 329, 330] [] (MkJ' Hl Q i) rfl (by repeat' first | exact Resp.retD | exact Resp1.valuesK | refine Resp.blockD ?_ | refine Resp.thenD ?_ ?_ | refine Resp.hcode ?_) ?_ ?_) | (refine HCode.step ?_; (repeat refine HReg.step ?_); first | (show HCode _ _ _ (Code.seq (Code.seq (Code.region _ _ _) (Code.block _ _)) _) _ _ _; refine hcutC (a := Code.seq (Code.region _ _ _) (Code.block _ _)) [35, 310, 311, 312, 313, 314, 315, 316, 317, 318, 319, 320, 321, 322, 323, 324, 325, 326, 327, 328, 329, 330] [] (MkJ' Hl Q i) rfl (by repeat' first | exact Resp.retD | exact Resp1.valuesK | refine Resp.blockD ?_ | refine Resp.thenD ?_ ?_ | refine Resp.hcode ?_) ?_ ?_) | (refine HCode.step ?_; (repeat refine HReg.step ?_); first | (show HCode _ _ _ (Code.seq (Code.seq (Code.region _ _ _) (Code.block _ _)) _) _ _ _; refine hcutC (a := Code.seq (Code.region _ _ _) (Code.block _ _)) [35, 310, 311, 312, 313, 314, 315, 316, 317, 318, 319, 320, 321, 322, 323, 324, 325, 326, 327, 328, 329, 330] [] (MkJ' Hl Q i) rfl (by repeat' first | exact Resp.retD | exact Resp1.valuesK | refine Resp.blockD ?_ | refine Resp.thenD ?_ ?_ | refine Resp.hcode ?_) ?_ ?_) | (refine HCode.step ?_; (repeat refine HReg.step ?_); first | (show HCode _ _ _ (Code.seq (Code.seq (Code.region _ _ _) (Code.block _ _)) _) _ _ _; refine hcutC (a := Code.seq (Code.region _ _ _) (Code.block _ _)) [35, 310, 311, 312, 313, 314, 315, 316, 317, 318, 319, 320, 321, 322, 323, 324, 325, 326, 327, 328, 329, 330] [] (MkJ' Hl Q i) rfl (by repeat' first | exact Resp.retD | exact Resp1.valuesK | refine Resp.blockD ?_ | refine Resp.thenD ?_ ?_ | refine Resp.hcode ?_) ?_ ?_) | (refine HCode.step ?_; (repeat refine HReg.step ?_); first | (show HCode _ _ _ (Code.seq (Code.seq (Code.region _ _ _) (Code.block _ _)) _) _ _ _; refine hcutC (a := Code.seq (Code.region _ _ _) (Code.block _ _)) [35, 310, 311, 312, 313, 314, 315, 316, 317, 318, 319, 320, 321, 322, 323, 324, 325, 326, 327, 328, 329, 330] [] (MkJ' Hl Q i) rfl (by repeat' first | exact Resp.retD | exact Resp1.valuesK | refine Resp.blockD ?_ | refine Resp.thenD ?_ ?_ | refine Resp.hcode ?_) ?_ ?_) | (refine HCode.step ?_; (repeat refine HReg.step ?_); first | (show HCode _ _ _ (Code.seq (Code.seq (Code.region _ _ _) (Code.block _ _)) _) _ _ _; refine hcutC (a := Code.seq (Code.region _ _ _) (Code.block _ _)) [35, 310, 311, 312, 313, 314, 315, 316, 317, 318, 319, 320, 321, 322, 323, 324, 325, 326, 327, 328, 329, 330] [] (MkJ' Hl Q i) rfl (by repeat' first | exact Resp.retD | exact Resp1.valuesK | refine Resp.blockD ?_ | refine Resp.thenD ?_ ?_ | refine Resp.hcode ?_) ?_ ?_) | (refine HCode.step ?_; (repeat refine HReg.step ?_); first | (show HCode _ _ _ (Code.seq (Code.seq (Code.region _ _ _) (Code.block _ _)) _) _ _ _; refine hcutC (a := Code.seq (Code.region _ _ _) (Code.block _ _)) [35, 310, 311, 312, 313, 314, 315, 316, 317, 318, 319, 320, 321, 322, 323, 324, 325, 326, 327, 328, 329, 330] [] (MkJ' Hl Q i) rfl (by repeat' first | exact Resp.retD | exact Resp1.valuesK | refine Resp.blockD ?_ | refine Resp.thenD ?_ ?_ | refine Resp.hcode ?_) ?_ ?_) | (refine HCode.step ?_; (repeat refine HReg.step ?_); first | (show HCode _ _ _ (Code.seq (Code.seq (Code.region _ _ _) (Code.block _ _)) _) _ _ _; refine hcutC (a := Code.seq (Code.region _ _ _) (Code.block _ _)) [35, 310, 311, 312, 313, 314, 315, 316, 317, 318, 319, 320, 321, 322, 323, 324, 325, 326, 327, 328, 329, 330] [] (MkJ' Hl Q i) rfl (by repeat' first | exact Resp.retD | exact Resp1.valuesK | refine Resp.blockD ?_ | refine Resp.thenD ?_ ?_ | refine Resp.hcode ?_) ?_ ?_) | (refine HCode.step ?_; (repeat refine HReg.step ?_); first | (show HCode _ _ _ (Code.seq (Code.seq (Code.region _ _ _) (Code.block _ _)) _) _ _ _; refine hcutC (a := Code.seq (Code.region _ _ _) (Code.block _ _)) [35, 310, 311, 312, 313, 314, 315, 316, 317, 318, 319, 320, 321, 322, 323, 324, 325, 326, 327, 328, 329, 330] [] (MkJ' Hl Q i) rfl (by repeat' first | exact Resp.retD | exact Resp1.valuesK | refine Resp.blockD ?_ | refine Resp.thenD ?_ ?_ | refine Resp.hcode ?_) ?_ ?_) | (refine HCode.step ?_; (repeat refine HReg.step ?_); first | (show HCode _ _ _ (Code.seq (Code.seq (Code.region _ _ _) (Code.block _ _)) _) _ _ _; refine hcutC (a := Code.seq (Code.region _ _ _) (Code.block _ _)) [35, 310, 311, 312, 313, 314, 315, 316, 317, 318, 319, 320, 321, 322, 323, 324, 325, 326, 327, 328, 329, 330] [] (MkJ' Hl Q i) rfl (by repeat' first | exact Resp.retD | exact Resp1.valuesK | refine Resp.blockD ?_ | refine Resp.thenD ?_ ?_ | refine Resp.hcode ?_) ?_ ?_) | (refine HCode.step ?_; (repeat refine HReg.step ?_); first | (show HCode _ _ _ (Code.seq (Code.seq (Code.region _ _ _) (Code.block _ _)) _) _ _ _; refine hcutC (a := Code.seq (Code.region _ _ _) (Code.block _ _)) [35, 310, 311, 312, 313, 314, 315, 316, 317, 318, 319, 320, 321, 322, 323, 324, 325, 326, 327, 328, 329, 330] [] (MkJ' Hl Q i) rfl (by repeat' first | exact Resp.retD | exact Resp1.valuesK | refine Resp.blockD ?_ | refine Resp.thenD ?_ ?_ | refine Resp.hcode ?_) ?_ ?_) | (refine HCode.step ?_; (repeat refine HReg.step ?_); first | (show HCode _ _ _ (Code.seq (Code.seq (Code.region _ _ _) (Code.block _ _)) _) _ _ _; refine hcutC (a := Code.seq (Code.region _ _ _) (Code.block _ _)) [35, 310, 311, 312, 313, 314, 315, 316, 317, 318, 319, 320, 321, 322, 323, 324, 325, 326, 327, 328, 329, 330] [] (MkJ' Hl Q i) rfl (by repeat' first | exact Resp.retD | exact Resp1.valuesK | refine Resp.blockD ?_ | refine Resp.thenD ?_ ?_ | refine Resp.hcode ?_) ?_ ?_) | (refine HCode.step ?_; (repeat refine HReg.step ?_); first | (show HCode _ _ _ (Code.seq (Code.seq (Code.region _ _ _) (Code.block _ _)) _) _ _ _; refine hcutC (a := Code.seq (Code.region _ _ _) (Code.block _ _)) [35, 310, 311, 312, 313, 314, 315, 316, 317, 318, 319, 320, 321, 322, 323, 324, 325, 326, 327, 328, 329, 330] [] (MkJ' Hl Q i) rfl (by repeat' first | exact Resp.retD | exact Resp1.valuesK | refine Resp.blockD ?_ | refine Resp.thenD ?_ ?_ | refine Resp.hcode ?_) ?_ ?_) | (refine HCode.step ?_; (repeat refine HReg.step ?_); (show HCode _ _ _ (Code.seq (Code.seq (Code.region _ _ _) (Code.block _ _)) _) _ _ _; refine hcutC (a := Code.seq (Code.region _ _ _) (Code.block _ _)) [35, 310, 311, 312, 313, 314, 315, 316, 317, 318, 319, 320, 321, 322, 323, 324, 325, 326, 327, 328, 329, 330] [] (MkJ' Hl Q i) rfl (by repeat' first | exact Resp.retD | exact Resp1.valuesK | refine Resp.blockD ?_ | refine Resp.thenD ?_ ?_ | refine Resp.hcode ?_) ?_ ?_))))))))))))))))))))))
      · (repeat first | refine HReg.step ?_ | refine HCode.step ?_)
        refine hloopC [35, 310, 311, 312, 313, 314, 315, 316, 317, 318, 319, 320, 321, 322, 323, 324, 325, 326, 327, 328, 329, 330] [35] (MkInv' Hl Q i q.r.ks.length) rfl (by repeat' first | exact Resp.retD | exact Resp1.valuesK | refine Resp.blockD ?_ | refine Resp.thenD ?_ ?_ | refine Resp.hcode ?_) ?_ ?_
        · exact ⟨q.r.ks.length, MkInv'.mk ⟨0, cs, q, rfl, rfl, s, dn, hq, rfl⟩⟩
        rintro m _ fe H42 ⟨j, cs, q', rfl, hmj, s, dn, hq', hqn⟩
        have nmr := (hN.upd (S := []) s.u (.inr (Off.nil _))).get (nm_get hi6)
        have hrow := (s.row hQ).get (recsV_get hq' 3 _ rfl)
        have wj : wr .i64 ((j : Int) + 1) = ((j + 1 : Nat) : Int) := by rw [wr_i64 (by omega) (by omega)]; omega
        (repeat first | refine HReg.step ?_ | refine HCode.step ?_)
        refine HReq.mk ⟨by omega, by omega⟩ ?_
        (repeat first | refine HReg.step ?_ | refine HCode.step ?_)
        refine HLoad.one hrow ?_
        (repeat first | refine HReg.step ?_ | refine HCode.step ?_)
        refine hif (fun h2 => ?_) (fun h2 => ?_)
        · have h2 := ltB_true.1 h2
          obtain ⟨g, hg⟩ := (s.R.each q' (List.mem_of_getElem? hq')).k.addr (by omega)
          rw [hg] at hrow
          (repeat first | refine HReg.step ?_ | refine HCode.step ?_)
          refine HReq.mk ⟨by omega, by omega⟩ ?_
          (repeat first | refine HReg.step ?_ | refine HCode.step ?_)
          refine HLoad.one hrow ?_
          (repeat first | refine HReg.step ?_ | refine HCode.step ?_)
          refine HReq.mk ⟨by omega, by omega⟩ ?_
          (repeat first | refine HReg.step ?_ | refine HCode.step ?_)
          refine HLoad.one nmr ?_
          (repeat first | refine HReg.step ?_ | refine HCode.step ?_)
          refine HReq.mk ⟨by omega, by omega⟩ ?_
          (repeat first | refine HReg.step ?_ | refine HCode.step ?_)
          refine s.storeK hq' hg (k := j) (by omega) (Nat.zero_add j) fun H43 s' => ?_
          (repeat first | refine HReg.step ?_ | refine HCode.step ?_)
          rw [wj]
          exact ⟨m - 1, by omega, MkInv'.mk ⟨j + 1, _, q'.setK j (nm i), rfl, by omega, s', dn.key hq', List.getElem?_set_self (List.getElem?_eq_some_iff.1 hq').1, by show (q'.r.ks.set j (nm i)).length = _; rw [List.length_set]; exact hqn⟩⟩
        · have h2 := ltB_false.1 h2
          (repeat first | refine HReg.step ?_ | refine HCode.step ?_)
          exact MkJ'.mk ⟨j, cs, q', rfl, s, dn, hq', by omega⟩
      rintro _ fe5 H42 ⟨j, cs, q', rfl, s, dn, hq', hqn⟩
      (repeat first | refine HReg.step ?_ | refine HCode.step ?_)
      refine hloopC [36, 331, 332, 333, 334, 335, 336, 337, 338, 339, 340, 341, 342, 343, 344, 345, 346, 347, 348, 349, 350, 351, 352] [36] (MpInv' Hl Q i q'.r.ps.length) rfl (by repeat' first | exact Resp.retD | exact Resp1.valuesK | refine Resp.blockD ?_ | refine Resp.thenD ?_ ?_ | refine Resp.hcode ?_) ?_ ?_
      · exact ⟨q'.r.ps.length, MpInv'.mk ⟨j, 0, cs, q', rfl, rfl, s, dn, hq', hqn, rfl⟩⟩
      have hnp := (s.R.each q' (List.mem_of_getElem? hq')).np
      rintro m2 _ fe H42 ⟨j, k, cs, q', rfl, hmk, s, dn, hq', hqn, hqp⟩
      have nmr := (hN.upd (S := []) s.u (.inr (Off.nil _))).get (nm_get hi6)
      have hrow := (s.row hQ).get (recsV_get hq' 2 _ rfl)
      have wk : wr .i64 ((k : Int) + 1) = ((k + 1 : Nat) : Int) := by rw [wr_i64 (by omega) (by omega)]; omega
      (repeat first | refine HReg.step ?_ | refine HCode.step ?_)
      refine HReq.mk ⟨by omega, by omega⟩ ?_
      (repeat first | refine HReg.step ?_ | refine HCode.step ?_)
      refine HLoad.one hrow ?_
      (repeat first | refine HReg.step ?_ | refine HCode.step ?_)
      refine hif (fun h2 => ?_) (fun h2 => ?_)
      · have h2 := ltB_true.1 h2
        obtain ⟨g, hg⟩ := (s.R.each q' (List.mem_of_getElem? hq')).p.addr (by omega)
        rw [hg] at hrow
        (repeat first | refine HReg.step ?_ | refine HCode.step ?_)
        refine HReq.mk ⟨by omega, by omega⟩ ?_
        (repeat first | refine HReg.step ?_ | refine HCode.step ?_)
        refine HLoad.one hrow ?_
        (repeat first | refine HReg.step ?_ | refine HCode.step ?_)
        refine HReq.mk ⟨by omega, by omega⟩ ?_
        (repeat first | refine HReg.step ?_ | refine HCode.step ?_)
        refine HLoad.one nmr ?_
        (repeat first | refine HReg.step ?_ | refine HCode.step ?_)
        refine HReq.mk ⟨by omega, by omega⟩ ?_
        (repeat first | refine HReg.step ?_ | refine HCode.step ?_)
        refine s.storeP hq' hg (k := k) (t := (nm i, [])) (by omega) fun H43 s' => ?_
        (repeat first | refine HReg.step ?_ | refine HCode.step ?_)
        rw [wk]
        exact ⟨m2 - 1, by omega, MpInv'.mk ⟨j, k + 1, _, q'.setP k (nm i, []), rfl, by omega, s', dn.pair hq', List.getElem?_set_self (List.getElem?_eq_some_iff.1 hq').1, hqn, by show (q'.r.ps.set k (nm i, [])).length = _; rw [List.length_set]; exact hqp⟩⟩
      · have h2 := ltB_false.1 h2
        (repeat first | refine HReg.step ?_ | refine HCode.step ?_)
        rw [wi]
        exact ⟨m - 1, by omega, MoInv.mk ⟨i + 1, cs, rfl, by omega, s, dn.next hq' hqn (by omega)⟩⟩
    · have h1 := ltB_false.1 h1
      (repeat first | refine HReg.step ?_ | refine HCode.step ?_)
      obtain rfl : i = 6 := by omega
      exact MoJ.mk ⟨cs, rfl, s, dn⟩
  rintro _ fe5 H41 ⟨cs, rfl, sM, dn⟩
  ((repeat refine HReg.step ?_); first | (show HCode _ _ _ (Code.seq (Code.seq (Code.region _ _ _) (Code.block _ _)) _) _ _ _; refine hcutC (a := Code.seq (Code.region _ _ _) (Code.block _ _)) [4, 37, 38, 39, 40, 353, 354, 355, 356, 357, 358, 359, 360, 361, 362, 363, 364, 365, 366, 367, 368, 369, 370, 371, 372, 373, 374, 375, 376, 377, 378, 379, 380, 381, 382, 383, 384, 385, 386, 387, 388, 389, 390, 391, 392, 393, 394, 395, 396, 397, 398, 399, 400] [] (LoJ Hl Q cs) rfl (by repeat' first | exact Resp.retD | exact Resp1.valuesK | refine Resp.blockD ?_ | refine Resp.thenD ?_ ?_ | refine Resp.hcode ?_) ?_ ?_) | (refine HCode.step ?_; (repeat refine HReg.step ?_); first | (show HCode _ _ _ (Code.seq (Code.seq (Code.region _ _ _) (Code.block _ _)) _) _ _ _; refine hcutC (a := Code.seq (Code.region _ _ _) (Code.block _ _)) [4, 37, 38, 39, 40, 353, 354, 355, 356, 357, 358, 359, 360, 361, 362, 363, 364, 365, 366, 367, 368, 369, 370, 371, 372, 373, 374, 375, 376, 377, 378, 379, 380, 381, 382, 383, 384, 385, 386, 387, 388, 389, 390, 391, 392, 393, 394, 395, 396, 397, 398, 399, 400] [] (LoJ Hl Q cs) rfl (by repeat' first | exact Resp.retD | exact Resp1.valuesK | refine Resp.blockD ?_ | refine Resp.thenD ?_ ?_ | refine Resp.hcode ?_) ?_ ?_) | (refine HCode.step ?_; (repeat refine HReg.step ?_); first | (show HCode _ _ _ (Code.seq (Code.seq (Code.region _ _ _) (Code.block _ _)) _) _ _ _; refine hcutC (a := Code.seq (Code.region _ _ _) (Code.block _ _)) [4, 37, 38, 39, 40, 353, 354, 355, 356, 357, 358, 359, 360, 361, 362, 363, 364, 365, 366, 367, 368, 369, 370, 371, 372, 373, 374, 375, 376, 377, 378, 379, 380, 381, 382, 383, 384, 385, 386, 387, 388, 389, 390, 391, 392, 393, 394, 395, 396, 397, 398, 399, 400] [] (LoJ Hl Q cs) rfl (by repeat' first | exact Resp.retD | exact Resp1.valuesK | refine Resp.blockD ?_ | refine Resp.thenD ?_ ?_ | refine Resp.hcode ?_) ?_ ?_) | (refine HCode.step ?_; (repeat refine HReg.step ?_); first | (show HCode _ _ _ (Code.seq (Code.seq (Code.region _ _ _) (Code.block _ _)) _) _ _ _; refine hcutC (a := Code.seq (Code.region _ _ _) (Code.block _ _)) [4, 37, 38, 39, 40, 353, 354, 355, 356, 357, 358, 359, 360, 361, 362, 363, 364, 365, 366, 367, 368, 369, 370, 371, 372, 373, 374, 375, 376, 377, 378, 379, 380, 381, 382, 383, 384, 385, 386, 387, 388, 389, 390, 391, 392, 393, 394, 395, 396, 397, 398, 399, 400] [] (LoJ Hl Q cs) rfl (by repeat' first | exact Resp.retD | exact Resp1.valuesK | refine Resp.blockD ?_ | refine Resp.thenD ?_ ?_ | refine Resp.hcode ?_) ?_ ?_) | (refine HCode.step ?_; (repeat refine HReg.step ?_); first | (show HCode _ _ _ (Code.seq (Code.seq (Code.region _ _ _) (Code.block _ _)) _) _ _ _; refine hcutC (a := Code.seq (Code.region _ _ _) (Code.block _ _)) [4, 37, 38, 39, 40, 353, 354, 355, 356, 357, 358, 359, 360, 361, 362, 363, 364, 365, 366, 367, 368, 369, 370, 371, 372, 373, 374, 375, 376, 377, 378, 379, 380, 381, 382, 383, 384, 385, 386, 387, 388, 389, 390, 391, 392, 393, 394, 395, 396, 397, 398, 399, 400] [] (LoJ Hl Q cs) rfl (by repeat' first | exact Resp.retD | exact Resp1.valuesK | refine Resp.blockD ?_ | refine Resp.thenD ?_ ?_ | refine Resp.hcode ?_) ?_ ?_) | (refine HCode.step ?_; (repeat refine HReg.step ?_); first | (show HCode _ _ _ (Code.seq (Code.seq (Code.region _ _ _) (Code.block _ _)) _) _ _ _; refine hcutC (a := Code.seq (Code.region _ _ _) (Code.block _ _)) [4, 37, 38, 39, 40, 353, 354, 355, 356, 357, 358, 359, 360, 361, 362, 363, 364, 365, 366, 367, 368, 369, 370, 371, 372, 373, 374, 375, 376, 377, 378, 379, 380, 381, 382, 383, 384, 385, 386, 387, 388, 389, 390, 391, 392, 393, 394, 395, 396, 397, 398, 399, 400] [] (LoJ Hl Q cs) rfl (by repeat' first | exact Resp.retD | exact Resp1.valuesK | refine Resp.blockD ?_ | refine Resp.thenD ?_ ?_ | refine Resp.hcode ?_) ?_ ?_) | (refine HCode.step ?_; (repeat refine HReg.step ?_); first | (show HCode _ _ _ (Code.seq (Code.seq (Code.region _ _ _) (Code.block _ _)) _) _ _ _; refine hcutC (a := Code.seq (Code.region _ _ _) (Code.block _ _)) [4, 37, 38, 39, 40, 353, 354, 355, 356, 357, 358, 359, 360, 361, 362, 363, 364, 365, 366, 367, 368, 369, 370, 371, 372, 373, 374, 375, 376, 377, 378, 379, 380, 381, 382, 383, 384, 385, 386, 387, 388, 389, 390, 391, 392, 393, 394, 395, 396, 397, 398, 399, 400] [] (LoJ Hl Q cs) rfl (by repeat' first | exact Resp.retD | exact Resp1.valuesK | refine Resp.blockD ?_ | refine Resp.thenD ?_ ?_ | refine Resp.hcode ?_) ?_ ?_) | (refine HCode.step ?_; (repeat refine HReg.step ?_); first | (show HCode _ _ _ (Code.seq (Code.seq (Code.region _ _ _) (Code.block _ _)) _) _ _ _; refine hcutC (a := Code.seq (Code.region _ _ _) (Code.block _ _)) [4, 37, 38, 39, 40, 353, 354, 355, 356, 357, 358, 359, 360, 361, 362, 363, 364, 365, 366, 367, 368, 369, 370, 371, 372, 373, 374, 375, 376, 377, 378, 379, 380, 381, 382, 383, 384, 385, 386, 387, 388, 389, 390, 391, 392, 393, 394, 395, 396, 397, 398, 399, 400] [] (LoJ Hl Q cs) rfl (by repeat' first | exact Resp.retD | exact Resp1.valuesK | refine Resp.blockD ?_ | refine Resp.thenD ?_ ?_ | refine Resp.hcode ?_) ?_ ?_) | (refine HCode.step ?_; (repeat refine HReg.step ?_); first | (show HCode _ _ _ (Code.seq (Code.seq (Code.region _ _ _) (Code.block _ _)) _) _ _ _; refine hcutC (a := Code.seq (Code.region _ _ _) (Code.block _ _)) [4, 37, 38, 39, 40, 353, 354, 355, 356, 357, 358, 359, 360, 361, 362, 363, 364, 365, 366, 367, 368, 369, 370, 371, 372, 373, 374, 375, 376, 377, 378, 379, 380, 381, 382, 383, 384, 385, 386, 387, 388, 389, 390, 391, 392, 393, 394, 395, 396, 397, 398, 399, 400] [] (LoJ Hl Q cs) rfl (by repeat' first | exact Resp.retD | exact Resp1.valuesK | refine Resp.blockD ?_ | refine Resp.thenD ?_ ?_ | refine Resp.hcode ?_) ?_ ?_) | (refine HCode.step ?_; (repeat refine HReg.step ?_); first | (show HCode _ _ _ (Code.seq (Code.seq (Code.region _ _ _) (Code.block _ _)) _) _ _ _; refine hcutC (a := Code.seq (Code.region _ _ _) (Code.block _ _)) [4, 37, 38, 39, 40, 353, 354, 355, 356, 357, 358, 359, 360, 361, 362, 363, 364, 365, 366, 367, 368, 369, 370, 371, 372, 373, 374, 375, 376, 377, 378, 379, 380, 381, 382, 383, 384, 385, 386, 387, 388, 389, 390, 391, 392, 393, 394, 395, 396, 397, 398, 399, 400] [] (LoJ Hl Q cs) rfl (by repeat' first | exact Resp.retD | exact Resp1.valuesK | refine Resp.blockD ?_ | refine Resp.thenD ?_ ?_ | refine Resp.hcode ?_) ?_ ?_) | (refine HCode.step ?_; (repeat refine HReg.step ?_); first | (show HCode _ _ _ (Code.seq (Code.seq (Code.region _ _ _) (Code.block _ _)) _) _ _ _; refine hcutC (a := Code.seq (Code.region _ _ _) (Code.block _ _)) [4, 37, 38, 39, 40, 353, 354, 355, 356, 357, 358, 359, 360, 361, 362, 363, 364, 365, 366, 367, 368, 369, 370, 371, 372, 373, 374, 375, 376, 377, 378, 379, 380, 381, 382, 383, 384, 385, 386, 387, 388, 389, 390, 391, 392, 393, 394, 395, 396, 397, 398, 399, 400] [] (LoJ Hl Q cs) rfl (by repeat' first | exact Resp.retD | exact Resp1.valuesK | refine Resp.blockD ?_ | refine Resp.thenD ?_ ?_ | refine Resp.hcode ?_) ?_ ?_) | (refine HCode.step ?_; (repeat refine HReg.step ?_); first | (show HCode _ _ _ (Code.seq (Code.seq (Code.region _ _ _) (Code.block _ _)) _) _ _ _; refine hcutC (a := Code.seq (Code.region _ _ _) (Code.block _ _)) [4, 37, 38, 39, 40, 353, 354, 355, 356, 357, 358, 359, 360, 361, 362, 363, 364, 365, 366, 367, 368, 369, 370, 371, 372, 373, 374, 375, 376, 377, 378, 379, 380, 381, 382, 383, 384, 385, 386, 387, 388, 389, 390, 391, 392, 393, 394, 395, 396, 397, 398, 399, 400] [] (LoJ Hl Q cs) rfl (by repeat' first | exact Resp.retD | exact Resp1.valuesK | refine Resp.blockD ?_ | refine Resp.thenD ?_ ?_ | refine Resp.hcode ?_) ?_ ?_) | (refine HCode.step ?_; (repeat refine HReg.step ?_); first | (show HCode _ _ _ (Code.seq (Code.seq (Code.region _ _ _) (Code.block _ _)) _) _ _ _; refine hcutC (a := Code.seq (Code.region _ _ _) (Code.block _ _)) [4, 37, 38, 39, 40, 353, 354, 355, 356, 357, 358, 359, 360, 361, 362, 363, 364, 365, 366, 367, 368, 369, 370, 371, 372, 373, 374, 375, 376, 377, 378, 379, 380, 381, 382, 383, 384, 385, 386, 387, 388, 389, 390, 391, 392, 393, 394, 395, 396, 397, 398, 399, 400] [] (LoJ Hl Q cs) rfl (by repeat' first | exact Resp.retD | exact Resp1.valuesK | refine Resp.blockD ?_ | refine Resp.thenD ?_ ?_ | refine Resp.hcode ?_) ?_ ?_) | (refine HCode.step ?_; (repeat refine HReg.step ?_); first | (show HCode _ _ _ (Code.seq (Code.seq (Code.region _ _ _) (Code.block _ _)) _) _ _ _; refine hcutC (a := Code.seq (Code.region _ _ _) (Code.block _ _)) [4, 37, 38, 39, 40, 353, 354, 355, 356, 357, 358, 359, 360, 361, 362, 363, 364, 365, 366, 367, 368, 369, 370, 371, 372, 373, 374, 375, 376, 377, 378, 379, 380, 381, 382, 383, 384, 385, 386, 387, 388, 389, 390, 391, 392, 393, 394, 395, 396, 397, 398, 399, 400] [] (LoJ Hl Q cs) rfl (by repeat' first | exact Resp.retD | exact Resp1.valuesK | refine Resp.blockD ?_ | refine Resp.thenD ?_ ?_ | refine Resp.hcode ?_) ?_ ?_) | (refine HCode.step ?_; (repeat refine HReg.step ?_); first | (show HCode _ _ _ (Code.seq (Code.seq (Code.region _ _ _) (Code.block _ _)) _) _ _ _; refine hcutC (a := Code.seq (Code.region _ _ _) (Code.block _ _)) [4, 37, 38, 39, 40, 353, 354, 355, 356, 357, 358, 359, 360, 361, 362, 363, 364, 365, 366, 367, 368, 369, 370, 371, 372, 373, 374, 375, 376, 377, 378, 379, 380, 381, 382, 383, 384, 385, 386, 387, 388, 389, 390, 391, 392, 393, 394, 395, 396, 397, 398, 399, 400] [] (LoJ Hl Q cs) rfl (by repeat' first | exact Resp.retD | exact Resp1.valuesK | refine Resp.blockD ?_ | refine Resp.thenD ?_ ?_ | refine Resp.hcode ?_) ?_ ?_) | (refine HCode.step ?_; (repeat refine HReg.step ?_); first | (show HCode _ _ _ (Code.seq (Code.seq (Code.region _ _ _) (Code.block _ _)) _) _ _ _; refine hcutC (a := Code.seq (Code.region _ _ _) (Code.block _ _)) [4, 37, 38, 39, 40, 353, 354, 355, 356, 357, 358, 359, 360, 361, 362, 363, 364, 365, 366, 367, 368, 369, 370, 371, 372, 373, 374, 375, 376, 377, 378, 379, 380, 381, 382, 383, 384, 385, 386, 387, 388, 389, 390, 391, 392, 393, 394, 395, 396, 397, 398, 399, 400] [] (LoJ Hl Q cs) rfl (by repeat' first | exact Resp.retD | exact Resp1.valuesK | refine Resp.blockD ?_ | refine Resp.thenD ?_ ?_ | refine Resp.hcode ?_) ?_ ?_) | (refine HCode.step ?_; (repeat refine HReg.step ?_); first | (show HCode _ _ _ (Code.seq (Code.seq (Code.region _ _ _) (Code.block _ _)) _) _ _ _; refine hcutC (a := Code.seq (Code.region _ _ _) (Code.block _ _)) [4, 37, 38, 39, 40, 353, 354, 355, 356, 357, 358, 359, 360, 361, 362, 363, 364, 365, 366, 367, 368, 369, 370, 371, 372, 373, 374, 375, 376, 377, 378, 379, 380, 381, 382, 383, 384, 385, 386, 387, 388, 389, 390, 391, 392, 393, 394, 395, 396, 397, 398, 399, 400] [] (LoJ Hl Q cs) rfl (by repeat' first | exact Resp.retD | exact Resp1.valuesK | refine Resp.blockD ?_ | refine Resp.thenD ?_ ?_ | refine Resp.hcode ?_) ?_ ?_) | (refine HCode.step ?_; (repeat refine HReg.step ?_); first | (show HCode _ _ _ (Code.seq (Code.seq (Code.region _ _ _) (Code.block _ _)) _) _ _ _; refine hcutC (a := Code.seq (Code.region _ _ _) (Code.block _ _)) [4, 37, 38, 39, 40, 353, 354, 355, 356, 357, 358, 359, 360, 361, 362, 363, 364, 365, 366, 367, 368, 369, 370, 371, 372, 373, 374, 375, 376, 377, 378, 379, 380, 381, 382, 383, 384, 385, 386, 387, 388, 389, 390, 391, 392, 393, 394, 395, 396, 397, 398, 399, 400] [] (LoJ Hl Q cs) rfl (by repeat' first | exact Resp.retD | exact Resp1.valuesK | refine Resp.blockD ?_ | refine Resp.thenD ?_ ?_ | refine Resp.hcode ?_) ?_ ?_) | (refine HCode.step ?_; (repeat refine HReg.step ?_); first | (show HCode _ _ _ (Code.seq (Code.seq (Code.region _ _ _) (Code.block _ _)) _) _ _ _; refine hcutC (a := Code.seq (Code.region _ _ _) (Code.block _ _)) [4, 37, 38, 39, 40, 353, 354, 355, 356, 357, 358, 359, 360, 361, 362, 363, 364, 365, 366, 367, 368, 369, 370, 371, 372, 373, 374, 375, 376, 377, 378, 379, 380, 381, 382, 383, 384, 385, 386, 387, 388, 389, 390, 391, 392, 393, 394, 395, 396, 397, 398, 399, 400] [] (LoJ Hl Q cs) rfl (by repeat' first | exact Resp.retD | exact Resp1.valuesK | refine Resp.blockD ?_ | refine Resp.thenD ?_ ?_ | refine Resp.hcode ?_) ?_ ?_) | (refine HCode.step ?_; (repeat refine HReg.step ?_); first | (show HCode _ _ _ (Code.seq (Code.seq (Code.region _ _ _) (Code.block _ _)) _) _ _ _; refine hcutC (a := Code.seq (Code.region _ _ _) (Code.block _ _)) [4, 37, 38, 39, 40, 353, 354, 355, 356, 357, 358, 359, 360, 361, 362, 363, 364, 365, 366, 367, 368, 369, 370, 371, 372, 373, 374, 375, 376, 377, 378, 379, 380, 381, 382, 383, 384, 385, 386, 387, 388, 389, 390, 391, 392, 393, 394, 395, 396, 397, 398, 399, 400] [] (LoJ Hl Q cs) rfl (by repeat' first | exact Resp.retD | exact Resp1.valuesK | refine Resp.blockD ?_ | refine Resp.thenD ?_ ?_ | refine Resp.hcode ?_) ?_ ?_) | (refine HCode.step ?_; (repeat refine HReg.step ?_); (show HCode _ _ _ (Code.seq (Code.seq (Code.region _ _ _) (Code.block _ _)) _) _ _ _; refine hcutC (a := Code.seq (Code.region _ _ _) (Code.block _ _)) [4, 37, 38, 39, 40, 353, 354, 355, 356, 357, 358, 359, 360, 361, 362, 363, 364, 365, 366, 367, 368, 369, 370, 371, 372, 373, 374, 375, 376, 377, 378, 379, 380, 381, 382, 383, 384, 385, 386, 387, 388, 389, 390, 391, 392, 393, 394, 395, 396, 397, 398, 399, 400] [] (LoJ Hl Q cs) rfl (by repeat' first | exact Resp.retD | exact Resp1.valuesK | refine Resp.blockD ?_ | refine Resp.thenD ?_ ?_ | refine Resp.hcode ?_) ?_ ?_))))))))))))))))))))))
  · (repeat first | refine HReg.step ?_ | refine HCode.step ?_)
    refine hloopC [4, 37, 38, 39, 40, 353, 354, 355, 356, 357, 358, 359, 360, 361, 362, 363, 364, 365, 366, 367, 368, 369, 370, 371, 372, 373, 374, 375, 376, 377, 378, 379, 380, 381, 382, 383, 384, 385, 386, 387, 388, 389, 390, 391, 392, 393, 394, 395, 396, 397, 398, 399, 400] [37] (LoInv Hl Q cs) rfl (by repeat' first | exact Resp.retD | exact Resp1.valuesK | refine Resp.blockD ?_ | refine Resp.thenD ?_ ?_ | refine Resp.hcode ?_) ?_ ?_
    · exact ⟨6, LoInv.mk ⟨0, rfl, rfl, sM⟩⟩
    rintro m _ fe H42 ⟨i, rfl, hmi, s⟩
    have wi : wr .i64 ((i : Int) + 1) = ((i + 1 : Nat) : Int) := by rw [wr_i64 (by omega) (by omega)]; omega
    (repeat first | refine HReg.step ?_ | refine HCode.step ?_)
    refine hif (fun h1 => ?_) (fun h1 => ?_)
    · have h1 := ltB_true.1 h1
      obtain ⟨q, hq, nq⟩ := s.get (i := i) (by omega)
      have hnk := nq.nk
      have hnp := nq.np
      (repeat first | refine HReg.step ?_ | refine HCode.step ?_)
      refine HReq.mk ⟨by omega, by omega⟩ ?_
      (repeat first | refine HReg.step ?_ | refine HCode.step ?_)
      refine HLoad.one ((s.row hQ).get (recsV_get hq 3 _ rfl)) ?_
      (repeat first | refine HReg.step ?_ | refine HCode.step ?_)
      refine HReq.mk ⟨by omega, by omega⟩ ?_
      (repeat first | refine HReg.step ?_ | refine HCode.step ?_)
      refine HLoad.one ((s.row hQ).get (recsV_get hq 2 _ rfl)) ?_
      ((repeat refine HReg.step ?_); first | (show HCode _ _ _ (Code.seq (Code.seq (Code.region _ _ _) (Code.block _ _)) _) _ _ _; refine hcutC (a := Code.seq (Code.region _ _ _) (Code.block _ _)) [38, 39, 40, 367, 368, 369, 370, 371, 372, 373, 374, 375, 376, 377] [38, 39] (LeJ Hl Q cs q) rfl (by repeat' first | exact Resp.retD | exact Resp1.valuesK | refine Resp.blockD ?_ | refine Resp.thenD ?_ ?_ | refine Resp.hcode ?_) ?_ ?_) | (refine HCode.step ?_; (repeat refine HReg.step ?_); first | (show HCode _ _ _ (Code.seq (Code.seq (Code.region _ _ _) (Code.block _ _)) _) _ _ _; refine hcutC (a := Code.seq (Code.region _ _ _) (Code.block _ _)) [38, 39, 40, 367, 368, 369, 370, 371, 372, 373, 374, 375, 376, 377] [38, 39] (LeJ Hl Q cs q) rfl (by repeat' first | exact Resp.retD | exact Resp1.valuesK | refine Resp.blockD ?_ | refine Resp.thenD ?_ ?_ | refine Resp.hcode ?_) ?_ ?_) | (refine HCode.step ?_; (repeat refine HReg.step ?_); first | (show HCode _ _ _ (Code.seq (Code.seq (Code.region _ _ _) (Code.block _ _)) _) _ _ _; refine hcutC (a := Code.seq (Code.region _ _ _) (Code.block _ _)) [38, 39, 40, 367, 368, 369, 370, 371, 372, 373, 374, 375, 376, 377] [38, 39] (LeJ Hl Q cs q) rfl (by repeat' first | exact Resp.retD | exact Resp1.valuesK | refine Resp.blockD ?_ | refine Resp.thenD ?_ ?_ | refine Resp.hcode ?_) ?_ ?_) | (refine HCode.step ?_; (repeat refine HReg.step ?_); first | (show HCode _ _ _ (Code.seq (Code.seq (Code.region _ _ _) (Code.block _ _)) _) _ _ _; refine hcutC (a := Code.seq (Code.region _ _ _) (Code.block _ _)) [38, 39, 40, 367, 368, 369, 370, 371, 372, 373, 374, 375, 376, 377] [38, 39] (LeJ Hl Q cs q) rfl (by repeat' first | exact Resp.retD | exact Resp1.valuesK | refine Resp.blockD ?_ | refine Resp.thenD ?_ ?_ | refine Resp.hcode ?_) ?_ ?_) | (refine HCode.step ?_; (repeat refine HReg.step ?_); first | (show HCode _ _ _ (Code.seq (Code.seq (Code.region _ _ _) (Code.block _ _)) _) _ _ _; refine hcutC (a := Code.seq (Code.region _ _ _) (Code.block _ _)) [38, 39, 40, 367, 368, 369, 370, 371, 372, 373, 374, 375, 376, 377] [38, 39] (LeJ Hl Q cs q) rfl (by repeat' first | exact Resp.retD | exact Resp1.valuesK | refine Resp.blockD ?_ | refine Resp.thenD ?_ ?_ | refine Resp.hcode ?_) ?_ ?_) | (refine HCode.step ?_; (repeat refine HReg.step ?_); first | (show HCode _ _ _ (Code.seq (Code.seq (Code.region _ _ _) (Code.block _ _)) _) _ _ _; refine hcutC (a := Code.seq (Code.region _ _ _) (Code.block _ _)) [38, 39, 40, 367, 368, 369, 370, 371, 372, 373, 374, 375, 376, 377] [38, 39] (LeJ Hl Q cs q) rfl (by repeat' first | exact Resp.retD | exact Resp1.valuesK | refine Resp.blockD ?_ | refine Resp.thenD ?_ ?_ | refine Resp.hcode ?_) ?_ ?_) | (refine HCode.step ?_; (repeat refine HReg.step ?_); first | (show HCode _ _ _ (Code.seq (Code.seq (Code.region _ _ _) (Code.block _ _)) _) _ _ _; refine hcutC (a := Code.seq (Code.region _ _ _) (Code.block _ _)) [38, 39, 40, 367, 368, 369, 370, 371, 372, 373, 374, 375, 376, 377] [38, 39] (LeJ Hl Q cs q) rfl (by repeat' first | exact Resp.retD | exact Resp1.valuesK | refine Resp.blockD ?_ | refine Resp.thenD ?_ ?_ | refine Resp.hcode ?_) ?_ ?_) | (refine HCode.step ?_; (repeat refine HReg.step ?_); first | (show HCode _ _ _ (Code.seq (Code.seq (Code.region _ _ _) (Code.block _ _)) _) _ _ _; refine hcutC (a := Code.seq (Code.region _ _ _) (Code.block _ _)) [38, 39, 40, 367, 368, 369, 370, 371, 372, 373, 374, 375, 376, 377] [38, 39] (LeJ Hl Q cs q) rfl (by repeat' first | exact Resp.retD | exact Resp1.valuesK | refine Resp.blockD ?_ | refine Resp.thenD ?_ ?_ | refine Resp.hcode ?_) ?_ ?_) | (refine HCode.step ?_; (repeat refine HReg.step ?_); first | (show HCode _ _ _ (Code.seq (Code.seq (Code.region _ _ _) (Code.block _ _)) _) _ _ _; refine hcutC (a := Code.seq (Code.region _ _ _) (Code.block _ _)) [38, 39, 40, 367, 368, 369, 370, 371, 372, 373, 374, 375, 376, 377] [38, 39] (LeJ Hl Q cs q) rfl (by repeat' first | exact Resp.retD | exact Resp1.valuesK | refine Resp.blockD ?_ | refine Resp.thenD ?_ ?_ | refine Resp.hcode ?_) ?_ ?_) | (refine HCode.step ?_; (repeat refine HReg.step ?_); first | (show HCode _ _ _ (Code.seq (Code.seq (Code.region _ _ _) (Code.block _ _)) _) _ _ _; refine hcutC (a := Code.seq (Code.region _ _ _) (Code.block _ _)) [38, 39, 40, 367, 368, 369, 370, 371, 372, 373, 374, 375, 376, 377] [38, 39] (LeJ Hl Q cs q) rfl (by repeat' first | exact Resp.retD | exact Resp1.valuesK | refine Resp.blockD ?_ | refine Resp.thenD ?_ ?_ | refine Resp.hcode ?_) ?_ ?_) | (refine HCode.step ?_; (repeat refine HReg.step ?_); first | (show HCode _ _ _ (Code.seq (Code.seq (Code.region _ _ _) (Code.block _ _)) _) _ _ _; refine hcutC (a := Code.seq (Code.region _ _ _) (Code.block _ _)) [38, 39, 40, 367, 368, 369, 370, 371, 372, 373, 374, 375, 376, 377] [38, 39] (LeJ Hl Q cs q) rfl (by repeat' first | exact Resp.retD | exact Resp1.valuesK | refine Resp.blockD ?_ | refine Resp.thenD ?_ ?_ | refine Resp.hcode ?_) ?_ ?_) | (refine HCode.step ?_; (repeat refine HReg.step ?_); first | (show HCode _ _ _ (Code.seq (Code.seq (Code.region _ _ _) (Code.block _ _)) _) _ _ _; refine hcutC (a := Code.seq (Code.region _ _ _) (Code.block _ _)) [38, 39, 40, 367, 368, 369, 370, 371, 372, 373, 374, 375, 376, 377] [38, 39] (LeJ Hl Q cs q) rfl (by repeat' first | exact Resp.retD | exact Resp1.valuesK | refine Resp.blockD ?_ | refine Resp.thenD ?_ ?_ | refine Resp.hcode ?_) ?_ ?_) | (refine HCode.step ?_; (repeat refine HReg.step ?_); first | (show HCode _ _ _ (Code.seq (Code.seq (Code.region _ _ _) (Code.block _ _)) _) _ _ _; refine hcutC (a := Code.seq (Code.region _ _ _) (Code.block _ _)) [38, 39, 40, 367, 368, 369, 370, 371, 372, 373, 374, 375, 376, 377] [38, 39] (LeJ Hl Q cs q) rfl (by repeat' first | exact Resp.retD | exact Resp1.valuesK | refine Resp.blockD ?_ | refine Resp.thenD ?_ ?_ | refine Resp.hcode ?_) ?_ ?_) | (refine HCode.step ?_; (repeat refine HReg.step ?_); first | (show HCode _ _ _ (Code.seq (Code.seq (Code.region _ _ _) (Code.block _ _)) _) _ _ _; refine hcutC (a := Code.seq (Code.region _ _ _) (Code.block _ _)) [38, 39, 40, 367, 368, 369, 370, 371, 372, 373, 374, 375, 376, 377] [38, 39] (LeJ Hl Q cs q) rfl (by repeat' first | exact Resp.retD | exact Resp1.valuesK | refine Resp.blockD ?_ | refine Resp.thenD ?_ ?_ | refine Resp.hcode ?_) ?_ ?_) | (refine HCode.step ?_; (repeat refine HReg.step ?_); first | (show HCode _ _ _ (Code.seq (Code.seq (Code.region _ _ _) (Code.block _ _)) _) _ _ _; refine hcutC (a := Code.seq (Code.region _ _ _) (Code.block _ _)) [38, 39, 40, 367, 368, 369, 370, 371, 372, 373, 374, 375, 376, 377] [38, 39] (LeJ Hl Q cs q) rfl (by repeat' first | exact Resp.retD | exact Resp1.valuesK | refine Resp.blockD ?_ | refine Resp.thenD ?_ ?_ | refine Resp.hcode ?_) ?_ ?_) | (refine HCode.step ?_; (repeat refine HReg.step ?_); first | (show HCode _ _ _ (Code.seq (Code.seq (Code.region _ _ _) (Code.block _ _)) _) _ _ _; refine hcutC (a := Code.seq (Code.region _ _ _) (Code.block _ _)) [38, 39, 40, 367, 368, 369, 370, 371, 372, 373, 374, 375, 376, 377] [38, 39] (LeJ Hl Q cs q) rfl (by repeat' first | exact Resp.retD | exact Resp1.valuesK | refine Resp.blockD ?_ | refine Resp.thenD ?_ ?_ | refine Resp.hcode ?_) ?_ ?_) | (refine HCode.step ?_; (repeat refine HReg.step ?_); first | (show HCode _ _ _ (Code.seq (Code.seq (Code.region _ _ _) (Code.block _ _)) _) _ _ _; refine hcutC (a := Code.seq (Code.region _ _ _) (Code.block _ _)) [38, 39, 40, 367, 368, 369, 370, 371, 372, 373, 374, 375, 376, 377] [38, 39] (LeJ Hl Q cs q) rfl (by repeat' first | exact Resp.retD | exact Resp1.valuesK | refine Resp.blockD ?_ | refine Resp.thenD ?_ ?_ | refine Resp.hcode ?_) ?_ ?_) | (refine HCode.step ?_; (repeat refine HReg.step ?_); first | (show HCode _ _ _ (Code.seq (Code.seq (Code.region _ _ _) (Code.block _ _)) _) _ _ _; refine hcutC (a := Code.seq (Code.region _ _ _) (Code.block _ _)) [38, 39, 40, 367, 368, 369, 370, 371, 372, 373, 374, 375, 376, 377] [38, 39] (LeJ Hl Q cs q) rfl (by repeat' first | exact Resp.retD | exact Resp1.valuesK | refine Resp.blockD ?_ | refine Resp.thenD ?_ ?_ | refine Resp.hcode ?_) ?_ ?_) | (refine HCode.step ?_; (repeat refine HReg.step ?_); first | (show HCode _ _ _ (Code.seq (Code.seq (Code.region _ _ _) (Code.block _ _)) _) _ _ _; refine hcutC (a := Code.seq (Code.region _ _ _) (Code.block _ _)) [38, 39, 40, 367, 368, 369, 370, 371, 372, 373, 374, 375, 376, 377] [38, 39] (LeJ Hl Q cs q) rfl (by repeat' first | exact Resp.retD | exact Resp1.valuesK | refine Resp.blockD ?_ | refine Resp.thenD ?_ ?_ | refine Resp.hcode ?_) ?_ ?_) | (refine HCode.step ?_; (repeat refine HReg.step ?_); first | (show HCode _ _ _ (Code.seq (Code.seq (Code.region _ _ _) (Code.block _ _)) _) _ _ _; refine hcutC (a := Code.seq (Code.region _ _ _) (Code.block _ _)) [38, 39, 40, 367, 368, 369, 370, 371, 372, 373, 374, 375, 376, 377] [38, 39] (LeJ Hl Q cs q) rfl (by repeat' first | exact Resp.retD | exact Resp1.valuesK | refine Resp.blockD ?_ | refine Resp.thenD ?_ ?_ | refine Resp.hcode ?_) ?_ ?_) | (refine HCode.step ?_; (repeat refine HReg.step ?_); (show HCode _ _ _ (Code.seq (Code.seq (Code.region _ _ _) (Code.block _ _)) _) _ _ _; refine hcutC (a := Code.seq (Code.region _ _ _) (Code.block _ _)) [38, 39, 40, 367, 368, 369, 370, 371, 372, 373, 374, 375, 376, 377] [38, 39] (LeJ Hl Q cs q) rfl (by repeat' first | exact Resp.retD | exact Resp1.valuesK | refine Resp.blockD ?_ | refine Resp.thenD ?_ ?_ | refine Resp.hcode ?_) ?_ ?_))))))))))))))))))))))
      · (repeat first | refine HReg.step ?_ | refine HCode.step ?_)
        refine hloopC [38, 39, 40, 367, 368, 369, 370, 371, 372, 373, 374, 375, 376, 377] [38, 39, 40] (LeInv Hl Q cs q) rfl (by repeat' first | exact Resp.retD | exact Resp1.valuesK | refine Resp.blockD ?_ | refine Resp.thenD ?_ ?_ | refine Resp.hcode ?_) ?_ ?_
        · exact ⟨40, LeInv.mk ⟨0, _, _, _, _, rfl, rfl, Le.zero s hq⟩⟩
        rintro m _ fe H43 ⟨x, f1, f2, a1, a2, rfl, hmx, l⟩
        have wx : wr .i64 ((x : Int) + 1) = ((x + 1 : Nat) : Int) := by rw [wr_i64 (by omega) (by omega)]; omega
        (repeat first | refine HReg.step ?_ | refine HCode.step ?_)
        refine hif (fun h2 => ?_) (fun h2 => ?_)
        · have h2 := ltB_true.1 h2
          (repeat first | refine HReg.step ?_ | refine HCode.step ?_)
          refine HReq.mk (by decide) ?_
          (repeat first | refine HReg.step ?_ | refine HCode.step ?_)
          refine HNew.as (o' := .cells (txts [moreT]).toArray 9) rfl fun b14 hb14 => ?_
          have uN : Upd [] H43 (H43.upd b14 (.cells (txts [moreT]).toArray 9)) := Upd.new hb14 _
          have oN : RowAt (H43.upd b14 (.cells (txts [moreT]).toArray 9)) (some ⟨b14, 0, none⟩) (txts [moreT]) := RowAt.of_cells (upd_same _ _ _)
          generalize H43.upd b14 (.cells (txts [moreT]).toArray 9) = H44 at uN oN ⊢
          have l := l.upd0 uN
          (repeat first | refine HReg.step ?_ | refine HCode.step ?_)
          refine l.keys hq oN (by omega) fun a3 f3 H45 s45 k45 p45 => ?_
          (repeat first | refine HReg.step ?_ | refine HCode.step ?_)
          refine HReq.mk (by decide) ?_
          (repeat first | refine HReg.step ?_ | refine HCode.step ?_)
          refine HNew.as (o' := .cells (pairsV [(moreT, [])]).toArray 49) rfl fun b15 hb15 => ?_
          have uP : Upd [] H45 (H45.upd b15 (.cells (pairsV [(moreT, [])]).toArray 49)) := Upd.new hb15 _
          have oP : RowAt (H45.upd b15 (.cells (pairsV [(moreT, [])]).toArray 49)) (some ⟨b15, 0, none⟩) (pairsV [(moreT, [])]) := RowAt.of_cells (upd_same _ _ _)
          generalize H45.upd b15 (.cells (pairsV [(moreT, [])]).toArray 49) = H46 at uP oP ⊢
          have s46 := s45.upd0 uP
          have k46 := k45.upd uP (Off.nil _)
          have p46 := p45.upd uP (Off.nil _)
          (repeat first | refine HReg.step ?_ | refine HCode.step ?_)
          refine Le.pairs s46 k46 p46 hq oP (by omega) fun a4 f4 H47 s47 p47 k47 => ?_
          (repeat first | refine HReg.step ?_ | refine HCode.step ?_)
          rw [wx]
          exact ⟨m - 1, by omega, LeInv.mk ⟨x + 1, f3, f4, a3, a4, rfl, by omega, s47, k47, p47⟩⟩
        · have h2 := ltB_false.1 h2
          (repeat first | refine HReg.step ?_ | refine HCode.step ?_)
          obtain rfl : x = 40 := by omega
          exact LeJ.mk ⟨f1, f2, a1, a2, rfl, l⟩
      rintro _ fe6 H43 ⟨f1, f2, a1, a2, rfl, l⟩
      have s := l.s
      obtain ⟨y1, z1, rfl, w1⟩ := l.k.own.rows q.r.ks.length (.string (bs moreT)) (by unfold txts; rw [List.getElem?_map, List.getElem?_append_right (Nat.le_refl _), Nat.sub_self]; rfl)
      obtain ⟨y2, z2, rfl, w2⟩ := l.p.own.rows (q.r.ps.length * 2) (.string (bs moreT)) (pairsV_get (p := (moreT, [])) (by rw [List.getElem?_append_right (Nat.le_refl _), Nat.sub_self]; rfl)).1
      (repeat first | refine HReg.step ?_ | refine HCode.step ?_)
      refine HReq.mk ⟨by omega, by omega⟩ ?_
      (repeat first | refine HReg.step ?_ | refine HCode.step ?_)
      refine HLoad.one ((s.row hQ).get (recsV_get hq 3 _ rfl)) ?_
      (repeat first | refine HReg.step ?_ | refine HCode.step ?_)
      refine HReq.mk ⟨by omega, by omega⟩ ?_
      (repeat first | refine HReg.step ?_ | refine HCode.step ?_)
      refine HLoad.one w1 ?_
      (repeat first | refine HReg.step ?_ | refine HCode.step ?_)
      have hmm : seqB (bs moreT) (bs moreT) = true := by rw [seqB_bs]; exact decide_eq_true rfl
      rw [show seqB (bs moreT) ⟨#[109, 111, 114, 101]⟩ = true from hmm]
      (repeat first | refine HReg.step ?_ | refine HCode.step ?_)
      refine HReq.mk ⟨by omega, by omega⟩ ?_
      (repeat first | refine HReg.step ?_ | refine HCode.step ?_)
      refine HLoad.one ((s.row hQ).get (recsV_get hq 2 _ rfl)) ?_
      (repeat first | refine HReg.step ?_ | refine HCode.step ?_)
      refine HReq.mk ⟨by omega, by omega⟩ ?_
      (repeat first | refine HReg.step ?_ | refine HCode.step ?_)
      refine HLoad.one w2 ?_
      (repeat first | refine HReg.step ?_ | refine HCode.step ?_)
      rw [show seqB (bs moreT) ⟨#[109, 111, 114, 101]⟩ = true from hmm]
      (repeat first | refine HReg.step ?_ | refine HCode.step ?_)
      rw [wi]
      exact ⟨m - 1, by omega, LoInv.mk ⟨i + 1, rfl, by omega, s⟩⟩
    · have h1 := ltB_false.1 h1
      (repeat first | refine HReg.step ?_ | refine HCode.step ?_)
      exact LoJ.mk ⟨rfl, s⟩
  rintro _ fe6 H42 ⟨rfl, sM⟩
  ((repeat refine HReg.step ?_); first | (show HCode _ _ _ (Code.seq (Code.seq (Code.region _ _ _) (Code.block _ _)) _) _ _ _; refine hcutC (a := Code.seq (Code.region _ _ _) (Code.block _ _)) [4, 41, 42, 43, 401, 402, 403, 404, 405, 406, 407, 408, 409, 410, 411, 412, 413, 414, 415, 416, 417, 418, 419, 420, 421, 422, 423, 424, 425, 426, 427, 428, 429, 430, 431, 432, 433, 434, 435, 436, 437, 438, 439, 440, 441, 442, 443, 444, 445, 446, 447, 448, 449, 450, 451] [] (LoJ Hl Q cs) rfl (by repeat' first | exact Resp.retD | exact Resp1.valuesK | refine Resp.blockD ?_ | refine Resp.thenD ?_ ?_ | refine Resp.hcode ?_) ?_ ?_) | (refine HCode.step ?_; (repeat refine HReg.step ?_); first | (show HCode _ _ _ (Code.seq (Code.seq (Code.region _ _ _) (Code.block _ _)) _) _ _ _; refine hcutC (a := Code.seq (Code.region _ _ _) (Code.block _ _)) [4, 41, 42, 43, 401, 402, 403, 404, 405, 406, 407, 408, 409, 410, 411, 412, 413, 414, 415, 416, 417, 418, 419, 420, 421, 422, 423, 424, 425, 426, 427, 428, 429, 430, 431, 432, 433, 434, 435, 436, 437, 438, 439, 440, 441, 442, 443, 444, 445, 446, 447, 448, 449, 450, 451] [] (LoJ Hl Q cs) rfl (by repeat' first | exact Resp.retD | exact Resp1.valuesK | refine Resp.blockD ?_ | refine Resp.thenD ?_ ?_ | refine Resp.hcode ?_) ?_ ?_) | (refine HCode.step ?_; (repeat refine HReg.step ?_); first | (show HCode _ _ _ (Code.seq (Code.seq (Code.region _ _ _) (Code.block _ _)) _) _ _ _; refine hcutC (a := Code.seq (Code.region _ _ _) (Code.block _ _)) [4, 41, 42, 43, 401, 402, 403, 404, 405, 406, 407, 408, 409, 410, 411, 412, 413, 414, 415, 416, 417, 418, 419, 420, 421, 422, 423, 424, 425, 426, 427, 428, 429, 430, 431, 432, 433, 434, 435, 436, 437, 438, 439, 440, 441, 442, 443, 444, 445, 446, 447, 448, 449, 450, 451] [] (LoJ Hl Q cs) rfl (by repeat' first | exact Resp.retD | exact Resp1.valuesK | refine Resp.blockD ?_ | refine Resp.thenD ?_ ?_ | refine Resp.hcode ?_) ?_ ?_) | (refine HCode.step ?_; (repeat refine HReg.step ?_); first | (show HCode _ _ _ (Code.seq (Code.seq (Code.region _ _ _) (Code.block _ _)) _) _ _ _; refine hcutC (a := Code.seq (Code.region _ _ _) (Code.block _ _)) [4, 41, 42, 43, 401, 402, 403, 404, 405, 406, 407, 408, 409, 410, 411, 412, 413, 414, 415, 416, 417, 418, 419, 420, 421, 422, 423, 424, 425, 426, 427, 428, 429, 430, 431, 432, 433, 434, 435, 436, 437, 438, 439, 440, 441, 442, 443, 444, 445, 446, 447, 448, 449, 450, 451] [] (LoJ Hl Q cs) rfl (by repeat' first | exact Resp.retD | exact Resp1.valuesK | refine Resp.blockD ?_ | refine Resp.thenD ?_ ?_ | refine Resp.hcode ?_) ?_ ?_) | (refine HCode.step ?_; (repeat refine HReg.step ?_); first | (show HCode _ _ _ (Code.seq (Code.seq (Code.region _ _ _) (Code.block _ _)) _) _ _ _; refine hcutC (a := Code.seq (Code.region _ _ _) (Code.block _ _)) [4, 41, 42, 43, 401, 402, 403, 404, 405, 406, 407, 408, 409, 410, 411, 412, 413, 414, 415, 416, 417, 418, 419, 420, 421, 422, 423, 424, 425, 426, 427, 428, 429, 430, 431, 432, 433, 434, 435, 436, 437, 438, 439, 440, 441, 442, 443, 444, 445, 446, 447, 448, 449, 450, 451] [] (LoJ Hl Q cs) rfl (by repeat' first | exact Resp.retD | exact Resp1.valuesK | refine Resp.blockD ?_ | refine Resp.thenD ?_ ?_ | refine Resp.hcode ?_) ?_ ?_) | (refine HCode.step ?_; (repeat refine HReg.step ?_); first | (show HCode _ _ _ (Code.seq (Code.seq (Code.region _ _ _) (Code.block _ _)) _) _ _ _; refine hcutC (a := Code.seq (Code.region _ _ _) (Code.block _ _)) [4, 41, 42, 43, 401, 402, 403, 404, 405, 406, 407, 408, 409, 410, 411, 412, 413, 414, 415, 416, 417, 418, 419, 420, 421, 422, 423, 424, 425, 426, 427, 428, 429, 430, 431, 432, 433, 434, 435, 436, 437, 438, 439, 440, 441, 442, 443, 444, 445, 446, 447, 448, 449, 450, 451] [] (LoJ Hl Q cs) rfl (by repeat' first | exact Resp.retD | exact Resp1.valuesK | refine Resp.blockD ?_ | refine Resp.thenD ?_ ?_ | refine Resp.hcode ?_) ?_ ?_) | (refine HCode.step ?_; (repeat refine HReg.step ?_); first | (show HCode _ _ _ (Code.seq (Code.seq (Code.region _ _ _) (Code.block _ _)) _) _ _ _; refine hcutC (a := Code.seq (Code.region _ _ _) (Code.block _ _)) [4, 41, 42, 43, 401, 402, 403, 404, 405, 406, 407, 408, 409, 410, 411, 412, 413, 414, 415, 416, 417, 418, 419, 420, 421, 422, 423, 424, 425, 426, 427, 428, 429, 430, 431, 432, 433, 434, 435, 436, 437, 438, 439, 440, 441, 442, 443, 444, 445, 446, 447, 448, 449, 450, 451] [] (LoJ Hl Q cs) rfl (by repeat' first | exact Resp.retD | exact Resp1.valuesK | refine Resp.blockD ?_ | refine Resp.thenD ?_ ?_ | refine Resp.hcode ?_) ?_ ?_) | (refine HCode.step ?_; (repeat refine HReg.step ?_); first | (show HCode _ _ _ (Code.seq (Code.seq (Code.region _ _ _) (Code.block _ _)) _) _ _ _; refine hcutC (a := Code.seq (Code.region _ _ _) (Code.block _ _)) [4, 41, 42, 43, 401, 402, 403, 404, 405, 406, 407, 408, 409, 410, 411, 412, 413, 414, 415, 416, 417, 418, 419, 420, 421, 422, 423, 424, 425, 426, 427, 428, 429, 430, 431, 432, 433, 434, 435, 436, 437, 438, 439, 440, 441, 442, 443, 444, 445, 446, 447, 448, 449, 450, 451] [] (LoJ Hl Q cs) rfl (by repeat' first | exact Resp.retD | exact Resp1.valuesK | refine Resp.blockD ?_ | refine Resp.thenD ?_ ?_ | refine Resp.hcode ?_) ?_ ?_) | (refine HCode.step ?_; (repeat refine HReg.step ?_); first | (show HCode _ _ _ (Code.seq (Code.seq (Code.region _ _ _) (Code.block _ _)) _) _ _ _; refine hcutC (a := Code.seq (Code.region _ _ _) (Code.block _ _)) [4, 41, 42, 43, 401, 402, 403, 404, 405, 406, 407, 408, 409, 410, 411, 412, 413, 414, 415, 416, 417, 418, 419, 420, 421, 422, 423, 424, 425, 426, 427, 428, 429, 430, 431, 432, 433, 434, 435, 436, 437, 438, 439, 440, 441, 442, 443, 444, 445, 446, 447, 448, 449, 450, 451] [] (LoJ Hl Q cs) rfl (by repeat' first | exact Resp.retD | exact Resp1.valuesK | refine Resp.blockD ?_ | refine Resp.thenD ?_ ?_ | refine Resp.hcode ?_) ?_ ?_) | (refine HCode.step ?_; (repeat refine HReg.step ?_); first | (show HCode _ _ _ (Code.seq (Code.seq (Code.region _ _ _) (Code.block _ _)) _) _ _ _; refine hcutC (a := Code.seq (Code.region _ _ _) (Code.block _ _)) [4, 41, 42, 43, 401, 402, 403, 404, 405, 406, 407, 408, 409, 410, 411, 412, 413, 414, 415, 416, 417, 418, 419, 420, 421, 422, 423, 424, 425, 426, 427, 428, 429, 430, 431, 432, 433, 434, 435, 436, 437, 438, 439, 440, 441, 442, 443, 444, 445, 446, 447, 448, 449, 450, 451] [] (LoJ Hl Q cs) rfl (by repeat' first | exact Resp.retD | exact Resp1.valuesK | refine Resp.blockD ?_ | refine Resp.thenD ?_ ?_ | refine Resp.hcode ?_) ?_ ?_) | (refine HCode.step ?_; (repeat refine HReg.step ?_); first | (show HCode _ _ _ (Code.seq (Code.seq (Code.region _ _ _) (Code.block _ _)) _) _ _ _; refine hcutC (a := Code.seq (Code.region _ _ _) (Code.block _ _)) [4, 41, 42, 43, 401, 402, 403, 404, 405, 406, 407, 408, 409, 410, 411, 412, 413, 414, 415, 416, 417, 418, 419, 420, 421, 422, 423, 424, 425, 426, 427, 428, 429, 430, 431, 432, 433, 434, 435, 436, 437, 438, 439, 440, 441, 442, 443, 444, 445, 446, 447, 448, 449, 450, 451] [] (LoJ Hl Q cs) rfl (by repeat' first | exact Resp.retD | exact Resp1.valuesK | refine Resp.blockD ?_ | refine Resp.thenD ?_ ?_ | refine Resp.hcode ?_) ?_ ?_) | (refine HCode.step ?_; (repeat refine HReg.step ?_); first | (show HCode _ _ _ (Code.seq (Code.seq (Code.region _ _ _) (Code.block _ _)) _) _ _ _; refine hcutC (a := Code.seq (Code.region _ _ _) (Code.block _ _)) [4, 41, 42, 43, 401, 402, 403, 404, 405, 406, 407, 408, 409, 410, 411, 412, 413, 414, 415, 416, 417, 418, 419, 420, 421, 422, 423, 424, 425, 426, 427, 428, 429, 430, 431, 432, 433, 434, 435, 436, 437, 438, 439, 440, 441, 442, 443, 444, 445, 446, 447, 448, 449, 450, 451] [] (LoJ Hl Q cs) rfl (by repeat' first | exact Resp.retD | exact Resp1.valuesK | refine Resp.blockD ?_ | refine Resp.thenD ?_ ?_ | refine Resp.hcode ?_) ?_ ?_) | (refine HCode.step ?_; (repeat refine HReg.step ?_); first | (show HCode _ _ _ (Code.seq (Code.seq (Code.region _ _ _) (Code.block _ _)) _) _ _ _; refine hcutC (a := Code.seq (Code.region _ _ _) (Code.block _ _)) [4, 41, 42, 43, 401, 402, 403, 404, 405, 406, 407, 408, 409, 410, 411, 412, 413, 414, 415, 416, 417, 418, 419, 420, 421, 422, 423, 424, 425, 426, 427, 428, 429, 430, 431, 432, 433, 434, 435, 436, 437, 438, 439, 440, 441, 442, 443, 444, 445, 446, 447, 448, 449, 450, 451] [] (LoJ Hl Q cs) rfl (by repeat' first | exact Resp.retD | exact Resp1.valuesK | refine Resp.blockD ?_ | refine Resp.thenD ?_ ?_ | refine Resp.hcode ?_) ?_ ?_) | (refine HCode.step ?_; (repeat refine HReg.step ?_); first | (show HCode _ _ _ (Code.seq (Code.seq (Code.region _ _ _) (Code.block _ _)) _) _ _ _; refine hcutC (a := Code.seq (Code.region _ _ _) (Code.block _ _)) [4, 41, 42, 43, 401, 402, 403, 404, 405, 406, 407, 408, 409, 410, 411, 412, 413, 414, 415, 416, 417, 418, 419, 420, 421, 422, 423, 424, 425, 426, 427, 428, 429, 430, 431, 432, 433, 434, 435, 436, 437, 438, 439, 440, 441, 442, 443, 444, 445, 446, 447, 448, 449, 450, 451] [] (LoJ Hl Q cs) rfl (by repeat' first | exact Resp.retD | exact Resp1.valuesK | refine Resp.blockD ?_ | refine Resp.thenD ?_ ?_ | refine Resp.hcode ?_) ?_ ?_) | (refine HCode.step ?_; (repeat refine HReg.step ?_); first | (show HCode _ _ _ (Code.seq (Code.seq (Code.region _ _ _) (Code.block _ _)) _) _ _ _; refine hcutC (a := Code.seq (Code.region _ _ _) (Code.block _ _)) [4, 41, 42, 43, 401, 402, 403, 404, 405, 406, 407, 408, 409, 410, 411, 412, 413, 414, 415, 416, 417, 418, 419, 420, 421, 422, 423, 424, 425, 426, 427, 428, 429, 430, 431, 432, 433, 434, 435, 436, 437, 438, 439, 440, 441, 442, 443, 444, 445, 446, 447, 448, 449, 450, 451] [] (LoJ Hl Q cs) rfl (by repeat' first | exact Resp.retD | exact Resp1.valuesK | refine Resp.blockD ?_ | refine Resp.thenD ?_ ?_ | refine Resp.hcode ?_) ?_ ?_) | (refine HCode.step ?_; (repeat refine HReg.step ?_); first | (show HCode _ _ _ (Code.seq (Code.seq (Code.region _ _ _) (Code.block _ _)) _) _ _ _; refine hcutC (a := Code.seq (Code.region _ _ _) (Code.block _ _)) [4, 41, 42, 43, 401, 402, 403, 404, 405, 406, 407, 408, 409, 410, 411, 412, 413, 414, 415, 416, 417, 418, 419, 420, 421, 422, 423, 424, 425, 426, 427, 428, 429, 430, 431, 432, 433, 434, 435, 436, 437, 438, 439, 440, 441, 442, 443, 444, 445, 446, 447, 448, 449, 450, 451] [] (LoJ Hl Q cs) rfl (by repeat' first | exact Resp.retD | exact Resp1.valuesK | refine Resp.blockD ?_ | refine Resp.thenD ?_ ?_ | refine Resp.hcode ?_) ?_ ?_) | (refine HCode.step ?_; (repeat refine HReg.step ?_); first | (show HCode _ _ _ (Code.seq (Code.seq (Code.region _ _ _) (Code.block _ _)) _) _ _ _; refine hcutC (a := Code.seq (Code.region _ _ _) (Code.block _ _)) [4, 41, 42, 43, 401, 402, 403, 404, 405, 406, 407, 408, 409, 410, 411, 412, 413, 414, 415, 416, 417, 418, 419, 420, 421, 422, 423, 424, 425, 426, 427, 428, 429, 430, 431, 432, 433, 434, 435, 436, 437, 438, 439, 440, 441, 442, 443, 444, 445, 446, 447, 448, 449, 450, 451] [] (LoJ Hl Q cs) rfl (by repeat' first | exact Resp.retD | exact Resp1.valuesK | refine Resp.blockD ?_ | refine Resp.thenD ?_ ?_ | refine Resp.hcode ?_) ?_ ?_) | (refine HCode.step ?_; (repeat refine HReg.step ?_); first | (show HCode _ _ _ (Code.seq (Code.seq (Code.region _ _ _) (Code.block _ _)) _) _ _ _; refine hcutC (a := Code.seq (Code.region _ _ _) (Code.block _ _)) [4, 41, 42, 43, 401, 402, 403, 404, 405, 406, 407, 408, 409, 410, 411, 412, 413, 414, 415, 416, 417, 418, 419, 420, 421, 422, 423, 424, 425, 426, 427, 428, 429, 430, 431, 432, 433, 434, 435, 436, 437, 438, 439, 440, 441, 442, 443, 444, 445, 446, 447, 448, 449, 450, 451] [] (LoJ Hl Q cs) rfl (by repeat' first | exact Resp.retD | exact Resp1.valuesK | refine Resp.blockD ?_ | refine Resp.thenD ?_ ?_ | refine Resp.hcode ?_) ?_ ?_) | (refine HCode.step ?_; (repeat refine HReg.step ?_); first | (show HCode _ _ _ (Code.seq (Code.seq (Code.region _ _ _) (Code.block _ _)) _) _ _ _; refine hcutC (a := Code.seq (Code.region _ _ _) (Code.block _ _)) [4, 41, 42, 43, 401, 402, 403, 404, 405, 406, 407, 408, 409, 410, 411, 412, 413, 414, 415, 416, 417, 418, 419, 420, 421, 422, 423, 424, 425, 426, 427, 428, 429, 430, 431, 432, 433, 434, 435, 436, 437, 438, 439, 440, 441, 442, 443, 444, 445, 446, 447, 448, 449, 450, 451] [] (LoJ Hl Q cs) rfl (by repeat' first | exact Resp.retD | exact Resp1.valuesK | refine Resp.blockD ?_ | refine Resp.thenD ?_ ?_ | refine Resp.hcode ?_) ?_ ?_) | (refine HCode.step ?_; (repeat refine HReg.step ?_); first | (show HCode _ _ _ (Code.seq (Code.seq (Code.region _ _ _) (Code.block _ _)) _) _ _ _; refine hcutC (a := Code.seq (Code.region _ _ _) (Code.block _ _)) [4, 41, 42, 43, 401, 402, 403, 404, 405, 406, 407, 408, 409, 410, 411, 412, 413, 414, 415, 416, 417, 418, 419, 420, 421, 422, 423, 424, 425, 426, 427, 428, 429, 430, 431, 432, 433, 434, 435, 436, 437, 438, 439, 440, 441, 442, 443, 444, 445, 446, 447, 448, 449, 450, 451] [] (LoJ Hl Q cs) rfl (by repeat' first | exact Resp.retD | exact Resp1.valuesK | refine Resp.blockD ?_ | refine Resp.thenD ?_ ?_ | refine Resp.hcode ?_) ?_ ?_) | (refine HCode.step ?_; (repeat refine HReg.step ?_); (show HCode _ _ _ (Code.seq (Code.seq (Code.region _ _ _) (Code.block _ _)) _) _ _ _; refine hcutC (a := Code.seq (Code.region _ _ _) (Code.block _ _)) [4, 41, 42, 43, 401, 402, 403, 404, 405, 406, 407, 408, 409, 410, 411, 412, 413, 414, 415, 416, 417, 418, 419, 420, 421, 422, 423, 424, 425, 426, 427, 428, 429, 430, 431, 432, 433, 434, 435, 436, 437, 438, 439, 440, 441, 442, 443, 444, 445, 446, 447, 448, 449, 450, 451] [] (LoJ Hl Q cs) rfl (by repeat' first | exact Resp.retD | exact Resp1.valuesK | refine Resp.blockD ?_ | refine Resp.thenD ?_ ?_ | refine Resp.hcode ?_) ?_ ?_))))))))))))))))))))))
  · (repeat first | refine HReg.step ?_ | refine HCode.step ?_)
    refine hloopC [4, 41, 42, 43, 401, 402, 403, 404, 405, 406, 407, 408, 409, 410, 411, 412, 413, 414, 415, 416, 417, 418, 419, 420, 421, 422, 423, 424, 425, 426, 427, 428, 429, 430, 431, 432, 433, 434, 435, 436, 437, 438, 439, 440, 441, 442, 443, 444, 445, 446, 447, 448, 449, 450, 451] [41] (LoInv Hl Q cs) rfl (by repeat' first | exact Resp.retD | exact Resp1.valuesK | refine Resp.blockD ?_ | refine Resp.thenD ?_ ?_ | refine Resp.hcode ?_) ?_ ?_
    · exact ⟨6, LoInv.mk ⟨0, rfl, rfl, sM⟩⟩
    rintro m _ fe H43 ⟨i, rfl, hmi, s⟩
    have wi : wr .i64 ((i : Int) + 1) = ((i + 1 : Nat) : Int) := by rw [wr_i64 (by omega) (by omega)]; omega
    (repeat first | refine HReg.step ?_ | refine HCode.step ?_)
    refine hif (fun h1 => ?_) (fun h1 => ?_)
    · have h1 := ltB_true.1 h1
      have hi6 : i < 6 := by omega
      obtain ⟨q, hq, nq⟩ := s.get (i := i) (by omega)
      have hnk := nq.nk
      have hnp := nq.np
      have dq := dn.all i q (by omega) hq
      have rowK := (s.row hQ).get (recsV_get hq 3 _ rfl)
      have rowP := (s.row hQ).get (recsV_get hq 2 _ rfl)
      have nmr := (hN.upd (S := []) s.u (.inr (Off.nil _))).get (nm_get hi6)
      ((repeat refine HReg.step ?_); first | (show HCode _ _ _ (Code.seq (Code.seq (Code.region _ _ _) (Code.block _ _)) _) _ _ _; refine hcutC (a := Code.seq (Code.region _ _ _) (Code.block _ _)) [4, 42, 405, 406, 407, 408, 409, 410, 411, 412, 413, 414, 415, 416, 417, 418, 419, 420, 421, 422, 423, 424, 425, 426, 427] [] (CoJ H43) rfl (by repeat' first | exact Resp.retD | exact Resp1.valuesK | refine Resp.blockD ?_ | refine Resp.thenD ?_ ?_ | refine Resp.hcode ?_) ?_ ?_) | (refine HCode.step ?_; (repeat refine HReg.step ?_); first | (show HCode _ _ _ (Code.seq (Code.seq (Code.region _ _ _) (Code.block _ _)) _) _ _ _; refine hcutC (a := Code.seq (Code.region _ _ _) (Code.block _ _)) [4, 42, 405, 406, 407, 408, 409, 410, 411, 412, 413, 414, 415, 416, 417, 418, 419, 420, 421, 422, 423, 424, 425, 426, 427] [] (CoJ H43) rfl (by repeat' first | exact Resp.retD | exact Resp1.valuesK | refine Resp.blockD ?_ | refine Resp.thenD ?_ ?_ | refine Resp.hcode ?_) ?_ ?_) | (refine HCode.step ?_; (repeat refine HReg.step ?_); first | (show HCode _ _ _ (Code.seq (Code.seq (Code.region _ _ _) (Code.block _ _)) _) _ _ _; refine hcutC (a := Code.seq (Code.region _ _ _) (Code.block _ _)) [4, 42, 405, 406, 407, 408, 409, 410, 411, 412, 413, 414, 415, 416, 417, 418, 419, 420, 421, 422, 423, 424, 425, 426, 427] [] (CoJ H43) rfl (by repeat' first | exact Resp.retD | exact Resp1.valuesK | refine Resp.blockD ?_ | refine Resp.thenD ?_ ?_ | refine Resp.hcode ?_) ?_ ?_) | (refine HCode.step ?_; (repeat refine HReg.step ?_); first | (show HCode _ _ _ (Code.seq (Code.seq (Code.region _ _ _) (Code.block _ _)) _) _ _ _; refine hcutC (a := Code.seq (Code.region _ _ _) (Code.block _ _)) [4, 42, 405, 406, 407, 408, 409, 410, 411, 412, 413, 414, 415, 416, 417, 418, 419, 420, 421, 422, 423, 424, 425, 426, 427] [] (CoJ H43) rfl (by repeat' first | exact Resp.retD | exact Resp1.valuesK | refine Resp.blockD ?_ | refine Resp.thenD ?_ ?_ | refine Resp.hcode ?_) ?_ ?_) | (refine HCode.step ?_; (repeat refine HReg.step ?_); first | (show HCode _ _ _ (Code.seq (Code.seq (Code.region _ _ _) (Code.block _ _)) _) _ _ _; refine hcutC (a := Code.seq (Code.region _ _ _) (Code.block _ _)) [4, 42, 405, 406, 407, 408, 409, 410, 411, 412, 413, 414, 415, 416, 417, 418, 419, 420, 421, 422, 423, 424, 425, 426, 427] [] (CoJ H43) rfl (by repeat' first | exact Resp.retD | exact Resp1.valuesK | refine Resp.blockD ?_ | refine Resp.thenD ?_ ?_ | refine Resp.hcode ?_) ?_ ?_) | (refine HCode.step ?_; (repeat refine HReg.step ?_); first | (show HCode _ _ _ (Code.seq (Code.seq (Code.region _ _ _) (Code.block _ _)) _) _ _ _; refine hcutC (a := Code.seq (Code.region _ _ _) (Code.block _ _)) [4, 42, 405, 406, 407, 408, 409, 410, 411, 412, 413, 414, 415, 416, 417, 418, 419, 420, 421, 422, 423, 424, 425, 426, 427] [] (CoJ H43) rfl (by repeat' first | exact Resp.retD | exact Resp1.valuesK | refine Resp.blockD ?_ | refine Resp.thenD ?_ ?_ | refine Resp.hcode ?_) ?_ ?_) | (refine HCode.step ?_; (repeat refine HReg.step ?_); first | (show HCode _ _ _ (Code.seq (Code.seq (Code.region _ _ _) (Code.block _ _)) _) _ _ _; refine hcutC (a := Code.seq (Code.region _ _ _) (Code.block _ _)) [4, 42, 405, 406, 407, 408, 409, 410, 411, 412, 413, 414, 415, 416, 417, 418, 419, 420, 421, 422, 423, 424, 425, 426, 427] [] (CoJ H43) rfl (by repeat' first | exact Resp.retD | exact Resp1.valuesK | refine Resp.blockD ?_ | refine Resp.thenD ?_ ?_ | refine Resp.hcode ?_) ?_ ?_) | (refine HCode.step ?_; (repeat refine HReg.step ?_); first | (show HCode _ _ _ (Code.seq (Code.seq (Code.region _ _ _) (Code.block _ _)) _) _ _ _; refine hcutC (a := Code.seq (Code.region _ _ _) (Code.block _ _)) [4, 42, 405, 406, 407, 408, 409, 410, 411, 412, 413, 414, 415, 416, 417, 418, 419, 420, 421, 422, 423, 424, 425, 426, 427] [] (CoJ H43) rfl (by repeat' first | exact Resp.retD | exact Resp1.valuesK | refine Resp.blockD ?_ | refine Resp.thenD ?_ ?_ | refine Resp.hcode ?_) ?_ ?_) | (refine HCode.step ?_; (repeat refine HReg.step ?_); first | (show HCode _ _ _ (Code.seq (Code.seq (Code.region _ _ _) (Code.block _ _)) _) _ _ _; refine hcutC (a := Code.seq (Code.region _ _ _) (Code.block _ _)) [4, 42, 405, 406, 407, 408, 409, 410, 411, 412, 413, 414, 415, 416, 417, 418, 419, 420, 421, 422, 423, 424, 425, 426, 427] [] (CoJ H43) rfl (by repeat' first | exact Resp.retD | exact Resp1.valuesK | refine Resp.blockD ?_ | refine Resp.thenD ?_ ?_ | refine Resp.hcode ?_) ?_ ?_) | (refine HCode.step ?_; (repeat refine HReg.step ?_); first | (show HCode _ _ _ (Code.seq (Code.seq (Code.region _ _ _) (Code.block _ _)) _) _ _ _; refine hcutC (a := Code.seq (Code.region _ _ _) (Code.block _ _)) [4, 42, 405, 406, 407, 408, 409, 410, 411, 412, 413, 414, 415, 416, 417, 418, 419, 420, 421, 422, 423, 424, 425, 426, 427] [] (CoJ H43) rfl (by repeat' first | exact Resp.retD | exact Resp1.valuesK | refine Resp.blockD ?_ | refine Resp.thenD ?_ ?_ | refine Resp.hcode ?_) ?_ ?_) | (refine HCode.step ?_; (repeat refine HReg.step ?_); first | (show HCode _ _ _ (Code.seq (Code.seq (Code.region _ _ _) (Code.block _ _)) _) _ _ _; refine hcutC (a := Code.seq (Code.region _ _ _) (Code.block _ _)) [4, 42, 405, 406, 407, 408, 409, 410, 411, 412, 413, 414, 415, 416, 417, 418, 419, 420, 421, 422, 423, 424, 425, 426, 427] [] (CoJ H43) rfl (by repeat' first | exact Resp.retD | exact Resp1.valuesK | refine Resp.blockD ?_ | refine Resp.thenD ?_ ?_ | refine Resp.hcode ?_) ?_ ?_) | (refine HCode.step ?_; (repeat refine HReg.step ?_); first | (show HCode _ _ _ (Code.seq (Code.seq (Code.region _ _ _) (Code.block _ _)) _) _ _ _; refine hcutC (a := Code.seq (Code.region _ _ _) (Code.block _ _)) [4, 42, 405, 406, 407, 408, 409, 410, 411, 412, 413, 414, 415, 416, 417, 418, 419, 420, 421, 422, 423, 424, 425, 426, 427] [] (CoJ H43) rfl (by repeat' first | exact Resp.retD | exact Resp1.valuesK | refine Resp.blockD ?_ | refine Resp.thenD ?_ ?_ | refine Resp.hcode ?_) ?_ ?_) | (refine HCode.step ?_; (repeat refine HReg.step ?_); first | (show HCode _ _ _ (Code.seq (Code.seq (Code.region _ _ _) (Code.block _ _)) _) _ _ _; refine hcutC (a := Code.seq (Code.region _ _ _) (Code.block _ _)) [4, 42, 405, 406, 407, 408, 409, 410, 411, 412, 413, 414, 415, 416, 417, 418, 419, 420, 421, 422, 423, 424, 425, 426, 427] [] (CoJ H43) rfl (by repeat' first | exact Resp.retD | exact Resp1.valuesK | refine Resp.blockD ?_ | refine Resp.thenD ?_ ?_ | refine Resp.hcode ?_) ?_ ?_) | (refine HCode.step ?_; (repeat refine HReg.step ?_); first | (show HCode _ _ _ (Code.seq (Code.seq (Code.region _ _ _) (Code.block _ _)) _) _ _ _; refine hcutC (a := Code.seq (Code.region _ _ _) (Code.block _ _)) [4, 42, 405, 406, 407, 408, 409, 410, 411, 412, 413, 414, 415, 416, 417, 418, 419, 420, 421, 422, 423, 424, 425, 426, 427] [] (CoJ H43) rfl (by repeat' first | exact Resp.retD | exact Resp1.valuesK | refine Resp.blockD ?_ | refine Resp.thenD ?_ ?_ | refine Resp.hcode ?_) ?_ ?_) | (refine HCode.step ?_; (repeat refine HReg.step ?_); first | (show HCode _ _ _ (Code.seq (Code.seq (Code.region _ _ _) (Code.block _ _)) _) _ _ _; refine hcutC (a := Code.seq (Code.region _ _ _) (Code.block _ _)) [4, 42, 405, 406, 407, 408, 409, 410, 411, 412, 413, 414, 415, 416, 417, 418, 419, 420, 421, 422, 423, 424, 425, 426, 427] [] (CoJ H43) rfl (by repeat' first | exact Resp.retD | exact Resp1.valuesK | refine Resp.blockD ?_ | refine Resp.thenD ?_ ?_ | refine Resp.hcode ?_) ?_ ?_) | (refine HCode.step ?_; (repeat refine HReg.step ?_); first | (show HCode _ _ _ (Code.seq (Code.seq (Code.region _ _ _) (Code.block _ _)) _) _ _ _; refine hcutC (a := Code.seq (Code.region _ _ _) (Code.block _ _)) [4, 42, 405, 406, 407, 408, 409, 410, 411, 412, 413, 414, 415, 416, 417, 418, 419, 420, 421, 422, 423, 424, 425, 426, 427] [] (CoJ H43) rfl (by repeat' first | exact Resp.retD | exact Resp1.valuesK | refine Resp.blockD ?_ | refine Resp.thenD ?_ ?_ | refine Resp.hcode ?_) ?_ ?_) | (refine HCode.step ?_; (repeat refine HReg.step ?_); first | (show HCode _ _ _ (Code.seq (Code.seq (Code.region _ _ _) (Code.block _ _)) _) _ _ _; refine hcutC (a := Code.seq (Code.region _ _ _) (Code.block _ _)) [4, 42, 405, 406, 407, 408, 409, 410, 411, 412, 413, 414, 415, 416, 417, 418, 419, 420, 421, 422, 423, 424, 425, 426, 427] [] (CoJ H43) rfl (by repeat' first | exact Resp.retD | exact Resp1.valuesK | refine Resp.blockD ?_ | refine Resp.thenD ?_ ?_ | refine Resp.hcode ?_) ?_ ?_) | (refine HCode.step ?_; (repeat refine HReg.step ?_); first | (show HCode _ _ _ (Code.seq (Code.seq (Code.region _ _ _) (Code.block _ _)) _) _ _ _; refine hcutC (a := Code.seq (Code.region _ _ _) (Code.block _ _)) [4, 42, 405, 406, 407, 408, 409, 410, 411, 412, 413, 414, 415, 416, 417, 418, 419, 420, 421, 422, 423, 424, 425, 426, 427] [] (CoJ H43) rfl (by repeat' first | exact Resp.retD | exact Resp1.valuesK | refine Resp.blockD ?_ | refine Resp.thenD ?_ ?_ | refine Resp.hcode ?_) ?_ ?_) | (refine HCode.step ?_; (repeat refine HReg.step ?_); first | (show HCode _ _ _ (Code.seq (Code.seq (Code.region _ _ _) (Code.block _ _)) _) _ _ _; refine hcutC (a := Code.seq (Code.region _ _ _) (Code.block _ _)) [4, 42, 405, 406, 407, 408, 409, 410, 411, 412, 413, 414, 415, 416, 417, 418, 419, 420, 421, 422, 423, 424, 425, 426, 427] [] (CoJ H43) rfl (by repeat' first | exact Resp.retD | exact Resp1.valuesK | refine Resp.blockD ?_ | refine Resp.thenD ?_ ?_ | refine Resp.hcode ?_) ?_ ?_) | (refine HCode.step ?_; (repeat refine HReg.step ?_); first | (show HCode _ _ _ (Code.seq (Code.seq (Code.region _ _ _) (Code.block _ _)) _) _ _ _; refine hcutC (a := Code.seq (Code.region _ _ _) (Code.block _ _)) [4, 42, 405, 406, 407, 408, 409, 410, 411, 412, 413, 414, 415, 416, 417, 418, 419, 420, 421, 422, 423, 424, 425, 426, 427] [] (CoJ H43) rfl (by repeat' first | exact Resp.retD | exact Resp1.valuesK | refine Resp.blockD ?_ | refine Resp.thenD ?_ ?_ | refine Resp.hcode ?_) ?_ ?_) | (refine HCode.step ?_; (repeat refine HReg.step ?_); (show HCode _ _ _ (Code.seq (Code.seq (Code.region _ _ _) (Code.block _ _)) _) _ _ _; refine hcutC (a := Code.seq (Code.region _ _ _) (Code.block _ _)) [4, 42, 405, 406, 407, 408, 409, 410, 411, 412, 413, 414, 415, 416, 417, 418, 419, 420, 421, 422, 423, 424, 425, 426, 427] [] (CoJ H43) rfl (by repeat' first | exact Resp.retD | exact Resp1.valuesK | refine Resp.blockD ?_ | refine Resp.thenD ?_ ?_ | refine Resp.hcode ?_) ?_ ?_))))))))))))))))))))))
      · (repeat first | refine HReg.step ?_ | refine HCode.step ?_)
        refine hloopC [4, 42, 405, 406, 407, 408, 409, 410, 411, 412, 413, 414, 415, 416, 417, 418, 419, 420, 421, 422, 423, 424, 425, 426, 427] [42] (CoInv H43 q.r.ks.length) rfl (by repeat' first | exact Resp.retD | exact Resp1.valuesK | refine Resp.blockD ?_ | refine Resp.thenD ?_ ?_ | refine Resp.hcode ?_) ?_ ?_
        · exact ⟨q.r.ks.length, CoInv.mk ⟨0, rfl, rfl, rfl⟩⟩
        rintro m _ fe H44 ⟨j, rfl, hmj, hH⟩
        have hH := hH.symm
        subst hH
        have wj : wr .i64 ((j : Int) + 1) = ((j + 1 : Nat) : Int) := by rw [wr_i64 (by omega) (by omega)]; omega
        (repeat first | refine HReg.step ?_ | refine HCode.step ?_)
        refine HReq.mk ⟨by omega, by omega⟩ ?_
        (repeat first | refine HReg.step ?_ | refine HCode.step ?_)
        refine HLoad.one rowK ?_
        (repeat first | refine HReg.step ?_ | refine HCode.step ?_)
        refine hif (fun h2 => ?_) (fun h2 => ?_)
        · have h2 := ltB_true.1 h2
          obtain ⟨t, ht⟩ : ∃ t, q.r.ks[j]? = some t := ⟨q.r.ks[j]'(by omega), by simp⟩
          have et := dq.1 j t ht
          obtain ⟨g, z, hg, w⟩ := nq.k.rows j _ (txts_get ht)
          rw [hg] at rowK
          (repeat first | refine HReg.step ?_ | refine HCode.step ?_)
          refine HReq.mk ⟨by omega, by omega⟩ ?_
          (repeat first | refine HReg.step ?_ | refine HCode.step ?_)
          refine HLoad.one rowK ?_
          (repeat first | refine HReg.step ?_ | refine HCode.step ?_)
          refine HReq.mk ⟨by omega, by omega⟩ ?_
          (repeat first | refine HReg.step ?_ | refine HCode.step ?_)
          refine HLoad.one w ?_
          (repeat first | refine HReg.step ?_ | refine HCode.step ?_)
          refine HReq.mk ⟨by omega, by omega⟩ ?_
          (repeat first | refine HReg.step ?_ | refine HCode.step ?_)
          refine HLoad.one nmr ?_
          (repeat first | refine HReg.step ?_ | refine HCode.step ?_)
          rw [seqB_bs, decide_eq_true et]
          (repeat first | refine HReg.step ?_ | refine HCode.step ?_)
          rw [wj]
          exact ⟨m - 1, by omega, CoInv.mk ⟨j + 1, rfl, by omega, rfl⟩⟩
        · (repeat first | refine HReg.step ?_ | refine HCode.step ?_)
          exact CoJ.mk ⟨rfl, rfl⟩
      rintro _ fe7 H44 ⟨rfl, hH⟩
      have hH := hH.symm
      subst hH
      (repeat first | refine HReg.step ?_ | refine HCode.step ?_)
      refine hloopC [4, 43, 428, 429, 430, 431, 432, 433, 434, 435, 436, 437, 438, 439, 440, 441, 442, 443, 444, 445, 446, 447, 448, 449, 450, 451] [43] (CoInv H43 q.r.ps.length) rfl (by repeat' first | exact Resp.retD | exact Resp1.valuesK | refine Resp.blockD ?_ | refine Resp.thenD ?_ ?_ | refine Resp.hcode ?_) ?_ ?_
      · exact ⟨q.r.ps.length, CoInv.mk ⟨0, rfl, rfl, rfl⟩⟩
      rintro m2 _ fe H44 ⟨j, rfl, hmj, hH⟩
      have hH := hH.symm
      subst hH
      have wj : wr .i64 ((j : Int) + 1) = ((j + 1 : Nat) : Int) := by rw [wr_i64 (by omega) (by omega)]; omega
      (repeat first | refine HReg.step ?_ | refine HCode.step ?_)
      refine HReq.mk ⟨by omega, by omega⟩ ?_
      (repeat first | refine HReg.step ?_ | refine HCode.step ?_)
      refine HLoad.one rowP ?_
      (repeat first | refine HReg.step ?_ | refine HCode.step ?_)
      refine hif (fun h2 => ?_) (fun h2 => ?_)
      · have h2 := ltB_true.1 h2
        obtain ⟨t, ht⟩ : ∃ t, q.r.ps[j]? = some t := ⟨q.r.ps[j]'(by omega), by simp⟩
        have et := dq.2 j t ht
        obtain ⟨g, z, hg, w⟩ := nq.p.rows (j * 2) _ (pairsV_get ht).1
        rw [hg] at rowP
        (repeat first | refine HReg.step ?_ | refine HCode.step ?_)
        refine HReq.mk ⟨by omega, by omega⟩ ?_
        (repeat first | refine HReg.step ?_ | refine HCode.step ?_)
        refine HLoad.one rowP ?_
        (repeat first | refine HReg.step ?_ | refine HCode.step ?_)
        refine HReq.mk ⟨by omega, by omega⟩ ?_
        (repeat first | refine HReg.step ?_ | refine HCode.step ?_)
        refine HLoad.one w ?_
        (repeat first | refine HReg.step ?_ | refine HCode.step ?_)
        refine HReq.mk ⟨by omega, by omega⟩ ?_
        (repeat first | refine HReg.step ?_ | refine HCode.step ?_)
        refine HLoad.one nmr ?_
        (repeat first | refine HReg.step ?_ | refine HCode.step ?_)
        rw [seqB_bs, decide_eq_true et]
        (repeat first | refine HReg.step ?_ | refine HCode.step ?_)
        rw [wj]
        exact ⟨m2 - 1, by omega, CoInv.mk ⟨j + 1, rfl, by omega, rfl⟩⟩
      · (repeat first | refine HReg.step ?_ | refine HCode.step ?_)
        rw [wi]
        exact ⟨m - 1, by omega, LoInv.mk ⟨i + 1, rfl, by omega, s⟩⟩
    · have h1 := ltB_false.1 h1
      (repeat first | refine HReg.step ?_ | refine HCode.step ?_)
      exact LoJ.mk ⟨rfl, s⟩
  rintro _ fe8 H43 ⟨rfl, sM⟩
  have ri := ri.upd0 sM.u
  have si := si.upd0 sM.u
  have o5 := o5.upd sM.u (Off.nil _)
  have o6 := o6.upd sM.u (Off.nil _)
  have kK := kK.upd sM.u (Off.nil _)
  have hcK := kK.le
  have u0e := u0l.trans sM.u
  (repeat first | refine HReg.step ?_ | refine HCode.step ?_)
  refine HLoadN_row o5.rows rfl ?_
  (repeat first | refine HReg.step ?_ | refine HCode.step ?_)
  refine HCall.mk ⟨Try.f13, Try.func13, by rfl, by rfl⟩ ?_
  refine build_t ri fun aD cD H44 mD => ?_
  rw [er.2.2, er.1] at mD
  rw [er.2.2, er.2.1]
  have kK := kK.upd mD.upd (Off.nil _)
  (repeat first | refine HReg.step ?_ | refine HCode.step ?_)
  refine HCall.mk ⟨Try.f22, Try.func22, by rfl, by rfl⟩ ?_
  refine scan_t kK.rows rfl hcK (by omega) fun ae ce qe H45 oe en ne ue he => ?_
  rw [hsc] at he ⊢
  obtain ⟨⟨r6, p6, d6, k6, c6⟩, ⟨r7, p7, d7, k7, c7⟩, rfl, e6, e7⟩ : ∃ q0 q1, qe = [q0, q1] ∧ q0.r = r ∧ q1.r = s := by
    match qe, he with
    | [q0, q1], h => injection h with h1 h2; injection h2 with h2 _; exact ⟨q0, q1, rfl, h1, h2⟩
  clear he
  have e6 : r = r6 := e6.symm
  have e7 : s = r7 := e7.symm
  subst e6 e7
  have ri := ri.upd0 (mD.upd.trans ue)
  have si := si.upd0 (mD.upd.trans ue)
  have o5 := o5.upd (mD.upd.trans ue) (Off.nil _)
  have o6 := o6.upd (mD.upd.trans ue) (Off.nil _)
  have kK := kK.upd ue (Off.nil _)
  have oD := mD.own.upd ue (Off.nil _)
  have u0e := u0e.trans (mD.upd.trans ue)
  have r6i := (ne.each _ (List.mem_cons_self)).recIn
  have r7i := (ne.each _ (List.mem_cons_of_mem _ (List.mem_cons_self))).recIn
  obtain ⟨ge, rfl⟩ := oe.addr (show 0 < 2 from by decide)
  rw [show [(⟨r, p6, d6, k6, c6⟩ : PRec), ⟨s, p7, d7, k7, c7⟩].length = 2 from rfl]
  (repeat first | refine HReg.step ?_ | refine HCode.step ?_)
  rw [eqB_self 0]
  (repeat first | refine HReg.step ?_ | refine HCode.step ?_)
  refine HReq.mk ⟨by omega, by omega⟩ ?_
  (repeat first | refine HReg.step ?_ | refine HCode.step ?_)
  refine HCall.mk ⟨Try.f17, Try.func17, by rfl, by rfl⟩ ?_
  have ht := kK.rows.take nr
  rw [← u8s_take, ← hFr, ← hnr, ← frame_len, List.take_left] at ht
  refine same_eq oD.rows (by rw [frame_len]; exact hnr) ht (by rw [frame_len]; exact hnr) rfl ?_
  (repeat first | refine HReg.step ?_ | refine HCode.step ?_)
  rw [show eqB ((2 : Nat) : Int) 2 = true from eqB_self 2]
  (repeat first | refine HReg.step ?_ | refine HCode.step ?_)
  refine HReq.mk ⟨by decide, by decide⟩ ?_
  (repeat first | refine HReg.step ?_ | refine HCode.step ?_)
  refine HLoadN_rec (i := 0) oe.rows rfl ?_
  (repeat first | refine HReg.step ?_ | refine HCode.step ?_)
  refine HLoadN_row o5.rows rfl ?_
  (repeat first | refine HReg.step ?_ | refine HCode.step ?_)
  refine HCall.mk ⟨Try.f21, Try.func21, by rfl, by rfl⟩ ?_
  refine sameR_t (r := r) r6i ri fun H46 u46 => ?_
  (repeat first | refine HReg.step ?_ | refine HCode.step ?_)
  refine HReq.mk ⟨by decide, by decide⟩ ?_
  (repeat first | refine HReg.step ?_ | refine HCode.step ?_)
  refine HLoadN_rec (i := 1) (oe.upd u46 (Off.nil _)).rows rfl ?_
  (repeat first | refine HReg.step ?_ | refine HCode.step ?_)
  refine HLoadN_row (o6.upd u46 (Off.nil _)).rows rfl ?_
  (repeat first | refine HReg.step ?_ | refine HCode.step ?_)
  refine HCall.mk ⟨Try.f21, Try.func21, by rfl, by rfl⟩ ?_
  refine sameR_t (r := s) (r7i.upd0 u46) (si.upd0 u46) fun H47 u47 => ?_
  (repeat first | refine HReg.step ?_ | refine HCode.step ?_)
  exact hk H47 (u0e.trans (u46.trans u47))
end
end Go.Proofs.Ytokfmkfobjkkpaa
