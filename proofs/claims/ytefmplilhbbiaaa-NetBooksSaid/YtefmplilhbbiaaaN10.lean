import Derived.Test.YtefmplilhbbiaaaN9
namespace Go.Proofs.Ytefmplilhbbiaaa
open Go Hv
set_option linter.unusedVariables false
set_option maxRecDepth 10000
set_option maxHeartbeats 1000000
theorem append_nil {a : Option Addr} {n c : Nat} {ys : List UInt8} {H : Heap} {K : Value → Heap → Prop} (hy : RowAt H a (u8s ys)) (hn : ys.length = n) (hlim : n ≤ 140737488355328)
    (hk : ∀ a' cap' H', Made H H' 5 1 a' n cap' (u8s ys) → K (.slice a' n cap') H') : HSem Try.prog (Builtin.append_ #[22, 22] 22 [.slice none 0 0, .slice a n c].toArray) H K := by
  refine append_own (xs := []) (OwnRow.nil _ _ _) hy hn (by omega) fun a' cap' H' o u f => ?_
  have e : 0 + n = n := Nat.zero_add n
  rw [e] at o ⊢
  refine hk a' cap' H' ⟨o, u, fun p hp => ?_⟩
  rcases f p hp with h | h
  · cases h
  · exact h
theorem rnew_t {p c : Int} {H : Heap} {K : Value → Heap → Prop} (hok : 1 ≤ p ∧ p ≤ 64 ∧ 1 ≤ c ∧ c ≤ 16 → ∀ g H', NetAt 66 67 H H' g p c 0 none 0 0 [] → Upd [] H H' → K (.tuple #[.pointer (some ⟨g, 0, none⟩), .int .i64 0]) H')
    (hno : ¬ (1 ≤ p ∧ p ≤ 64 ∧ 1 ≤ c ∧ c ≤ 16) → K (.tuple #[.pointer none, .int .i64 1]) H) : HCalls Try.prog 18 [.int .i64 p, .int .i64 c] H K := by
  refine hcalls (fn := Try.f18) [] mixed Try.func18 rfl rfl (by decide +kernel) ?_
  (repeat first | refine HReg.step ?_ | refine HCode.step ?_)
  refine hif (fun h => ?_) (fun h1 => ?_)
  · have h := ltB_true.1 h
    (repeat first | refine HReg.step ?_ | refine HCode.step ?_)
    exact hno (by omega)
  have h1 := ltB_false.1 h1
  (repeat first | refine HReg.step ?_ | refine HCode.step ?_)
  refine hif (fun h => ?_) (fun h2 => ?_)
  · have h := ltB_true.1 h
    (repeat first | refine HReg.step ?_ | refine HCode.step ?_)
    exact hno (by omega)
  have h2 := ltB_false.1 h2
  (repeat first | refine HReg.step ?_ | refine HCode.step ?_)
  refine hif (fun h => ?_) (fun h3 => ?_)
  · have h := ltB_true.1 h
    (repeat first | refine HReg.step ?_ | refine HCode.step ?_)
    exact hno (by omega)
  have h3 := ltB_false.1 h3
  (repeat first | refine HReg.step ?_ | refine HCode.step ?_)
  refine hif (fun h => ?_) (fun h4 => ?_)
  · have h := ltB_true.1 h
    (repeat first | refine HReg.step ?_ | refine HCode.step ?_)
    exact hno (by omega)
  have h4 := ltB_false.1 h4
  (repeat first | refine HReg.step ?_ | refine HCode.step ?_)
  refine HNew.mk fun g hg => ?_
  (repeat first | refine HReg.step ?_ | refine HCode.step ?_)
  refine hok ⟨by omega, by omega, by omega, by omega⟩ g _ ⟨OwnRow.lit (upd_same _ _ _) rfl, OwnRow.nil _ _ _, hg, fun p hp => (by cases hp), fun p hp => (by cases hp), Upd.new hg _⟩ (Upd.new hg _)
section
variable {H1 H : Heap} {g : Nat} {P C L : Int} {a : Option Addr} {n cap : Nat} {fs : List Fr} {K : Value → Heap → Prop}
theorem rlen_t (N : NetAt 66 67 H1 H g P C L a n cap fs) (hk : K (.int .i64 (n : Int)) H) : HCalls Try.prog 20 [.pointer (some ⟨g, 0, none⟩)] H K := by
  refine hcalls (fn := Try.f20) [] mixed Try.func20 rfl rfl rfl ?_
  (repeat first | refine HReg.step ?_ | refine HCode.step ?_)
  refine HLoad.one (v := .slice a n cap) (by exact N.obj.rows.get (i := 3) rfl) ?_
  (repeat first | refine HReg.step ?_ | refine HCode.step ?_)
  exact hk
theorem rnode_t {k : Int} (N : NetAt 66 67 H1 H g P C L a n cap fs) (hC : 1 ≤ C ∧ C ≤ 16) (hk : ∀ b : Bool, (b = true ↔ k < P ∧ -C ≤ k) → K (.bool b) H) : HCalls Try.prog 34 [.pointer (some ⟨g, 0, none⟩), .int .i64 k] H K := by
  refine hcalls (fn := Try.f34) [] mixed Try.func34 rfl rfl rfl ?_
  (repeat first | refine HReg.step ?_ | refine HCode.step ?_)
  refine HLoad.one (v := .int .i64 P) (by exact N.obj.rows.get (i := 0) rfl) ?_
  (repeat first | refine HReg.step ?_ | refine HCode.step ?_)
  refine hif (fun h => ?_) (fun h => ?_)
  · have h := ltB_true.1 h
    (repeat first | refine HReg.step ?_ | refine HCode.step ?_)
    refine HLoad.one (v := .int .i64 C) (by exact N.obj.rows.get (i := 1) rfl) ?_
    (repeat first | refine HReg.step ?_ | refine HCode.step ?_)
    exact hk _ (by rw [not_ltB_true, wr_i64 (by omega) (by omega)]; omega)
  · have h := ltB_false.1 h
    (repeat first | refine HReg.step ?_ | refine HCode.step ?_)
    exact hk false (by simp; omega)
theorem rput_t {frm to : Int} {b : Option Addr} {m c : Nat} {ys : List UInt8} (N : NetAt 66 67 H1 H g P C L a n cap fs) (hL : 0 ≤ L ∧ L < 9223372036854775807) (hn : n + 1 ≤ 2932031007402) (hfs : ∀ f ∈ fs, isSl f.v)
    (hy : RowAt H b (u8s ys)) (hb : ys = [] ∨ Off [g] b) (hm : ys.length = m) (hlim : m ≤ 140737488355328) (hk : ∀ H', Laid 66 67 H1 H g P C L a n fs frm to ys H' → K (.int .i64 (L + 1)) H') :
    HCalls Try.prog 35 [.pointer (some ⟨g, 0, none⟩), .int .i64 frm, .int .i64 to, .slice b m c] H K := by
  refine hcalls (fn := Try.f35) [(3, [(11, 0), (12, 0), (13, 0), (5, 1), (6, 1), (7, 1), (8, 1), (9, 1), (10, 1), (14, 0), (15, 0), (1, 2), (2, 2), (3, 2), (4, 2), (16, 0), (0, 3), (17, 0), (18, 0), (19, 0)])] mixed Try.func35 rfl rfl (by decide +kernel) ?_
  (repeat first | refine HReg.step ?_ | refine HCode.step ?_)
  refine HLoad.one (v := .int .i64 L) (by exact N.obj.rows.get (i := 2) rfl) ?_
  (repeat first | refine HReg.step ?_ | refine HCode.step ?_)
  have hw : wr .i64 (L + 1) = L + 1 := wr_i64 (by omega) (by omega)
  rw [hw]
  refine store_row N.obj rfl (i := 2) (by decide) (by rfl) fun H2 o2 u2 => ?_
  have r2 := N.row.upd u2 (fun p hp hb => N.apart p hp (List.mem_singleton.1 hb))
  have hy2 : RowAt H2 b (u8s ys) := by
    rcases hb with rfl | hb
    · exact RowAt.nil _ _
    · exact hy.upd u2 (.inr hb)
  (repeat first | refine HReg.step ?_ | refine HCode.step ?_)
  refine append_nil hy2 hm hlim fun b' c' H3 m3 => ?_
  have o3 := o2.upd m3.upd (Off.nil _)
  (repeat first | refine HReg.step ?_ | refine HCode.step ?_)
  refine HLoad_two (v := .int .i64 (L + 1)) (by exact o3.rows.get (i := 2) rfl) (by exact o2.rows.get (i := 2) rfl) ?_
  (repeat first | refine HReg.step ?_ | refine HCode.step ?_)
  refine HReq.mk (by decide) ?_
  (repeat first | refine HReg.step ?_ | refine HCode.step ?_)
  refine HNew.mk fun b4 hb4 => ?_
  have u4 : Upd [] H3 (H3.upd b4 (.cells [Value.int .i64 (L + 1), .int .i64 frm, .int .i64 to, .slice b' m c'].toArray 67)) := Upd.new hb4 _
  have o4 := o3.upd u4 (Off.nil _)
  (repeat first | refine HReg.step ?_ | refine HCode.step ?_)
  refine HLoad_three (v := .slice a n cap) (by exact o4.rows.get (i := 3) rfl) (by exact o3.rows.get (i := 3) rfl) (by exact o2.rows.get (i := 3) rfl) ?_
  (repeat first | refine HReg.step ?_ | refine HCode.step ?_)
  have r4 := r2.upd (m3.upd.trans u4) (Off.nil _)
  refine append_rows (ie := Try.t67) (z := .agg #[.int .i64 0, .int .i64 0, .int .i64 0, .slice none 0 0]) (xs := frow fs) (ys := fcells ⟨L + 1, frm, to, .slice b' m c'⟩) Try.underlying55 rfl rfl rfl (by decide) r4 (RowAt.of_cells (upd_same _ _ _)) rfl ?_ ?_ (by omega) fun a5 cap5 H5 r5 u5 f5 => ?_
  · intro v hv
    simp only [fcells, List.mem_cons, List.not_mem_nil, or_false] at hv
    rcases hv with rfl | rfl | rfl | rfl <;> rfl
  · show (n + 1) * 48 ≤ _; omega
  have o5 := o4.upd u5 (fun p hp hb => by
    cases hp
    obtain ⟨q, hq, he⟩ := blk_of hb
    exact N.apart q hq he)
  (repeat first | refine HReg.step ?_ | refine HCode.step ?_)
  refine store_row o5 rfl (i := 3) (by decide) (by rfl) fun H6 o6 u6 => ?_
  (repeat first | refine HReg.step ?_ | refine HCode.step ?_)
  refine HLoad.one (v := .int .i64 (L + 1)) (by exact o6.rows.get (i := 2) rfl) ?_
  (repeat first | refine HReg.step ?_ | refine HCode.step ?_)
  have live4 : (H3.upd b4 (.cells [Value.int .i64 (L + 1), .int .i64 frm, .int .i64 to, .slice b' m c'].toArray 67)) g ≠ none := o4.there rfl
  have ap5 : ∀ p, a5 = some p → p.block ≠ g := by
    intro p hp e
    rcases f5 p hp with h | h
    · exact N.apart p h e
    · rw [e] at h; exact live4 h
  have hback : ∀ k, (H3.upd b4 (.cells [Value.int .i64 (L + 1), .int .i64 frm, .int .i64 to, .slice b' m c'].toArray 67)) k = none → H k = none := by
    intro k hk
    have h2 : H2 k = none := Upd.none (S := []) (m3.upd.trans u4) (by simp) hk
    exact upd_none' u2 (fun x hx => by rw [List.mem_singleton.1 hx]; exact o2.there rfl) h2
  have og : Off [g] a5 := fun p hp hb => ap5 p hp (List.mem_singleton.1 hb)
  have r6 : OwnRow H6 67 4 a5 (n + 1) cap5 (frow (fs ++ [⟨L + 1, frm, to, .slice b' m c'⟩])) := by
    rw [frow_append]
    have e : frow [⟨L + 1, frm, to, .slice b' m c'⟩] = fcells ⟨L + 1, frm, to, .slice b' m c'⟩ := rfl
    rw [e]
    exact r5.upd u6 og
  have sg : ∀ b ∈ [g], b ∈ nblk g a := fun b hb => by rw [List.mem_singleton.1 hb]; exact mem_nblk_g g a
  have hup : Upd (nblk g a) H H6 := (((u2.mono sg).trans ((m3.upd.trans u4).mono (by simp))).trans (u5.mono (blk_nblk g a))).trans (u6.mono sg)
  refine hk H6 (Laid.mk ⟨.slice b' m c', a5, cap5, ⟨o6, r6, N.newg, fun p hp => ?_, ap5, Upd.drop N.base hup N.old⟩, ?_, ?_, hup, fun p hp => ?_⟩)
  · rcases f5 p hp with h | h
    · exact N.newa p h
    · exact Upd.none (S := []) N.base (by simp) (hback _ h)
  · have s3 := m3.sle hm
    refine ((s3.upd u4 (by simp)).upd u5 ?_).upd u6 ?_
    · intro b hb hb'
      obtain ⟨c, f, hc⟩ := (s3.upd u4 (by simp)).live hb
      exact r4.notT (by decide) b hb' c f hc
    · intro b hb hb'
      obtain ⟨c, f, hc⟩ := s3.live hb
      rw [List.mem_singleton.1 hb'] at hc
      exact o3.notE (by decide) g (by simp) c f hc
  · intro k hk
    exact upd_none' u2 (fun x hx => by rw [List.mem_singleton.1 hx]; exact o2.there rfl) (m3.vnew k hk)
  · rcases f5 p hp with h | h
    · exact .inl h
    · exact .inr (hback _ h)

theorem rsend_t {frm to : Int} {b : Option Addr} {m c : Nat} {ys : List UInt8} (N : NetAt 66 67 H1 H g P C L a n cap fs) (hP : 1 ≤ P) (hC : 1 ≤ C ∧ C ≤ 16) (hL : 0 ≤ L ∧ L < 9223372036854775807) (hn : n + 1 ≤ 2932031007402) (hfs : ∀ f ∈ fs, isSl f.v)
    (hy : RowAt H b (u8s ys)) (hb : ys = [] ∨ Off [g] b) (hm : ys.length = m) (hlim : m ≤ 140737488355328)
    (hok : can P C frm to → ∀ H', Laid 66 67 H1 H g P C L a n fs frm to ys H' → K (.tuple #[.int .i64 (L + 1), .int .i64 0]) H') (hno : ¬ can P C frm to → K (.tuple #[.int .i64 0, .int .i64 210]) H) :
    HCalls Try.prog 29 [.pointer (some ⟨g, 0, none⟩), .int .i64 frm, .int .i64 to, .slice b m c] H K := by
  refine hcalls (fn := Try.f29) [] mixed Try.func29 rfl rfl (by decide +kernel) ?_
  (repeat first | refine HReg.step ?_ | refine HCode.step ?_)
  refine HCall.mk ⟨Try.f34, Try.func34, by rfl, by rfl⟩ ?_
  refine rnode_t N hC fun b1 h1 => ?_
  (repeat first | refine HReg.step ?_ | refine HCode.step ?_)
  refine hif (fun e1 => ?_) (fun e1 => ?_)
  · have e1 : b1 = false := by simpa using e1
    have e1' : ¬ (frm < P ∧ -C ≤ frm) := fun h => by have := h1.2 h; rw [this] at e1; cases e1
    (repeat first | refine HReg.step ?_ | refine HCode.step ?_)
    exact hno (by unfold can; omega)
  · have e1 : b1 = true := by simpa using e1
    have e1' := h1.1 e1
    subst e1
    (repeat first | refine HReg.step ?_ | refine HCode.step ?_)
    refine HCall.mk ⟨Try.f34, Try.func34, by rfl, by rfl⟩ ?_
    refine rnode_t N hC fun b2 h2 => ?_
    (repeat first | refine HReg.step ?_ | refine HCode.step ?_)
    refine hif (fun e2 => ?_) (fun e2 => ?_)
    · have e2 : b2 = false := by simpa using e2
      have e2' : ¬ (to < P ∧ -C ≤ to) := fun h => by have := h2.2 h; rw [this] at e2; cases e2
      subst e2
      (repeat first | refine HReg.step ?_ | refine HCode.step ?_)
      exact hno (by unfold can; omega)
    · have e2 : b2 = true := by simpa using e2
      have e2' := h2.1 e2
      subst e2
      (repeat first | refine HReg.step ?_ | refine HCode.step ?_)
      refine hif (fun e3 => ?_) (fun e3 => ?_)
      · (repeat first | refine HReg.step ?_ | refine HCode.step ?_)
        refine hno ?_
        rw [ltB_eq, ltB_eq] at e3
        unfold can
        by_cases x1 : frm < 0 <;> by_cases x2 : to < 0 <;> simp [x1, x2] at e3 <;> omega
      · (repeat first | refine HReg.step ?_ | refine HCode.step ?_)
        refine HCall.mk ⟨Try.f35, Try.func35, by rfl, by rfl⟩ ?_
        refine rput_t N hL hn hfs hy hb hm hlim fun H' l => ?_
        (repeat first | refine HReg.step ?_ | refine HCode.step ?_)
        refine hok ?_ H' l
        rw [ltB_eq, ltB_eq] at e3
        unfold can
        by_cases x1 : frm < 0 <;> by_cases x2 : to < 0 <;> simp [x1, x2] at e3 <;> omega
end
end Go.Proofs.Ytefmplilhbbiaaa
