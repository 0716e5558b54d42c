import Derived.Test.YtefmplilhbbiaaaN1
namespace Go.Proofs.Ytefmplilhbbiaaa
open Go Hv
set_option linter.unusedVariables false
set_option maxRecDepth 10000
set_option maxHeartbeats 1000000
/-- A copy by append: onto a new row without cells. -/
theorem copy_sem {a : Option Addr} {b n c : Nat} {ys : List UInt8} {H : Heap} {K : Value → Heap → Prop} (hb : H b = none) (hy : RowAt H a (u8s ys)) (hn : ys.length = n) (hlim : n ≤ 140737488355328)
    (hk : ∀ a' cap' H', Made H H' 5 1 a' n cap' (u8s ys) → K (.slice a' n cap') H') :
    HSem Try.prog (Builtin.append_ #[22, 22] 22 [.slice (some ⟨b, 0, none⟩) 0 0, .slice a n c].toArray) (H.upd b (.cells [].toArray 5)) K := by
  (repeat first | refine HReg.step ?_ | refine HCode.step ?_)
  refine append_rows (ie := Try.t5) (z := .int .u8 0) (ys := u8s ys) (xs := []) Try.underlying22 rfl rfl rfl (by decide) ?_ ?_ ?_ (plain_u8s _) ?_ ?_ ?_
  · exact OwnRow.lit (upd_same _ _ _) rfl
  · exact hy.upd (S := []) (Upd.new hb _) (.inr (Off.nil _))
  · rw [u8s_length, hn]; exact (Nat.mul_one _).symm
  · show (0 + n) * 1 ≤ _; omega
  · omega
  · intro a' cap' H' h1 h2 h3
    rw [Nat.zero_add] at h1 ⊢
    have hb1 : ∀ p : Addr, some p = some (⟨b, 0, none⟩ : Addr) → p.block = b := by rintro p h; cases h; rfl
    refine hk a' cap' H' ⟨h1, Upd.drop (Upd.new hb _) h2 (by intro k hk; simp [blk] at hk; subst hk; exact hb), fun p hp => ?_⟩
    rcases h3 p hp with h | h
    · rw [hb1 p h.symm]; exact hb
    · refine Classical.byContradiction fun hne => ?_
      have : p.block ≠ b := fun e => hne (by rw [e]; exact hb)
      rw [upd_ne _ _ this] at h; exact hne h

theorem clone_t {a : Option Addr} {n c : Nat} {ys : List UInt8} {H : Heap} {K : Value → Heap → Prop} (hy : RowAt H a (u8s ys)) (hn : ys.length = n) (hlim : n ≤ 140737488355328)
    (hk : ∀ a' cap' H', Made H H' 5 1 a' n cap' (u8s ys) → K (.slice a' n cap') H') : HCalls Try.prog 28 [.slice a n c] H K := by
  refine hcalls (fn := Try.f28) [] mixed Try.func28 rfl rfl rfl ?_
  (repeat first | refine HReg.step ?_ | refine HCode.step ?_)
  cases a with
  | none =>
    have : ys = [] := by
      cases ys with
      | nil => rfl
      | cons y ys => obtain ⟨_, _, hh, _⟩ := hy 0 _ rfl; cases hh
    subst this
    have : n = 0 := by simpa using hn.symm
    subst this
    (repeat first | refine HReg.step ?_ | refine HCode.step ?_)
    exact hk none 0 H ⟨OwnRow.nil _ _ _, Upd.refl _ _, fun p hp => by cases hp⟩
  | some p =>
    (repeat first | refine HReg.step ?_ | refine HCode.step ?_)
    refine HReq.mk (by decide) ?_
    (repeat first | refine HReg.step ?_ | refine HCode.step ?_)
    refine HNew.mk fun b hb => ?_
    (repeat first | refine HReg.step ?_ | refine HCode.step ?_)
    refine copy_sem hb hy hn hlim fun a' cap' H' h => ?_
    (repeat first | refine HReg.step ?_ | refine HCode.step ?_)
    exact hk a' cap' H' h

theorem append_own {a b : Option Addr} {n cap m c : Nat} {xs ys : List UInt8} {H : Heap} {K : Value → Heap → Prop} (ho : OwnRow H 5 1 a n cap (u8s xs)) (hy : RowAt H b (u8s ys)) (hm : ys.length = m) (hlim : n + m ≤ 140737488355328)
    (hk : ∀ a' cap' H', OwnRow H' 5 1 a' (n + m) cap' (u8s (xs ++ ys)) → Upd (blk a) H H' → (∀ p, a' = some p → a = some p ∨ H p.block = none) → K (.slice a' (n + m) cap') H') :
    HSem Try.prog (Builtin.append_ #[22, 22] 22 [.slice a n cap, .slice b m c].toArray) H K := by
  refine append_rows (ie := Try.t5) (z := .int .u8 0) (ys := u8s ys) (xs := u8s xs) Try.underlying22 rfl rfl rfl (by decide) ho hy ?_ (plain_u8s _) ?_ ?_ ?_
  · rw [u8s_length, hm]; exact (Nat.mul_one _).symm
  · show (n + m) * 1 ≤ _; omega
  · omega
  · intro a' cap' H' h1 h2 h3
    rw [← u8s_append] at h1
    exact hk a' cap' H' h1 h2 h3
theorem append_made {a b : Option Addr} {n cap m c : Nat} {xs ys : List UInt8} {H0 H : Heap} {K : Value → Heap → Prop} (hm : Made H0 H 5 1 a n cap (u8s xs)) (hy : RowAt H b (u8s ys)) (hml : ys.length = m) (hlim : n + m ≤ 140737488355328)
    (hk : ∀ a' cap' H', Made H0 H' 5 1 a' (n + m) cap' (u8s (xs ++ ys)) → K (.slice a' (n + m) cap') H') :
    HSem Try.prog (Builtin.append_ #[22, 22] 22 [.slice a n cap, .slice b m c].toArray) H K := by
  refine append_own hm.own hy hml hlim fun a' cap' H' o u f => hk a' cap' H' ⟨o, ?_, ?_⟩
  · refine Upd.drop hm.upd u fun b hb => ?_
    obtain ⟨p, hp, rfl⟩ := blk_of hb
    exact hm.new p hp
  · intro p hp
    rcases f p hp with h | h
    · exact hm.new p h
    · exact Upd.none (S := []) hm.upd (by simp) h
theorem row_lit {H : Heap} {b : Nat} {l : List UInt8} {cur : Array Value} {e : TypeId} {f : Nat × Nat} (h : H b = some (.cells cur e f)) (hl : cur.toList = u8s l) : RowAt H (some ⟨b, 0, none⟩) (u8s l) := by
  rw [← hl]; exact RowAt.of_cells h

theorem same_t {a b : Option Addr} {n m c d : Nat} {x y : List UInt8} {H : Heap} {K : Value → Heap → Prop} (hx : RowAt H a (u8s x)) (hn : x.length = n) (hy : RowAt H b (u8s y)) (hm : y.length = m)
    (hk : K (.bool (decide (x = y))) H) : HCalls Try.prog 16 [.slice a n c, .slice b m d] H K := by
  refine hcalls (fn := Try.f16) [] mixed Try.func16 rfl rfl rfl ?_
  (repeat first | refine HReg.step ?_ | refine HCode.step ?_)
  refine HBytes.row x hn (by simpa using hx) ?_ (by simp)
  (repeat first | refine HReg.step ?_ | refine HCode.step ?_)
  refine HBytes.row y hm (by simpa using hy) ?_ (by simp)
  rw [← seqB_bs] at hk
  (repeat first | refine HReg.step ?_ | refine HCode.step ?_)
  exact hk

theorem same_eq {a b : Option Addr} {n m c d : Nat} {x y : List UInt8} {H : Heap} {K : Value → Heap → Prop} (hx : RowAt H a (u8s x)) (hn : x.length = n) (hy : RowAt H b (u8s y)) (hm : y.length = m) (hxy : x = y)
    (hk : K (.bool true) H) : HCalls Try.prog 16 [.slice a n c, .slice b m d] H K := by
  refine same_t hx hn hy hm ?_
  rw [decide_eq_true hxy]; exact hk

theorem own_t {a : Option Addr} {n c : Nat} {ys : List UInt8} {H : Heap} {K : Value → Heap → Prop} (hy : RowAt H a (u8s ys)) (hn : ys.length = n) (hlim : n ≤ 140737488355328)
    (hk : ∀ a' cap' H', Made H H' 5 1 a' n cap' (u8s ys) → K (.slice a' n cap') H') : HCalls Try.prog 10 [.slice a n c] H K := by
  refine hcalls (fn := Try.f10) [] mixed Try.func10 rfl rfl rfl ?_
  (repeat first | refine HReg.step ?_ | refine HCode.step ?_)
  refine append_own (xs := []) (OwnRow.nil _ _ _) hy hn (by omega) fun a' cap' H' o u f => ?_
  rw [Nat.zero_add] at o
  (repeat first | refine HReg.step ?_ | refine HCode.step ?_)
  show K (.slice a' (0 + n) cap') H'
  rw [Nat.zero_add]
  refine hk a' cap' H' ⟨o, u, fun p hp => ?_⟩
  rcases f p hp with h | h
  · cases h
  · exact h
theorem upd_none' {S : List Nat} {H H' : Heap} (h : Upd S H H') (hS : ∀ b ∈ S, H' b ≠ none) {b : Nat} (hb : H' b = none) : H b = none := by
  refine Classical.byContradiction fun hne => ?_
  by_cases hm : b ∈ S
  · exact hS b hm hb
  · rw [h b hm hne] at hb; exact hne hb
theorem new_t {p c : Int} {H : Heap} {K : Value → Heap → Prop} (hok : 1 ≤ p ∧ p ≤ 64 ∧ 1 ≤ c ∧ c ≤ 16 → ∀ g H', NetAt 61 33 H H' g p c 0 none 0 0 [] → Upd [] H H' → K (.tuple #[.pointer (some ⟨g, 0, none⟩), .int .i64 0]) H')
    (hno : ¬ (1 ≤ p ∧ p ≤ 64 ∧ 1 ≤ c ∧ c ≤ 16) → K (.tuple #[.pointer none, .int .i64 1]) H) : HCalls Try.prog 8 [.int .i64 p, .int .i64 c] H K := by
  refine hcalls (fn := Try.f8) [] mixed Try.func8 rfl rfl (by decide +kernel) ?_
  (repeat first | refine HReg.step ?_ | refine HCode.step ?_)
  refine hif (fun h => ?_) (fun h1 => ?_)
  · have h := ltB_true.1 h
    (repeat first | refine HReg.step ?_ | refine HCode.step ?_)
    exact hno (by omega)
  have h1 := ltB_false.1 h1
  (repeat first | refine HReg.step ?_ | refine HCode.step ?_)
  refine hif (fun h => ?_) (fun h2 => ?_)
  · have h := ltB_true.1 h
    (repeat first | refine HReg.step ?_ | refine HCode.step ?_)
    exact hno (by omega)
  have h2 := ltB_false.1 h2
  (repeat first | refine HReg.step ?_ | refine HCode.step ?_)
  refine hif (fun h => ?_) (fun h3 => ?_)
  · have h := ltB_true.1 h
    (repeat first | refine HReg.step ?_ | refine HCode.step ?_)
    exact hno (by omega)
  have h3 := ltB_false.1 h3
  (repeat first | refine HReg.step ?_ | refine HCode.step ?_)
  refine hif (fun h => ?_) (fun h4 => ?_)
  · have h := ltB_true.1 h
    (repeat first | refine HReg.step ?_ | refine HCode.step ?_)
    exact hno (by omega)
  have h4 := ltB_false.1 h4
  (repeat first | refine HReg.step ?_ | refine HCode.step ?_)
  refine HNew.mk fun g hg => ?_
  (repeat first | refine HReg.step ?_ | refine HCode.step ?_)
  refine hok ⟨by omega, by omega, by omega, by omega⟩ g _ ⟨OwnRow.lit (upd_same _ _ _) rfl, OwnRow.nil _ _ _, hg, fun p hp => (by cases hp), fun p hp => (by cases hp), Upd.new hg _⟩ (Upd.new hg _)
section
variable {H1 H : Heap} {g : Nat} {P C L : Int} {a : Option Addr} {n cap : Nat} {fs : List Fr} {K : Value → Heap → Prop}
theorem len_t (N : NetAt 61 33 H1 H g P C L a n cap fs) (hk : K (.int .i64 (n : Int)) H) : HCalls Try.prog 11 [.pointer (some ⟨g, 0, none⟩)] H K := by
  refine hcalls (fn := Try.f11) [] mixed Try.func11 rfl rfl rfl ?_
  (repeat first | refine HReg.step ?_ | refine HCode.step ?_)
  refine HLoad.one (v := .slice a n cap) (by exact N.obj.rows.get (i := 3) rfl) ?_
  (repeat first | refine HReg.step ?_ | refine HCode.step ?_)
  exact hk
theorem isPart_t {k : Int} (N : NetAt 61 33 H1 H g P C L a n cap fs) (hk : ∀ b : Bool, (b = true ↔ 0 ≤ k ∧ k < P) → K (.bool b) H) : HCalls Try.prog 23 [.pointer (some ⟨g, 0, none⟩), .int .i64 k] H K := by
  refine hcalls (fn := Try.f23) [] mixed Try.func23 rfl rfl rfl ?_
  (repeat first | refine HReg.step ?_ | refine HCode.step ?_)
  refine hif (fun h => ?_) (fun h => ?_)
  · have h := not_ltB_true.1 h
    (repeat first | refine HReg.step ?_ | refine HCode.step ?_)
    refine HLoad.one (v := .int .i64 P) (by exact N.obj.rows.get (i := 0) rfl) ?_
    (repeat first | refine HReg.step ?_ | refine HCode.step ?_)
    exact hk _ (by rw [ltB_true]; omega)
  · have h := not_ltB_false.1 h
    (repeat first | refine HReg.step ?_ | refine HCode.step ?_)
    exact hk false (by simp; omega)
theorem isClient_t {k : Int} (N : NetAt 61 33 H1 H g P C L a n cap fs) (hC : 1 ≤ C ∧ C ≤ 16) (hk : ∀ b : Bool, (b = true ↔ k < 0 ∧ -C ≤ k) → K (.bool b) H) : HCalls Try.prog 24 [.pointer (some ⟨g, 0, none⟩), .int .i64 k] H K := by
  refine hcalls (fn := Try.f24) [] mixed Try.func24 rfl rfl rfl ?_
  (repeat first | refine HReg.step ?_ | refine HCode.step ?_)
  refine hif (fun h => ?_) (fun h => ?_)
  · have h := ltB_true.1 h
    (repeat first | refine HReg.step ?_ | refine HCode.step ?_)
    refine HLoad.one (v := .int .i64 C) (by exact N.obj.rows.get (i := 1) rfl) ?_
    (repeat first | refine HReg.step ?_ | refine HCode.step ?_)
    exact hk _ (by rw [not_ltB_true, wr_i64 (by omega) (by omega)]; omega)
  · have h := ltB_false.1 h
    (repeat first | refine HReg.step ?_ | refine HCode.step ?_)
    exact hk false (by simp; omega)
theorem has_t {k : Int} (N : NetAt 61 33 H1 H g P C L a n cap fs) (hk : ∀ b : Bool, (b = true ↔ 0 ≤ k ∧ k < n) → K (.bool b) H) : HCalls Try.prog 26 [.pointer (some ⟨g, 0, none⟩), .int .i64 k] H K := by
  refine hcalls (fn := Try.f26) [] mixed Try.func26 rfl rfl rfl ?_
  (repeat first | refine HReg.step ?_ | refine HCode.step ?_)
  refine hif (fun h => ?_) (fun h => ?_)
  · have h := not_ltB_true.1 h
    (repeat first | refine HReg.step ?_ | refine HCode.step ?_)
    refine HLoad.one (v := .slice a n cap) (by exact N.obj.rows.get (i := 3) rfl) ?_
    (repeat first | refine HReg.step ?_ | refine HCode.step ?_)
    exact hk _ (by rw [ltB_true]; omega)
  · have h := not_ltB_false.1 h
    (repeat first | refine HReg.step ?_ | refine HCode.step ?_)
    exact hk false (by simp; omega)
theorem lay_t {frm to : Int} {b : Option Addr} {m c : Nat} {ys : List UInt8} (N : NetAt 61 33 H1 H g P C L a n cap fs) (hL : 0 ≤ L ∧ L < 9223372036854775807) (hn : n + 1 ≤ 2932031007402) (hfs : ∀ f ∈ fs, isSl f.v)
    (hy : RowAt H b (u8s ys)) (hb : Off [g] b) (hm : ys.length = m) (hlim : m ≤ 140737488355328) (hk : ∀ H', Laid 61 33 H1 H g P C L a n fs frm to ys H' → K (.int .i64 (L + 1)) H') :
    HCalls Try.prog 25 [.pointer (some ⟨g, 0, none⟩), .int .i64 frm, .int .i64 to, .slice b m c] H K := by
  refine hcalls (fn := Try.f25) [(2, [(11, 0), (12, 0), (5, 1), (6, 1), (7, 1), (8, 1), (9, 1), (10, 1), (13, 0), (14, 0), (1, 2), (2, 2), (3, 2), (4, 2), (15, 0), (0, 3), (16, 0), (17, 0), (18, 0)])] mixed Try.func25 rfl rfl (by decide +kernel) ?_
  (repeat first | refine HReg.step ?_ | refine HCode.step ?_)
  refine HLoad.one (v := .int .i64 L) (by exact N.obj.rows.get (i := 2) rfl) ?_
  (repeat first | refine HReg.step ?_ | refine HCode.step ?_)
  have hw : wr .i64 (L + 1) = L + 1 := wr_i64 (by omega) (by omega)
  rw [hw]
  refine store_row N.obj rfl (i := 2) (by decide) (by rfl) fun H2 o2 u2 => ?_
  have r2 := N.row.upd u2 (fun p hp hb => N.apart p hp (List.mem_singleton.1 hb))
  have hy2 : RowAt H2 b (u8s ys) := hy.upd u2 (.inr hb)
  (repeat first | refine HReg.step ?_ | refine HCode.step ?_)
  refine HCall.mk ⟨Try.f28, Try.func28, by rfl, by rfl⟩ ?_
  refine clone_t hy2 hm hlim fun b' c' H3 m3 => ?_
  have o3 := o2.upd m3.upd (Off.nil _)
  (repeat first | refine HReg.step ?_ | refine HCode.step ?_)
  refine HLoad_two (v := .int .i64 (L + 1)) (by exact o3.rows.get (i := 2) rfl) (by exact o2.rows.get (i := 2) rfl) ?_
  (repeat first | refine HReg.step ?_ | refine HCode.step ?_)
  refine HReq.mk (by decide) ?_
  (repeat first | refine HReg.step ?_ | refine HCode.step ?_)
  refine HNew.mk fun b4 hb4 => ?_
  have u4 : Upd [] H3 (H3.upd b4 (.cells [Value.int .i64 (L + 1), .int .i64 frm, .int .i64 to, .slice b' m c'].toArray 33)) := Upd.new hb4 _
  have o4 := o3.upd u4 (Off.nil _)
  (repeat first | refine HReg.step ?_ | refine HCode.step ?_)
  refine HLoad_three (v := .slice a n cap) (by exact o4.rows.get (i := 3) rfl) (by exact o3.rows.get (i := 3) rfl) (by exact o2.rows.get (i := 3) rfl) ?_
  (repeat first | refine HReg.step ?_ | refine HCode.step ?_)
  have r4 := r2.upd (m3.upd.trans u4) (Off.nil _)
  refine append_rows (ie := Try.t33) (z := .agg #[.int .i64 0, .int .i64 0, .int .i64 0, .slice none 0 0]) (xs := frow fs) (ys := fcells ⟨L + 1, frm, to, .slice b' m c'⟩) Try.underlying39 rfl rfl rfl (by decide) r4 (RowAt.of_cells (upd_same _ _ _)) rfl ?_ ?_ (by omega) fun a5 cap5 H5 r5 u5 f5 => ?_
  · intro v hv
    simp only [fcells, List.mem_cons, List.not_mem_nil, or_false] at hv
    rcases hv with rfl | rfl | rfl | rfl <;> rfl
  · show (n + 1) * 48 ≤ _; omega
  have o5 := o4.upd u5 (fun p hp hb => by
    cases hp
    obtain ⟨q, hq, he⟩ := blk_of hb
    exact N.apart q hq he)
  (repeat first | refine HReg.step ?_ | refine HCode.step ?_)
  refine store_row o5 rfl (i := 3) (by decide) (by rfl) fun H6 o6 u6 => ?_
  (repeat first | refine HReg.step ?_ | refine HCode.step ?_)
  refine HLoad.one (v := .int .i64 (L + 1)) (by exact o6.rows.get (i := 2) rfl) ?_
  (repeat first | refine HReg.step ?_ | refine HCode.step ?_)
  have live4 : (H3.upd b4 (.cells [Value.int .i64 (L + 1), .int .i64 frm, .int .i64 to, .slice b' m c'].toArray 33)) g ≠ none := o4.there rfl
  have ap5 : ∀ p, a5 = some p → p.block ≠ g := by
    intro p hp e
    rcases f5 p hp with h | h
    · exact N.apart p h e
    · rw [e] at h; exact live4 h
  have hback : ∀ k, (H3.upd b4 (.cells [Value.int .i64 (L + 1), .int .i64 frm, .int .i64 to, .slice b' m c'].toArray 33)) k = none → H k = none := by
    intro k hk
    have h2 : H2 k = none := Upd.none (S := []) (m3.upd.trans u4) (by simp) hk
    exact upd_none' u2 (fun x hx => by rw [List.mem_singleton.1 hx]; exact o2.there rfl) h2
  have og : Off [g] a5 := fun p hp hb => ap5 p hp (List.mem_singleton.1 hb)
  have r6 : OwnRow H6 33 4 a5 (n + 1) cap5 (frow (fs ++ [⟨L + 1, frm, to, .slice b' m c'⟩])) := by
    rw [frow_append]
    have e : frow [⟨L + 1, frm, to, .slice b' m c'⟩] = fcells ⟨L + 1, frm, to, .slice b' m c'⟩ := rfl
    rw [e]
    exact r5.upd u6 og
  have sg : ∀ b ∈ [g], b ∈ nblk g a := fun b hb => by rw [List.mem_singleton.1 hb]; exact mem_nblk_g g a
  have hup : Upd (nblk g a) H H6 := (((u2.mono sg).trans ((m3.upd.trans u4).mono (by simp))).trans (u5.mono (blk_nblk g a))).trans (u6.mono sg)
  refine hk H6 (Laid.mk ⟨.slice b' m c', a5, cap5, ⟨o6, r6, N.newg, fun p hp => ?_, ap5, Upd.drop N.base hup N.old⟩, ?_, ?_, hup, fun p hp => ?_⟩)
  · rcases f5 p hp with h | h
    · exact N.newa p h
    · exact Upd.none (S := []) N.base (by simp) (hback _ h)
  · have s3 := m3.sle hm
    refine ((s3.upd u4 (by simp)).upd u5 ?_).upd u6 ?_
    · intro b hb hb'
      obtain ⟨c, f, hc⟩ := (s3.upd u4 (by simp)).live hb
      exact r4.notT (by decide) b hb' c f hc
    · intro b hb hb'
      obtain ⟨c, f, hc⟩ := s3.live hb
      rw [List.mem_singleton.1 hb'] at hc
      exact o3.notE (by decide) g (by simp) c f hc
  · intro k hk
    exact upd_none' u2 (fun x hx => by rw [List.mem_singleton.1 hx]; exact o2.there rfl) (m3.vnew k hk)
  · rcases f5 p hp with h | h
    · exact .inl h
    · exact .inr (hback _ h)
end
end Go.Proofs.Ytefmplilhbbiaaa
