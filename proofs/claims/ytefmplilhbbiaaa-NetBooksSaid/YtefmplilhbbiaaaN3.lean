import Derived.Test.YtefmplilhbbiaaaN2
namespace Go.Proofs.Ytefmplilhbbiaaa
open Go Hv
set_option linter.unusedVariables false
set_option maxRecDepth 10000
set_option maxHeartbeats 1000000
theorem storeN_own {e : TypeId} {b n cap : Nat} {K : Heap → Prop} : ∀ (vs : List Value) {H : Heap} {i : Nat} {xs : List Value}, OwnRow H e 1 (some ⟨b, 0, none⟩) n cap xs → i + vs.length = n → (∀ v ∈ vs, Value.plain v = true) →
    (∀ H', OwnRow H' e 1 (some ⟨b, 0, none⟩) n cap (xs.take i ++ vs) → Upd [b] H H' → K H') → storeN H b 0 i K vs
  | [], H, i, xs, ho, hn, hp, hk => by
    have : xs.take i ++ [] = xs := by
      have := ho.len
      rw [List.append_nil, List.take_of_length_le (by simp at hn; omega)]
    rw [this] at hk
    exact hk H ho (Upd.refl _ _)
  | v :: vs, H, i, xs, ho, hn, hp, hk => by
    simp only [List.length_cons] at hn
    have hl := ho.len
    refine store_row ho (hp v (by simp)) (i := i) (by omega) (by omega) fun H' ho' hu => ?_
    refine storeN_own vs ho' (by omega) (fun w hw => hp w (by simp [hw])) fun H'' ho'' hu' => hk H'' ?_ (hu.trans hu')
    have e : (xs.set i v).take (i + 1) = xs.take i ++ [v] := by
      have hi : i < xs.length := by omega
      rw [List.take_set, List.take_add_one, List.getElem?_eq_getElem hi]
      apply List.ext_getElem?
      intro k
      rw [List.getElem?_set]
      by_cases h1 : i = k
      · subst h1
        rw [if_pos rfl, if_pos (by simp; omega), List.getElem?_append_right (by simp; omega)]
        simp; rw [Nat.min_eq_left (by omega)]; simp
      · rw [if_neg h1]
        by_cases h2 : k < i
        · rw [List.getElem?_append_left (by simp; omega), List.getElem?_append_left (by simp; omega)]
        · rw [List.getElem?_eq_none (by simp; omega), List.getElem?_eq_none (by simp; omega)]
    rw [e, List.append_assoc] at ho''
    exact ho''

def zfr : List Value := [.int .i64 0, .int .i64 0, .int .i64 0, .slice none 0 0]
theorem plain_zfr : ∀ v ∈ zfr, Value.plain v = true := by
  intro v hv
  simp only [zfr, List.mem_cons, List.not_mem_nil, or_false] at hv
  rcases hv with rfl | rfl | rfl | rfl <;> rfl
theorem plain_fcells {f : Fr} (h : isSl f.v) : ∀ v ∈ fcells f, Value.plain v = true := by
  intro v hv
  simp only [fcells, List.mem_cons, List.not_mem_nil, or_false] at hv
  rcases hv with rfl | rfl | rfl | rfl
  · rfl
  · rfl
  · rfl
  · exact h.plain
section
variable {H1 H : Heap} {g : Nat} {P C L : Int} {a : Option Addr} {n cap : Nat} {fs : List Fr} {K : Value → Heap → Prop}
theorem send_t {frm to : Int} {b : Option Addr} {m c : Nat} {ys : List UInt8} (N : NetAt 61 33 H1 H g P C L a n cap fs) (hC : 1 ≤ C ∧ C ≤ 16) (hL : 0 ≤ L ∧ L < 9223372036854775807) (hn : n + 1 ≤ 2932031007402) (hfs : ∀ f ∈ fs, isSl f.v)
    (hy : RowAt H b (u8s ys)) (hb : Off [g] b) (hm : ys.length = m) (hlim : m ≤ 140737488355328)
    (hok : can P C frm to → ∀ H', Laid 61 33 H1 H g P C L a n fs frm to ys H' → K (.tuple #[.int .i64 (L + 1), .int .i64 0]) H') (hno : ¬ can P C frm to → K (.tuple #[.int .i64 0, .int .i64 210]) H) :
    HCalls Try.prog 9 [.pointer (some ⟨g, 0, none⟩), .int .i64 frm, .int .i64 to, .slice b m c] H K := by
  refine hcalls (fn := Try.f9) [] mixed Try.func9 rfl rfl (by decide +kernel) ?_
  (repeat first | refine HReg.step ?_ | refine HCode.step ?_)
  refine HCall.mk ⟨Try.f23, Try.func23, by rfl, by rfl⟩ ?_
  refine isPart_t N fun b1 h1 => ?_
  (repeat first | refine HReg.step ?_ | refine HCode.step ?_)
  refine hif (fun e1 => ?_) (fun e1 => ?_)
  · have e1' := h1.1 e1
    (repeat first | refine HReg.step ?_ | refine HCode.step ?_)
    refine HCall.mk ⟨Try.f24, Try.func24, by rfl, by rfl⟩ ?_
    refine isClient_t N hC fun b2 h2 => ?_
    subst e1
    (repeat first | refine HReg.step ?_ | refine HCode.step ?_)
    refine hif (fun e2 => ?_) (fun e2 => ?_)
    · have e2' := h2.1 e2
      subst e2
      (repeat first | refine HReg.step ?_ | refine HCode.step ?_)
      refine HCall.mk ⟨Try.f25, Try.func25, by rfl, by rfl⟩ ?_
      refine lay_t N hL hn hfs hy hb hm hlim fun H' l => ?_
      (repeat first | refine HReg.step ?_ | refine HCode.step ?_)
      exact hok (.inl ⟨e1'.1, e1'.2, e2'.1, e2'.2⟩) H' l
    · have e2' : ¬ (to < 0 ∧ -C ≤ to) := fun h => by have := h2.2 h; rw [this] at e2; cases e2
      subst e2
      (repeat first | refine HReg.step ?_ | refine HCode.step ?_)
      refine HCall.mk ⟨Try.f24, Try.func24, by rfl, by rfl⟩ ?_
      refine isClient_t N hC fun b3 h3 => ?_
      (repeat first | refine HReg.step ?_ | refine HCode.step ?_)
      refine hif (fun e3 => absurd (h3.1 e3) (by omega)) (fun e3 => ?_)
      subst e3
      (repeat first | refine HReg.step ?_ | refine HCode.step ?_)
      exact hno (by unfold can; omega)
  · have e1' : ¬ (0 ≤ frm ∧ frm < P) := fun h => by have := h1.2 h; rw [this] at e1; cases e1
    subst e1
    (repeat first | refine HReg.step ?_ | refine HCode.step ?_)
    refine HCall.mk ⟨Try.f24, Try.func24, by rfl, by rfl⟩ ?_
    refine isClient_t N hC fun b3 h3 => ?_
    (repeat first | refine HReg.step ?_ | refine HCode.step ?_)
    refine hif (fun e3 => ?_) (fun e3 => ?_)
    · have e3' := h3.1 e3
      subst e3
      (repeat first | refine HReg.step ?_ | refine HCode.step ?_)
      refine HCall.mk ⟨Try.f23, Try.func23, by rfl, by rfl⟩ ?_
      refine isPart_t N fun b4 h4 => ?_
      (repeat first | refine HReg.step ?_ | refine HCode.step ?_)
      refine hif (fun e4 => ?_) (fun e4 => ?_)
      · have e4 : b4 = false := by simpa using e4
        have e4' : ¬ (0 ≤ to ∧ to < P) := fun h => by have := h4.2 h; rw [this] at e4; cases e4
        subst e4
        (repeat first | refine HReg.step ?_ | refine HCode.step ?_)
        exact hno (by unfold can; omega)
      · have e4 : b4 = true := by simpa using e4
        have e4' := h4.1 e4
        subst e4
        (repeat first | refine HReg.step ?_ | refine HCode.step ?_)
        refine HCall.mk ⟨Try.f25, Try.func25, by rfl, by rfl⟩ ?_
        refine lay_t N hL hn hfs hy hb hm hlim fun H' l => ?_
        (repeat first | refine HReg.step ?_ | refine HCode.step ?_)
        exact hok (.inr ⟨e3'.1, e3'.2, e4'.1, e4'.2⟩) H' l
    · have e3' : ¬ (frm < 0 ∧ -C ≤ frm) := fun h => by have := h3.2 h; rw [this] at e3; cases e3
      subst e3
      (repeat first | refine HReg.step ?_ | refine HCode.step ?_)
      exact hno (by unfold can; omega)
theorem delete_t {i : Nat} (r : OwnRow H 33 4 a n cap (frow fs)) (hfs : ∀ f ∈ fs, isSl f.v) (hi : i < n) (hn : n ≤ 2932031007402)
    (hk : ∀ H', OwnRow H' 33 4 a (n - 1) cap (frow (fs.eraseIdx i)) → Upd (blk a) H H' → K (.slice a (n - 1) cap) H') : HCalls Try.prog 27 [.slice a n cap, .int .i64 (i : Int), .int .i64 ((i + 1 : Nat) : Int)] H K := by
  refine hcalls (fn := Try.f27) [(5, [(0, 0), (1, 0), (2, 0), (3, 0), (4, 0), (5, 0), (6, 0), (7, 0)])] mixed Try.func27 rfl rfl (by decide +kernel) ?_
  have hl : fs.length = n := by have := r.len; rw [frow_length] at this; omega
  have hle := r.le
  (repeat first | refine HReg.step ?_ | refine HCode.step ?_)
  refine HReq.mk ⟨⟨by omega, by omega⟩, ⟨by omega, by omega⟩, ⟨by omega, by omega⟩⟩ ?_
  (repeat first | refine HReg.step ?_ | refine HCode.step ?_)
  refine hif (fun h => absurd (eqB_true.1 h) (by omega)) (fun _ => ?_)
  (repeat first | refine HReg.step ?_ | refine HCode.step ?_)
  refine HReq.mk ⟨by omega, by omega⟩ ?_
  (repeat first | refine HReg.step ?_ | refine HCode.step ?_)
  refine HReq.mk ⟨by omega, by omega⟩ ?_
  (repeat first | refine HReg.step ?_ | refine HCode.step ?_)
  have rd : RowAt H (slAddr a (i + 1) cap 4) (frow (fs.drop (i + 1))) := by
    have := r.rows.sl (l := i + 1) (cap := cap) (size := 4) (by rw [frow_length]; omega)
    rw [frow_drop] at this; exact this
  have rp : OwnRow H 33 4 a i cap (frow (fs.take i)) := by
    have := own_upto r (i := i) (by omega)
    rw [frow_take] at this; exact this
  refine append_rows' (ie := Try.t33) (z := .agg #[.int .i64 0, .int .i64 0, .int .i64 0, .slice none 0 0]) (xs := frow (fs.take i)) (ys := frow (fs.drop (i + 1))) Try.underlying39 rfl rfl rfl (by decide) rp rd ?_ ?_ ?_ ?_ fun a5 cap5 H5 r5 u5 f5 q5 => ?_
  · rw [frow_length, List.length_drop, hl]; rfl
  · exact plain_frow fun f hf => (hfs f (List.mem_of_mem_drop hf)).plain
  · show (i + (n - (i + 1))) * 48 ≤ _; omega
  · show i + (n - (i + 1)) ≤ _; omega
  obtain ⟨rfl, rfl⟩ := q5.1 (by show i + (n - (i + 1)) ≤ cap; omega)
  have en : i + (n - (i + 1)) = n - 1 := by omega
  have r5' : OwnRow H5 33 4 a5 (n - 1) cap5 (frow (fs.eraseIdx i)) := by
    rw [← en, List.eraseIdx_eq_take_drop_succ, frow_append]; exact r5
  (repeat first | refine HReg.step ?_ | refine HCode.step ?_)
  refine HReq.mk ⟨by omega, by omega⟩ ?_
  (repeat first | refine HReg.step ?_ | refine HCode.step ?_)
  refine HReq.mk ⟨by omega, by show ((i + (n - (i + 1)) : Nat) : Int) ≤ ((n : Int).toNat : Nat); omega⟩ ?_
  (repeat first | refine HReg.step ?_ | refine HCode.step ?_)
  have r5'' : OwnRow H5 33 4 a5 (i + (n - (i + 1))) cap5 (frow (fs.eraseIdx i)) := by rw [en]; exact r5'
  refine clear_own (ie := Try.t33) (z := .agg #[.int .i64 0, .int .i64 0, .int .i64 0, .slice none 0 0]) (l := i + (n - (i + 1))) (n := n - (i + (n - (i + 1)))) Try.underlying39 rfl rfl rfl plain_zfr r5'' (by omega) fun H6 r6 u6 => ?_
  (repeat first | refine HReg.step ?_ | refine HCode.step ?_)
  show K (.slice a5 (i + (n - (i + 1))) cap5) H6
  rw [en] at r6 ⊢
  exact hk H6 r6 (u5.trans u6)
/-- Deliver. -/
theorem deliver_t {k : Int} (N : NetAt 61 33 H1 H g P C L a n cap fs) (hfs : ∀ f ∈ fs, isSl f.v) (hn : n ≤ 2932031007402)
    (hok : ∀ (i : Nat) f H', k = (i : Int) → fs[i]? = some f → NetAt 61 33 H1 H' g P C L a (n - 1) cap (fs.eraseIdx i) → Upd (nblk g a) H H' → K (.tuple #[.agg (fcells f).toArray, .int .i64 0]) H')
    (hno : ¬ (0 ≤ k ∧ k < n) → ∀ H', Upd [] H H' → K (.tuple #[.agg zfr.toArray, .int .i64 210]) H') : HCalls Try.prog 12 [.pointer (some ⟨g, 0, none⟩), .int .i64 k] H K := by
  refine hcalls (fn := Try.f12) [] mixed Try.func12 rfl rfl (by decide +kernel) ?_
  (repeat first | refine HReg.step ?_ | refine HCode.step ?_)
  refine HNew.mk fun b0 hb0 => ?_
  have u0 : Upd [] H (H.upd b0 (.cells zfr.toArray 33)) := Upd.new hb0 _
  have o0 : OwnRow (H.upd b0 (.cells zfr.toArray 33)) 33 1 (some ⟨b0, 0, none⟩) 4 4 zfr := OwnRow.lit (upd_same _ _ _) rfl
  have N0 := N.upd0 u0
  (repeat first | refine HReg.step ?_ | refine HCode.step ?_)
  refine HCall.mk ⟨Try.f26, Try.func26, by rfl, by rfl⟩ ?_
  refine has_t N0 fun b hb => ?_
  (repeat first | refine HReg.step ?_ | refine HCode.step ?_)
  refine hif (fun e => ?_) (fun e => ?_)
  · have e : b = false := by simpa using e
    (repeat first | refine HReg.step ?_ | refine HCode.step ?_)
    refine storeN_own (i := 0) zfr o0 rfl plain_zfr fun H2 o2 u2 => ?_
    (repeat first | refine HReg.step ?_ | refine HCode.step ?_)
    refine HLoadN.mk ⟨zfr, fun Hx hx j v hv => ?_, rfl, ?_⟩
    · rw [List.mem_singleton.1 hx]
      exact o2.rows.get hv
    refine hno (fun h => by have := hb.2 h; rw [this] at e; cases e) H2 (Upd.drop u0 u2 fun x hx => by rw [List.mem_singleton.1 hx]; exact hb0)
  · have e : b = true := by simpa using e
    obtain ⟨h0, h1⟩ := hb.1 e
    obtain ⟨i, rfl⟩ : ∃ i : Nat, k = (i : Int) := ⟨k.toNat, by omega⟩
    have hl := N.len
    obtain ⟨f, hf⟩ : ∃ f, fs[i]? = some f := ⟨fs[i]'(by omega), by simp⟩
    obtain ⟨ga, rfl⟩ := N.row.addr (by omega)
    have hsl := hfs f (List.mem_of_getElem? hf)
    (repeat first | refine HReg.step ?_ | refine HCode.step ?_)
    refine HLoad.one (v := .slice (some ⟨ga, 0, none⟩) n cap) (by exact N0.obj.rows.get (i := 3) rfl) ?_
    (repeat first | refine HReg.step ?_ | refine HCode.step ?_)
    refine HReq.mk ⟨by omega, by omega⟩ ?_
    (repeat first | refine HReg.step ?_ | refine HCode.step ?_)
    refine HLoadN.mk ⟨fcells f, fun Hx hx j v hv => ?_, rfl, ?_⟩
    · rw [List.mem_singleton.1 hx]
      have := N0.row.rows.get (frow_get hf hv)
      rw [← Nat.add_assoc] at this
      exact this
    (repeat first | refine HReg.step ?_ | refine HCode.step ?_)
    refine HNew.mk fun b6 hb6 => ?_
    have u6 : Upd [] (H.upd b0 (.cells zfr.toArray 33)) ((H.upd b0 (.cells zfr.toArray 33)).upd b6 (.cells zfr.toArray 33)) := Upd.new hb6 _
    have o6 : OwnRow ((H.upd b0 (.cells zfr.toArray 33)).upd b6 (.cells zfr.toArray 33)) 33 1 (some ⟨b6, 0, none⟩) 4 4 zfr := OwnRow.lit (upd_same _ _ _) rfl
    (repeat first | refine HReg.step ?_ | refine HCode.step ?_)
    refine storeN_own (i := 0) (fcells f) o6 rfl (plain_fcells hsl) fun H7 o7 u7 => ?_
    have ne6 : (H.upd b0 (.cells zfr.toArray 33)) b6 = none := hb6
    have n6H : H b6 = none := Upd.none (S := []) u0 (by simp) hb6
    have n60 : b6 ≠ b0 := fun e => by rw [e, upd_same] at hb6; cases hb6
    have u07 : Upd [] H H7 := Upd.drop (u0.trans u6) u7 fun x hx => by rw [List.mem_singleton.1 hx]; exact n6H
    have N7 := N.upd0 u07
    have o07 := (o0.upd u6 (Off.nil _)).upd u7 (fun p hp hx => by cases hp; exact n60 (List.mem_singleton.1 hx).symm)
    have gl : H g ≠ none := N.live g (mem_nblk_g _ _)
    have al : H ga ≠ none := N.row.there rfl
    have ga_g : ga ≠ g := N.apart _ rfl
    have g6 : b6 ≠ g := fun e => gl (by rw [← e]; exact n6H)
    have g0 : b0 ≠ g := fun e => gl (by rw [← e]; exact hb0)
    have a6 : b6 ≠ ga := fun e => al (by rw [← e]; exact n6H)
    have a0 : b0 ≠ ga := fun e => al (by rw [← e]; exact hb0)
    (repeat first | refine HReg.step ?_ | refine HCode.step ?_)
    refine HLoad.one (v := .slice (some ⟨ga, 0, none⟩) n cap) (by exact N7.obj.rows.get (i := 3) rfl) ?_
    (repeat first | refine HReg.step ?_ | refine HCode.step ?_)
    have hw : wr .i64 ((i : Int) + 1) = ((i + 1 : Nat) : Int) := by rw [wr_i64 (by omega) (by omega)]; omega
    rw [hw]
    refine HCall.mk ⟨Try.f27, Try.func27, by rfl, by rfl⟩ ?_
    refine delete_t N7.row hfs (by omega) hn fun H8 r8 u8 => ?_
    have o8 := N7.obj.upd u8 (fun p hp hx => by cases hp; exact ga_g (by simp [blk] at hx; exact hx.symm))
    (repeat first | refine HReg.step ?_ | refine HCode.step ?_)
    refine store_row o8 rfl (i := 3) (by decide) (by rfl) fun H9 o9 u9 => ?_
    have b6_9 := (o7.upd u8 (fun p hp hx => by cases hp; exact a6 (by simpa [blk] using hx))).upd u9 (fun p hp hx => by cases hp; exact g6 (List.mem_singleton.1 hx))
    have b0_9 := (o07.upd u8 (fun p hp hx => by cases hp; exact a0 (by simpa [blk] using hx))).upd u9 (fun p hp hx => by cases hp; exact g0 (List.mem_singleton.1 hx))
    have r9 := r8.upd u9 (fun p hp hx => by cases hp; exact ga_g (List.mem_singleton.1 hx))
    (repeat first | refine HReg.step ?_ | refine HCode.step ?_)
    refine HLoadN.mk ⟨fcells f, fun Hx hx j v hv => ?_, rfl, ?_⟩
    · rw [List.mem_singleton.1 hx]
      exact b6_9.rows.get hv
    (repeat first | refine HReg.step ?_ | refine HCode.step ?_)
    refine storeN_own (i := 0) (fcells f) b0_9 rfl (plain_fcells hsl) fun H10 o10 u10 => ?_
    (repeat first | refine HReg.step ?_ | refine HCode.step ?_)
    refine HLoadN.mk ⟨fcells f, fun Hx hx j v hv => ?_, rfl, ?_⟩
    · rw [List.mem_singleton.1 hx]
      exact o10.rows.get hv
    have hup : Upd (nblk g (some ⟨ga, 0, none⟩)) H H10 := by
      refine upd_join (upd_join (upd_join (u07.mono (by simp)) u8 fun b hb => .inl (blk_nblk _ _ b hb)) u9 fun b hb => .inl (by rw [List.mem_singleton.1 hb]; exact mem_nblk_g _ _)) u10 fun b hb => .inr (by rw [List.mem_singleton.1 hb]; exact hb0)
    refine hok i f H10 rfl hf ⟨o9.upd u10 (fun p hp hx => by cases hp; exact g0 (List.mem_singleton.1 hx).symm), r9.upd u10 (fun p hp hx => by cases hp; exact a0 (List.mem_singleton.1 hx).symm), N.newg, N.newa, N.apart, Upd.drop N.base hup N.old⟩ hup
/-- Lose. -/
theorem lose_t {k : Int} (N : NetAt 61 33 H1 H g P C L a n cap fs) (hfs : ∀ f ∈ fs, isSl f.v) (hn : n ≤ 2932031007402)
    (hok : ∀ (i : Nat) f H', k = (i : Int) → fs[i]? = some f → NetAt 61 33 H1 H' g P C L a (n - 1) cap (fs.eraseIdx i) → Upd (nblk g a) H H' → K (.int .i64 0) H')
    (hno : ¬ (0 ≤ k ∧ k < n) → ∀ H', Upd [] H H' → K (.int .i64 210) H') : HCalls Try.prog 13 [.pointer (some ⟨g, 0, none⟩), .int .i64 k] H K := by
  refine hcalls (fn := Try.f13) [] mixed Try.func13 rfl rfl (by decide +kernel) ?_
  (repeat first | refine HReg.step ?_ | refine HCode.step ?_)
  refine HCall.mk ⟨Try.f12, Try.func12, by rfl, by rfl⟩ ?_
  refine deliver_t N hfs hn (fun i f H2 hk hf N2 u2 => ?_) (fun hk H2 u2 => ?_)
  · have hsl := hfs f (List.mem_of_getElem? hf)
    (repeat first | refine HReg.step ?_ | refine HCode.step ?_)
    refine HNew.mk fun b5 hb5 => ?_
    have u5 : Upd [] H2 (H2.upd b5 (.cells zfr.toArray 33)) := Upd.new hb5 _
    have o5 : OwnRow (H2.upd b5 (.cells zfr.toArray 33)) 33 1 (some ⟨b5, 0, none⟩) 4 4 zfr := OwnRow.lit (upd_same _ _ _) rfl
    (repeat first | refine HReg.step ?_ | refine HCode.step ?_)
    refine storeN_own (i := 0) (fcells f) o5 rfl (plain_fcells hsl) fun H6 o6 u6 => ?_
    (repeat first | refine HReg.step ?_ | refine HCode.step ?_)
    have u26 : Upd [] H2 H6 := Upd.drop u5 u6 fun x hx => by rw [List.mem_singleton.1 hx]; exact hb5
    exact hok i f H6 hk hf (N2.upd0 u26) (u2.trans (u26.mono (by simp)))
  · (repeat first | refine HReg.step ?_ | refine HCode.step ?_)
    refine HNew.mk fun b5 hb5 => ?_
    have u5 : Upd [] H2 (H2.upd b5 (.cells zfr.toArray 33)) := Upd.new hb5 _
    have o5 : OwnRow (H2.upd b5 (.cells zfr.toArray 33)) 33 1 (some ⟨b5, 0, none⟩) 4 4 zfr := OwnRow.lit (upd_same _ _ _) rfl
    (repeat first | refine HReg.step ?_ | refine HCode.step ?_)
    refine storeN_own (i := 0) zfr o5 rfl plain_zfr fun H6 o6 u6 => ?_
    (repeat first | refine HReg.step ?_ | refine HCode.step ?_)
    exact hno hk H6 (u2.trans (Upd.drop u5 u6 fun x hx => by rw [List.mem_singleton.1 hx]; exact hb5))
/-- Twin. -/
theorem twin_t {k : Int} {ls : List (List UInt8)} (N : NetAt 61 33 H1 H g P C L a n cap fs) (S : All2 (Sle 5 H) (fs.map Fr.v) ls) (hlim : ∀ l ∈ ls, List.length l ≤ 140737488355328) (hL : 0 ≤ L ∧ L < 9223372036854775807) (hn : n + 1 ≤ 2932031007402)
    (hok : ∀ (i : Nat) f l H', k = (i : Int) → fs[i]? = some f → ls[i]? = some l → Laid 61 33 H1 H g P C L a n fs f.frm f.to l H' → K (.tuple #[.int .i64 (L + 1), .int .i64 0]) H')
    (hno : ¬ (0 ≤ k ∧ k < n) → K (.tuple #[.int .i64 0, .int .i64 210]) H) : HCalls Try.prog 14 [.pointer (some ⟨g, 0, none⟩), .int .i64 k] H K := by
  have hll := S.length
  have hlen := N.len
  rw [List.length_map] at hll
  have hfs : ∀ f ∈ fs, isSl f.v := fun f hf => by
    obtain ⟨i, hi⟩ := List.getElem?_of_mem hf
    have h1 := (List.getElem?_eq_some_iff.1 hi).1
    obtain ⟨x, hx, b, c, he, _⟩ := S.get (i := i) (y := ls[i]'(by omega)) (by simp)
    rw [List.getElem?_map, hi] at hx
    cases hx
    exact ⟨_, _, _, he⟩
  refine hcalls (fn := Try.f14) [] mixed Try.func14 rfl rfl (by decide +kernel) ?_
  (repeat first | refine HReg.step ?_ | refine HCode.step ?_)
  refine HCall.mk ⟨Try.f26, Try.func26, by rfl, by rfl⟩ ?_
  refine has_t N fun b hb => ?_
  (repeat first | refine HReg.step ?_ | refine HCode.step ?_)
  refine hif (fun e => ?_) (fun e => ?_)
  · have e : b = false := by simpa using e
    (repeat first | refine HReg.step ?_ | refine HCode.step ?_)
    exact hno (fun h => by have := hb.2 h; rw [this] at e; cases e)
  · have e : b = true := by simpa using e
    obtain ⟨h0, h1⟩ := hb.1 e
    obtain ⟨i, rfl⟩ : ∃ i : Nat, k = (i : Int) := ⟨k.toNat, by omega⟩
    obtain ⟨f, hf⟩ : ∃ f, fs[i]? = some f := ⟨fs[i]'(by omega), by simp⟩
    obtain ⟨l, hl⟩ : ∃ l, ls[i]? = some l := ⟨ls[i]'(by omega), by simp⟩
    obtain ⟨x, hx, bb, cc, he, ob⟩ := S.get hl
    rw [List.getElem?_map, hf] at hx
    have hx : f.v = x := by simpa using hx
    rw [← hx] at he
    obtain ⟨ga, rfl⟩ := N.row.addr (by omega)
    have hsl := hfs f (List.mem_of_getElem? hf)
    (repeat first | refine HReg.step ?_ | refine HCode.step ?_)
    refine HLoad.one (v := .slice (some ⟨ga, 0, none⟩) n cap) (by exact N.obj.rows.get (i := 3) rfl) ?_
    (repeat first | refine HReg.step ?_ | refine HCode.step ?_)
    refine HReq.mk ⟨by omega, by omega⟩ ?_
    (repeat first | refine HReg.step ?_ | refine HCode.step ?_)
    refine HLoadN.mk ⟨fcells f, fun Hx hx j v hv => ?_, rfl, ?_⟩
    · rw [List.mem_singleton.1 hx]
      have := N.row.rows.get (frow_get hf hv)
      rw [← Nat.add_assoc] at this
      exact this
    (repeat first | refine HReg.step ?_ | refine HCode.step ?_)
    refine HNew.mk fun b6 hb6 => ?_
    have u6 : Upd [] H (H.upd b6 (.cells zfr.toArray 33)) := Upd.new hb6 _
    have o6 : OwnRow (H.upd b6 (.cells zfr.toArray 33)) 33 1 (some ⟨b6, 0, none⟩) 4 4 zfr := OwnRow.lit (upd_same _ _ _) rfl
    (repeat first | refine HReg.step ?_ | refine HCode.step ?_)
    refine storeN_own (i := 0) (fcells f) o6 rfl (plain_fcells hsl) fun H7 o7 u7 => ?_
    have u07 : Upd [] H H7 := Upd.drop u6 u7 fun x hx => by rw [List.mem_singleton.1 hx]; exact hb6
    have o7' : OwnRow H7 33 1 (some ⟨b6, 0, none⟩) 4 4 (fcells f) := o7
    have ob7 := ob.upd u07 (Off.nil _)
    (repeat first | refine HReg.step ?_ | refine HCode.step ?_)
    refine HLoad.one (v := .int .i64 f.frm) (by exact o7'.rows.get (i := 1) rfl) ?_
    (repeat first | refine HReg.step ?_ | refine HCode.step ?_)
    refine HLoad.one (v := .int .i64 f.to) (by exact o7'.rows.get (i := 2) rfl) ?_
    (repeat first | refine HReg.step ?_ | refine HCode.step ?_)
    refine HLoad.one (v := .slice bb l.length cc) (by rw [← he]; exact o7'.rows.get (i := 3) rfl) ?_
    (repeat first | refine HReg.step ?_ | refine HCode.step ?_)
    refine HCall.mk ⟨Try.f25, Try.func25, by rfl, by rfl⟩ ?_
    have hoff : Off [g] bb := (N.upd0 u07).obj.offT ob7 (by decide)
    refine lay_t (N.upd0 u07) hL hn hfs ob7.rows hoff rfl (hlim l (List.mem_of_getElem? hl)) fun H8 l8 => ?_
    (repeat first | refine HReg.step ?_ | refine HCode.step ?_)
    obtain ⟨v, a', cap', N8, s8, w8, u8, f8⟩ := l8
    refine hok i f l H8 rfl hf hl (Laid.mk ⟨v, a', cap', N8, s8, fun b hb => Upd.none (S := []) u07 (by simp) (w8 b hb), (u07.mono (by simp)).trans u8, fun p hp => ?_⟩)
    rcases f8 p hp with h | h
    · exact .inl h
    · exact .inr (Upd.none (S := []) u07 (by simp) h)
end
end Go.Proofs.Ytefmplilhbbiaaa
