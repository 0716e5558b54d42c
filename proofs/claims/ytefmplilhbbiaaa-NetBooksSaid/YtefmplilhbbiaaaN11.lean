import Derived.Test.YtefmplilhbbiaaaN10
namespace Go.Proofs.Ytefmplilhbbiaaa
open Go Hv
set_option linter.unusedVariables false
set_option maxRecDepth 10000
set_option maxHeartbeats 1000000
section
variable {H1 H : Heap} {g : Nat} {P C L : Int} {a : Option Addr} {n cap : Nat} {fs : List Fr} {K : Value → Heap → Prop} {T F : TypeId}
/-- Deliver. -/
theorem rdeliver_t {k : Int} (N : NetAt 66 67 H1 H g P C L a n cap fs) (hfs : ∀ f ∈ fs, isSl f.v) (hn : n ≤ 2932031007402)
    (hok : ∀ (i : Nat) f a' cap' H', k = (i : Int) → fs[i]? = some f → NetAt 66 67 H1 H' g P C L a' (n - 1) cap' (fs.eraseIdx i) → Upd (nblk g a) H H' → (∀ p, a' = some p → H p.block = none) → K (.tuple #[.agg (fcells f).toArray, .int .i64 0]) H')
    (hno : ¬ (0 ≤ k ∧ k < n) → ∀ H', Upd [] H H' → K (.tuple #[.agg zfr.toArray, .int .i64 210]) H') : HCalls Try.prog 30 [.pointer (some ⟨g, 0, none⟩), .int .i64 k] H K := by
  refine hcalls (fn := Try.f30) [] mixed Try.func30 rfl rfl (by decide +kernel) ?_
  (repeat first | refine HReg.step ?_ | refine HCode.step ?_)
  refine HNew.mk fun b0 hb0 => ?_
  have u0 : Upd [] H (H.upd b0 (.cells zfr.toArray 67)) := Upd.new hb0 _
  have o0 : OwnRow (H.upd b0 (.cells zfr.toArray 67)) 67 1 (some ⟨b0, 0, none⟩) 4 4 zfr := OwnRow.lit (upd_same _ _ _) rfl
  have N0 := N.upd0 u0
  (repeat first | refine HReg.step ?_ | refine HCode.step ?_)
  refine hif (fun e1 => ?_) (fun e1 => ?_)
  · have e1 := ltB_true.1 e1
    (repeat first | refine HReg.step ?_ | refine HCode.step ?_)
    refine storeN_own (i := 0) zfr o0 rfl plain_zfr fun H2 o2 u2 => ?_
    (repeat first | refine HReg.step ?_ | refine HCode.step ?_)
    refine HLoadN.mk ⟨zfr, fun Hx hx j v hv => ?_, rfl, ?_⟩
    · rw [List.mem_singleton.1 hx]
      exact o2.rows.get hv
    exact hno (by omega) H2 (Upd.drop u0 u2 fun x hx => by rw [List.mem_singleton.1 hx]; exact hb0)
  · have e1 := ltB_false.1 e1
    (repeat first | refine HReg.step ?_ | refine HCode.step ?_)
    refine HLoad.one (v := .slice a n cap) (by exact N0.obj.rows.get (i := 3) rfl) ?_
    (repeat first | refine HReg.step ?_ | refine HCode.step ?_)
    refine hif (fun e2 => ?_) (fun e2 => ?_)
    · have e2 := not_ltB_true.1 e2
      (repeat first | refine HReg.step ?_ | refine HCode.step ?_)
      refine storeN_own (i := 0) zfr o0 rfl plain_zfr fun H2 o2 u2 => ?_
      (repeat first | refine HReg.step ?_ | refine HCode.step ?_)
      refine HLoadN.mk ⟨zfr, fun Hx hx j v hv => ?_, rfl, ?_⟩
      · rw [List.mem_singleton.1 hx]
        exact o2.rows.get hv
      exact hno (by omega) H2 (Upd.drop u0 u2 fun x hx => by rw [List.mem_singleton.1 hx]; exact hb0)
    have e2 := not_ltB_false.1 e2
    have h0 : 0 ≤ k := e1
    have h1 : k < n := e2
    obtain ⟨i, rfl⟩ : ∃ i : Nat, k = (i : Int) := ⟨k.toNat, by omega⟩
    have hl := N.len
    obtain ⟨f, hf⟩ : ∃ f, fs[i]? = some f := ⟨fs[i]'(by omega), by simp⟩
    obtain ⟨ga, rfl⟩ := N.row.addr (by omega)
    have hsl := hfs f (List.mem_of_getElem? hf)
    (repeat first | refine HReg.step ?_ | refine HCode.step ?_)
    refine HLoad.one (v := .slice (some ⟨ga, 0, none⟩) n cap) (by exact N0.obj.rows.get (i := 3) rfl) ?_
    (repeat first | refine HReg.step ?_ | refine HCode.step ?_)
    refine HReq.mk ⟨by omega, by omega⟩ ?_
    (repeat first | refine HReg.step ?_ | refine HCode.step ?_)
    refine HLoadN.mk ⟨fcells f, fun Hx hx j v hv => ?_, rfl, ?_⟩
    · rw [List.mem_singleton.1 hx]
      have := N0.row.rows.get (frow_get hf hv)
      rw [← Nat.add_assoc] at this
      exact this
    (repeat first | refine HReg.step ?_ | refine HCode.step ?_)
    refine HNew.mk fun b6 hb6 => ?_
    have u6 : Upd [] (H.upd b0 (.cells zfr.toArray 67)) ((H.upd b0 (.cells zfr.toArray 67)).upd b6 (.cells zfr.toArray 67)) := Upd.new hb6 _
    have o6 : OwnRow ((H.upd b0 (.cells zfr.toArray 67)).upd b6 (.cells zfr.toArray 67)) 67 1 (some ⟨b6, 0, none⟩) 4 4 zfr := OwnRow.lit (upd_same _ _ _) rfl
    (repeat first | refine HReg.step ?_ | refine HCode.step ?_)
    refine storeN_own (i := 0) (fcells f) o6 rfl (plain_fcells hsl) fun H7 o7 u7 => ?_
    have ne6 : (H.upd b0 (.cells zfr.toArray 67)) b6 = none := hb6
    have n6H : H b6 = none := Upd.none (S := []) u0 (by simp) hb6
    have n60 : b6 ≠ b0 := fun e => by rw [e, upd_same] at hb6; cases hb6
    have u07 : Upd [] H H7 := Upd.drop (u0.trans u6) u7 fun x hx => by rw [List.mem_singleton.1 hx]; exact n6H
    have N7 := N.upd0 u07
    have o07 := (o0.upd u6 (Off.nil _)).upd u7 (fun p hp hx => by cases hp; exact n60 (List.mem_singleton.1 hx).symm)
    have gl : H g ≠ none := N.live g (mem_nblk_g _ _)
    have al : H ga ≠ none := N.row.there rfl
    have ga_g : ga ≠ g := N.apart _ rfl
    have g6 : b6 ≠ g := fun e => gl (by rw [← e]; exact n6H)
    have g0 : b0 ≠ g := fun e => gl (by rw [← e]; exact hb0)
    have a6 : b6 ≠ ga := fun e => al (by rw [← e]; exact n6H)
    have a0 : b0 ≠ ga := fun e => al (by rw [← e]; exact hb0)
    have al7 : H7 ga ≠ none := N7.row.there rfl
    (repeat first | refine HReg.step ?_ | refine HCode.step ?_)
    refine HLoad.one (v := .slice (some ⟨ga, 0, none⟩) n cap) (by exact N7.obj.rows.get (i := 3) rfl) ?_
    (repeat first | refine HReg.step ?_ | refine HCode.step ?_)
    have hle := N.row.le
    refine HReq.mk ⟨by omega, by omega⟩ ?_
    (repeat first | refine HReg.step ?_ | refine HCode.step ?_)
    have rt : RowAt H7 (some ⟨ga, 0, none⟩) (frow (fs.take i)) := by
      have := N7.row.rows.take (i * 4)
      rw [frow_take] at this; exact this
    refine append_rows (ie := Try.t67) (z := .agg #[.int .i64 0, .int .i64 0, .int .i64 0, .slice none 0 0]) (xs := []) (ys := frow (fs.take i)) (n := 0) (m := i) Try.underlying55 rfl rfl rfl (by decide) (OwnRow.nil _ _ _) rt ?_ ?_ ?_ (by omega) fun a8 c8 H8 r8 u8 f8 => ?_
    · rw [frow_length, List.length_take]; show min i fs.length * 4 = i * 4; rw [Nat.min_eq_left (by omega)]
    · exact plain_frow fun f hf => (hfs f (List.mem_of_mem_take hf)).plain
    · show (0 + i) * 48 ≤ _; omega
    have u8e : Upd [] H7 H8 := u8
    have N8 := N7.upd0 u8e
    have f8' : ∀ p, a8 = some p → H7 p.block = none := fun p hp => by
      rcases f8 p hp with h | h
      · cases h
      · exact h
    (repeat first | refine HReg.step ?_ | refine HCode.step ?_)
    refine HLoad.one (v := .slice (some ⟨ga, 0, none⟩) n cap) (by exact N8.obj.rows.get (i := 3) rfl) ?_
    (repeat first | refine HReg.step ?_ | refine HCode.step ?_)
    have hw : wr .i64 ((i : Int) + 1) = ((i + 1 : Nat) : Int) := by rw [wr_i64 (by omega) (by omega)]; omega
    rw [hw]
    refine HReq.mk ⟨by omega, by omega⟩ ?_
    (repeat first | refine HReg.step ?_ | refine HCode.step ?_)
    have rd : RowAt H8 (slAddr (some ⟨ga, 0, none⟩) (i + 1) cap 4) (frow (fs.drop (i + 1))) := by
      have := N8.row.rows.sl (l := i + 1) (cap := cap) (size := 4) (by rw [frow_length]; omega)
      rw [frow_drop] at this; exact this
    refine append_rows (ie := Try.t67) (z := .agg #[.int .i64 0, .int .i64 0, .int .i64 0, .slice none 0 0]) (xs := [] ++ frow (fs.take i)) (ys := frow (fs.drop (i + 1))) Try.underlying55 rfl rfl rfl (by decide) r8 rd ?_ ?_ ?_ ?_ fun a9 c9 H9 r9 u9 f9 => ?_
    · rw [frow_length, List.length_drop, hl]; rfl
    · exact plain_frow fun f hf => (hfs f (List.mem_of_mem_drop hf)).plain
    · show (0 + i + (n - (i + 1))) * 48 ≤ _; omega
    · show 0 + i + (n - (i + 1)) ≤ _; omega
    have n8H : ∀ b ∈ blk a8, H b = none := fun b hb => by
      obtain ⟨p, hp, rfl⟩ := blk_of hb
      exact Upd.none (S := []) u07 (by simp) (f8' p hp)
    have n9H : ∀ p, a9 = some p → H p.block = none := fun p hp => by
      rcases f9 p hp with h | h
      · exact n8H _ (by rw [h]; simp [blk])
      · exact Upd.none (S := []) (u07.trans u8e) (by simp) h
    have en : 0 + i + (n - (i + 1)) = n - 1 := by omega
    have r9' : OwnRow H9 67 4 a9 (n - 1) c9 (frow (fs.eraseIdx i)) := by
      rw [← en, List.eraseIdx_eq_take_drop_succ, frow_append]; exact r9
    have g8 : g ∉ blk a8 := fun hb => gl (n8H g hb)
    have o9 := N8.obj.upd u9 (fun p hp hx => by cases hp; exact g8 hx)
    have g9 : Off [g] a9 := fun p hp hb => gl (by rw [← List.mem_singleton.1 hb]; exact n9H p hp)
    (repeat first | refine HReg.step ?_ | refine HCode.step ?_)
    refine store_row o9 rfl (i := 3) (by decide) (by rfl) fun H10 o10 u10 => ?_
    have b68 : b6 ∉ blk a8 := fun hb => by
      obtain ⟨p, hp, he⟩ := blk_of hb
      have h1 := f8' p hp
      rw [he] at h1
      exact o7.there rfl h1
    have b08 : b0 ∉ blk a8 := fun hb => by
      obtain ⟨p, hp, he⟩ := blk_of hb
      have h1 := f8' p hp
      rw [he] at h1
      exact o07.there rfl h1
    have b6_9 := ((o7.upd u8e (Off.nil _)).upd u9 (fun p hp hx => by cases hp; exact b68 hx)).upd u10 (fun p hp hx => by cases hp; exact g6 (List.mem_singleton.1 hx))
    have b0_9 := ((o07.upd u8e (Off.nil _)).upd u9 (fun p hp hx => by cases hp; exact b08 hx)).upd u10 (fun p hp hx => by cases hp; exact g0 (List.mem_singleton.1 hx))
    have r10 := r9'.upd u10 g9
    (repeat first | refine HReg.step ?_ | refine HCode.step ?_)
    refine HLoadN.mk ⟨fcells f, fun Hx hx j v hv => ?_, rfl, ?_⟩
    · rw [List.mem_singleton.1 hx]
      exact b6_9.rows.get hv
    (repeat first | refine HReg.step ?_ | refine HCode.step ?_)
    refine storeN_own (i := 0) (fcells f) b0_9 rfl (plain_fcells hsl) fun H11 o11 u11 => ?_
    (repeat first | refine HReg.step ?_ | refine HCode.step ?_)
    refine HLoadN.mk ⟨fcells f, fun Hx hx j v hv => ?_, rfl, ?_⟩
    · rw [List.mem_singleton.1 hx]
      exact o11.rows.get hv
    have hup : Upd (nblk g (some ⟨ga, 0, none⟩)) H H11 := by
      refine upd_join (upd_join (upd_join (((u07.trans u8e)).mono (by simp)) u9 fun b hb => .inr (n8H b hb)) u10 fun b hb => .inl (by rw [List.mem_singleton.1 hb]; exact mem_nblk_g _ _)) u11 fun b hb => .inr (by rw [List.mem_singleton.1 hb]; exact hb0)
    have b09 : Off [b0] a9 := fun p hp hb => by
      have h0 : (H.upd b0 (.cells zfr.toArray 67)) b0 ≠ none := o0.there rfl
      rcases f9 p hp with h | h
      · exact b08 (by rw [← List.mem_singleton.1 hb, h]; simp [blk])
      · rw [List.mem_singleton.1 hb] at h
        exact (o07.upd u8e (Off.nil _)).there rfl h
    have hst : NetAt 66 67 H1 H11 g P C L a9 (n - 1) c9 (fs.eraseIdx i) := by
      refine ⟨?_, r10.upd u11 b09, N.newg, fun p hp => Upd.none (S := []) N.base (by simp) (n9H p hp), fun p hp e => gl (by rw [← e]; exact n9H p hp), Upd.drop N.base hup N.old⟩
      have : OwnRow H11 66 1 (some ⟨g, 0, none⟩) 4 4 [.int .i64 P, .int .i64 C, .int .i64 L, .slice a9 (0 + i + (n - (i + 1))) c9] := o10.upd u11 (fun p hp hx => by cases hp; exact g0 (List.mem_singleton.1 hx).symm)
      rw [en] at this
      exact this
    exact hok i f a9 c9 H11 rfl hf hst hup n9H
/-- Lose. -/
theorem rlose_t {k : Int} (N : NetAt 66 67 H1 H g P C L a n cap fs) (hfs : ∀ f ∈ fs, isSl f.v) (hn : n ≤ 2932031007402)
    (hok : ∀ (i : Nat) f a' cap' H', k = (i : Int) → fs[i]? = some f → NetAt 66 67 H1 H' g P C L a' (n - 1) cap' (fs.eraseIdx i) → Upd (nblk g a) H H' → (∀ p, a' = some p → H p.block = none) → K (.int .i64 0) H')
    (hno : ¬ (0 ≤ k ∧ k < n) → ∀ H', Upd [] H H' → K (.int .i64 210) H') : HCalls Try.prog 32 [.pointer (some ⟨g, 0, none⟩), .int .i64 k] H K := by
  refine hcalls (fn := Try.f32) [] mixed Try.func32 rfl rfl (by decide +kernel) ?_
  (repeat first | refine HReg.step ?_ | refine HCode.step ?_)
  refine HCall.mk ⟨Try.f30, Try.func30, by rfl, by rfl⟩ ?_
  refine rdeliver_t N hfs hn (fun i f a2 c2 H2 hk hf N2 u2 f2 => ?_) (fun hk H2 u2 => ?_)
  · have hsl := hfs f (List.mem_of_getElem? hf)
    (repeat first | refine HReg.step ?_ | refine HCode.step ?_)
    refine HNew.mk fun b5 hb5 => ?_
    have u5 : Upd [] H2 (H2.upd b5 (.cells zfr.toArray 67)) := Upd.new hb5 _
    have o5 : OwnRow (H2.upd b5 (.cells zfr.toArray 67)) 67 1 (some ⟨b5, 0, none⟩) 4 4 zfr := OwnRow.lit (upd_same _ _ _) rfl
    (repeat first | refine HReg.step ?_ | refine HCode.step ?_)
    refine storeN_own (i := 0) (fcells f) o5 rfl (plain_fcells hsl) fun H6 o6 u6 => ?_
    (repeat first | refine HReg.step ?_ | refine HCode.step ?_)
    have u26 : Upd [] H2 H6 := Upd.drop u5 u6 fun x hx => by rw [List.mem_singleton.1 hx]; exact hb5
    exact hok i f a2 c2 H6 hk hf (N2.upd0 u26) (u2.trans (u26.mono (by simp))) f2
  · (repeat first | refine HReg.step ?_ | refine HCode.step ?_)
    refine HNew.mk fun b5 hb5 => ?_
    have u5 : Upd [] H2 (H2.upd b5 (.cells zfr.toArray 67)) := Upd.new hb5 _
    have o5 : OwnRow (H2.upd b5 (.cells zfr.toArray 67)) 67 1 (some ⟨b5, 0, none⟩) 4 4 zfr := OwnRow.lit (upd_same _ _ _) rfl
    (repeat first | refine HReg.step ?_ | refine HCode.step ?_)
    refine storeN_own (i := 0) zfr o5 rfl plain_zfr fun H6 o6 u6 => ?_
    (repeat first | refine HReg.step ?_ | refine HCode.step ?_)
    exact hno hk H6 (u2.trans (Upd.drop u5 u6 fun x hx => by rw [List.mem_singleton.1 hx]; exact hb5))
/-- Twin. -/
theorem rtwin_t {k : Int} {ls : List (List UInt8)} (N : NetAt 66 67 H1 H g P C L a n cap fs) (S : All2 (Sle 5 H) (fs.map Fr.v) ls) (hlim : ∀ l ∈ ls, List.length l ≤ 140737488355328) (hL : 0 ≤ L ∧ L < 9223372036854775807) (hn : n + 1 ≤ 2932031007402)
    (hok : ∀ (i : Nat) f l H', k = (i : Int) → fs[i]? = some f → ls[i]? = some l → Laid 66 67 H1 H g P C L a n fs f.frm f.to l H' → K (.tuple #[.int .i64 (L + 1), .int .i64 0]) H')
    (hno : ¬ (0 ≤ k ∧ k < n) → K (.tuple #[.int .i64 0, .int .i64 210]) H) : HCalls Try.prog 33 [.pointer (some ⟨g, 0, none⟩), .int .i64 k] H K := by
  have hll := S.length
  have hlen := N.len
  rw [List.length_map] at hll
  have hfs : ∀ f ∈ fs, isSl f.v := fun f hf => by
    obtain ⟨i, hi⟩ := List.getElem?_of_mem hf
    have h1 := (List.getElem?_eq_some_iff.1 hi).1
    obtain ⟨x, hx, b, c, he, _⟩ := S.get (i := i) (y := ls[i]'(by omega)) (by simp)
    rw [List.getElem?_map, hi] at hx
    cases hx
    exact ⟨_, _, _, he⟩
  refine hcalls (fn := Try.f33) [] mixed Try.func33 rfl rfl (by decide +kernel) ?_
  (repeat first | refine HReg.step ?_ | refine HCode.step ?_)
  refine hif (fun e1 => ?_) (fun e1 => ?_)
  · have e1 := ltB_true.1 e1
    (repeat first | refine HReg.step ?_ | refine HCode.step ?_)
    exact hno (by omega)
  · have e1 := ltB_false.1 e1
    (repeat first | refine HReg.step ?_ | refine HCode.step ?_)
    refine HLoad.one (v := .slice a n cap) (by exact N.obj.rows.get (i := 3) rfl) ?_
    (repeat first | refine HReg.step ?_ | refine HCode.step ?_)
    refine hif (fun e2 => ?_) (fun e2 => ?_)
    · have e2 := not_ltB_true.1 e2
      (repeat first | refine HReg.step ?_ | refine HCode.step ?_)
      exact hno (by omega)
    have e2 := not_ltB_false.1 e2
    have h0 : 0 ≤ k := e1
    have h1 : k < n := e2
    obtain ⟨i, rfl⟩ : ∃ i : Nat, k = (i : Int) := ⟨k.toNat, by omega⟩
    obtain ⟨f, hf⟩ : ∃ f, fs[i]? = some f := ⟨fs[i]'(by omega), by simp⟩
    obtain ⟨l, hl⟩ : ∃ l, ls[i]? = some l := ⟨ls[i]'(by omega), by simp⟩
    obtain ⟨x, hx, bb, cc, he, ob⟩ := S.get hl
    rw [List.getElem?_map, hf] at hx
    have hx : f.v = x := by simpa using hx
    rw [← hx] at he
    obtain ⟨ga, rfl⟩ := N.row.addr (by omega)
    have hsl := hfs f (List.mem_of_getElem? hf)
    (repeat first | refine HReg.step ?_ | refine HCode.step ?_)
    refine HLoad.one (v := .slice (some ⟨ga, 0, none⟩) n cap) (by exact N.obj.rows.get (i := 3) rfl) ?_
    (repeat first | refine HReg.step ?_ | refine HCode.step ?_)
    refine HReq.mk ⟨by omega, by omega⟩ ?_
    (repeat first | refine HReg.step ?_ | refine HCode.step ?_)
    refine HLoadN.mk ⟨fcells f, fun Hx hx j v hv => ?_, rfl, ?_⟩
    · rw [List.mem_singleton.1 hx]
      have := N.row.rows.get (frow_get hf hv)
      rw [← Nat.add_assoc] at this
      exact this
    (repeat first | refine HReg.step ?_ | refine HCode.step ?_)
    refine HNew.mk fun b6 hb6 => ?_
    have u6 : Upd [] H (H.upd b6 (.cells zfr.toArray 67)) := Upd.new hb6 _
    have o6 : OwnRow (H.upd b6 (.cells zfr.toArray 67)) 67 1 (some ⟨b6, 0, none⟩) 4 4 zfr := OwnRow.lit (upd_same _ _ _) rfl
    (repeat first | refine HReg.step ?_ | refine HCode.step ?_)
    refine storeN_own (i := 0) (fcells f) o6 rfl (plain_fcells hsl) fun H7 o7 u7 => ?_
    have u07 : Upd [] H H7 := Upd.drop u6 u7 fun x hx => by rw [List.mem_singleton.1 hx]; exact hb6
    have o7' : OwnRow H7 67 1 (some ⟨b6, 0, none⟩) 4 4 (fcells f) := o7
    have ob7 := ob.upd u07 (Off.nil _)
    (repeat first | refine HReg.step ?_ | refine HCode.step ?_)
    refine HLoad.one (v := .int .i64 f.frm) (by exact o7'.rows.get (i := 1) rfl) ?_
    (repeat first | refine HReg.step ?_ | refine HCode.step ?_)
    refine HLoad.one (v := .int .i64 f.to) (by exact o7'.rows.get (i := 2) rfl) ?_
    (repeat first | refine HReg.step ?_ | refine HCode.step ?_)
    refine HLoad.one (v := .slice bb l.length cc) (by rw [← he]; exact o7'.rows.get (i := 3) rfl) ?_
    (repeat first | refine HReg.step ?_ | refine HCode.step ?_)
    refine HCall.mk ⟨Try.f35, Try.func35, by rfl, by rfl⟩ ?_
    have hoff : Off [g] bb := (N.upd0 u07).obj.offT ob7 (by decide)
    refine rput_t (N.upd0 u07) hL hn hfs ob7.rows (.inr hoff) rfl (hlim l (List.mem_of_getElem? hl)) fun H8 l8 => ?_
    (repeat first | refine HReg.step ?_ | refine HCode.step ?_)
    obtain ⟨v, a', cap', N8, s8, w8, u8, f8⟩ := l8
    refine hok i f l H8 rfl hf hl (Laid.mk ⟨v, a', cap', N8, s8, fun b hb => Upd.none (S := []) u07 (by simp) (w8 b hb), (u07.mono (by simp)).trans u8, fun p hp => ?_⟩)
    rcases f8 p hp with h | h
    · exact .inl h
    · exact .inr (Upd.none (S := []) u07 (by simp) h)
structure RlInv (fs : List Fr) (ls : List (List UInt8)) (n : Nat) (H0 : Heap) (m : Nat) (vs : List Value) (H' : Heap) : Prop where
  ex : ∃ (i : Nat) (x : Option Addr) (cx : Nat) (out : List Fr), vs = [.slice x i cx, .int .i64 (i : Int)] ∧ m + i = n ∧ OwnRow H' 67 4 x i cx (frow out) ∧ All2 FrSame out (fs.take i) ∧ GrpM 5 H0 H' (out.map Fr.v) (ls.take i) ∧ (∀ p, x = some p → H0 p.block = none)
theorem rflight_t {ls : List (List UInt8)} (N : NetAt 66 67 H1 H g P C L a n cap fs) (S : All2 (Sle 5 H) (fs.map Fr.v) ls) (hlim : ∀ l ∈ ls, List.length l ≤ 140737488355328) (hn : n ≤ 2932031007402)
    (hk : ∀ x cx out H', OwnRow H' 67 4 x n cx (frow out) → All2 FrSame out fs → GrpM 5 H H' (out.map Fr.v) ls → (∀ p, x = some p → H p.block = none) → K (.slice x n cx) H') : HCalls Try.prog 22 [.pointer (some ⟨g, 0, none⟩)] H K := by
  have hll := S.length
  have hlen := N.len
  have hfs := isSl_of S
  rw [List.length_map] at hll
  refine hcalls (fn := Try.f22) [] mixed Try.func22 rfl rfl (by decide +kernel) ?_
  (repeat first | refine HReg.step ?_ | refine HCode.step ?_)
  refine hloopC [3, 4, 5, 6, 7, 8, 9, 10, 11, 12, 13, 14, 15, 16, 17, 18, 19, 20, 21, 22, 23, 24, 25, 26, 27, 28, 29, 30, 31] [3, 4] (RlInv fs ls n H) rfl (by repeat' first | exact Resp.retD | exact Resp1.valuesK | refine Resp.blockD ?_ | refine Resp.thenD ?_ ?_ | refine Resp.hcode ?_) ?_ ?_
  · exact ⟨n, RlInv.mk ⟨0, none, 0, [], rfl, rfl, OwnRow.nil _ _ _, by simp [All2], GrpM.nil _ _, fun p hp => by cases hp⟩⟩
  rintro m vs f H2 ⟨i, x, cx, out, rfl, hmi, ro, so, G, fx⟩
  have Nh := N.upd0 G.upd
  (repeat first | refine HReg.step ?_ | refine HCode.step ?_)
  refine HLoad.one (v := .slice a n cap) (by exact Nh.obj.rows.get (i := 3) rfl) ?_
  (repeat first | refine HReg.step ?_ | refine HCode.step ?_)
  refine hif (fun h => ?_) (fun h => ?_)
  · have h := ltB_true.1 h
    obtain ⟨f, hf⟩ : ∃ f, fs[i]? = some f := ⟨fs[i]'(by omega), by simp⟩
    obtain ⟨l, hl⟩ : ∃ l, ls[i]? = some l := ⟨ls[i]'(by omega), by simp⟩
    obtain ⟨y, hy, bb, cc, he, ob⟩ := S.get hl
    rw [List.getElem?_map, hf] at hy
    have hy : f.v = y := by simpa using hy
    rw [← hy] at he
    obtain ⟨ga, rfl⟩ := N.row.addr (by omega)
    have hsl := hfs f (List.mem_of_getElem? hf)
    have N2 := N.upd0 G.upd
    (repeat first | refine HReg.step ?_ | refine HCode.step ?_)
    refine HLoad.one (v := .slice (some ⟨ga, 0, none⟩) n cap) (by exact N2.obj.rows.get (i := 3) rfl) ?_
    (repeat first | refine HReg.step ?_ | refine HCode.step ?_)
    refine HReq.mk ⟨by omega, by omega⟩ ?_
    (repeat first | refine HReg.step ?_ | refine HCode.step ?_)
    refine HLoadN.mk ⟨fcells f, fun Hx hx j v hv => ?_, rfl, ?_⟩
    · rw [List.mem_singleton.1 hx]
      have := N2.row.rows.get (frow_get hf hv)
      rw [← Nat.add_assoc] at this
      exact this
    (repeat first | refine HReg.step ?_ | refine HCode.step ?_)
    refine HNew.mk fun b6 hb6 => ?_
    have u6 : Upd [] H2 (H2.upd b6 (.cells zfr.toArray 67)) := Upd.new hb6 _
    have o6 : OwnRow (H2.upd b6 (.cells zfr.toArray 67)) 67 1 (some ⟨b6, 0, none⟩) 4 4 zfr := OwnRow.lit (upd_same _ _ _) rfl
    (repeat first | refine HReg.step ?_ | refine HCode.step ?_)
    refine storeN_own (i := 0) (fcells f) o6 rfl (plain_fcells hsl) fun H7 o7 u7 => ?_
    have u27 : Upd [] H2 H7 := Upd.drop u6 u7 fun z hz => by rw [List.mem_singleton.1 hz]; exact hb6
    have o7' : OwnRow H7 67 1 (some ⟨b6, 0, none⟩) 4 4 (fcells f) := o7
    (repeat first | refine HReg.step ?_ | refine HCode.step ?_)
    refine HLoad.one (v := .slice bb l.length cc) (by rw [← he]; exact o7'.rows.get (i := 3) rfl) ?_
    (repeat first | refine HReg.step ?_ | refine HCode.step ?_)
    refine append_nil (ob.rows.upd (G.upd.trans u27) (.inr (Off.nil _))) rfl (hlim l (List.mem_of_getElem? hl)) fun b8 c8 H8 m8 => ?_
    (repeat first | refine HReg.step ?_ | refine HCode.step ?_)
    have o8 := o7'.upd m8.upd (Off.nil _)
    refine store_row o8 rfl (i := 3) (by decide) (by rfl) fun H9 o9 u9 => ?_
    have n6 : H b6 = none := Upd.none (S := []) G.upd (by simp) hb6
    have u29 : Upd [] H2 H9 := Upd.drop (u27.trans m8.upd) u9 fun z hz => by rw [List.mem_singleton.1 hz]; exact hb6
    have s9 : Sle 5 H9 (.slice b8 l.length c8) l := (m8.sle rfl).upd u9 fun z hz hz' => by
      obtain ⟨c, f, hc⟩ := (m8.sle rfl).live hz
      rw [List.mem_singleton.1 hz'] at hc
      exact o8.notE (by decide) b6 (by simp) c f hc
    (repeat first | refine HReg.step ?_ | refine HCode.step ?_)
    refine HLoadN.mk ⟨fcells ⟨f.num, f.frm, f.to, .slice b8 l.length c8⟩, fun Hx hx j v hv => ?_, rfl, ?_⟩
    · rw [List.mem_singleton.1 hx]
      exact o9.rows.get hv
    (repeat first | refine HReg.step ?_ | refine HCode.step ?_)
    refine HReq.mk (by decide) ?_
    (repeat first | refine HReg.step ?_ | refine HCode.step ?_)
    refine HNew.mk fun b10 hb10 => ?_
    have u10 : Upd [] H9 (H9.upd b10 (.cells (fcells ⟨f.num, f.frm, f.to, .slice b8 l.length c8⟩).toArray 67)) := Upd.new hb10 _
    (repeat first | refine HReg.step ?_ | refine HCode.step ?_)
    refine append_rows (ie := Try.t67) (z := .agg #[.int .i64 0, .int .i64 0, .int .i64 0, .slice none 0 0]) (xs := frow out) (ys := fcells ⟨f.num, f.frm, f.to, .slice b8 l.length c8⟩) Try.underlying55 rfl rfl rfl (by decide) (ro.upd (u29.trans u10) (Off.nil _)) (RowAt.of_cells (upd_same _ _ _)) rfl ?_ ?_ (by omega) fun a11 c11 H11 r11 u11 f11 => ?_
    · exact plain_fcells (f := ⟨f.num, f.frm, f.to, .slice b8 l.length c8⟩) ⟨b8, l.length, c8, rfl⟩
    · show (i + 1) * 48 ≤ _; omega
    (repeat first | refine HReg.step ?_ | refine HCode.step ?_)
    have hw : wr .i64 ((i : Int) + 1) = ((i + 1 : Nat) : Int) := by rw [wr_i64 (by omega) (by omega)]; omega
    rw [hw]
    refine Exists.intro (m - 1) ?_
    refine And.intro (by omega) ?_
    have rox := (ro.upd (u29.trans u10) (Off.nil _))
    have u2x : Upd [] H2 H9 := u29
    have u0x : Upd [] H (H9.upd b10 (.cells (fcells ⟨f.num, f.frm, f.to, .slice b8 l.length c8⟩).toArray 67)) := G.upd.trans (u29.trans u10)
    have hfx : ∀ b ∈ blk x, H b = none := fun b hb => by
      obtain ⟨p, hp, rfl⟩ := blk_of hb
      exact fx p hp
    have G11 : GrpM 5 H H11 ((out ++ [(⟨f.num, f.frm, f.to, .slice b8 l.length c8⟩ : Fr)]).map Fr.v) (ls.take (i + 1)) := by
      have g9 : GrpM 5 H H9 (out.map Fr.v ++ [.slice b8 l.length c8]) (ls.take i ++ [l]) := by
        refine G.join u29 (Grp.one s9) fun w hw b hb => ?_
        rw [List.mem_singleton.1 hw] at hb
        exact Upd.none (S := []) u27 (by simp) (m8.vnew b hb)
      have g11 := (g9.step0 u10).step u11 (rox.notT (by decide)) hfx
      rw [List.map_append, List.take_add_one, hl]
      exact g11
    refine RlInv.mk ⟨i + 1, a11, c11, out ++ [⟨f.num, f.frm, f.to, .slice b8 l.length c8⟩], rfl, by omega, ?_, ?_, G11, fun p hp => ?_⟩
    · rw [frow_append]; exact r11
    · rw [List.take_add_one, hf]
      exact so.append ⟨⟨rfl, rfl, rfl⟩, trivial⟩
    · rcases f11 p hp with h | h
      · exact fx p h
      · exact Upd.none (S := []) u0x (by simp) h
  · have h := ltB_false.1 h
    (repeat first | refine HReg.step ?_ | refine HCode.step ?_)
    have hi : i = n := by omega
    subst hi
    rw [List.take_of_length_le (by omega)] at so G
    exact hk x cx out H2 ro so G fx
end
end Go.Proofs.Ytefmplilhbbiaaa
