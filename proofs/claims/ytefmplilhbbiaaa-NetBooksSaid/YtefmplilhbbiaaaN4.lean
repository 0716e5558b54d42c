import Derived.Test.YtefmplilhbbiaaaN3
namespace Go.Proofs.Ytefmplilhbbiaaa
open Go Hv
set_option linter.unusedVariables false
set_option maxRecDepth 10000
set_option maxHeartbeats 1000000
section
variable {H1 H : Heap} {g : Nat} {P C L : Int} {a : Option Addr} {n cap : Nat} {fs : List Fr} {K : Value → Heap → Prop} {T F : TypeId}
theorem sle_net {v : Value} {l : List UInt8} {H' : Heap} (s : Sle 5 H v l) (N : NetAt T F H1 H g P C L a n cap fs) (hT : T ≠ 5) (hF : F ≠ 5) (u : Upd (nblk g a) H H') : Sle 5 H' v l := by
  refine s.upd u fun b hb hS => ?_
  obtain ⟨c, f, hc⟩ := s.live hb
  exact N.notE hT hF b hS c f hc
theorem all_net {vs : List Value} {ls : List (List UInt8)} {H' : Heap} (s : All2 (Sle 5 H) vs ls) (N : NetAt T F H1 H g P C L a n cap fs) (hT : T ≠ 5) (hF : F ≠ 5) (u : Upd (nblk g a) H H') : All2 (Sle 5 H') vs ls :=
  s.mono fun v l h => sle_net h N hT hF u
theorem all_upd {vs : List Value} {ls : List (List UInt8)} {H' : Heap} (s : All2 (Sle 5 H) vs ls) (u : Upd [] H H') : All2 (Sle 5 H') vs ls :=
  s.mono fun v l h => h.upd u (by simp)
theorem isSl_of {vs : List Fr} {ls : List (List UInt8)} (S : All2 (Sle 5 H) (vs.map Fr.v) ls) : ∀ f ∈ vs, isSl f.v := fun f hf => by
  have hll := S.length
  rw [List.length_map] at hll
  obtain ⟨i, hi⟩ := List.getElem?_of_mem hf
  have h1 := (List.getElem?_eq_some_iff.1 hi).1
  obtain ⟨x, hx, b, c, he, _⟩ := S.get (i := i) (y := ls[i]'(by omega)) (by simp)
  rw [List.getElem?_map, hi] at hx
  cases hx
  exact ⟨_, _, _, he⟩
def FrSame (f g : Fr) : Prop := f.num = g.num ∧ f.frm = g.frm ∧ f.to = g.to
structure FlInv (fs : List Fr) (ls : List (List UInt8)) (n : Nat) (H0 : Heap) (m : Nat) (vs : List Value) (H' : Heap) : Prop where
  ex : ∃ (i : Nat) (x : Option Addr) (cx : Nat) (out : List Fr), vs = [.slice x i cx, .int .i64 (i : Int)] ∧ m + i = n ∧ OwnRow H' 33 4 x i cx (frow out) ∧ All2 FrSame out (fs.take i) ∧ GrpM 5 H0 H' (out.map Fr.v) (ls.take i) ∧ (∀ p, x = some p → H0 p.block = none)
theorem flight_t {ls : List (List UInt8)} (N : NetAt 61 33 H1 H g P C L a n cap fs) (S : All2 (Sle 5 H) (fs.map Fr.v) ls) (hlim : ∀ l ∈ ls, List.length l ≤ 140737488355328) (hn : n ≤ 2932031007402)
    (hk : ∀ x cx out H', OwnRow H' 33 4 x n cx (frow out) → All2 FrSame out fs → GrpM 5 H H' (out.map Fr.v) ls → (∀ p, x = some p → H p.block = none) → K (.slice x n cx) H') : HCalls Try.prog 15 [.pointer (some ⟨g, 0, none⟩)] H K := by
  have hll := S.length
  have hlen := N.len
  have hfs := isSl_of S
  rw [List.length_map] at hll
  refine hcalls (fn := Try.f15) [] mixed Try.func15 rfl rfl (by decide +kernel) ?_
  (repeat first | refine HReg.step ?_ | refine HCode.step ?_)
  refine HLoad.one (v := .slice a n cap) (by exact N.obj.rows.get (i := 3) rfl) ?_
  (repeat first | refine HReg.step ?_ | refine HCode.step ?_)
  refine hloopC [3, 5, 11, 12, 13, 14, 15, 16, 17, 18, 19, 20, 21, 22, 23] [3, 11] (FlInv fs ls n H) rfl (by repeat' first | exact Resp.retD | exact Resp1.valuesK | refine Resp.blockD ?_ | refine Resp.thenD ?_ ?_ | refine Resp.hcode ?_) ?_ ?_
  · exact ⟨n, FlInv.mk ⟨0, none, 0, [], rfl, rfl, OwnRow.nil _ _ _, by simp [All2], GrpM.nil _ _, fun p hp => by cases hp⟩⟩
  rintro m vs f H2 ⟨i, x, cx, out, rfl, hmi, ro, so, G, fx⟩
  (repeat first | refine HReg.step ?_ | refine HCode.step ?_)
  refine hif (fun h => ?_) (fun h => ?_)
  · have h := ltB_true.1 h
    obtain ⟨f, hf⟩ : ∃ f, fs[i]? = some f := ⟨fs[i]'(by omega), by simp⟩
    obtain ⟨l, hl⟩ : ∃ l, ls[i]? = some l := ⟨ls[i]'(by omega), by simp⟩
    obtain ⟨y, hy, bb, cc, he, ob⟩ := S.get hl
    rw [List.getElem?_map, hf] at hy
    have hy : f.v = y := by simpa using hy
    rw [← hy] at he
    obtain ⟨ga, rfl⟩ := N.row.addr (by omega)
    have hsl := hfs f (List.mem_of_getElem? hf)
    have N2 := N.upd0 G.upd
    (repeat first | refine HReg.step ?_ | refine HCode.step ?_)
    refine HReq.mk ⟨by omega, by omega⟩ ?_
    (repeat first | refine HReg.step ?_ | refine HCode.step ?_)
    refine HLoadN.mk ⟨fcells f, fun Hx hx j v hv => ?_, rfl, ?_⟩
    · rw [List.mem_singleton.1 hx]
      have := N2.row.rows.get (frow_get hf hv)
      rw [← Nat.add_assoc] at this
      exact this
    (repeat first | refine HReg.step ?_ | refine HCode.step ?_)
    refine HNew.mk fun b6 hb6 => ?_
    have u6 : Upd [] H2 (H2.upd b6 (.cells zfr.toArray 33)) := Upd.new hb6 _
    have o6 : OwnRow (H2.upd b6 (.cells zfr.toArray 33)) 33 1 (some ⟨b6, 0, none⟩) 4 4 zfr := OwnRow.lit (upd_same _ _ _) rfl
    (repeat first | refine HReg.step ?_ | refine HCode.step ?_)
    refine storeN_own (i := 0) (fcells f) o6 rfl (plain_fcells hsl) fun H7 o7 u7 => ?_
    have u27 : Upd [] H2 H7 := Upd.drop u6 u7 fun z hz => by rw [List.mem_singleton.1 hz]; exact hb6
    have o7' : OwnRow H7 33 1 (some ⟨b6, 0, none⟩) 4 4 (fcells f) := o7
    (repeat first | refine HReg.step ?_ | refine HCode.step ?_)
    refine HLoad.one (v := .slice bb l.length cc) (by rw [← he]; exact o7'.rows.get (i := 3) rfl) ?_
    (repeat first | refine HReg.step ?_ | refine HCode.step ?_)
    refine HCall.mk ⟨Try.f28, Try.func28, by rfl, by rfl⟩ ?_
    refine clone_t (ob.rows.upd (G.upd.trans u27) (.inr (Off.nil _))) rfl (hlim l (List.mem_of_getElem? hl)) fun b8 c8 H8 m8 => ?_
    (repeat first | refine HReg.step ?_ | refine HCode.step ?_)
    have o8 := o7'.upd m8.upd (Off.nil _)
    refine store_row o8 rfl (i := 3) (by decide) (by rfl) fun H9 o9 u9 => ?_
    have n6 : H b6 = none := Upd.none (S := []) G.upd (by simp) hb6
    have u29 : Upd [] H2 H9 := Upd.drop (u27.trans m8.upd) u9 fun z hz => by rw [List.mem_singleton.1 hz]; exact hb6
    have s9 : Sle 5 H9 (.slice b8 l.length c8) l := (m8.sle rfl).upd u9 fun z hz hz' => by
      obtain ⟨c, f, hc⟩ := (m8.sle rfl).live hz
      rw [List.mem_singleton.1 hz'] at hc
      exact o8.notE (by decide) b6 (by simp) c f hc
    (repeat first | refine HReg.step ?_ | refine HCode.step ?_)
    refine HLoadN.mk ⟨fcells ⟨f.num, f.frm, f.to, .slice b8 l.length c8⟩, fun Hx hx j v hv => ?_, rfl, ?_⟩
    · rw [List.mem_singleton.1 hx]
      exact o9.rows.get hv
    (repeat first | refine HReg.step ?_ | refine HCode.step ?_)
    refine HReq.mk (by decide) ?_
    (repeat first | refine HReg.step ?_ | refine HCode.step ?_)
    refine HNew.mk fun b10 hb10 => ?_
    have u10 : Upd [] H9 (H9.upd b10 (.cells (fcells ⟨f.num, f.frm, f.to, .slice b8 l.length c8⟩).toArray 33)) := Upd.new hb10 _
    (repeat first | refine HReg.step ?_ | refine HCode.step ?_)
    refine append_rows (ie := Try.t33) (z := .agg #[.int .i64 0, .int .i64 0, .int .i64 0, .slice none 0 0]) (xs := frow out) (ys := fcells ⟨f.num, f.frm, f.to, .slice b8 l.length c8⟩) Try.underlying39 rfl rfl rfl (by decide) (ro.upd (u29.trans u10) (Off.nil _)) (RowAt.of_cells (upd_same _ _ _)) rfl ?_ ?_ (by omega) fun a11 c11 H11 r11 u11 f11 => ?_
    · exact plain_fcells (f := ⟨f.num, f.frm, f.to, .slice b8 l.length c8⟩) ⟨b8, l.length, c8, rfl⟩
    · show (i + 1) * 48 ≤ _; omega
    (repeat first | refine HReg.step ?_ | refine HCode.step ?_)
    have hw : wr .i64 ((i : Int) + 1) = ((i + 1 : Nat) : Int) := by rw [wr_i64 (by omega) (by omega)]; omega
    rw [hw]
    refine Exists.intro (m - 1) ?_
    refine And.intro (by omega) ?_
    have rox := (ro.upd (u29.trans u10) (Off.nil _))
    have u2x : Upd [] H2 H9 := u29
    have u0x : Upd [] H (H9.upd b10 (.cells (fcells ⟨f.num, f.frm, f.to, .slice b8 l.length c8⟩).toArray 33)) := G.upd.trans (u29.trans u10)
    have hfx : ∀ b ∈ blk x, H b = none := fun b hb => by
      obtain ⟨p, hp, rfl⟩ := blk_of hb
      exact fx p hp
    have G11 : GrpM 5 H H11 ((out ++ [(⟨f.num, f.frm, f.to, .slice b8 l.length c8⟩ : Fr)]).map Fr.v) (ls.take (i + 1)) := by
      have g9 : GrpM 5 H H9 (out.map Fr.v ++ [.slice b8 l.length c8]) (ls.take i ++ [l]) := by
        refine G.join u29 (Grp.one s9) fun w hw b hb => ?_
        rw [List.mem_singleton.1 hw] at hb
        exact Upd.none (S := []) u27 (by simp) (m8.vnew b hb)
      have g11 := (g9.step0 u10).step u11 (rox.notT (by decide)) hfx
      rw [List.map_append, List.take_add_one, hl]
      exact g11
    refine FlInv.mk ⟨i + 1, a11, c11, out ++ [⟨f.num, f.frm, f.to, .slice b8 l.length c8⟩], rfl, by omega, ?_, ?_, G11, fun p hp => ?_⟩
    · rw [frow_append]; exact r11
    · rw [List.take_add_one, hf]
      exact so.append ⟨⟨rfl, rfl, rfl⟩, trivial⟩
    · rcases f11 p hp with h | h
      · exact fx p h
      · exact Upd.none (S := []) u0x (by simp) h
  · have h := ltB_false.1 h
    (repeat first | refine HReg.step ?_ | refine HCode.step ?_)
    have hi : i = n := by omega
    subst hi
    rw [List.take_of_length_le (by omega)] at so G
    exact hk x cx out H2 ro so G fx
end
end Go.Proofs.Ytefmplilhbbiaaa
