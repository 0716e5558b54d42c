import Derived.Test.YtfcmjomnpahllaaDk6
namespace Go.Proofs.Ytfcmjomnpahllaa
open Go Hv
set_option linter.unusedVariables false
set_option linter.unusedSimpArgs false
set_option maxRecDepth 10000
set_option maxHeartbeats 4000000
def St.append (s : St) (n : ByteArray) (b : List UInt8) : Int × St :=
  let t := s.call
  if t.d.off then (62, t)
  else if ¬ (1 ≤ n.size ∧ n.size ≤ 32) then (1, t)
  else if t.fs n = none ∧ 16 ≤ t.cnt then (3, t)
  else if 0 < b.length ∧ 0 < t.d.refuses then (60, { t with d := { t.d with refuses := t.d.refuses - 1 } })
  else (0, t.put n (((t.fs n).getD ([], 0)).1 ++ b, ((t.fs n).getD ([], 0)).2))
theorem St.append_fresh {s : St} {n : ByteArray} {ys : List UInt8} (hoff : s.call.d.off = false) (h1 : ¬ ¬ (1 ≤ n.size ∧ n.size ≤ 32)) (h2 : ¬ (s.call.fs n = none ∧ 16 ≤ s.call.cnt)) (h34 : ¬ (0 < ys.length ∧ 0 < s.call.d.refuses)) (hnn : s.call.fs n = none) : s.append n ys = (0, s.call.put n (ys, 0)) := by
  unfold St.append
  dsimp only
  rw [hoff, if_neg (by simp), if_neg h1, if_neg h2, if_neg h34, hnn]; rfl
theorem St.append_grown {s : St} {n : ByteArray} {ys x : List UInt8} {y : Nat} (hoff : s.call.d.off = false) (h1 : ¬ ¬ (1 ≤ n.size ∧ n.size ≤ 32)) (h2 : ¬ (s.call.fs n = none ∧ 16 ≤ s.call.cnt)) (h34 : ¬ (0 < ys.length ∧ 0 < s.call.d.refuses)) (hget : s.call.fs n = some (x, y)) : s.append n ys = (0, s.call.put n (x ++ ys, y)) := by
  unfold St.append
  dsimp only
  rw [hoff, if_neg (by simp), if_neg h1, if_neg h2, if_neg h34, hget]; rfl
section
variable {H1 H : Heap} {g r : Nat} {s : St} {fl : List Fl} {K : Value → Heap → Prop}
theorem off_row {H H' : Heap} {S : List Nat} {b : Option Addr} {xs : List Value} (h : RowAt H b xs) (u : Upd S H H') (ho : Off S b) : RowAt H' b xs := h.upd u (.inr ho)
theorem off_mono {S T : List Nat} {b : Option Addr} (ho : Off T b) (h : ∀ k ∈ S, k ∈ T) : Off S b := fun p hp hb => ho p hp (h _ hb)
theorem DiskAt.addf {H' : Heap} {n : ByteArray} {f : Fl} (D : DiskAt H1 H g r s fl) (P : DiskP H1 H' g r s.d (fl ++ [f])) (hn : f.name = n) (hs : s.fs n = none) : DiskAt H1 H' g r (s.put n (f.bytes, f.synced)) (fl ++ [f]) := by
  have hne : ∀ x ∈ fl, x.name ≠ n := fun x hx he => by have := D.get x hx; rw [he, hs] at this; cases this
  refine ⟨P, fun x hx => ?_, fun k x hkx => ?_, ?_, D.arm, D.lo, D.hi, D.rhi⟩
  · show (if x.name = n then _ else _) = _
    rcases List.mem_append.1 hx with h | h
    · rw [if_neg (hne x h)]; exact D.get x h
    · rw [List.mem_singleton.1 h, if_pos hn]
  · have hkx : (if k = n then some (f.bytes, f.synced) else s.fs k) = some x := hkx
    split at hkx
    · rename_i hk; exact ⟨f, by simp, by rw [hn, hk]⟩
    · obtain ⟨y, hy, he⟩ := D.all k x hkx
      exact ⟨y, by simp [hy], he⟩
  · show (if (s.fs n).isSome = true then s.cnt else s.cnt + 1) = _
    rw [hs, if_neg (by simp), List.length_append, D.cnt]; rfl
theorem append_t {n : ByteArray} {b : Option Addr} {m c : Nat} {ys : List UInt8} (D : DiskAt H1 H g r s fl) (hy : RowAt H b (u8s ys)) (hm : ys.length = m) (ho : Off (dblk g r fl) b) (hlim : ∀ x y, s.call.fs n = some (x, y) → x.length + m ≤ 140737488355328) (hlim0 : m ≤ 140737488355328)
    (hk : ∀ fl' H', DiskAt H1 H' g r (s.append n ys).2 fl' → Stp H H' g r fl fl' → K (.int .i64 (s.append n ys).1) H') : HCalls Try.prog 11 [.pointer (some ⟨g, 0, none⟩), .string n, .slice b m c] H K := by
  refine hcalls (fn := Try.f11) [] mixed Try.func11 rfl rfl rfl ?_
  (repeat first | refine HReg.step ?_ | refine HCode.step ?_)
  refine HCall.mk ⟨Try.f35, Try.func35, by rfl, by rfl⟩ ?_
  refine find_t D (fun fl3 H3 hoff D3 st => ?_) (fun fl3 H3 hoff hnn D3 st hne => ?_) (fun fl3 H3 j f hoff D3 st hj hfn hget => ?_)
  · have e : s.append n ys = (62, s.call) := by unfold St.append; simp [hoff]
    rw [e] at hk
    (repeat first | refine HReg.step ?_ | refine HCode.step ?_)
    refine hif (fun _ => ?_) (fun h => absurd rfl (eqB_false.1 h))
    (repeat first | refine HReg.step ?_ | refine HCode.step ?_)
    exact hk fl3 H3 D3 st
  · have hy3 := off_row hy st.upd ho
    (repeat first | refine HReg.step ?_ | refine HCode.step ?_)
    refine hif (fun h => absurd (eqB_true.1 h) (by decide)) (fun _ => ?_)
    (repeat first | refine HReg.step ?_ | refine HCode.step ?_)
    refine HCall.mk ⟨Try.f36, Try.func36, by rfl, by rfl⟩ ?_
    refine named_t ?_
    (repeat first | refine HReg.step ?_ | refine HCode.step ?_)
    refine hif (fun h1 => ?_) (fun h1 => ?_)
    · have h1 : ¬ (1 ≤ n.size ∧ n.size ≤ 32) := not_dec_true h1
      have e : s.append n ys = (1, s.call) := by unfold St.append; simp only [hoff, Bool.false_eq_true, if_false, if_pos h1]
      rw [e] at hk
      (repeat first | refine HReg.step ?_ | refine HCode.step ?_)
      exact hk fl3 H3 D3 st
    have h1 : ¬ ¬ (1 ≤ n.size ∧ n.size ≤ 32) := fun h => h (not_dec_false h1)
    (repeat first | refine HReg.step ?_ | refine HCode.step ?_)
    refine hif (fun _ => ?_) (fun h => absurd rfl (eqB_false.1 h))
    (repeat first | refine HReg.step ?_ | refine HCode.step ?_)
    refine HLoad.one (v := .map (some r)) (by exact D3.phys.obj.rows.get (i := 0) rfl) ?_
    (repeat first | refine HReg.step ?_ | refine HCode.step ?_)
    obtain ⟨cc, hm3, hb3⟩ := D3.phys.map
    refine hmaplen Try.underlying68 hm3 ?_
    have hcl : ((fl3.map Fl.ent).length : Int) = (s.call.cnt : Int) := by rw [List.length_map, D3.cnt]
    rw [hcl]
    (repeat first | refine HReg.step ?_ | refine HCode.step ?_)
    refine hif (fun h2 => ?_) (fun h2 => ?_)
    · have h2 := not_ltB_true.1 h2
      have h2 : s.call.fs n = none ∧ 16 ≤ s.call.cnt := ⟨hnn, by omega⟩
      have e : s.append n ys = (3, s.call) := by unfold St.append; simp only [hoff, Bool.false_eq_true, if_false, if_neg h1, if_pos h2]
      rw [e] at hk
      (repeat first | refine HReg.step ?_ | refine HCode.step ?_)
      exact hk fl3 H3 D3 st
    have h2 := not_ltB_false.1 h2
    have h2 : ¬ (s.call.fs n = none ∧ 16 ≤ s.call.cnt) := fun h => by omega
    (repeat first | refine HReg.step ?_ | refine HCode.step ?_)
    refine hif (fun h3 => ?_) (fun h3 => ?_)
    · have h3 := ltB_true.1 h3
      (repeat first | refine HReg.step ?_ | refine HCode.step ?_)
      refine HLoad.one (v := .int .i64 s.call.d.refuses) (by exact D3.phys.obj.rows.get (i := 2) rfl) ?_
      (repeat first | refine HReg.step ?_ | refine HCode.step ?_)
      refine hif (fun h4 => ?_) (fun h4 => ?_)
      · skip
        have h4 := ltB_true.1 h4
        have h34 : 0 < ys.length ∧ 0 < s.call.d.refuses := ⟨by omega, h4⟩
        have e : s.append n ys = (60, { s.call with d := { s.call.d with refuses := s.call.d.refuses - 1 } }) := by unfold St.append; simp only [hoff, Bool.false_eq_true, if_false, if_neg h1, if_neg h2, if_pos h34]
        rw [e] at hk
        have hrr := D3.rhi
        have hw : wr .i64 (s.call.d.refuses - 1) = s.call.d.refuses - 1 := wr_i64 (by omega) (by omega)
        (repeat first | refine HReg.step ?_ | refine HCode.step ?_)
        refine HLoad.one (v := .int .i64 s.call.d.refuses) (by exact D3.phys.obj.rows.get (i := 2) rfl) ?_
        (repeat first | refine HReg.step ?_ | refine HCode.step ?_)
        rw [hw]
        refine store_row D3.phys.obj (v := .int .i64 (s.call.d.refuses - 1)) rfl (i := 2) (by decide) (by rfl) fun H4 o4 u4 => ?_
        have P4 : DiskP H1 H4 g r { s.call.d with refuses := s.call.d.refuses - 1 } fl3 := D3.phys.setd o4 u4
        (repeat first | refine HReg.step ?_ | refine HCode.step ?_)
        exact hk fl3 H4 ⟨P4, D3.get, D3.all, D3.cnt, D3.arm, D3.lo, D3.hi, by show s.call.d.refuses - 1 ≤ _; omega⟩ (st.trans (Stp.g u4))
      · have h4 := ltB_false.1 h4
        have h34 : ¬ (0 < ys.length ∧ 0 < s.call.d.refuses) := fun h => by omega
        have e : s.append n ys = (0, s.call.put n (ys, 0)) := St.append_fresh hoff h1 h2 h34 hnn
        rw [e] at hk
        (repeat first | refine HReg.step ?_ | refine HCode.step ?_)
        refine hif (fun _ => ?_) (fun h => absurd rfl (eqB_false.1 h))
        (repeat first | refine HReg.step ?_ | refine HCode.step ?_)
        refine HNew.mk fun q hq => ?_
        have u4 : Upd [] H3 (H3.upd q (.cells [Value.slice none 0 0, .int .i64 0].toArray 84)) := Upd.new hq _
        have o4 : OwnRow (H3.upd q (.cells [Value.slice none 0 0, .int .i64 0].toArray 84)) 84 1 (some ⟨q, 0, none⟩) 2 2 [.slice none 0 0, .int .i64 0] := OwnRow.lit (upd_same _ _ _) rfl
        have D4 := D3.upd0 u4
        (repeat first | refine HReg.step ?_ | refine HCode.step ?_)
        refine HLoad.one (v := .map (some r)) (by exact D4.phys.obj.rows.get (i := 0) rfl) ?_
        (repeat first | refine HReg.step ?_ | refine HCode.step ?_)
        have hm4 := mapAt_upd hm3 u4 (by simp)
        refine hmapUpdate Try.underlying68 Try.underlying9 hm4 (fun i x H5 hi hx _ _ => ?_) (fun H5 _ hm5 u5 => ?_)
        · rw [List.getElem?_map] at hi
          cases hf : fl3[i]? with
          | none => rw [hf] at hi; cases hi
          | some f => rw [hf] at hi; cases hi; exact absurd hx (hne f (List.mem_of_getElem? hf))
        obtain ⟨P5, st5⟩ := D3.phys.add hb3 hq o4 u4 hm5 u5 hne
        have hj : (fl3 ++ [(⟨n, q, .slice none 0 0, [], 0, cc⟩ : Fl)])[fl3.length]? = some ⟨n, q, .slice none 0 0, [], 0, cc⟩ := by simp
        have so5 := P5.str _ (List.mem_of_getElem? hj)
        have st35 := st.trans st5
        have hy5 := off_row hy st35.upd ho
        (repeat first | refine HReg.step ?_ | refine HCode.step ?_)
        refine HLoad.one (v := .slice none 0 0) (by exact so5.rows.get (i := 0) rfl) ?_
        (repeat first | refine HReg.step ?_ | refine HCode.step ?_)
        refine append_own (xs := []) (OwnRow.nil _ _ _) hy5 hm (by omega) fun a6 c6 H6 o6 u6 f6 => ?_
        rw [Nat.zero_add] at o6
        have u6 : Upd [] H5 H6 := u6
        have so6 := so5.upd u6 (Off.nil _)
        have ea : ∀ k, (Value.slice a6 (0 + m) k) = .slice a6 m k := fun k => by rw [Nat.zero_add]
        rw [ea]
        (repeat first | refine HReg.step ?_ | refine HCode.step ?_)
        refine store_row so6 (v := .slice a6 m c6) rfl (i := 0) (by decide) (by rfl) fun H7 o7 u7 => ?_
        obtain ⟨P7, st7⟩ := P5.stV (v' := .slice a6 m c6) (l' := ys) hj (u6.mono (by simp)) ⟨a6, c6, by rw [hm], by rw [hm]; exact o6⟩ (fun b hb => .inr (by
          rw [vblk_slice] at hb
          obtain ⟨p, hp, rfl⟩ := blk_of hb
          rcases f6 p hp with h | h
          · cases h
          · exact h)) o7 u7 (Nat.zero_le _) (by omega)
        rw [show (fl3 ++ [(⟨n, q, .slice none 0 0, [], 0, cc⟩ : Fl)]).set fl3.length ⟨n, q, .slice a6 m c6, ys, 0, cc⟩ = fl3 ++ [⟨n, q, .slice a6 m c6, ys, 0, cc⟩] from by simp] at P7 st7
        (repeat first | refine HReg.step ?_ | refine HCode.step ?_)
        exact hk _ H7 (D3.addf P7 rfl hnn) (st35.trans st7)
    · have h3 := ltB_false.1 h3
      have h34 : ¬ (0 < ys.length ∧ 0 < s.call.d.refuses) := fun h => by omega
      have e : s.append n ys = (0, s.call.put n (ys, 0)) := St.append_fresh hoff h1 h2 h34 hnn
      rw [e] at hk
      (repeat first | refine HReg.step ?_ | refine HCode.step ?_)
      refine hif (fun _ => ?_) (fun h => absurd rfl (eqB_false.1 h))
      (repeat first | refine HReg.step ?_ | refine HCode.step ?_)
      refine HNew.mk fun q hq => ?_
      have u4 : Upd [] H3 (H3.upd q (.cells [Value.slice none 0 0, .int .i64 0].toArray 84)) := Upd.new hq _
      have o4 : OwnRow (H3.upd q (.cells [Value.slice none 0 0, .int .i64 0].toArray 84)) 84 1 (some ⟨q, 0, none⟩) 2 2 [.slice none 0 0, .int .i64 0] := OwnRow.lit (upd_same _ _ _) rfl
      have D4 := D3.upd0 u4
      (repeat first | refine HReg.step ?_ | refine HCode.step ?_)
      refine HLoad.one (v := .map (some r)) (by exact D4.phys.obj.rows.get (i := 0) rfl) ?_
      (repeat first | refine HReg.step ?_ | refine HCode.step ?_)
      have hm4 := mapAt_upd hm3 u4 (by simp)
      refine hmapUpdate Try.underlying68 Try.underlying9 hm4 (fun i x H5 hi hx _ _ => ?_) (fun H5 _ hm5 u5 => ?_)
      · rw [List.getElem?_map] at hi
        cases hf : fl3[i]? with
        | none => rw [hf] at hi; cases hi
        | some f => rw [hf] at hi; cases hi; exact absurd hx (hne f (List.mem_of_getElem? hf))
      obtain ⟨P5, st5⟩ := D3.phys.add hb3 hq o4 u4 hm5 u5 hne
      have hj : (fl3 ++ [(⟨n, q, .slice none 0 0, [], 0, cc⟩ : Fl)])[fl3.length]? = some ⟨n, q, .slice none 0 0, [], 0, cc⟩ := by simp
      have so5 := P5.str _ (List.mem_of_getElem? hj)
      have st35 := st.trans st5
      have hy5 := off_row hy st35.upd ho
      (repeat first | refine HReg.step ?_ | refine HCode.step ?_)
      refine HLoad.one (v := .slice none 0 0) (by exact so5.rows.get (i := 0) rfl) ?_
      (repeat first | refine HReg.step ?_ | refine HCode.step ?_)
      refine append_own (xs := []) (OwnRow.nil _ _ _) hy5 hm (by omega) fun a6 c6 H6 o6 u6 f6 => ?_
      rw [Nat.zero_add] at o6
      have u6 : Upd [] H5 H6 := u6
      have so6 := so5.upd u6 (Off.nil _)
      have ea : ∀ k, (Value.slice a6 (0 + m) k) = .slice a6 m k := fun k => by rw [Nat.zero_add]
      rw [ea]
      (repeat first | refine HReg.step ?_ | refine HCode.step ?_)
      refine store_row so6 (v := .slice a6 m c6) rfl (i := 0) (by decide) (by rfl) fun H7 o7 u7 => ?_
      obtain ⟨P7, st7⟩ := P5.stV (v' := .slice a6 m c6) (l' := ys) hj (u6.mono (by simp)) ⟨a6, c6, by rw [hm], by rw [hm]; exact o6⟩ (fun b hb => .inr (by
        rw [vblk_slice] at hb
        obtain ⟨p, hp, rfl⟩ := blk_of hb
        rcases f6 p hp with h | h
        · cases h
        · exact h)) o7 u7 (Nat.zero_le _) (by omega)
      rw [show (fl3 ++ [(⟨n, q, .slice none 0 0, [], 0, cc⟩ : Fl)]).set fl3.length ⟨n, q, .slice a6 m c6, ys, 0, cc⟩ = fl3 ++ [⟨n, q, .slice a6 m c6, ys, 0, cc⟩] from by simp] at P7 st7
      (repeat first | refine HReg.step ?_ | refine HCode.step ?_)
      exact hk _ H7 (D3.addf P7 rfl hnn) (st35.trans st7)
  · have hf := List.mem_of_getElem? hj
    have hy3 := off_row hy st.upd ho
    have hl1 := hlim _ _ hget
    obtain ⟨va, vc, hfv, ov⟩ := (D3.phys.each f hf).sle
    have so : OwnRow H3 84 1 (some ⟨f.p, 0, none⟩) 2 2 [.slice va f.bytes.length vc, .int .i64 (f.synced : Int)] := by
      have := D3.phys.str f hf
      unfold scells at this
      rw [hfv] at this
      exact this
    (repeat first | refine HReg.step ?_ | refine HCode.step ?_)
    refine hif (fun h => absurd (eqB_true.1 h) (by decide)) (fun _ => ?_)
    (repeat first | refine HReg.step ?_ | refine HCode.step ?_)
    refine HCall.mk ⟨Try.f36, Try.func36, by rfl, by rfl⟩ ?_
    refine named_t ?_
    (repeat first | refine HReg.step ?_ | refine HCode.step ?_)
    refine hif (fun h1 => ?_) (fun h1 => ?_)
    · have h1 : ¬ (1 ≤ n.size ∧ n.size ≤ 32) := not_dec_true h1
      have e : s.append n ys = (1, s.call) := by unfold St.append; simp only [hoff, Bool.false_eq_true, if_false, if_pos h1]
      rw [e] at hk
      (repeat first | refine HReg.step ?_ | refine HCode.step ?_)
      exact hk fl3 H3 D3 st
    have h1 : ¬ ¬ (1 ≤ n.size ∧ n.size ≤ 32) := fun h => h (not_dec_false h1)
    have h2 : ¬ (s.call.fs n = none ∧ 16 ≤ s.call.cnt) := fun h => by rw [hget] at h; cases h.1
    (repeat first | refine HReg.step ?_ | refine HCode.step ?_)
    refine hif (fun h => absurd (eqB_true.1 h) (by decide)) (fun _ => ?_)
    (repeat first | refine HReg.step ?_ | refine HCode.step ?_)
    refine hif (fun h3 => ?_) (fun h3 => ?_)
    · have h3 := ltB_true.1 h3
      (repeat first | refine HReg.step ?_ | refine HCode.step ?_)
      refine HLoad.one (v := .int .i64 s.call.d.refuses) (by exact D3.phys.obj.rows.get (i := 2) rfl) ?_
      (repeat first | refine HReg.step ?_ | refine HCode.step ?_)
      refine hif (fun h4 => ?_) (fun h4 => ?_)
      · skip
        have h4 := ltB_true.1 h4
        have h34 : 0 < ys.length ∧ 0 < s.call.d.refuses := ⟨by omega, h4⟩
        have e : s.append n ys = (60, { s.call with d := { s.call.d with refuses := s.call.d.refuses - 1 } }) := by unfold St.append; simp only [hoff, Bool.false_eq_true, if_false, if_neg h1, if_neg h2, if_pos h34]
        rw [e] at hk
        have hrr := D3.rhi
        have hw : wr .i64 (s.call.d.refuses - 1) = s.call.d.refuses - 1 := wr_i64 (by omega) (by omega)
        (repeat first | refine HReg.step ?_ | refine HCode.step ?_)
        refine HLoad.one (v := .int .i64 s.call.d.refuses) (by exact D3.phys.obj.rows.get (i := 2) rfl) ?_
        (repeat first | refine HReg.step ?_ | refine HCode.step ?_)
        rw [hw]
        refine store_row D3.phys.obj (v := .int .i64 (s.call.d.refuses - 1)) rfl (i := 2) (by decide) (by rfl) fun H4 o4 u4 => ?_
        have P4 : DiskP H1 H4 g r { s.call.d with refuses := s.call.d.refuses - 1 } fl3 := D3.phys.setd o4 u4
        (repeat first | refine HReg.step ?_ | refine HCode.step ?_)
        exact hk fl3 H4 ⟨P4, D3.get, D3.all, D3.cnt, D3.arm, D3.lo, D3.hi, by show s.call.d.refuses - 1 ≤ _; omega⟩ (st.trans (Stp.g u4))
      · have h4 := ltB_false.1 h4
        have h34 : ¬ (0 < ys.length ∧ 0 < s.call.d.refuses) := fun h => by omega
        have e : s.append n ys = (0, s.call.put n (f.bytes ++ ys, f.synced)) := St.append_grown hoff h1 h2 h34 hget
        rw [e] at hk
        (repeat first | refine HReg.step ?_ | refine HCode.step ?_)
        refine hif (fun h => absurd (eqB_true.1 h) (by decide)) (fun _ => ?_)
        (repeat first | refine HReg.step ?_ | refine HCode.step ?_)
        refine HLoad.one (v := .slice va f.bytes.length vc) (by exact so.rows.get (i := 0) rfl) ?_
        (repeat first | refine HReg.step ?_ | refine HCode.step ?_)
        refine append_own ov hy3 hm (by omega) fun a6 c6 H6 o6 u6 f6 => ?_
        have so6 := so.upd u6 (fun p hp hb => by
          cases hp
          obtain ⟨_, _, h1⟩ := own_live so
          obtain ⟨_, _, h2⟩ := D3.phys.vlive hf (b := f.p) (by rw [hfv, vblk_slice]; exact hb)
          rw [h1] at h2; cases h2)
        (repeat first | refine HReg.step ?_ | refine HCode.step ?_)
        refine store_row so6 (v := .slice a6 (f.bytes.length + m) c6) rfl (i := 0) (by decide) (by rfl) fun H7 o7 u7 => ?_
        obtain ⟨P7, st7⟩ := D3.phys.stV (v' := .slice a6 (f.bytes.length + m) c6) (l' := f.bytes ++ ys) hj (by rw [hfv, vblk_slice]; exact u6) ⟨a6, c6, by rw [List.length_append, hm], by rw [List.length_append, hm]; exact o6⟩ (fun b hb => by
          rw [vblk_slice] at hb
          obtain ⟨p, hp, rfl⟩ := blk_of hb
          rcases f6 p hp with h | h
          · exact .inl (by rw [hfv, vblk_slice, h]; simp [blk])
          · exact .inr h) o7 u7 (by have := D3.phys.syn f hf; rw [List.length_append]; omega) (by rw [List.length_append]; omega)
        (repeat first | refine HReg.step ?_ | refine HCode.step ?_)
        subst hfn
        exact hk _ H7 (D3.setf (f' := { f with v := .slice a6 (f.bytes.length + m) c6, bytes := f.bytes ++ ys }) hj rfl P7) (st.trans st7)
    · have h3 := ltB_false.1 h3
      have h34 : ¬ (0 < ys.length ∧ 0 < s.call.d.refuses) := fun h => by omega
      have e : s.append n ys = (0, s.call.put n (f.bytes ++ ys, f.synced)) := St.append_grown hoff h1 h2 h34 hget
      rw [e] at hk
      (repeat first | refine HReg.step ?_ | refine HCode.step ?_)
      refine hif (fun h => absurd (eqB_true.1 h) (by decide)) (fun _ => ?_)
      (repeat first | refine HReg.step ?_ | refine HCode.step ?_)
      refine HLoad.one (v := .slice va f.bytes.length vc) (by exact so.rows.get (i := 0) rfl) ?_
      (repeat first | refine HReg.step ?_ | refine HCode.step ?_)
      refine append_own ov hy3 hm (by omega) fun a6 c6 H6 o6 u6 f6 => ?_
      have so6 := so.upd u6 (fun p hp hb => by
        cases hp
        obtain ⟨_, _, h1⟩ := own_live so
        obtain ⟨_, _, h2⟩ := D3.phys.vlive hf (b := f.p) (by rw [hfv, vblk_slice]; exact hb)
        rw [h1] at h2; cases h2)
      (repeat first | refine HReg.step ?_ | refine HCode.step ?_)
      refine store_row so6 (v := .slice a6 (f.bytes.length + m) c6) rfl (i := 0) (by decide) (by rfl) fun H7 o7 u7 => ?_
      obtain ⟨P7, st7⟩ := D3.phys.stV (v' := .slice a6 (f.bytes.length + m) c6) (l' := f.bytes ++ ys) hj (by rw [hfv, vblk_slice]; exact u6) ⟨a6, c6, by rw [List.length_append, hm], by rw [List.length_append, hm]; exact o6⟩ (fun b hb => by
        rw [vblk_slice] at hb
        obtain ⟨p, hp, rfl⟩ := blk_of hb
        rcases f6 p hp with h | h
        · exact .inl (by rw [hfv, vblk_slice, h]; simp [blk])
        · exact .inr h) o7 u7 (by have := D3.phys.syn f hf; rw [List.length_append]; omega) (by rw [List.length_append]; omega)
      (repeat first | refine HReg.step ?_ | refine HCode.step ?_)
      subst hfn
      exact hk _ H7 (D3.setf (f' := { f with v := .slice a6 (f.bytes.length + m) c6, bytes := f.bytes ++ ys }) hj rfl P7) (st.trans st7)
end
end Go.Proofs.Ytfcmjomnpahllaa
