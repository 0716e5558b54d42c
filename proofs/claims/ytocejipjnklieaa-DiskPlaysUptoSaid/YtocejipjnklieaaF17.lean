import Derived.Test.YtocejipjnklieaaF16
namespace Go.Proofs.Ytocejipjnklieaa
open Go Hv
set_option linter.unusedVariables false
set_option linter.unusedSimpArgs false
set_option maxRecDepth 10000
set_option maxHeartbeats 4000000
/-! The document's disk: Append. CUT2 -/
/-- A file's bytes have grown, and their slice is stored. -/
theorem rin_grow {H1 H H2 : Heap} {g bF cF i j c' : Nat} {s : St} {fs : List RFl} {cl st : Int} {f : RFl} {a' : Option Addr} {l' : List UInt8} {K : Heap → Prop} (r : RIn H1 H g s fs (some ⟨bF, 0, none⟩) cF cl st) (hf : fs[i]? = some f)
    (w : WRow H2 5 1 a' l'.length c' (u8s l')) (u2 : Upd (blk f.a) H H2) (fr : ∀ p, a' = some p → f.a = some p ∨ H p.block = none) (hj : j = i * 3 + 1) (hs : f.synced ≤ l'.length)
    (hK : ∀ H3, RIn H1 H3 g (s.put (bs f.name) (l', f.synced)) (fs.set i ⟨f.name, a', c', l', f.synced⟩) (some ⟨bF, 0, none⟩) cF cl st → Stq H H3 (rblk g (some ⟨bF, 0, none⟩) fs) (rblk g (some ⟨bF, 0, none⟩) (fs.set i ⟨f.name, a', c', l', f.synced⟩)) → K H3) :
    HStore H2 ⟨bF, j, none⟩ (.slice a' l'.length c') K := by
  have hfm := List.mem_of_getElem? hf
  have hil := (List.getElem?_eq_some_iff.1 hf).1
  have og : Off (blk f.a) (some ⟨g, 0, none⟩) := fun p hp hb => by
    cases hp
    obtain ⟨c, z, e⟩ := (r.byt f hfm).live _ hb
    obtain ⟨c2, z2, e2⟩ := own_live r.obj
    rw [e] at e2; cases e2
  have oF : Off (blk f.a) (some ⟨bF, 0, none⟩) := fun p hp hb => by
    cases hp
    obtain ⟨c, z, e⟩ := (r.byt f hfm).live _ hb
    exact r.row.notT (e' := 96) (by decide) bF (by simp [blk]) _ _ e
  have obj2 := r.obj.upd u2 og
  have row2 := r.row.upd u2 oF
  refine store_row row2.flat (v := .slice a' l'.length c') rfl (i := i * 3 + 1) (by omega) hj fun H3 o3 u3 => ?_
  rw [← rfV_set (f' := ⟨f.name, a', c', l', f.synced⟩) hf (by decide) rfl] at o3
  have o3 := unflat o3 (by rw [rfV_length, List.length_set]) (by decide)
  have hl : (fs.set i (⟨f.name, a', c', l', f.synced⟩ : RFl)).length = fs.length := List.length_set
  have t5 : ∀ {a : Option Addr} {n c : Nat} {xs : List Value}, WRow H2 5 1 a n c xs → Off [bF] a := fun w => off_notin fun b hb hm => by
    obtain ⟨c, z, e⟩ := w.live b hb
    rw [List.mem_singleton.1 hm] at e
    exact row2.notT (e' := 96) (by decide) bF (by simp [blk]) _ _ e
  have nb : ∀ b ∈ blk a', b ∈ blk f.a ∨ H b = none := fun b hb => by
    obtain ⟨p, hp, rfl⟩ := blk_of hb
    rcases fr p hp with h | h
    · exact .inl (by rw [h]; simp [blk])
    · exact .inr h
  have hg : ∀ (k : Nat) x, (fs.set i (⟨f.name, a', c', l', f.synced⟩ : RFl))[k]? = some x → (k = i ∧ x = ⟨f.name, a', c', l', f.synced⟩) ∨ (k ≠ i ∧ fs[k]? = some x) := fun k x hx => by
    rw [List.getElem?_set] at hx
    split at hx
    · rename_i e; subst e
      cases hx; exact .inl ⟨rfl, rfl⟩
    · rename_i e; exact .inr ⟨fun h => e h.symm, hx⟩
  have nw1 : ∀ b ∈ blk f.a, H1 b = none := fun b hb => r.new b (mem_rblk.2 (.inr (.inr ⟨f, hfm, hb⟩)))
  have ph : RPh H1 H3 g (fs.set i ⟨f.name, a', c', l', f.synced⟩) (some ⟨bF, 0, none⟩) cF s.d.off s.d.refuses cl st := by
    refine ⟨by rw [hl]; exact obj2.upd u3 (fun p hp hb => by
        cases hp
        have e : g = bF := List.mem_singleton.1 hb
        obtain ⟨c2, z2, e2⟩ := own_live obj2
        rw [e] at e2
        exact row2.notT (e' := 96) (by decide) bF (by simp [blk]) _ _ e2), by rw [hl]; exact o3, fun x hx => ?_, fun a b x y hab hx hy z hz => ?_, fun b hb => ?_, ?_⟩
    · obtain ⟨k, hk⟩ := List.getElem?_of_mem hx
      rcases hg k x hk with ⟨rfl, rfl⟩ | ⟨hk1, hk2⟩
      · exact w.upd u3 (t5 w)
      · have w2 := (r.byt x (List.mem_of_getElem? hk2)).upd u2 (off_notin fun b hb hm => r.ap k i x f hk1 hk2 hf b hb hm)
        exact w2.upd u3 (t5 w2)
    · rcases hg a x hx with ⟨rfl, rfl⟩ | ⟨ha, hx'⟩
      · rcases hg b y hy with ⟨rfl, rfl⟩ | ⟨hb, hy'⟩
        · exact absurd rfl hab
        · intro hzy
          rcases nb z hz with h | h
          · exact r.ap a b f y (fun e => hb e.symm) hf hy' z h hzy
          · obtain ⟨c, q, e⟩ := (r.byt y (List.mem_of_getElem? hy')).live z hzy
            rw [h] at e; cases e
      · rcases hg b y hy with ⟨rfl, rfl⟩ | ⟨hb, hy'⟩
        · intro hzy
          rcases nb z hzy with h | h
          · exact r.ap a b x f ha hx' hf z hz h
          · obtain ⟨c, q, e⟩ := (r.byt x (List.mem_of_getElem? hx')).live z hz
            rw [h] at e; cases e
        · exact r.ap a b x y hab hx' hy' z hz
    · rcases mem_rblk.1 hb with h | h | ⟨x, hx, h⟩
      · exact r.new b (mem_rblk.2 (.inl h))
      · exact r.new b (mem_rblk.2 (.inr (.inl h)))
      · obtain ⟨k, hk⟩ := List.getElem?_of_mem hx
        rcases hg k x hk with ⟨rfl, rfl⟩ | ⟨hk1, hk2⟩
        · rcases nb b h with h | h
          · exact nw1 b h
          · exact Upd.none (S := []) r.base (by simp) h
        · exact r.new b (mem_rblk.2 (.inr (.inr ⟨x, List.mem_of_getElem? hk2, h⟩)))
    · exact Upd.drop (Upd.drop r.base u2 nw1) u3 (fun b hb => by rw [List.mem_singleton.1 hb]; exact r.new bF (mem_rblk.2 (.inr (.inl (by simp [blk])))))
  have r3 := r.setf (f' := ⟨f.name, a', c', l', f.synced⟩) hf rfl ph hs
  refine hK H3 r3 ⟨(u2.mono (fun k hk => mem_rblk.2 (.inr (.inr ⟨f, hfm, hk⟩)))).trans (u3.mono (fun k hk => by rw [List.mem_singleton.1 hk]; exact mem_rblk.2 (.inr (.inl (by simp [blk]))))), fun b hb => ?_⟩
  rcases mem_rblk.1 hb with h | h | ⟨x, hx, h⟩
  · exact .inl (mem_rblk.2 (.inl h))
  · exact .inl (mem_rblk.2 (.inr (.inl h)))
  · obtain ⟨k, hk⟩ := List.getElem?_of_mem hx
    rcases hg k x hk with ⟨rfl, rfl⟩ | ⟨hk1, hk2⟩
    · rcases nb b h with h | h
      · exact .inl (mem_rblk.2 (.inr (.inr ⟨f, hfm, h⟩)))
      · exact .inr h
    · exact .inl (mem_rblk.2 (.inr (.inr ⟨x, List.mem_of_getElem? hk2, h⟩)))
theorem append_fl {a b : Option Addr} {n cap m c : Nat} {xs ys : List UInt8} {H : Heap} {K : Value → Heap → Prop} (ho : WRow H 5 1 a n cap (u8s xs)) (hy : RowAt H b (u8s ys)) (hm : ys.length = m) (hlim : n + m ≤ 140737488355328)
    (hk : ∀ a' cap' H', WRow H' 5 1 a' (n + m) cap' (u8s (xs ++ ys)) → Upd (blk a) H H' → (∀ p, a' = some p → a = some p ∨ H p.block = none) → K (.slice a' (n + m) cap') H') :
    HSem Try.prog (Builtin.append_ #[22, 22] 22 [.slice a n cap, .slice b m c].toArray) H K := by
  refine append_rowsW (ie := Try.t5) (z := .int .u8 0) (ys := u8s ys) (xs := u8s xs) Try.underlying22 rfl rfl rfl (by decide) ho hy (by rw [u8s_length, hm]; exact (Nat.mul_one _).symm) (plain_u8s _) (by show (n + m) * 1 ≤ _; omega) (by omega) fun a' cap' H' o u f _ => ?_
  rw [← u8s_append] at o
  exact hk a' cap' H' o u f
theorem put_put {s : St} {n : ByteArray} {x y : List UInt8 × Nat} : (s.put n x).put n y = s.put n y := by
  have e1 : (s.put n x).fs n = some x := by show (if n = n then _ else _) = _; rw [if_pos rfl]
  show St.mk s.d (fun k => if k = n then some y else (if k = n then some x else s.fs k)) (if ((s.put n x).fs n).isSome then (if (s.fs n).isSome then s.cnt else s.cnt + 1) else (if (s.fs n).isSome then s.cnt else s.cnt + 1) + 1) = St.mk s.d (fun k => if k = n then some y else s.fs k) (if (s.fs n).isSome then s.cnt else s.cnt + 1)
  rw [e1]
  congr 1
  funext k
  split <;> rfl
section
variable {H1 H : Heap} {g N : Nat} {s : St} {B : List Nat} {K : Value → Heap → Prop}
/-- The bytes are laid at the end of a file that is there. -/
theorem rlay_t {t : Txt} {b : Option Addr} {m c : Nat} {ys : List UInt8} (R : RAt H1 H g s B) (c0 : Cok s N) (hy : RowAt H b (u8s ys)) (hm : ys.length = m) (ho : u8s ys = [] ∨ Off B b) (hlim : ∀ x y, s.call.fs (bs t) = some (x, y) → x.length + m ≤ 140737488355328) (hlim0 : m ≤ 140737488355328)
    (hk : ∀ H' B', RAt H1 H' g (s.append (bs t) ys).2 B' → Stq H H' B B' → K (.int .i64 (s.append (bs t) ys).1) H') : HCalls Try.prog 42 [.pointer (some ⟨g, 0, none⟩), .string (bs t), .slice b m c] H K := by
  refine hcalls (fn := Try.f42) [(14, [(5, 0), (6, 0), (7, 0), (8, 0), (9, 0), (10, 0), (11, 0), (12, 0), (13, 0), (14, 0), (0, 1), (1, 1), (2, 1), (3, 1), (4, 1), (15, 0), (16, 0), (17, 0)])] mixed Try.func42 rfl rfl (by decide +kernel) ?_
  (repeat first | refine HReg.step ?_ | refine HCode.step ?_)
  refine HCall.mk ⟨Try.f57, Try.func57, by rfl, by rfl⟩ ?_
  refine rcounted_t R c0.kl c0.kh c0.lo c0.ok (Nat.le_trans c0.hN (by decide)) fun H2 R2 S2 => ?_
  (repeat first | refine HReg.step ?_ | refine HCode.step ?_)
  refine hif (fun h1 => ?_) (fun h1 => ?_)
  · have e : s.append (bs t) ys = (62, s.call) := by unfold St.append; simp [h1]
    rw [e] at hk
    (repeat first | refine HReg.step ?_ | refine HCode.step ?_)
    exact hk H2 B R2 S2
  have hy2 : RowAt H2 b (u8s ys) := hy.upd S2.upd ho
  (repeat first | refine HReg.step ?_ | refine HCode.step ?_)
  refine HCall.mk ⟨Try.f58, Try.func58, by rfl, by rfl⟩ ?_
  refine rnamed_t ?_
  (repeat first | refine HReg.step ?_ | refine HCode.step ?_)
  refine hif (fun h5 => ?_) (fun h5 => ?_)
  · have hn1 : ¬ (1 ≤ (bs t).size ∧ (bs t).size ≤ 32) := not_dec_true h5
    have e : s.append (bs t) ys = (1, s.call) := by unfold St.append; simp only [h1, Bool.false_eq_true, if_false, if_pos hn1]
    rw [e] at hk
    (repeat first | refine HReg.step ?_ | refine HCode.step ?_)
    exact hk H2 B R2 S2
  have hn1 : ¬ ¬ (1 ≤ (bs t).size ∧ (bs t).size ≤ 32) := fun h => h (not_dec_false h5)
  have R2' := R2
  obtain ⟨fs, aF, cF, cl, st, r, rfl⟩ := R2
  have hcnt := r.cnt
  have hfew := c0.ok.call.few
  have ho2 : u8s ys = [] ∨ Off (rblk g aF fs) b := ho
  (repeat first | refine HReg.step ?_ | refine HCode.step ?_)
  refine HCall.mk ⟨Try.f59, Try.func59, by rfl, by rfl⟩ ?_
  refine rat_t r (by omega) (fun i f hf hn => ?_) (fun i hi hlt hgt => ?_)
  · have hg := r.get f (List.mem_of_getElem? hf)
    rw [hn] at hg
    have hl1 := hlim _ _ hg
    have hil := (List.getElem?_eq_some_iff.1 hf).1
    obtain ⟨bF, rfl⟩ := r.row.addr (by omega)
    have h2 : ¬ (s.call.fs (bs t) = none ∧ 16 ≤ s.call.cnt) := fun h => by rw [hg] at h; cases h.1
    (repeat first | refine HReg.step ?_ | refine HCode.step ?_)
    rw [ltB_false.2 (by omega)]
    (repeat first | refine HReg.step ?_ | refine HCode.step ?_)
    refine hif (fun h3 => ?_) (fun h3 => ?_)
    · have h3 := ltB_true.1 h3
      (repeat first | refine HReg.step ?_ | refine HCode.step ?_)
      refine HLoad.one (v := .int .i64 s.call.d.refuses) (by exact r.obj.rows.get (i := 2) rfl) ?_
      (repeat first | refine HReg.step ?_ | refine HCode.step ?_)
      refine hif (fun h4 => ?_) (fun h4 => ?_)
      · skip
        have h4 := ltB_true.1 h4
        have h34 : 0 < ys.length ∧ 0 < s.call.d.refuses := ⟨by omega, h4⟩
        have e : s.append (bs t) ys = (60, { s.call with d := { s.call.d with refuses := s.call.d.refuses - 1 } }) := by unfold St.append; simp only [h1, Bool.false_eq_true, if_false, if_neg hn1, if_neg h2, if_pos h34]
        rw [e] at hk
        have hrr := r.rhi
        have hw : wr .i64 (s.call.d.refuses - 1) = s.call.d.refuses - 1 := wr_i64 (by omega) (by omega)
        (repeat first | refine HReg.step ?_ | refine HCode.step ?_)
        refine HLoad.one (v := .int .i64 s.call.d.refuses) (by exact r.obj.rows.get (i := 2) rfl) ?_
        (repeat first | refine HReg.step ?_ | refine HCode.step ?_)
        rw [hw]
        refine store_row r.obj (v := .int .i64 (s.call.d.refuses - 1)) rfl (i := 2) (by decide) (by rfl) fun H4 o4 u4 => ?_
        have r4 := r.setd (s' := { s.call with d := { s.call.d with refuses := s.call.d.refuses - 1 } }) (cl' := cl) (st' := st) u4 o4 rfl rfl r.arm r.hi (by show s.call.d.refuses - 1 ≤ _; omega)
        (repeat first | refine HReg.step ?_ | refine HCode.step ?_)
        exact hk H4 _ ⟨_, _, _, _, _, r4, rfl⟩ (S2.trans (Stq.g u4))
      · have h4 := ltB_false.1 h4
        have h34 : ¬ (0 < ys.length ∧ 0 < s.call.d.refuses) := fun h => by omega
        (repeat first | refine HReg.step ?_ | refine HCode.step ?_)
        rw [show ltB ((i : Nat) : Int) 0 = false from ltB_false.2 (by omega)]
        (repeat first | refine HReg.step ?_ | refine HCode.step ?_)
        refine HLoad.one (v := .slice (some ⟨bF, 0, none⟩) fs.length cF) (by exact r.obj.rows.get (i := 0) rfl) ?_
        (repeat first | refine HReg.step ?_ | refine HCode.step ?_)
        refine HReq.mk ⟨by omega, by omega⟩ ?_
        (repeat first | refine HReg.step ?_ | refine HCode.step ?_)
        refine HLoad.one (v := .slice f.a f.bytes.length f.c) (by exact r.row.rows.get (rfV_get hf 1 _ rfl)) ?_
        (repeat first | refine HReg.step ?_ | refine HCode.step ?_)
        refine append_fl (r.byt f (List.mem_of_getElem? hf)) hy2 hm (by omega) fun a6 c6 H6 w6 u6 f6 => ?_
        have hl6 : (f.bytes ++ ys).length = f.bytes.length + m := by rw [List.length_append, hm]
        rw [← hl6] at w6 ⊢
        have ob6 := (r.obj.upd u6 (fun p hp hb => by
          cases hp
          obtain ⟨c, z, e⟩ := (r.byt f (List.mem_of_getElem? hf)).live _ hb
          obtain ⟨c2, z2, e2⟩ := own_live r.obj
          rw [e] at e2; cases e2)).rows.get (i := 0) rfl
        (repeat first | refine HReg.step ?_ | refine HCode.step ?_)
        refine HLoad_two (v := .slice (some ⟨bF, 0, none⟩) fs.length cF) (by exact ob6) (by exact r.obj.rows.get (i := 0) rfl) ?_
        (repeat first | refine HReg.step ?_ | refine HCode.step ?_)
        refine HReq.mk ⟨by omega, by omega⟩ ?_
        (repeat first | refine HReg.step ?_ | refine HCode.step ?_)
        refine rin_grow r hf w6 u6 f6 (by show 0 + (i : Int).toNat * 3 + 1 = _; omega) (by have := r.syn f (List.mem_of_getElem? hf); omega) fun H7 r7 s7 => ?_
        rw [hn] at r7 s7
        (repeat first | refine HReg.step ?_ | refine HCode.step ?_)
        have e : s.append (bs t) ys = (0, s.call.put (bs t) (f.bytes ++ ys, f.synced)) := St.append_grown h1 hn1 h2 h34 hg
        rw [e] at hk
        exact hk H7 _ ⟨_, _, _, _, _, r7, rfl⟩ (S2.trans s7)
    · have h3 := ltB_false.1 h3
      have h34 : ¬ (0 < ys.length ∧ 0 < s.call.d.refuses) := fun h => by omega
      (repeat first | refine HReg.step ?_ | refine HCode.step ?_)
      rw [show ltB ((i : Nat) : Int) 0 = false from ltB_false.2 (by omega)]
      (repeat first | refine HReg.step ?_ | refine HCode.step ?_)
      refine HLoad.one (v := .slice (some ⟨bF, 0, none⟩) fs.length cF) (by exact r.obj.rows.get (i := 0) rfl) ?_
      (repeat first | refine HReg.step ?_ | refine HCode.step ?_)
      refine HReq.mk ⟨by omega, by omega⟩ ?_
      (repeat first | refine HReg.step ?_ | refine HCode.step ?_)
      refine HLoad.one (v := .slice f.a f.bytes.length f.c) (by exact r.row.rows.get (rfV_get hf 1 _ rfl)) ?_
      (repeat first | refine HReg.step ?_ | refine HCode.step ?_)
      refine append_fl (r.byt f (List.mem_of_getElem? hf)) hy2 hm (by omega) fun a6 c6 H6 w6 u6 f6 => ?_
      have hl6 : (f.bytes ++ ys).length = f.bytes.length + m := by rw [List.length_append, hm]
      rw [← hl6] at w6 ⊢
      have ob6 := (r.obj.upd u6 (fun p hp hb => by
        cases hp
        obtain ⟨c, z, e⟩ := (r.byt f (List.mem_of_getElem? hf)).live _ hb
        obtain ⟨c2, z2, e2⟩ := own_live r.obj
        rw [e] at e2; cases e2)).rows.get (i := 0) rfl
      (repeat first | refine HReg.step ?_ | refine HCode.step ?_)
      refine HLoad_two (v := .slice (some ⟨bF, 0, none⟩) fs.length cF) (by exact ob6) (by exact r.obj.rows.get (i := 0) rfl) ?_
      (repeat first | refine HReg.step ?_ | refine HCode.step ?_)
      refine HReq.mk ⟨by omega, by omega⟩ ?_
      (repeat first | refine HReg.step ?_ | refine HCode.step ?_)
      refine rin_grow r hf w6 u6 f6 (by show 0 + (i : Int).toNat * 3 + 1 = _; omega) (by have := r.syn f (List.mem_of_getElem? hf); omega) fun H7 r7 s7 => ?_
      rw [hn] at r7 s7
      (repeat first | refine HReg.step ?_ | refine HCode.step ?_)
      have e : s.append (bs t) ys = (0, s.call.put (bs t) (f.bytes ++ ys, f.synced)) := St.append_grown h1 hn1 h2 h34 hg
      rw [e] at hk
      exact hk H7 _ ⟨_, _, _, _, _, r7, rfl⟩ (S2.trans s7)
  · have hnn := r.none hlt hgt
    (repeat first | refine HReg.step ?_ | refine HCode.step ?_)
    rw [ltB_true.2 (by omega)]
    (repeat first | refine HReg.step ?_ | refine HCode.step ?_)
    refine HLoad.one (v := .slice aF fs.length cF) (by exact r.obj.rows.get (i := 0) rfl) ?_
    (repeat first | refine HReg.step ?_ | refine HCode.step ?_)
    refine hif (fun h2 => ?_) (fun h2 => ?_)
    · have h2 := not_ltB_true.1 h2
      have h2 : s.call.fs (bs t) = none ∧ 16 ≤ s.call.cnt := ⟨hnn, by omega⟩
      have e : s.append (bs t) ys = (3, s.call) := by unfold St.append; simp only [h1, Bool.false_eq_true, if_false, if_neg hn1, if_pos h2]
      rw [e] at hk
      (repeat first | refine HReg.step ?_ | refine HCode.step ?_)
      exact hk H2 _ R2' S2
    have h2 := not_ltB_false.1 h2
    have h2 : ¬ (s.call.fs (bs t) = none ∧ 16 ≤ s.call.cnt) := fun h => by omega
    (repeat first | refine HReg.step ?_ | refine HCode.step ?_)
    refine hif (fun h3 => ?_) (fun h3 => ?_)
    · have h3 := ltB_true.1 h3
      (repeat first | refine HReg.step ?_ | refine HCode.step ?_)
      refine HLoad.one (v := .int .i64 s.call.d.refuses) (by exact r.obj.rows.get (i := 2) rfl) ?_
      (repeat first | refine HReg.step ?_ | refine HCode.step ?_)
      refine hif (fun h4 => ?_) (fun h4 => ?_)
      · skip
        have h4 := ltB_true.1 h4
        have h34 : 0 < ys.length ∧ 0 < s.call.d.refuses := ⟨by omega, h4⟩
        have e : s.append (bs t) ys = (60, { s.call with d := { s.call.d with refuses := s.call.d.refuses - 1 } }) := by unfold St.append; simp only [h1, Bool.false_eq_true, if_false, if_neg hn1, if_neg h2, if_pos h34]
        rw [e] at hk
        have hrr := r.rhi
        have hw : wr .i64 (s.call.d.refuses - 1) = s.call.d.refuses - 1 := wr_i64 (by omega) (by omega)
        (repeat first | refine HReg.step ?_ | refine HCode.step ?_)
        refine HLoad.one (v := .int .i64 s.call.d.refuses) (by exact r.obj.rows.get (i := 2) rfl) ?_
        (repeat first | refine HReg.step ?_ | refine HCode.step ?_)
        rw [hw]
        refine store_row r.obj (v := .int .i64 (s.call.d.refuses - 1)) rfl (i := 2) (by decide) (by rfl) fun H4 o4 u4 => ?_
        have r4 := r.setd (s' := { s.call with d := { s.call.d with refuses := s.call.d.refuses - 1 } }) (cl' := cl) (st' := st) u4 o4 rfl rfl r.arm r.hi (by show s.call.d.refuses - 1 ≤ _; omega)
        (repeat first | refine HReg.step ?_ | refine HCode.step ?_)
        exact hk H4 _ ⟨_, _, _, _, _, r4, rfl⟩ (S2.trans (Stq.g u4))
      · have h4 := ltB_false.1 h4
        have h34 : ¬ (0 < ys.length ∧ 0 < s.call.d.refuses) := fun h => by omega
        (repeat first | refine HReg.step ?_ | refine HCode.step ?_)
        rw [show ltB (-1 - (i : Int)) 0 = true from ltB_true.2 (by omega)]
        (repeat first | refine HReg.step ?_ | refine HCode.step ?_)
        refine HCall.mk ⟨Try.f60, Try.func60, by rfl, by rfl⟩ ?_
        refine rput_t (f := ⟨t, none, 0, [], 0⟩) r (by omega) (WRow.nil _ _ _) (Nat.le_refl _) (fun x hx b hb => by simp [RFl.bl, blk] at hb) (fun b hb => by simp [RFl.bl, blk] at hb) fun H3 B3 R3 s3 => ?_
        have s3 : Stq H2 H3 (rblk g aF fs) B3 := by
          have e : rblk g aF fs ++ (⟨t, none, 0, [], 0⟩ : RFl).bl = rblk g aF fs := by simp [RFl.bl, blk]
          rw [e] at s3; exact s3
        have hy3 : RowAt H3 b (u8s ys) := hy2.upd s3.upd ho2
        have hcnt3 := r.cnt
        have hne3 : (s.call.put (bs t) ([], 0)).fs (bs t) = some ([], 0) := by show (if bs t = bs t then _ else _) = _; rw [if_pos rfl]
        obtain ⟨fs3, aF3, cF3, cl3, st3, r3, e3⟩ := R3
        have hl3 : fs3.length ≤ 1000 := by
          have h : (s.call.put (bs t) ([], 0)).cnt = fs3.length := r3.cnt
          have h5 : (s.call.put (bs t) ([], 0)).cnt ≤ s.call.cnt + 1 := by unfold St.put; dsimp only; split <;> omega
          have := c0.ok.call.few
          omega
        (repeat first | refine HReg.step ?_ | refine HCode.step ?_)
        refine HCall.mk ⟨Try.f59, Try.func59, by rfl, by rfl⟩ ?_
        refine rat_t r3 hl3 (fun i3 f3 hf hn => ?_) (fun i3 hi3 hlt3 hgt3 => ?_)
        · have hil := (List.getElem?_eq_some_iff.1 hf).1
          obtain ⟨bF, rfl⟩ := r3.row.addr (by omega)
          have hg3 := r3.get f3 (List.mem_of_getElem? hf)
          rw [hn, hne3] at hg3
          obtain ⟨hb3, hs3⟩ := Prod.mk.inj (Option.some.inj hg3)
          have hbl : f3.bytes.length = 0 := by rw [← hb3]; rfl
          (repeat first | refine HReg.step ?_ | refine HCode.step ?_)
          refine HLoad.one (v := .slice (some ⟨bF, 0, none⟩) fs3.length cF3) (by exact r3.obj.rows.get (i := 0) rfl) ?_
          (repeat first | refine HReg.step ?_ | refine HCode.step ?_)
          refine HReq.mk ⟨by omega, by omega⟩ ?_
          (repeat first | refine HReg.step ?_ | refine HCode.step ?_)
          refine HLoad.one (v := .slice f3.a f3.bytes.length f3.c) (by exact r3.row.rows.get (rfV_get hf 1 _ rfl)) ?_
          (repeat first | refine HReg.step ?_ | refine HCode.step ?_)
          refine append_fl (r3.byt f3 (List.mem_of_getElem? hf)) hy3 hm (by omega) fun a6 c6 H6 w6 u6 f6 => ?_
          have hl6 : (f3.bytes ++ ys).length = f3.bytes.length + m := by rw [List.length_append, hm]
          rw [← hl6] at w6 ⊢
          have ob6 := (r3.obj.upd u6 (fun p hp hb => by
            cases hp
            obtain ⟨c, z, e⟩ := (r3.byt f3 (List.mem_of_getElem? hf)).live _ hb
            obtain ⟨c2, z2, e2⟩ := own_live r3.obj
            rw [e] at e2; cases e2)).rows.get (i := 0) rfl
          (repeat first | refine HReg.step ?_ | refine HCode.step ?_)
          refine HLoad_two (v := .slice (some ⟨bF, 0, none⟩) fs3.length cF3) (by exact ob6) (by exact r3.obj.rows.get (i := 0) rfl) ?_
          (repeat first | refine HReg.step ?_ | refine HCode.step ?_)
          refine HReq.mk ⟨by omega, by omega⟩ ?_
          (repeat first | refine HReg.step ?_ | refine HCode.step ?_)
          refine rin_grow r3 hf w6 u6 f6 (by show 0 + (i3 : Int).toNat * 3 + 1 = _; omega) (by have := r3.syn f3 (List.mem_of_getElem? hf); omega) fun H7 r7 s7 => ?_
          rw [hn] at r7 s7
          (repeat first | refine HReg.step ?_ | refine HCode.step ?_)
          have e : s.append (bs t) ys = (0, s.call.put (bs t) (ys, 0)) := St.append_fresh h1 hn1 h2 h34 hnn
          rw [e] at hk
          rw [← hb3, ← hs3, List.nil_append, put_put] at r7
          rw [← hb3, ← hs3, List.nil_append] at s7
          refine hk H7 _ ⟨_, _, _, _, _, r7, rfl⟩ (S2.trans (s3.trans ?_))
          rw [e3]; exact s7
        · have := r3.none hlt3 hgt3
          rw [hne3] at this; cases this
    · have h3 := ltB_false.1 h3
      have h34 : ¬ (0 < ys.length ∧ 0 < s.call.d.refuses) := fun h => by omega
      (repeat first | refine HReg.step ?_ | refine HCode.step ?_)
      rw [show ltB (-1 - (i : Int)) 0 = true from ltB_true.2 (by omega)]
      (repeat first | refine HReg.step ?_ | refine HCode.step ?_)
      refine HCall.mk ⟨Try.f60, Try.func60, by rfl, by rfl⟩ ?_
      refine rput_t (f := ⟨t, none, 0, [], 0⟩) r (by omega) (WRow.nil _ _ _) (Nat.le_refl _) (fun x hx b hb => by simp [RFl.bl, blk] at hb) (fun b hb => by simp [RFl.bl, blk] at hb) fun H3 B3 R3 s3 => ?_
      have s3 : Stq H2 H3 (rblk g aF fs) B3 := by
        have e : rblk g aF fs ++ (⟨t, none, 0, [], 0⟩ : RFl).bl = rblk g aF fs := by simp [RFl.bl, blk]
        rw [e] at s3; exact s3
      have hy3 : RowAt H3 b (u8s ys) := hy2.upd s3.upd ho2
      have hcnt3 := r.cnt
      have hne3 : (s.call.put (bs t) ([], 0)).fs (bs t) = some ([], 0) := by show (if bs t = bs t then _ else _) = _; rw [if_pos rfl]
      obtain ⟨fs3, aF3, cF3, cl3, st3, r3, e3⟩ := R3
      have hl3 : fs3.length ≤ 1000 := by
        have h : (s.call.put (bs t) ([], 0)).cnt = fs3.length := r3.cnt
        have h5 : (s.call.put (bs t) ([], 0)).cnt ≤ s.call.cnt + 1 := by unfold St.put; dsimp only; split <;> omega
        have := c0.ok.call.few
        omega
      (repeat first | refine HReg.step ?_ | refine HCode.step ?_)
      refine HCall.mk ⟨Try.f59, Try.func59, by rfl, by rfl⟩ ?_
      refine rat_t r3 hl3 (fun i3 f3 hf hn => ?_) (fun i3 hi3 hlt3 hgt3 => ?_)
      · have hil := (List.getElem?_eq_some_iff.1 hf).1
        obtain ⟨bF, rfl⟩ := r3.row.addr (by omega)
        have hg3 := r3.get f3 (List.mem_of_getElem? hf)
        rw [hn, hne3] at hg3
        obtain ⟨hb3, hs3⟩ := Prod.mk.inj (Option.some.inj hg3)
        have hbl : f3.bytes.length = 0 := by rw [← hb3]; rfl
        (repeat first | refine HReg.step ?_ | refine HCode.step ?_)
        refine HLoad.one (v := .slice (some ⟨bF, 0, none⟩) fs3.length cF3) (by exact r3.obj.rows.get (i := 0) rfl) ?_
        (repeat first | refine HReg.step ?_ | refine HCode.step ?_)
        refine HReq.mk ⟨by omega, by omega⟩ ?_
        (repeat first | refine HReg.step ?_ | refine HCode.step ?_)
        refine HLoad.one (v := .slice f3.a f3.bytes.length f3.c) (by exact r3.row.rows.get (rfV_get hf 1 _ rfl)) ?_
        (repeat first | refine HReg.step ?_ | refine HCode.step ?_)
        refine append_fl (r3.byt f3 (List.mem_of_getElem? hf)) hy3 hm (by omega) fun a6 c6 H6 w6 u6 f6 => ?_
        have hl6 : (f3.bytes ++ ys).length = f3.bytes.length + m := by rw [List.length_append, hm]
        rw [← hl6] at w6 ⊢
        have ob6 := (r3.obj.upd u6 (fun p hp hb => by
          cases hp
          obtain ⟨c, z, e⟩ := (r3.byt f3 (List.mem_of_getElem? hf)).live _ hb
          obtain ⟨c2, z2, e2⟩ := own_live r3.obj
          rw [e] at e2; cases e2)).rows.get (i := 0) rfl
        (repeat first | refine HReg.step ?_ | refine HCode.step ?_)
        refine HLoad_two (v := .slice (some ⟨bF, 0, none⟩) fs3.length cF3) (by exact ob6) (by exact r3.obj.rows.get (i := 0) rfl) ?_
        (repeat first | refine HReg.step ?_ | refine HCode.step ?_)
        refine HReq.mk ⟨by omega, by omega⟩ ?_
        (repeat first | refine HReg.step ?_ | refine HCode.step ?_)
        refine rin_grow r3 hf w6 u6 f6 (by show 0 + (i3 : Int).toNat * 3 + 1 = _; omega) (by have := r3.syn f3 (List.mem_of_getElem? hf); omega) fun H7 r7 s7 => ?_
        rw [hn] at r7 s7
        (repeat first | refine HReg.step ?_ | refine HCode.step ?_)
        have e : s.append (bs t) ys = (0, s.call.put (bs t) (ys, 0)) := St.append_fresh h1 hn1 h2 h34 hnn
        rw [e] at hk
        rw [← hb3, ← hs3, List.nil_append, put_put] at r7
        rw [← hb3, ← hs3, List.nil_append] at s7
        refine hk H7 _ ⟨_, _, _, _, _, r7, rfl⟩ (S2.trans (s3.trans ?_))
        rw [e3]; exact s7
      · have := r3.none hlt3 hgt3
        rw [hne3] at this; cases this
end
end Go.Proofs.Ytocejipjnklieaa
