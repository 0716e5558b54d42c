import Derived.Test.YtlgncabjphokjaaGreatG6
namespace Go.Proofs.YtlgncabjphokjaaGreat
open Go Hv
set_option linter.unusedVariables false
set_option linter.unusedSimpArgs false
set_option maxRecDepth 10000
set_option maxHeartbeats 1000000
/-! A message is read. CUT2 -/
/-- A message whose lists are memory of its own. -/
structure MsgNew (H0 H : Heap) (x : MsgA) : Prop where
  p : OwnRow H 50 2 x.ap x.ps.length x.cp (pairsV x.ps)
  k : OwnRow H 9 1 x.ak x.ks.length x.ck (txts x.ks)
  w : OwnRow H 54 2 x.aw x.ws.length x.cw (wantsV x.ws)
  v : OwnRow H 56 4 x.av x.vs.length x.cv (versV x.vs)
  vk : ∀ y ∈ x.vs, OwnRow H 9 1 y.a y.v.ks.length y.c (txts y.v.ks)
  pn : ∀ b ∈ blk x.ap, H0 b = none
  kn : ∀ b ∈ blk x.ak, H0 b = none
  wn : ∀ b ∈ blk x.aw, H0 b = none
  vn : ∀ b ∈ blk x.av, H0 b = none
  vkn : ∀ y ∈ x.vs, ∀ b ∈ blk y.a, H0 b = none
  np : x.ps.length ≤ 1024
  nk : x.ks.length ≤ 4294967296
  nw : x.ws.length ≤ 1024
  nv : x.vs.length ≤ 1
  nvk : ∀ y ∈ x.vs, y.v.ks.length ≤ 4294967296
  one : x.vs ≠ [] → x.ak = none
theorem MsgNew.msgIn {H0 H : Heap} {x : MsgA} (h : MsgNew H0 H x) : MsgIn H x :=
  ⟨h.p.rows, h.k.rows, h.w.rows, h.v.rows, fun y hy => (h.vk y hy).rows, by have := h.np; omega, by have := h.nk; omega, by have := h.nw; omega, by have := h.nv; omega, fun y hy => by have := h.nvk y hy; omega⟩
theorem MsgNew.upd {H0 H H' : Heap} {x : MsgA} {T : List Nat} (h : MsgNew H0 H x) (u : Upd T H H') (h1 : Off T x.ap) (h2 : Off T x.ak) (h3 : Off T x.aw) (h4 : Off T x.av) (h5 : ∀ y ∈ x.vs, Off T y.a) : MsgNew H0 H' x :=
  ⟨h.p.upd u h1, h.k.upd u h2, h.w.upd u h3, h.v.upd u h4, fun y hy => (h.vk y hy).upd u (h5 y hy), h.pn, h.kn, h.wn, h.vn, h.vkn, h.np, h.nk, h.nw, h.nv, h.nvk, h.one⟩
theorem MsgNew.upd0 {H0 H H' : Heap} {x : MsgA} (h : MsgNew H0 H x) (u : Upd [] H H') : MsgNew H0 H' x := h.upd u (Off.nil _) (Off.nil _) (Off.nil _) (Off.nil _) fun y hy => Off.nil _
theorem MsgNew.back {H0 H1 H : Heap} {x : MsgA} (h : MsgNew H1 H x) (u : Upd [] H0 H1) : MsgNew H0 H x :=
  ⟨h.p, h.k, h.w, h.v, h.vk, fun b hb => Upd.none (S := []) u (by simp) (h.pn b hb), fun b hb => Upd.none (S := []) u (by simp) (h.kn b hb), fun b hb => Upd.none (S := []) u (by simp) (h.wn b hb), fun b hb => Upd.none (S := []) u (by simp) (h.vn b hb), fun y hy b hb => Upd.none (S := []) u (by simp) (h.vkn y hy b hb), h.np, h.nk, h.nw, h.nv, h.nvk, h.one⟩
/-- A block of another kind than the lists' changes. -/
theorem MsgNew.off {H0 H H' : Heap} {x : MsgA} {e : TypeId} {b n cap size : Nat} {xs : List Value} (h : MsgNew H0 H x) (o : OwnRow H e size (some ⟨b, 0, none⟩) n cap xs) (he : e ≠ 50 ∧ e ≠ 9 ∧ e ≠ 54 ∧ e ≠ 56) (u : Upd [b] H H') : MsgNew H0 H' x :=
  h.upd u (o.offT h.p he.1) (o.offT h.k he.2.1) (o.offT h.w he.2.2.1) (o.offT h.v he.2.2.2) fun y hy => o.offT (h.vk y hy) he.2.1
theorem RAt.apart {H0 H : Heap} {g : Nat} {S : List Nat} {r : R} {e : TypeId} {size n c : Nat} {a : Option Addr} {xs : List Value} (d : RAt H0 H g S r) (o : OwnRow H e size a n c xs) (h1 : e ≠ 59) (h2 : e ≠ 5) : ∀ b ∈ blk a, b ∉ S := fun b hb hS => by
  obtain ⟨a', c', hSe, og, _, _, hl⟩ := d.ex
  rw [hSe] at hS
  rcases List.mem_cons.1 hS with rfl | h
  · obtain ⟨cc, z, e⟩ := own_cells og
    exact o.notT h1 b hb _ _ e
  · obtain ⟨cu, z, e⟩ := hl b h
    exact o.notT h2 b hb _ _ e
theorem RAt.mem {H0 H : Heap} {g : Nat} {S : List Nat} {r : R} (d : RAt H0 H g S r) : g ∈ S := by obtain ⟨a, c, rfl, _⟩ := d.ex; exact List.mem_cons_self
theorem RAt.back {H0 H1 H : Heap} {g : Nat} {S : List Nat} {r : R} (d : RAt H1 H g S r) (u : Upd [] H0 H1) : RAt H0 H g S r := ⟨d.lim, d.er, u.trans d.base, fun b hb => Upd.none (S := []) u (by simp) (d.new b hb), d.ex⟩
theorem RAt.row {H0 H : Heap} {g : Nat} {S : List Nat} {r : R} (d : RAt H0 H g S r) : ∃ xs, OwnRow H 59 1 (some ⟨g, 0, none⟩) 2 2 xs := by obtain ⟨a, c, _, o, _⟩ := d.ex; exact ⟨_, o⟩
theorem HLoad_four {H H' H'' H3 : Heap} {a : Addr} {K : Value → Prop} {v : Value} (h : H.cell? a = some v) (h' : H'.cell? a = some v) (h'' : H''.cell? a = some v) (h3 : H3.cell? a = some v) (hk : K v) : HLoad [H, H', H'', H3] a K := ⟨v, fun Hx hx => by
  simp only [List.mem_cons, List.not_mem_nil, or_false] at hx
  rcases hx with rfl | rfl | rfl | rfl
  · exact h
  · exact h'
  · exact h''
  · exact h3, hk⟩
/-- What is being read, between two steps. -/
structure RdS (H0 : Heap) (b2 b3 g : Nat) (S : List Nat) (r : R) (x : MsgA) (H : Heap) : Prop where
  d : RAt H0 H g S r
  o : OwnRow H 30 1 (some ⟨b3, 0, none⟩) 8 8 x.cells
  n : MsgNew H0 H x
  o2 : OwnRow H 30 1 (some ⟨b2, 0, none⟩) 8 8 zeroA.cells
  n3 : H0 b3 = none
  n2 : H0 b2 = none
  ne : b2 ≠ b3
section
variable {H0 H H' : Heap} {b2 b3 g : Nat} {S : List Nat} {r r' : R} {x y : MsgA} {K : Value → Heap → Prop}
theorem RdS.upd0 (s : RdS H0 b2 b3 g S r x H) (u : Upd [] H H') : RdS H0 b2 b3 g S r x H' := ⟨s.d.upd0 u, s.o.upd u (Off.nil _), s.n.upd0 u, s.o2.upd u (Off.nil _), s.n3, s.n2, s.ne⟩
/-- The reader goes on. -/
theorem RdS.go (s : RdS H0 b2 b3 g S r x H) (d : RAt H0 H' g S r') (u : Upd [g] H H') : RdS H0 b2 b3 g S r' x H' := by
  obtain ⟨xs, og⟩ := s.d.row
  exact ⟨d, s.o.upd u (og.offT s.o (by decide)), s.n.off og (by decide) u, s.o2.upd u (og.offT s.o2 (by decide)), s.n3, s.n2, s.ne⟩
/-- The message's cells change. -/
theorem RdS.set (s : RdS H0 b2 b3 g S r x H) (n : MsgNew H0 H y) (o : OwnRow H' 30 1 (some ⟨b3, 0, none⟩) 8 8 y.cells) (u : Upd [b3] H H') : RdS H0 b2 b3 g S r y H' :=
  ⟨s.d.upd u (fun b hb hb' => s.d.apart s.o (by decide) (by decide) b3 (by simp [blk]) (by rw [← List.mem_singleton.1 hb']; exact hb)) (fun b hb => by rw [List.mem_singleton.1 hb]; exact s.n3),
   o, n.off s.o (by decide) u, s.o2.upd u (fun p hp hb => by cases hp; exact s.ne (List.mem_singleton.1 hb)), s.n3, s.n2, s.ne⟩
/-- A list of the message grows. -/
theorem RdS.grow {e : TypeId} {size k c : Nat} {a : Option Addr} {xs : List Value} (s : RdS H0 b2 b3 g S r x H) (row : OwnRow H e size a k c xs) (hn : ∀ b ∈ blk a, H0 b = none) (he : e ≠ 59 ∧ e ≠ 5 ∧ e ≠ 30) (u : Upd (blk a) H H') :
    RAt H0 H' g S r ∧ OwnRow H' 30 1 (some ⟨b3, 0, none⟩) 8 8 x.cells ∧ OwnRow H' 30 1 (some ⟨b2, 0, none⟩) 8 8 zeroA.cells :=
  ⟨s.d.upd u (fun b hb hb' => s.d.apart row he.1 he.2.1 b hb' hb) hn, s.o.upd u (row.offT s.o he.2.2), s.o2.upd u (row.offT s.o2 he.2.2)⟩
theorem new_blk {a a' : Option Addr} {H1 : Heap} (h : ∀ p, a' = some p → a = some p ∨ H1 p.block = none) (hn : ∀ b ∈ blk a, H0 b = none) (u : Upd [] H0 H1) : ∀ b ∈ blk a', H0 b = none := fun b hb => by
  obtain ⟨p, hp, rfl⟩ := blk_of hb
  rcases h p hp with h | h
  · exact hn _ (by rw [h]; simp [blk])
  · exact Upd.none (S := []) u (by simp) h
def msg0 (k c q i : Nat) : MsgA := ⟨(k : Int), (c : Int), q, i, [], none, 0, [], none, 0, [], none, 0, [], none, 0⟩
theorem msg0_new (H0 H : Heap) (k c q i : Nat) : MsgNew H0 H (msg0 k c q i) :=
  ⟨OwnRow.nil _ _ _, OwnRow.nil _ _ _, OwnRow.nil _ _ _, OwnRow.nil _ _ _, fun y hy => by simp [msg0] at hy, fun b hb => by simp [msg0, blk] at hb, fun b hb => by simp [msg0, blk] at hb, fun b hb => by simp [msg0, blk] at hb, fun b hb => by simp [msg0, blk] at hb, fun y hy => by simp [msg0] at hy, Nat.zero_le _, Nat.zero_le _, Nat.zero_le _, Nat.zero_le _, fun y hy => by simp [msg0] at hy, fun h => rfl⟩
theorem RdS.side {k c q i b : Nat} {xs : List Value} (s : RdS H0 b2 b3 g S r (msg0 k c q i) H) (o : OwnRow H 56 1 (some ⟨b, 0, none⟩) 4 4 xs) (h0 : H0 b = none) (u : Upd [b] H H') : RdS H0 b2 b3 g S r (msg0 k c q i) H' :=
  ⟨s.d.upd u (fun x hx hx' => s.d.apart o (by decide) (by decide) b (by simp [blk]) (by rw [← List.mem_singleton.1 hx']; exact hx)) (fun x hx => by rw [List.mem_singleton.1 hx]; exact h0), s.o.upd u (o.offT s.o (by decide)), msg0_new _ _ _ _ _ _, s.o2.upd u (o.offT s.o2 (by decide)), s.n3, s.n2, s.ne⟩
theorem ver_new {k c q i b : Nat} {v : VerA} (hb : H b = none) (h0 : H0 b = none) (o : OwnRow H 9 1 v.a v.v.ks.length v.c (txts v.v.ks)) (f : ∀ b ∈ blk v.a, H0 b = none) (hl : v.v.ks.length ≤ 4294967296) :
    MsgNew H0 (H.upd b (.cells v.cells.toArray 56)) { msg0 k c q i with vs := [v], av := some ⟨b, 0, none⟩, cv := 1 } :=
  ⟨OwnRow.nil _ _ _, OwnRow.nil _ _ _, OwnRow.nil _ _ _, OwnRow.lit (upd_same _ _ _) rfl, fun y hy => by rw [List.mem_singleton.1 hy]; exact o.upd (Upd.new hb _) (Off.nil _),
   fun b hb => by simp [msg0, blk] at hb, fun b hb => by simp [msg0, blk] at hb, fun b hb => by simp [msg0, blk] at hb, fun x hx => by simp [blk] at hx; rw [hx]; exact h0, fun y hy => by rw [List.mem_singleton.1 hy]; exact f,
   Nat.zero_le _, Nat.zero_le _, Nat.zero_le _, Nat.le_refl _, fun y hy => by rw [List.mem_singleton.1 hy]; exact hl, fun _ => rfl⟩
structure RpInv (H0 : Heap) (b2 b3 g : Nat) (S : List Nat) (x : MsgA) (n : Nat) (r : R) (m : Nat) (vs : List Value) (H' : Heap) : Prop where
  ex : ∃ (ps : List (Txt × Txt)) (r' : R) (ap : Option Addr) (cp : Nat), vs = [.int .i64 ((n - m : Nat) : Int)] ∧ ps.length + m = n ∧ pairsG n r = (ps ++ (pairsG m r').1, (pairsG m r').2) ∧ RdS H0 b2 b3 g S r' { x with ps := ps, ap := ap, cp := cp } H'
structure RwInv (H0 : Heap) (b2 b3 g : Nat) (S : List Nat) (x : MsgA) (n : Nat) (r : R) (m : Nat) (vs : List Value) (H' : Heap) : Prop where
  ex : ∃ (ws : List (Txt × Nat)) (r' : R) (aw : Option Addr) (cw : Nat), vs = [.int .i64 ((n - m : Nat) : Int)] ∧ ws.length + m = n ∧ wantsG n r = (ws ++ (wantsG m r').1, (wantsG m r').2) ∧ RdS H0 b2 b3 g S r' { x with ws := ws, aw := aw, cw := cw } H'
theorem body_t {l : List UInt8} (d : RAt H0 H g S ⟨l, 0⟩)
    (hk : ∀ (x : MsgA) H', x.m = (readBody l).1 → MsgNew H0 H' x → RAt H0 H' g S (readBody l).2 → K x.val H') : HCalls Tryz.prog 9 [.pointer (some ⟨g, 0, none⟩)] H K := by
  refine hcalls (fn := Tryz.f9) [(9, [(2, 0), (3, 0), (4, 1), (5, 0), (6, 0), (7, 0), (0, 3), (1, 3), (8, 0), (9, 0), (10, 0)]), (16, [(2, 0), (3, 0), (4, 1), (5, 0), (6, 0), (7, 0), (0, 3), (1, 3), (8, 0), (9, 0), (10, 0)])] mixed Tryz.func9 rfl rfl (by decide +kernel) ?_
  (repeat first | refine HReg.step ?_ | refine HCode.step ?_)
  refine HNew.mk fun b2 hb2 => ?_
  have u2 : Upd [] H (H.upd b2 (.cells zeroA.cells.toArray 30)) := Upd.new hb2 _
  have o2 : OwnRow (H.upd b2 (.cells zeroA.cells.toArray 30)) 30 1 (some ⟨b2, 0, none⟩) 8 8 zeroA.cells := OwnRow.lit (upd_same _ _ _) rfl
  have hH2' : H.upd b2 (.cells [Value.int .i64 0, .int .i64 0, .int .u64 0, .int .u64 0, .slice none 0 0, .slice none 0 0, .slice none 0 0, .slice none 0 0].toArray 30) = H.upd b2 (.cells zeroA.cells.toArray 30) := rfl
  rw [hH2']
  have n2 : H0 b2 = none := Upd.none (S := []) d.base (by simp) hb2
  have d2 := d.upd0 u2
  generalize hH2 : H.upd b2 (.cells zeroA.cells.toArray 30) = H2 at u2 o2 d2
  obtain ⟨v1, r1, e1⟩ : ∃ v r, (⟨l, 0⟩ : R).number 1 = (v, r) := ⟨_, _, rfl⟩
  obtain ⟨v2, r2, e2⟩ : ∃ v r, r1.number 1 = (v, r) := ⟨_, _, rfl⟩
  obtain ⟨v3, r3, e3⟩ : ∃ v r, r2.number 8 = (v, r) := ⟨_, _, rfl⟩
  have q1 : v1 < 256 := by have := number_lt (r := (⟨l, 0⟩ : R)) 1; rw [e1] at this; exact this
  have q2 : v2 < 256 := by have := number_lt (r := r1) 1; rw [e2] at this; exact this
  have hR : readBody l = rdM v1 v2 v3 (rdKind v1 r3) := by
    unfold readBody; rw [e1]; unfold rdK; dsimp only; rw [e2]; unfold rdC; dsimp only; rw [e3]; rfl
  (repeat first | refine HReg.step ?_ | refine HCode.step ?_)
  refine HCall.mk ⟨Tryz.f18, Tryz.func18, by rfl, by rfl⟩ ?_
  refine ru8_t d2 fun H3 d3 u3 => ?_
  obtain ⟨xs2, og2⟩ := d2.row
  have o3 := o2.upd u3 (og2.offT o2 (by decide))
  rw [e1] at d3 ⊢
  (repeat first | refine HReg.step ?_ | refine HCode.step ?_)
  refine HCall.mk ⟨Tryz.f18, Tryz.func18, by rfl, by rfl⟩ ?_
  refine ru8_t d3 fun H4 d4 u4 => ?_
  obtain ⟨xs3, og3⟩ := d3.row
  have o4 := o3.upd u4 (og3.offT o3 (by decide))
  have d4 : RAt H0 H4 g S r2 := by have := d4; dsimp only at this; rw [e2] at this; exact this
  (repeat first | refine HReg.step ?_ | refine HCode.step ?_)
  refine HCall.mk ⟨Tryz.f19, Tryz.func19, by rfl, by rfl⟩ ?_
  refine ru64_t d4 fun H5 d5 u5 => ?_
  obtain ⟨xs4, og4⟩ := d4.row
  have o5 := o4.upd u5 (og4.offT o4 (by decide))
  rw [e3] at d5 ⊢
  dsimp only at d5 ⊢
  rw [e2]
  have w1 : wr .i64 (v1 : Int) = (v1 : Int) := by rw [wr_i64 (by omega) (by omega)]
  have w2 : wr .i64 (v2 : Int) = (v2 : Int) := by rw [wr_i64 (by omega) (by omega)]
  (repeat first | refine HReg.step ?_ | refine HCode.step ?_)
  rw [w1, w2]
  refine HNew.mk fun b3 hb3 => ?_
  (repeat first | refine HReg.step ?_ | refine HCode.step ?_)
  refine store_msg (x := msg0 v1 v2 v3 0) (OwnRow.lit (upd_same _ _ _) rfl) rfl fun H6 o6 u6 => ?_
  have u56 : Upd [] H5 H6 := Upd.drop (Upd.new hb3 _) u6 (fun x hx => by rw [List.mem_singleton.1 hx]; exact hb3)
  have s : RdS H0 b2 b3 g S r3 (msg0 v1 v2 v3 0) H6 := ⟨d5.upd0 u56, o6, msg0_new _ _ _ _ _ _, o5.upd u56 (Off.nil _), Upd.none (S := []) d5.base (by simp) hb3, n2, fun e => by subst e; exact o5.there rfl hb3⟩
  clear u2 u3 u4 u5 u56 u6 o6 o5 o4 o3 o2 d2 d3 d4 d5 og2 og3 og4
  (repeat first | refine HReg.step ?_ | refine HCode.step ?_)
  refine HLoad.one (v := .int .i64 (v1 : Int)) (by exact s.o.rows.get (i := 0) rfl) ?_
  (repeat first | refine HReg.step ?_ | refine HCode.step ?_)
  by_cases h1 : v1 = 1
  · rw [show eqB ((v1 : Nat) : Int) 1 = true from eqB_true.2 (by omega)]
    subst h1
    obtain ⟨v4, r4, e4⟩ : ∃ v r, r3.number 8 = (v, r) := ⟨_, _, rfl⟩
    obtain ⟨kl, r5, e5⟩ : ∃ v r, r4.texts 1024 65535 = (v, r) := ⟨_, _, rfl⟩
    obtain ⟨nc, r6, e6⟩ : ∃ v r, r5.count 1024 = (v, r) := ⟨_, _, rfl⟩
    have hnc : nc ≤ 1024 := by have := count_le r5 1024; rw [show ((1024 : Nat) : Int) = 1024 from rfl, e6] at this; exact this
    have hkl : kl.length ≤ 4294967296 := by have := texts_lenR r4 1024 65535; rw [e5] at this; exact this
    have hR : readBody l = rdM 1 v2 v3 (rd1c v4 kl (pairsG nc r6)) := by
      rw [hR]; unfold rdKind; rw [if_pos rfl, e4]; unfold rd1a; dsimp only; rw [e5]; unfold rd1b; dsimp only; rw [e6]
    have fin : ∀ (x : MsgA) H', x.m = (rdM 1 v2 v3 (rd1c v4 kl (pairsG nc r6))).1 → MsgNew H0 H' x → RAt H0 H' g S (pairsG nc r6).2 → K x.val H' := fun x H' hx n dd => hk x H' (by rw [hR]; exact hx) n (by rw [hR]; exact dd)
    (repeat first | refine HReg.step ?_ | refine HCode.step ?_)
    refine HCall.mk ⟨Tryz.f19, Tryz.func19, by rfl, by rfl⟩ ?_
    refine ru64_t s.d fun H7 d7 u7 => ?_
    have s := s.go d7 u7
    rw [e4] at s ⊢
    dsimp only at s ⊢
    (repeat first | refine HReg.step ?_ | refine HCode.step ?_)
    refine store_row s.o (v := .int .u64 (v4 : Int)) rfl (i := 3) (by decide) (by rfl) fun H8 o8 u8_ => ?_
    have s : RdS H0 b2 b3 g S r4 (msg0 1 v2 v3 v4) H8 := s.set (msg0_new _ _ _ _ _ _) o8 u8_
    (repeat first | refine HReg.step ?_ | refine HCode.step ?_)
    refine HCall.mk ⟨Tryz.f20, Tryz.func20, by rfl, by rfl⟩ ?_
    refine rtexts_t s.d (by decide) (by decide) fun a9 c9 H9 d9 u9 o9 f9 => ?_
    have kn9 : ∀ b ∈ blk a9, H0 b = none := fun b hb => by
      obtain ⟨p, hp, rfl⟩ := blk_of hb
      exact Upd.none (S := []) s.d.base (by simp) (f9 p hp)
    have s := s.go d9 u9
    rw [e5] at s o9 ⊢
    dsimp only at s o9 ⊢
    (repeat first | refine HReg.step ?_ | refine HCode.step ?_)
    refine store_row s.o (v := .slice a9 kl.length c9) rfl (i := 5) (by decide) (by rfl) fun H10 o10 u10 => ?_
    have n9 : MsgNew H0 H9 { msg0 1 v2 v3 v4 with ks := kl, ak := a9, ck := c9 } :=
      ⟨s.n.p, o9, s.n.w, s.n.v, s.n.vk, s.n.pn, kn9, s.n.wn, s.n.vn, s.n.vkn, s.n.np, hkl, s.n.nw, s.n.nv, s.n.nvk, fun h => absurd rfl h⟩
    have s : RdS H0 b2 b3 g S r5 { msg0 1 v2 v3 v4 with ks := kl, ak := a9, ck := c9 } H10 := s.set n9 o10 u10
    (repeat first | refine HReg.step ?_ | refine HCode.step ?_)
    refine HCall.mk ⟨Tryz.f21, Tryz.func21, by rfl, by rfl⟩ ?_
    refine count_t s.d (by decide) fun H11 d11 u11 => ?_
    have s := s.go d11 u11
    rw [e6] at s ⊢
    dsimp only at s ⊢
    (repeat first | refine HReg.step ?_ | refine HCode.step ?_)
    refine hloopC [29, 30, 31, 32, 33, 34, 35, 36, 37, 38, 39, 40, 41] [29] (RpInv H0 b2 b3 g S { msg0 1 v2 v3 v4 with ks := kl, ak := a9, ck := c9 } nc r6) rfl (by repeat' first | exact Resp.retD | exact Resp1.valuesK | refine Resp.blockD ?_ | refine Resp.thenD ?_ ?_ | refine Resp.hcode ?_) ?_ ?_
    · exact ⟨nc, RpInv.mk ⟨[], r6, none, 0, by rw [Nat.sub_self]; rfl, Nat.zero_add _, rfl, s⟩⟩
    clear s n9 u8_ o8 u10 o10 d7 d9 d11 u7 u9 u11
    rintro m _ fe H8 ⟨ps, r', ap, cp, rfl, hm, hpp, s⟩
    (repeat first | refine HReg.step ?_ | refine HCode.step ?_)
    refine hif (fun h2 => ?_) (fun h2 => ?_)
    · have h2 := ltB_true.1 h2
      obtain ⟨q, rfl⟩ : ∃ q, m = q + 1 := ⟨m - 1, by omega⟩
      have wq : wr .i64 (((nc - (q + 1) : Nat) : Int) + 1) = ((nc - q : Nat) : Int) := by rw [wr_i64 (by omega) (by omega)]; omega
      have hpq : pairsG (q + 1) r' = (((r'.text 65535).1, ((r'.text 65535).2.text 65535).1) :: (pairsG q ((r'.text 65535).2.text 65535).2).1, (pairsG q ((r'.text 65535).2.text 65535).2).2) := rfl
      (repeat first | refine HReg.step ?_ | refine HCode.step ?_)
      refine HCall.mk ⟨Tryz.f22, Tryz.func22, by rfl, by rfl⟩ ?_
      refine rtext_t s.d (by decide) fun H9 d9 u9 => ?_
      have s9 := s.go d9 u9
      (repeat first | refine HReg.step ?_ | refine HCode.step ?_)
      refine HCall.mk ⟨Tryz.f22, Tryz.func22, by rfl, by rfl⟩ ?_
      refine rtext_t d9 (by decide) fun H10 d10 u10 => ?_
      have s10 := s9.go d10 u10
      generalize (r'.text 65535).1 = k1 at *
      generalize ((r'.text 65535).2.text 65535).1 = v1' at *
      generalize ((r'.text 65535).2.text 65535).2 = r10 at *
      (repeat first | refine HReg.step ?_ | refine HCode.step ?_)
      refine HReq.mk (by decide) ?_
      (repeat first | refine HReg.step ?_ | refine HCode.step ?_)
      refine HNew.mk fun b11 hb11 => ?_
      have u11 : Upd [] H10 (H10.upd b11 (.cells [Value.string (bs k1), .string (bs v1')].toArray 50)) := Upd.new hb11 _
      have r11 : RowAt (H10.upd b11 (.cells [Value.string (bs k1), .string (bs v1')].toArray 50)) (some ⟨b11, 0, none⟩) (pairsV [(k1, v1')]) := RowAt.of_cells (upd_same _ _ _)
      generalize hH11 : H10.upd b11 (.cells [Value.string (bs k1), .string (bs v1')].toArray 50) = H11 at u11 r11
      have s11 := s10.upd0 u11
      (repeat first | refine HReg.step ?_ | refine HCode.step ?_)
      refine HLoad_four (v := .slice ap ps.length cp) (by exact s11.o.rows.get (i := 4) rfl) (by exact s10.o.rows.get (i := 4) rfl) (by exact s9.o.rows.get (i := 4) rfl) (by exact s.o.rows.get (i := 4) rfl) ?_
      (repeat first | refine HReg.step ?_ | refine HCode.step ?_)
      refine append_rows (ie := Tryz.t50) (z := .agg #[.string ⟨#[]⟩, .string ⟨#[]⟩]) (xs := pairsV ps) (ys := pairsV [(k1, v1')]) Tryz.underlying25 rfl rfl rfl (by decide) s11.n.p r11 rfl (plain_pairs _) (by show (ps.length + 1) * 32 ≤ _; omega) (by omega) fun a12 c12 H12 o12 u12 f12 => ?_
      rw [← pairsV_append] at o12
      obtain ⟨d12, ox12, o212⟩ := s11.grow s11.n.p s11.n.pn (by decide) u12
      have pn12 := new_blk f12 s11.n.pn s11.d.base
      have hlen : (ps ++ [(k1, v1')]).length = ps.length + 1 := by simp
      have n12 : MsgNew H0 H12 { msg0 1 v2 v3 v4 with ks := kl, ak := a9, ck := c9, ps := ps ++ [(k1, v1')], ap := a12, cp := c12 } :=
        ⟨by show OwnRow H12 50 2 a12 (ps ++ [(k1, v1')]).length c12 _; rw [hlen]; exact o12, s11.n.k.upd u12 (s11.n.p.offT s11.n.k (by decide)), s11.n.w.upd u12 (s11.n.p.offT s11.n.w (by decide)), s11.n.v.upd u12 (s11.n.p.offT s11.n.v (by decide)), fun y hy => by simp [msg0] at hy, pn12, s11.n.kn, s11.n.wn, s11.n.vn, s11.n.vkn, by show (ps ++ [(k1, v1')]).length ≤ 1024; rw [hlen]; omega, s11.n.nk, s11.n.nw, s11.n.nv, s11.n.nvk, s11.n.one⟩
      have s12 : RdS H0 b2 b3 g S r10 { msg0 1 v2 v3 v4 with ks := kl, ak := a9, ck := c9, ps := ps, ap := ap, cp := cp } H12 → True := fun _ => trivial
      (repeat first | refine HReg.step ?_ | refine HCode.step ?_)
      refine store_row ox12 (v := .slice a12 (ps.length + 1) c12) rfl (i := 4) (by decide) (by rfl) fun H13 o13 u13 => ?_
      have o13 : OwnRow H13 30 1 (some ⟨b3, 0, none⟩) 8 8 ({ msg0 1 v2 v3 v4 with ks := kl, ak := a9, ck := c9, ps := ps ++ [(k1, v1')], ap := a12, cp := c12 } : MsgA).cells := by
        unfold MsgA.cells; rw [hlen]; exact o13
      have s13 : RdS H0 b2 b3 g S r10 { msg0 1 v2 v3 v4 with ks := kl, ak := a9, ck := c9, ps := ps ++ [(k1, v1')], ap := a12, cp := c12 } H13 :=
        ⟨d12.upd u13 (fun b hb hb' => d12.apart ox12 (by decide) (by decide) b3 (by simp [blk]) (by rw [← List.mem_singleton.1 hb']; exact hb)) (fun b hb => by rw [List.mem_singleton.1 hb]; exact s11.n3), o13, n12.off ox12 (by decide) u13, o212.upd u13 (fun p hp hb => by cases hp; exact s11.ne (List.mem_singleton.1 hb)), s11.n3, s11.n2, s11.ne⟩
      (repeat first | refine HReg.step ?_ | refine HCode.step ?_)
      rw [wq]
      refine ⟨q, by omega, RpInv.mk ⟨ps ++ [(k1, v1')], r10, a12, c12, rfl, by rw [hlen]; omega, ?_, s13⟩⟩
      rw [hpp, hpq]; simp
    · have h2 := ltB_false.1 h2
      have hm0 : m = 0 := by omega
      subst hm0
      have hp0 : pairsG nc r6 = (ps, r') := by rw [hpp]; show (ps ++ [], r') = _; rw [List.append_nil]
      rw [hp0] at fin
      (repeat first | refine HReg.step ?_ | refine HCode.step ?_)
      refine HLoadN_row s.o.rows rfl ?_
      (repeat first | refine HReg.step ?_ | refine HCode.step ?_)
      refine store_msg (x := { msg0 1 v2 v3 v4 with ks := kl, ak := a9, ck := c9, ps := ps, ap := ap, cp := cp }) s.o2 rfl fun H9 o9 u9 => ?_
      (repeat first | refine HReg.step ?_ | refine HCode.step ?_)
      refine HLoadN_row o9.rows rfl ?_
      refine fin { msg0 1 v2 v3 v4 with ks := kl, ak := a9, ck := c9, ps := ps, ap := ap, cp := cp } H9 rfl (s.n.off s.o2 (by decide) u9) (s.d.upd u9 (fun b hb hb' => s.d.apart s.o2 (by decide) (by decide) b2 (by simp [blk]) (by rw [← List.mem_singleton.1 hb']; exact hb)) (fun b hb => by rw [List.mem_singleton.1 hb]; exact s.n2))
  rw [show eqB ((v1 : Nat) : Int) 1 = false from eqB_false.2 (by omega)]
  (repeat first | refine HReg.step ?_ | refine HCode.step ?_)
  by_cases h3 : v1 = 3
  · rw [show eqB ((v1 : Nat) : Int) 3 = true from eqB_true.2 (by omega)]
    subst h3
    obtain ⟨kl, r5, e5⟩ : ∃ v r, r3.texts 1024 65535 = (v, r) := ⟨_, _, rfl⟩
    have hkl : kl.length ≤ 4294967296 := by have := texts_lenR r3 1024 65535; rw [e5] at this; exact this
    have hR : readBody l = rdM 3 v2 v3 (rd3 (kl, r5)) := by
      rw [hR]; unfold rdKind; rw [if_neg (by decide), if_pos rfl, e5]
    have fin : ∀ (x : MsgA) H', x.m = (rdM 3 v2 v3 (rd3 (kl, r5))).1 → MsgNew H0 H' x → RAt H0 H' g S r5 → K x.val H' := fun x H' hx n dd => hk x H' (by rw [hR]; exact hx) n (by rw [hR]; exact dd)
    (repeat first | refine HReg.step ?_ | refine HCode.step ?_)
    refine HCall.mk ⟨Tryz.f20, Tryz.func20, by rfl, by rfl⟩ ?_
    refine rtexts_t s.d (by decide) (by decide) fun a9 c9 H9 d9 u9 o9 f9 => ?_
    have kn9 : ∀ b ∈ blk a9, H0 b = none := fun b hb => by
      obtain ⟨p, hp, rfl⟩ := blk_of hb
      exact Upd.none (S := []) s.d.base (by simp) (f9 p hp)
    have s := s.go d9 u9
    rw [e5] at s o9 ⊢
    dsimp only at s o9 ⊢
    (repeat first | refine HReg.step ?_ | refine HCode.step ?_)
    refine store_row s.o (v := .slice a9 kl.length c9) rfl (i := 5) (by decide) (by rfl) fun H10 o10 u10 => ?_
    have n9 : MsgNew H0 H9 { msg0 3 v2 v3 0 with ks := kl, ak := a9, ck := c9 } :=
      ⟨s.n.p, o9, s.n.w, s.n.v, s.n.vk, s.n.pn, kn9, s.n.wn, s.n.vn, s.n.vkn, s.n.np, hkl, s.n.nw, s.n.nv, s.n.nvk, fun h => absurd rfl h⟩
    have s : RdS H0 b2 b3 g S r5 { msg0 3 v2 v3 0 with ks := kl, ak := a9, ck := c9 } H10 := s.set n9 o10 u10
    (repeat first | refine HReg.step ?_ | refine HCode.step ?_)
    refine HLoadN_row s.o.rows rfl ?_
    (repeat first | refine HReg.step ?_ | refine HCode.step ?_)
    refine store_msg (x := { msg0 3 v2 v3 0 with ks := kl, ak := a9, ck := c9 }) s.o2 rfl fun H9 o9 u9 => ?_
    (repeat first | refine HReg.step ?_ | refine HCode.step ?_)
    refine HLoadN_row o9.rows rfl ?_
    refine fin { msg0 3 v2 v3 0 with ks := kl, ak := a9, ck := c9 } H9 rfl (s.n.off s.o2 (by decide) u9) (s.d.upd u9 (fun b hb hb' => s.d.apart s.o2 (by decide) (by decide) b2 (by simp [blk]) (by rw [← List.mem_singleton.1 hb']; exact hb)) (fun b hb => by rw [List.mem_singleton.1 hb]; exact s.n2))
  rw [show eqB ((v1 : Nat) : Int) 3 = false from eqB_false.2 (by omega)]
  (repeat first | refine HReg.step ?_ | refine HCode.step ?_)
  by_cases h4 : v1 = 4
  · rw [show eqB ((v1 : Nat) : Int) 4 = true from eqB_true.2 (by omega)]
    subst h4
    obtain ⟨nc, r6, e6⟩ : ∃ v r, r3.count 1024 = (v, r) := ⟨_, _, rfl⟩
    have hnc : nc ≤ 1024 := by have := count_le r3 1024; rw [show ((1024 : Nat) : Int) = 1024 from rfl, e6] at this; exact this
    have hR : readBody l = rdM 4 v2 v3 (rd4a (wantsG nc r6)) := by
      rw [hR]; unfold rdKind; rw [if_neg (by decide), if_neg (by decide), if_pos rfl, e6]; rfl
    have fin : ∀ (x : MsgA) H', x.m = (rdM 4 v2 v3 (rd4a (wantsG nc r6))).1 → MsgNew H0 H' x → RAt H0 H' g S (wantsG nc r6).2 → K x.val H' := fun x H' hx n dd => hk x H' (by rw [hR]; exact hx) n (by rw [hR]; exact dd)
    (repeat first | refine HReg.step ?_ | refine HCode.step ?_)
    refine HCall.mk ⟨Tryz.f21, Tryz.func21, by rfl, by rfl⟩ ?_
    refine count_t s.d (by decide) fun H11 d11 u11 => ?_
    have s := s.go d11 u11
    rw [e6] at s ⊢
    dsimp only at s ⊢
    (repeat first | refine HReg.step ?_ | refine HCode.step ?_)
    refine hloopC [51, 52, 53, 54, 55, 56, 57, 58, 59, 60, 61, 62, 63] [51] (RwInv H0 b2 b3 g S (msg0 4 v2 v3 0) nc r6) rfl (by repeat' first | exact Resp.retD | exact Resp1.valuesK | refine Resp.blockD ?_ | refine Resp.thenD ?_ ?_ | refine Resp.hcode ?_) ?_ ?_
    · exact ⟨nc, RwInv.mk ⟨[], r6, none, 0, by rw [Nat.sub_self]; rfl, Nat.zero_add _, rfl, s⟩⟩
    clear s d11 u11
    rintro m _ fe H8 ⟨ws, r', aw, cw, rfl, hm, hpp, s⟩
    (repeat first | refine HReg.step ?_ | refine HCode.step ?_)
    refine hif (fun h2 => ?_) (fun h2 => ?_)
    · have h2 := ltB_true.1 h2
      obtain ⟨q, rfl⟩ : ∃ q, m = q + 1 := ⟨m - 1, by omega⟩
      have wq : wr .i64 (((nc - (q + 1) : Nat) : Int) + 1) = ((nc - q : Nat) : Int) := by rw [wr_i64 (by omega) (by omega)]; omega
      have hpq : wantsG (q + 1) r' = (((r'.text 65535).1, ((r'.text 65535).2.number 8).1) :: (wantsG q ((r'.text 65535).2.number 8).2).1, (wantsG q ((r'.text 65535).2.number 8).2).2) := rfl
      (repeat first | refine HReg.step ?_ | refine HCode.step ?_)
      refine HCall.mk ⟨Tryz.f22, Tryz.func22, by rfl, by rfl⟩ ?_
      refine rtext_t s.d (by decide) fun H9 d9 u9 => ?_
      have s9 := s.go d9 u9
      (repeat first | refine HReg.step ?_ | refine HCode.step ?_)
      refine HCall.mk ⟨Tryz.f19, Tryz.func19, by rfl, by rfl⟩ ?_
      refine ru64_t d9 fun H10 d10 u10 => ?_
      have s10 := s9.go d10 u10
      generalize (r'.text 65535).1 = k1 at *
      generalize ((r'.text 65535).2.number 8).1 = v1' at *
      generalize ((r'.text 65535).2.number 8).2 = r10 at *
      (repeat first | refine HReg.step ?_ | refine HCode.step ?_)
      refine HReq.mk (by decide) ?_
      (repeat first | refine HReg.step ?_ | refine HCode.step ?_)
      refine HNew.mk fun b11 hb11 => ?_
      have u11 : Upd [] H10 (H10.upd b11 (.cells [Value.string (bs k1), .int .u64 (v1' : Int)].toArray 54)) := Upd.new hb11 _
      have r11 : RowAt (H10.upd b11 (.cells [Value.string (bs k1), .int .u64 (v1' : Int)].toArray 54)) (some ⟨b11, 0, none⟩) (wantsV [(k1, v1')]) := RowAt.of_cells (upd_same _ _ _)
      generalize hH11 : H10.upd b11 (.cells [Value.string (bs k1), .int .u64 (v1' : Int)].toArray 54) = H11 at u11 r11
      have s11 := s10.upd0 u11
      (repeat first | refine HReg.step ?_ | refine HCode.step ?_)
      refine HLoad_four (v := .slice aw ws.length cw) (by exact s11.o.rows.get (i := 6) rfl) (by exact s10.o.rows.get (i := 6) rfl) (by exact s9.o.rows.get (i := 6) rfl) (by exact s.o.rows.get (i := 6) rfl) ?_
      (repeat first | refine HReg.step ?_ | refine HCode.step ?_)
      refine append_rows (ie := Tryz.t54) (z := .agg #[.string ⟨#[]⟩, .int .u64 0]) (xs := wantsV ws) (ys := wantsV [(k1, v1')]) Tryz.underlying27 rfl rfl rfl (by decide) s11.n.w r11 rfl (plain_wants _) (by show (ws.length + 1) * 24 ≤ _; omega) (by omega) fun a12 c12 H12 o12 u12 f12 => ?_
      rw [← wantsV_append] at o12
      obtain ⟨d12, ox12, o212⟩ := s11.grow s11.n.w s11.n.wn (by decide) u12
      have wn12 := new_blk f12 s11.n.wn s11.d.base
      have hlen : (ws ++ [(k1, v1')]).length = ws.length + 1 := by simp
      have n12 : MsgNew H0 H12 { msg0 4 v2 v3 0 with ws := ws ++ [(k1, v1')], aw := a12, cw := c12 } :=
        ⟨s11.n.p.upd u12 (s11.n.w.offT s11.n.p (by decide)), s11.n.k.upd u12 (s11.n.w.offT s11.n.k (by decide)), by show OwnRow H12 54 2 a12 (ws ++ [(k1, v1')]).length c12 _; rw [hlen]; exact o12, s11.n.v.upd u12 (s11.n.w.offT s11.n.v (by decide)), fun y hy => by simp [msg0] at hy, s11.n.pn, s11.n.kn, wn12, s11.n.vn, s11.n.vkn, s11.n.np, s11.n.nk, by show (ws ++ [(k1, v1')]).length ≤ 1024; rw [hlen]; omega, s11.n.nv, s11.n.nvk, s11.n.one⟩
      (repeat first | refine HReg.step ?_ | refine HCode.step ?_)
      refine store_row ox12 (v := .slice a12 (ws.length + 1) c12) rfl (i := 6) (by decide) (by rfl) fun H13 o13 u13 => ?_
      have o13 : OwnRow H13 30 1 (some ⟨b3, 0, none⟩) 8 8 ({ msg0 4 v2 v3 0 with ws := ws ++ [(k1, v1')], aw := a12, cw := c12 } : MsgA).cells := by
        unfold MsgA.cells; rw [hlen]; exact o13
      have s13 : RdS H0 b2 b3 g S r10 { msg0 4 v2 v3 0 with ws := ws ++ [(k1, v1')], aw := a12, cw := c12 } H13 :=
        ⟨d12.upd u13 (fun b hb hb' => d12.apart ox12 (by decide) (by decide) b3 (by simp [blk]) (by rw [← List.mem_singleton.1 hb']; exact hb)) (fun b hb => by rw [List.mem_singleton.1 hb]; exact s11.n3), o13, n12.off ox12 (by decide) u13, o212.upd u13 (fun p hp hb => by cases hp; exact s11.ne (List.mem_singleton.1 hb)), s11.n3, s11.n2, s11.ne⟩
      (repeat first | refine HReg.step ?_ | refine HCode.step ?_)
      rw [wq]
      refine ⟨q, by omega, RwInv.mk ⟨ws ++ [(k1, v1')], r10, a12, c12, rfl, by rw [hlen]; omega, ?_, s13⟩⟩
      rw [hpp, hpq]; simp
    · have h2 := ltB_false.1 h2
      have hm0 : m = 0 := by omega
      subst hm0
      have hp0 : wantsG nc r6 = (ws, r') := by rw [hpp]; show (ws ++ [], r') = _; rw [List.append_nil]
      rw [hp0] at fin
      (repeat first | refine HReg.step ?_ | refine HCode.step ?_)
      refine HLoadN_row s.o.rows rfl ?_
      (repeat first | refine HReg.step ?_ | refine HCode.step ?_)
      refine store_msg (x := { msg0 4 v2 v3 0 with ws := ws, aw := aw, cw := cw }) s.o2 rfl fun H9 o9 u9 => ?_
      (repeat first | refine HReg.step ?_ | refine HCode.step ?_)
      refine HLoadN_row o9.rows rfl ?_
      refine fin { msg0 4 v2 v3 0 with ws := ws, aw := aw, cw := cw } H9 rfl (s.n.off s.o2 (by decide) u9) (s.d.upd u9 (fun b hb hb' => s.d.apart s.o2 (by decide) (by decide) b2 (by simp [blk]) (by rw [← List.mem_singleton.1 hb']; exact hb)) (fun b hb => by rw [List.mem_singleton.1 hb]; exact s.n2))
  rw [show eqB ((v1 : Nat) : Int) 4 = false from eqB_false.2 (by omega)]
  (repeat first | refine HReg.step ?_ | refine HCode.step ?_)
  by_cases h7 : v1 = 7
  · rw [show eqB ((v1 : Nat) : Int) 7 = true from eqB_true.2 (by omega)]
    subst h7
    obtain ⟨ky, r5, e5⟩ : ∃ v r, r3.text 65535 = (v, r) := ⟨_, _, rfl⟩
    obtain ⟨vi, r6, e6⟩ : ∃ v r, r5.number 8 = (v, r) := ⟨_, _, rfl⟩
    have hR : readBody l = rdM 7 v2 v3 (rd7 (rd7b ky (vi, r6))) := by
      rw [hR]; unfold rdKind; rw [if_neg (by decide), if_neg (by decide), if_neg (by decide), if_pos rfl, e5]; unfold rd7a; dsimp only; rw [e6]
    (repeat first | refine HReg.step ?_ | refine HCode.step ?_)
    refine HCall.mk ⟨Tryz.f22, Tryz.func22, by rfl, by rfl⟩ ?_
    refine rtext_t s.d (by decide) fun H7 d7 u7 => ?_
    have s := s.go d7 u7
    rw [e5] at s ⊢
    dsimp only at s ⊢
    (repeat first | refine HReg.step ?_ | refine HCode.step ?_)
    refine HCall.mk ⟨Tryz.f19, Tryz.func19, by rfl, by rfl⟩ ?_
    refine ru64_t s.d fun H8 d8 u8_ => ?_
    have s := s.go d8 u8_
    rw [e6] at s ⊢
    dsimp only at s ⊢
    (repeat first | refine HReg.step ?_ | refine HCode.step ?_)
    refine HNew.mk fun b4 hb4 => ?_
    (repeat first | refine HReg.step ?_ | refine HCode.step ?_)
    refine store_ver (x := ⟨⟨ky, vi, [], []⟩, none, 0⟩) (OwnRow.lit (upd_same _ _ _) rfl) rfl fun H9 o9 u9 => ?_
    have u89 : Upd [] H8 H9 := Upd.drop (Upd.new hb4 _) u9 (fun x hx => by rw [List.mem_singleton.1 hx]; exact hb4)
    have n4 : H0 b4 = none := Upd.none (S := []) s.d.base (by simp) hb4
    have s := s.upd0 u89
    (repeat first | refine HReg.step ?_ | refine HCode.step ?_)
    refine HLoad.one (v := .int .u64 (vi : Int)) (by exact o9.rows.get (i := 1) rfl) ?_
    (repeat first | refine HReg.step ?_ | refine HCode.step ?_)
    by_cases h0 : vi = 0
    · rw [show eqB ((vi : Nat) : Int) 0 = true from eqB_true.2 (by omega)]
      subst h0
      have fin : ∀ (x : MsgA) H', x.m = (rdM 7 v2 v3 (rd7 (⟨ky, 0, [], []⟩, r6))).1 → MsgNew H0 H' x → RAt H0 H' g S r6 → K x.val H' := fun x H' hx n dd => hk x H' (by rw [hR]; exact hx) n (by rw [hR]; exact dd)
      (repeat first | refine HReg.step ?_ | refine HCode.step ?_)
      refine HLoadN_row o9.rows rfl ?_
      (repeat first | refine HReg.step ?_ | refine HCode.step ?_)
      refine HReq.mk (by decide) ?_
      (repeat first | refine HReg.step ?_ | refine HCode.step ?_)
      refine HNew.mk fun b5 hb5 => ?_
      have n5 : H0 b5 = none := Upd.none (S := []) s.d.base (by simp) hb5
      have nn := ver_new (k := 7) (c := v2) (q := v3) (i := 0) (v := ⟨⟨ky, 0, [], []⟩, none, 0⟩) hb5 n5 (OwnRow.nil _ _ _) (fun b hb => by simp [blk] at hb) (Nat.zero_le _)
      have s := s.upd0 (Upd.new hb5 (.cells (⟨⟨ky, 0, [], []⟩, none, 0⟩ : VerA).cells.toArray 56))
      (repeat first | refine HReg.step ?_ | refine HCode.step ?_)
      refine store_row s.o (v := .slice (some ⟨b5, 0, none⟩) 1 1) rfl (i := 7) (by decide) (by rfl) fun H20 o20 u20 => ?_
      have s : RdS H0 b2 b3 g S r6 { msg0 7 v2 v3 0 with vs := [⟨⟨ky, 0, [], []⟩, none, 0⟩], av := some ⟨b5, 0, none⟩, cv := 1 } H20 := s.set nn o20 u20
      (repeat first | refine HReg.step ?_ | refine HCode.step ?_)
      refine HLoadN_row s.o.rows rfl ?_
      (repeat first | refine HReg.step ?_ | refine HCode.step ?_)
      refine store_msg (x := { msg0 7 v2 v3 0 with vs := [⟨⟨ky, 0, [], []⟩, none, 0⟩], av := some ⟨b5, 0, none⟩, cv := 1 }) s.o2 rfl fun H9 o9 u9 => ?_
      (repeat first | refine HReg.step ?_ | refine HCode.step ?_)
      refine HLoadN_row o9.rows rfl ?_
      exact fin { msg0 7 v2 v3 0 with vs := [⟨⟨ky, 0, [], []⟩, none, 0⟩], av := some ⟨b5, 0, none⟩, cv := 1 } H9 rfl (s.n.off s.o2 (by decide) u9) (s.d.upd u9 (fun b hb hb' => s.d.apart s.o2 (by decide) (by decide) b2 (by simp [blk]) (by rw [← List.mem_singleton.1 hb']; exact hb)) (fun b hb => by rw [List.mem_singleton.1 hb]; exact s.n2))
    · rw [show eqB ((vi : Nat) : Int) 0 = false from eqB_false.2 (by omega)]
      obtain ⟨vl, r7, e7⟩ : ∃ v r, r6.text 65535 = (v, r) := ⟨_, _, rfl⟩
      obtain ⟨kl, r8, e8⟩ : ∃ v r, r7.texts 1024 65535 = (v, r) := ⟨_, _, rfl⟩
      have hkl : kl.length ≤ 4294967296 := by have := texts_lenR r7 1024 65535; rw [e8] at this; exact this
      have hR : readBody l = rdM 7 v2 v3 (rd7 (⟨ky, vi, vl, kl⟩, r8)) := by
        rw [hR]; unfold rd7b; dsimp only; rw [if_neg h0, e7]; unfold rd7c; dsimp only; rw [e8]; rfl
      have fin : ∀ (x : MsgA) H', x.m = (rdM 7 v2 v3 (rd7 (⟨ky, vi, vl, kl⟩, r8))).1 → MsgNew H0 H' x → RAt H0 H' g S r8 → K x.val H' := fun x H' hx n dd => hk x H' (by rw [hR]; exact hx) n (by rw [hR]; exact dd)
      (repeat first | refine HReg.step ?_ | refine HCode.step ?_)
      refine HCall.mk ⟨Tryz.f22, Tryz.func22, by rfl, by rfl⟩ ?_
      refine rtext_t s.d (by decide) fun H10 d10 u10 => ?_
      obtain ⟨xs, og⟩ := s.d.row
      have o10 := o9.upd u10 (og.offT o9 (by decide))
      have s := s.go d10 u10
      rw [e7] at s ⊢
      dsimp only at s ⊢
      (repeat first | refine HReg.step ?_ | refine HCode.step ?_)
      refine store_row o10 (v := .string (bs vl)) rfl (i := 2) (by decide) (by rfl) fun H11 o11 u11 => ?_
      have o11 : OwnRow H11 56 1 (some ⟨b4, 0, none⟩) 4 4 (⟨⟨ky, vi, vl, []⟩, none, 0⟩ : VerA).cells := o11
      have s := s.side o10 n4 u11
      (repeat first | refine HReg.step ?_ | refine HCode.step ?_)
      refine HCall.mk ⟨Tryz.f20, Tryz.func20, by rfl, by rfl⟩ ?_
      refine rtexts_t s.d (by decide) (by decide) fun a12 c12 H12 d12 u12 o12 f12 => ?_
      have kn12 : ∀ b ∈ blk a12, H0 b = none := fun b hb => by
        obtain ⟨p, hp, rfl⟩ := blk_of hb
        exact Upd.none (S := []) s.d.base (by simp) (f12 p hp)
      obtain ⟨xs, og⟩ := s.d.row
      have o412 := o11.upd u12 (og.offT o11 (by decide))
      have s := s.go d12 u12
      rw [e8] at s o12 ⊢
      dsimp only at s o12 ⊢
      (repeat first | refine HReg.step ?_ | refine HCode.step ?_)
      refine store_row o412 (v := .slice a12 kl.length c12) rfl (i := 3) (by decide) (by rfl) fun H13 o13 u13 => ?_
      have o13 : OwnRow H13 56 1 (some ⟨b4, 0, none⟩) 4 4 (⟨⟨ky, vi, vl, kl⟩, a12, c12⟩ : VerA).cells := o13
      have s := s.side o412 n4 u13
      have ok13 := o12.upd u13 (o412.offT o12 (by decide))
      (repeat first | refine HReg.step ?_ | refine HCode.step ?_)
      refine HLoadN_row o13.rows rfl ?_
      (repeat first | refine HReg.step ?_ | refine HCode.step ?_)
      refine HReq.mk (by decide) ?_
      (repeat first | refine HReg.step ?_ | refine HCode.step ?_)
      refine HNew.mk fun b5 hb5 => ?_
      have n5 : H0 b5 = none := Upd.none (S := []) s.d.base (by simp) hb5
      have nn := ver_new (k := 7) (c := v2) (q := v3) (i := 0) (v := ⟨⟨ky, vi, vl, kl⟩, a12, c12⟩) hb5 n5 ok13 kn12 hkl
      have s := s.upd0 (Upd.new hb5 (.cells (⟨⟨ky, vi, vl, kl⟩, a12, c12⟩ : VerA).cells.toArray 56))
      (repeat first | refine HReg.step ?_ | refine HCode.step ?_)
      refine store_row s.o (v := .slice (some ⟨b5, 0, none⟩) 1 1) rfl (i := 7) (by decide) (by rfl) fun H20 o20 u20 => ?_
      have s : RdS H0 b2 b3 g S r8 { msg0 7 v2 v3 0 with vs := [⟨⟨ky, vi, vl, kl⟩, a12, c12⟩], av := some ⟨b5, 0, none⟩, cv := 1 } H20 := s.set nn o20 u20
      (repeat first | refine HReg.step ?_ | refine HCode.step ?_)
      refine HLoadN_row s.o.rows rfl ?_
      (repeat first | refine HReg.step ?_ | refine HCode.step ?_)
      refine store_msg (x := { msg0 7 v2 v3 0 with vs := [⟨⟨ky, vi, vl, kl⟩, a12, c12⟩], av := some ⟨b5, 0, none⟩, cv := 1 }) s.o2 rfl fun H9 o9 u9 => ?_
      (repeat first | refine HReg.step ?_ | refine HCode.step ?_)
      refine HLoadN_row o9.rows rfl ?_
      exact fin { msg0 7 v2 v3 0 with vs := [⟨⟨ky, vi, vl, kl⟩, a12, c12⟩], av := some ⟨b5, 0, none⟩, cv := 1 } H9 rfl (s.n.off s.o2 (by decide) u9) (s.d.upd u9 (fun b hb hb' => s.d.apart s.o2 (by decide) (by decide) b2 (by simp [blk]) (by rw [← List.mem_singleton.1 hb']; exact hb)) (fun b hb => by rw [List.mem_singleton.1 hb]; exact s.n2))
  rw [show eqB ((v1 : Nat) : Int) 7 = false from eqB_false.2 (by omega)]
  obtain ⟨v4, r4, e4⟩ : ∃ v r, r3.number 8 = (v, r) := ⟨_, _, rfl⟩
  have hR : readBody l = rdM v1 v2 v3 (rdn (v4, r4)) := by
    rw [hR]; unfold rdKind; rw [if_neg h1, if_neg h3, if_neg h4, if_neg h7, e4]
  have fin : ∀ (x : MsgA) H', x.m = (rdM v1 v2 v3 (rdn (v4, r4))).1 → MsgNew H0 H' x → RAt H0 H' g S r4 → K x.val H' := fun x H' hx n dd => hk x H' (by rw [hR]; exact hx) n (by rw [hR]; exact dd)
  (repeat first | refine HReg.step ?_ | refine HCode.step ?_)
  refine HCall.mk ⟨Tryz.f19, Tryz.func19, by rfl, by rfl⟩ ?_
  refine ru64_t s.d fun H7 d7 u7 => ?_
  have s := s.go d7 u7
  rw [e4] at s ⊢
  dsimp only at s ⊢
  (repeat first | refine HReg.step ?_ | refine HCode.step ?_)
  refine store_row s.o (v := .int .u64 (v4 : Int)) rfl (i := 3) (by decide) (by rfl) fun H8 o8 u8_ => ?_
  have s : RdS H0 b2 b3 g S r4 (msg0 v1 v2 v3 v4) H8 := s.set (msg0_new _ _ _ _ _ _) o8 u8_
  (repeat first | refine HReg.step ?_ | refine HCode.step ?_)
  refine HLoadN_row s.o.rows rfl ?_
  (repeat first | refine HReg.step ?_ | refine HCode.step ?_)
  refine store_msg (x := (msg0 v1 v2 v3 v4)) s.o2 rfl fun H9 o9 u9 => ?_
  (repeat first | refine HReg.step ?_ | refine HCode.step ?_)
  refine HLoadN_row o9.rows rfl ?_
  refine fin (msg0 v1 v2 v3 v4) H9 rfl (s.n.off s.o2 (by decide) u9) (s.d.upd u9 (fun b hb hb' => s.d.apart s.o2 (by decide) (by decide) b2 (by simp [blk]) (by rw [← List.mem_singleton.1 hb']; exact hb)) (fun b hb => by rw [List.mem_singleton.1 hb]; exact s.n2))
end
end Go.Proofs.YtlgncabjphokjaaGreat
