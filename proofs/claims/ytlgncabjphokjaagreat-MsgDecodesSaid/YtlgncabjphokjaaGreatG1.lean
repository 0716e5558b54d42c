import Derived.Test.YtlgncabjphokjaaGreatG0
namespace Go.Proofs.YtlgncabjphokjaaGreat
open Go Hv
set_option linter.unusedVariables false
set_option linter.unusedSimpArgs false
set_option maxRecDepth 10000
set_option maxHeartbeats 1000000
/-! Messages, plainly -/
structure Ver where
  key : Txt
  id : Nat
  val : Txt
  ks : List Txt
structure Msg where
  kind : Int
  client : Int
  req : Nat
  id : Nat
  ps : List (Txt × Txt)
  ks : List Txt
  ws : List (Txt × Nat)
  vs : List Ver
def Content (v : Ver) : Prop := (v.id = 0 ∧ v.key.length ≤ 65535 ∧ v.val = [] ∧ v.ks = []) ∨ (65536 ≤ v.id ∧ v.val.length ≤ 65535 ∧ Whole v.ks ∧ v.key ∈ v.ks)
def Valid (l : List Txt) : Prop := Lens l ∧ Rising (sortT l)
def PairsOk (ps : List (Txt × Txt)) (ks : List Txt) : Prop := ps ≠ [] ∧ Rising (ps.map Prod.fst) ∧ ∀ p ∈ ps, p.1 ∈ ks ∧ p.2.length ≤ 65535
def WantsOk (ws : List (Txt × Nat)) : Prop := (∀ w ∈ ws, 65536 ≤ w.2) ∧ Valid (ws.map Prod.fst)
def KindOk (m : Msg) : Prop :=
  (m.kind = 1 ∧ 65536 ≤ m.id ∧ (Whole m.ks ∧ PairsOk m.ps m.ks) ∧ m.ws = [] ∧ m.vs = []) ∨
  ((m.kind = 2 ∨ m.kind = 5 ∨ m.kind = 6 ∨ m.kind = 8) ∧ 65536 ≤ m.id ∧ m.ps = [] ∧ m.ks = [] ∧ m.ws = [] ∧ m.vs = []) ∨
  (m.kind = 3 ∧ m.id = 0 ∧ Valid m.ks ∧ m.ps = [] ∧ m.ws = [] ∧ m.vs = []) ∨
  (m.kind = 4 ∧ m.id = 0 ∧ WantsOk m.ws ∧ m.ps = [] ∧ m.ks = [] ∧ m.vs = []) ∨
  (m.kind = 7 ∧ m.id = 0 ∧ (∃ v, m.vs = [v] ∧ Content v) ∧ m.ps = [] ∧ m.ks = [] ∧ m.ws = [])
def MayM (m : Msg) : Prop := (0 ≤ m.client ∧ m.client < 16 ∧ 1 ≤ m.req) ∧ KindOk m
def verPieces (v : Ver) : List (List UInt8) := [textB v.key, num v.id 8] ++ (if v.id = 0 then [] else [textB v.val, textsB v.ks])
def wantPieces (ws : List (Txt × Nat)) : List (List UInt8) := ws.flatMap fun w => [textB w.1, num w.2 8]
def versPieces : List Ver → List (List UInt8)
  | v :: _ => verPieces v
  | [] => []
def kindPieces (m : Msg) : List (List UInt8) :=
  if m.kind = 1 then [num m.id 8, textsB m.ks, num m.ps.length 4] ++ pairPieces m.ps
  else if m.kind = 3 then [textsB m.ks]
  else if m.kind = 4 then [num m.ws.length 4] ++ wantPieces m.ws
  else if m.kind = 7 then versPieces m.vs
  else [num m.id 8]
theorem kp1 {m : Msg} (h : m.kind = 1) : kindPieces m = [num m.id 8, textsB m.ks, num m.ps.length 4] ++ pairPieces m.ps := if_pos h
theorem kp3 {m : Msg} (h : m.kind = 3) : kindPieces m = [textsB m.ks] := by unfold kindPieces; rw [if_neg (by rw [h]; decide), if_pos h]
theorem kp4 {m : Msg} (h : m.kind = 4) : kindPieces m = [num m.ws.length 4] ++ wantPieces m.ws := by unfold kindPieces; rw [if_neg (by rw [h]; decide), if_neg (by rw [h]; decide), if_pos h]
theorem kp7 {m : Msg} (h : m.kind = 7) : kindPieces m = versPieces m.vs := by unfold kindPieces; rw [if_neg (by rw [h]; decide), if_neg (by rw [h]; decide), if_neg (by rw [h]; decide), if_pos h]
theorem kpn {m : Msg} (h1 : m.kind ≠ 1) (h3 : m.kind ≠ 3) (h4 : m.kind ≠ 4) (h7 : m.kind ≠ 7) : kindPieces m = [num m.id 8] := by unfold kindPieces; rw [if_neg h1, if_neg h3, if_neg h4, if_neg h7]
def pieces (m : Msg) : List (List UInt8) := [num m.kind.toNat 1, num m.client.toNat 1, num m.req 8] ++ kindPieces m
def body (m : Msg) : List UInt8 := (pieces m).flatten
def zeroM : Msg := ⟨0, 0, 0, 0, [], [], [], []⟩
open Classical in
noncomputable def encodeM (m : Msg) : List UInt8 × Int := if ¬ MayM m then ([], 1) else if 1048576 < (body m).length then ([], 3) else (num (body m).length 4 ++ body m, 0)
open Classical in
noncomputable def sizeM (m : Msg) : Nat × Int := if ¬ MayM m then (0, 1) else ((body m).length, 0)
/-- n pairs, n wants, one behind the other. -/
def pairsG : Nat → R → List (Txt × Txt) × R
  | 0, r => ([], r)
  | n + 1, r => (((r.text 65535).1, ((r.text 65535).2.text 65535).1) :: (pairsG n ((r.text 65535).2.text 65535).2).1, (pairsG n ((r.text 65535).2.text 65535).2).2)
def wantsG : Nat → R → List (Txt × Nat) × R
  | 0, r => ([], r)
  | n + 1, r => (((r.text 65535).1, ((r.text 65535).2.number 8).1) :: (wantsG n ((r.text 65535).2.number 8).2).1, (wantsG n ((r.text 65535).2.number 8).2).2)
/-- The kinds' fields. -/
structure Flds where
  id : Nat
  ps : List (Txt × Txt)
  ks : List Txt
  ws : List (Txt × Nat)
  vs : List Ver
def Flds.msg (f : Flds) (k c q : Nat) : Msg := ⟨(k : Int), (c : Int), q, f.id, f.ps, f.ks, f.ws, f.vs⟩
def rd1c (i : Nat) (t : List Txt) (p : List (Txt × Txt) × R) : Flds × R := (⟨i, p.1, t, [], []⟩, p.2)
def rd1b (i : Nat) (t : List Txt × R) : Flds × R := rd1c i t.1 (pairsG (t.2.count 1024).1 (t.2.count 1024).2)
def rd1a (i : Nat × R) : Flds × R := rd1b i.1 (i.2.texts 1024 65535)
def rd3 (t : List Txt × R) : Flds × R := (⟨0, [], t.1, [], []⟩, t.2)
def rd4a (w : List (Txt × Nat) × R) : Flds × R := (⟨0, [], [], w.1, []⟩, w.2)
def rd4 (n : Nat × R) : Flds × R := rd4a (wantsG n.1 n.2)
def rd7d (k : Txt) (i : Nat) (v : Txt) (s : List Txt × R) : Ver × R := (⟨k, i, v, s.1⟩, s.2)
def rd7c (k : Txt) (i : Nat) (v : Txt × R) : Ver × R := rd7d k i v.1 (v.2.texts 1024 65535)
def rd7b (k : Txt) (i : Nat × R) : Ver × R := if i.1 = 0 then (⟨k, 0, [], []⟩, i.2) else rd7c k i.1 (i.2.text 65535)
def rd7a (t : Txt × R) : Ver × R := rd7b t.1 (t.2.number 8)
def rd7 (v : Ver × R) : Flds × R := (⟨0, [], [], [], [v.1]⟩, v.2)
def rdn (i : Nat × R) : Flds × R := (⟨i.1, [], [], [], []⟩, i.2)
def rdKind (k : Nat) (r : R) : Flds × R :=
  if k = 1 then rd1a (r.number 8)
  else if k = 3 then rd3 (r.texts 1024 65535)
  else if k = 4 then rd4 (r.count 1024)
  else if k = 7 then rd7 (rd7a (r.text 65535))
  else rdn (r.number 8)
def rdM (k c q : Nat) (f : Flds × R) : Msg × R := (f.1.msg k c q, f.2)
def rdQ (k c : Nat) (q : Nat × R) : Msg × R := rdM k c q.1 (rdKind k q.2)
def rdC (k : Nat) (c : Nat × R) : Msg × R := rdQ k c.1 (c.2.number 8)
def rdK (k : Nat × R) : Msg × R := rdC k.1 (k.2.number 1)
def readBody (l : List UInt8) : Msg × R := rdK ((⟨l, 0⟩ : R).number 1)
def ReadOkM (l : List UInt8) : Prop := (readBody l).2.fin = 0 ∧ MayM (readBody l).1
open Classical in
noncomputable def decodeM (l : List UInt8) : Msg × Int :=
  if l.length < 4 then (zeroM, 4)
  else if 1048576 < val (l.take 4) then (zeroM, 3)
  else if l.length - 4 < val (l.take 4) then (zeroM, 4)
  else if val (l.take 4) < l.length - 4 then (zeroM, 5)
  else if ¬ ReadOkM (l.drop 4) then (zeroM, 2)
  else ((readBody (l.drop 4)).1, 0)
/-! There and back -/
theorem pairsG_back : ∀ (ps : List (Txt × Txt)) (t : List UInt8), (∀ p ∈ ps, p.1.length ≤ 65535 ∧ p.2.length ≤ 65535) → pairsG ps.length ⟨(pairPieces ps).flatten ++ t, 0⟩ = (ps, ⟨t, 0⟩)
  | [], t, _ => rfl
  | p :: ps, t, h => by
    have hp := h p List.mem_cons_self
    have e : (pairPieces (p :: ps)).flatten ++ t = textB p.1 ++ (textB p.2 ++ ((pairPieces ps).flatten ++ t)) := by
      unfold pairPieces
      rw [List.flatMap_cons]
      simp only [List.cons_append, List.nil_append, List.flatten_cons, List.append_assoc]
    have e1 : (⟨textB p.1 ++ (textB p.2 ++ ((pairPieces ps).flatten ++ t)), 0⟩ : R).text 65535 = _ := text_back p.1 65535 (textB p.2 ++ ((pairPieces ps).flatten ++ t)) (by omega) (by omega)
    have e2 : (⟨textB p.2 ++ ((pairPieces ps).flatten ++ t), 0⟩ : R).text 65535 = _ := text_back p.2 65535 ((pairPieces ps).flatten ++ t) (by omega) (by omega)
    rw [e, List.length_cons]
    unfold pairsG
    rw [e1]
    dsimp only
    rw [e2]
    dsimp only
    rw [pairsG_back ps t (fun q hq => h q (List.mem_cons_of_mem _ hq))]
theorem wantsG_back : ∀ (ws : List (Txt × Nat)) (t : List UInt8), (∀ w ∈ ws, w.1.length ≤ 65535 ∧ w.2 < 18446744073709551616) → wantsG ws.length ⟨(wantPieces ws).flatten ++ t, 0⟩ = (ws, ⟨t, 0⟩)
  | [], t, _ => rfl
  | p :: ws, t, h => by
    have hp := h p List.mem_cons_self
    have e : (wantPieces (p :: ws)).flatten ++ t = textB p.1 ++ (num p.2 8 ++ ((wantPieces ws).flatten ++ t)) := by
      unfold wantPieces
      rw [List.flatMap_cons]
      simp only [List.cons_append, List.nil_append, List.flatten_cons, List.append_assoc]
    have e1 : (⟨textB p.1 ++ (num p.2 8 ++ ((wantPieces ws).flatten ++ t)), 0⟩ : R).text 65535 = _ := text_back p.1 65535 (num p.2 8 ++ ((wantPieces ws).flatten ++ t)) (by omega) (by omega)
    have e2 : (⟨num p.2 8 ++ ((wantPieces ws).flatten ++ t), 0⟩ : R).number 8 = _ := number_back p.2 8 ((wantPieces ws).flatten ++ t)
    rw [show p.2 % 256 ^ 8 = p.2 from Nat.mod_eq_of_lt hp.2] at e2
    rw [e, List.length_cons]
    unfold wantsG
    rw [e1]
    dsimp only
    rw [e2]
    dsimp only
    rw [wantsG_back ws t (fun q hq => h q (List.mem_cons_of_mem _ hq))]
theorem Whole.few {l : List Txt} (h : Whole l) : l.length ≤ 1024 ∧ ∀ s ∈ l, s.length ≤ 65535 := ⟨h.1.2.1, h.1.2.2⟩
theorem PairsOk.few {ps : List (Txt × Txt)} {ks : List Txt} (h : PairsOk ps ks) (hw : Whole ks) : ps.length ≤ 1024 ∧ ∀ p ∈ ps, p.1.length ≤ 65535 ∧ p.2.length ≤ 65535 := by
  have h1 := nodup_le h.2.1.nodup (m := ks) (fun x hx => by
    obtain ⟨p, hp, rfl⟩ := List.mem_map.1 hx
    exact (h.2.2 p hp).1)
  rw [List.length_map] at h1
  exact ⟨Nat.le_trans h1 hw.few.1, fun p hp => ⟨hw.few.2 _ (h.2.2 p hp).1, (h.2.2 p hp).2⟩⟩
theorem WantsOk.few {ws : List (Txt × Nat)} (h : WantsOk ws) : ws.length ≤ 1024 ∧ ∀ w ∈ ws, w.1.length ≤ 65535 := by
  have h1 := h.2.1
  refine ⟨by have := h1.2.1; rwa [List.length_map] at this, fun w hw => h1.2.2 _ (List.mem_map_of_mem hw)⟩
/-- Numbers of 64 bits. -/
structure Fit (m : Msg) : Prop where
  q : m.req < 18446744073709551616
  i : m.id < 18446744073709551616
  w : ∀ w ∈ m.ws, w.2 < 18446744073709551616
  v : ∀ v ∈ m.vs, v.id < 18446744073709551616
theorem texts_back' {ks : List Txt} (h : ks.length ≤ 1024 ∧ ∀ s ∈ ks, s.length ≤ 65535) (t : List UInt8) : (⟨textsB ks ++ t, 0⟩ : R).texts 1024 65535 = (ks, ⟨t, 0⟩) :=
  texts_backG ks 1024 65535 t (by have := h.1; omega) h.1 fun s hs => ⟨by have := h.2 s hs; omega, h.2 s hs⟩
theorem num8_back {v : Nat} (h : v < 18446744073709551616) (t : List UInt8) : (⟨num v 8 ++ t, 0⟩ : R).number 8 = (v, ⟨t, 0⟩) := by
  rw [number_back, show v % 256 ^ 8 = v from Nat.mod_eq_of_lt h]
theorem num1_back {v : Nat} (h : v < 256) (t : List UInt8) : (⟨num v 1 ++ t, 0⟩ : R).number 1 = (v, ⟨t, 0⟩) := by
  rw [number_back, show v % 256 ^ 1 = v from Nat.mod_eq_of_lt h]
theorem MayM.kinds {m : Msg} (h : MayM m) : 1 ≤ m.kind ∧ m.kind ≤ 8 := by
  rcases h.2 with h | h | h | h | h
  · have := h.1; omega
  · have := h.1; omega
  · have := h.1; omega
  · have := h.1; omega
  · have := h.1; omega
theorem ver_back {v : Ver} (h : Content v) (hi : v.id < 18446744073709551616) : rd7a ((⟨(verPieces v).flatten, 0⟩ : R).text 65535) = (v, ⟨[], 0⟩) := by
  obtain ⟨key, id, vl, ks⟩ := v
  have hk : key.length ≤ 65535 := by
    rcases h with h | h
    · exact h.2.1
    · exact h.2.2.1.few.2 _ h.2.2.2
  rcases h with ⟨h1, h2, h3, h4⟩ | ⟨h1, h2, h3, h4⟩
  · have h1 : id = 0 := h1
    have h3 : vl = [] := h3
    have h4 : ks = [] := h4
    subst h1 h3 h4
    have e : (verPieces ⟨key, 0, [], []⟩).flatten = textB key ++ (num 0 8 ++ []) := by unfold verPieces; simp
    have et : (⟨textB key ++ (num 0 8 ++ []), 0⟩ : R).text 65535 = _ := text_back key 65535 _ (by omega) hk
    rw [e, et]
    unfold rd7a
    dsimp only
    rw [num8_back (by decide)]
    rfl
  · have h1 : 65536 ≤ id := h1
    have e : (verPieces ⟨key, id, vl, ks⟩).flatten = textB key ++ (num id 8 ++ (textB vl ++ (textsB ks ++ []))) := by
      unfold verPieces; rw [if_neg (by show ¬ id = 0; omega)]; simp
    have et : (⟨textB key ++ (num id 8 ++ (textB vl ++ (textsB ks ++ []))), 0⟩ : R).text 65535 = _ := text_back key 65535 _ (by omega) hk
    have h2 : vl.length ≤ 65535 := h2
    have ev : (⟨textB vl ++ (textsB ks ++ []), 0⟩ : R).text 65535 = _ := text_back vl 65535 _ (by omega) h2
    rw [e, et]
    unfold rd7a
    dsimp only
    rw [num8_back hi]
    unfold rd7b
    dsimp only
    rw [if_neg (by omega), ev]
    unfold rd7c
    dsimp only
    rw [texts_back' h3.few]
    rfl
theorem body_eq (m : Msg) : body m = num m.kind.toNat 1 ++ (num m.client.toNat 1 ++ (num m.req 8 ++ (kindPieces m).flatten)) := by unfold body pieces; simp
theorem read_body {m : Msg} (h : MayM m) (f : Fit m) : readBody (body m) = (m, ⟨[], 0⟩) := by
  have hk := h.kinds
  have hc := h.1
  obtain ⟨kind, client, req, id, ps, ks, ws, vs⟩ := m
  have hk : 1 ≤ kind ∧ kind ≤ 8 := hk
  have hc : 0 ≤ client ∧ client < 16 ∧ 1 ≤ req := hc
  obtain ⟨k, rfl⟩ : ∃ k : Nat, kind = (k : Int) := ⟨kind.toNat, by omega⟩
  obtain ⟨c, rfl⟩ : ∃ c : Nat, client = (c : Int) := ⟨client.toNat, by omega⟩
  have key : ∀ fl : Flds, fl = ⟨id, ps, ks, ws, vs⟩ → rdKind k ⟨(kindPieces ⟨(k : Int), (c : Int), req, id, ps, ks, ws, vs⟩).flatten, 0⟩ = (fl, ⟨[], 0⟩) → readBody (body ⟨(k : Int), (c : Int), req, id, ps, ks, ws, vs⟩) = (⟨(k : Int), (c : Int), req, id, ps, ks, ws, vs⟩, ⟨[], 0⟩) := fun fl hfl e => by
    subst hfl
    rw [body_eq]
    unfold readBody
    have q1 : (⟨num k 1 ++ (num c 1 ++ (num req 8 ++ (kindPieces ⟨(k : Int), (c : Int), req, id, ps, ks, ws, vs⟩).flatten)), 0⟩ : R).number 1 = _ := num1_back (by omega) _
    have q2 : (⟨num c 1 ++ (num req 8 ++ (kindPieces ⟨(k : Int), (c : Int), req, id, ps, ks, ws, vs⟩).flatten), 0⟩ : R).number 1 = _ := num1_back (by omega) _
    have q3 : (⟨num req 8 ++ (kindPieces ⟨(k : Int), (c : Int), req, id, ps, ks, ws, vs⟩).flatten, 0⟩ : R).number 8 = _ := num8_back f.q _
    show rdK ((⟨num (k : Int).toNat 1 ++ (num (c : Int).toNat 1 ++ (num req 8 ++ (kindPieces ⟨(k : Int), (c : Int), req, id, ps, ks, ws, vs⟩).flatten)), 0⟩ : R).number 1) = _
    rw [Int.toNat_natCast, Int.toNat_natCast, q1]
    unfold rdK
    dsimp only
    rw [q2]
    unfold rdC
    dsimp only
    rw [q3]
    unfold rdQ
    dsimp only
    rw [e]
    rfl
  rcases h.2 with h | h | h | h | h
  · obtain ⟨h1, h2, ⟨h3, h4⟩, h5, h6⟩ := h
    have h1 : k = 1 := by have : (k : Int) = 1 := h1; omega
    have h5 : ws = [] := h5
    have h6 : vs = [] := h6
    subst h1 h5 h6
    refine key _ rfl ?_
    rw [kp1 rfl]
    unfold rdKind
    rw [if_pos rfl]
    have hf := PairsOk.few h4 h3
    have e : ([num id 8, textsB ks, num ps.length 4] ++ pairPieces ps).flatten = num id 8 ++ (textsB ks ++ (num ps.length 4 ++ ((pairPieces ps).flatten ++ []))) := by simp
    have ec : (⟨num ps.length 4 ++ ((pairPieces ps).flatten ++ []), 0⟩ : R).count 1024 = _ := count_back ps.length 1024 _ (by have := hf.1; simp only at this; omega) hf.1
    show rd1a ((⟨([num id 8, textsB ks, num ps.length 4] ++ pairPieces ps).flatten, 0⟩ : R).number 8) = _
    rw [e, num8_back f.i]
    unfold rd1a
    dsimp only
    rw [texts_back' h3.few]
    unfold rd1b
    dsimp only
    rw [ec]
    dsimp only
    rw [pairsG_back ps [] hf.2]
    rfl
  · obtain ⟨h1, h2, h3, h4, h5, h6⟩ := h
    have h1 : k = 2 ∨ k = 5 ∨ k = 6 ∨ k = 8 := by
      have h1 : (k : Int) = 2 ∨ (k : Int) = 5 ∨ (k : Int) = 6 ∨ (k : Int) = 8 := h1
      omega
    have h3 : ps = [] := h3
    have h4 : ks = [] := h4
    have h5 : ws = [] := h5
    have h6 : vs = [] := h6
    subst h3 h4 h5 h6
    refine key _ rfl ?_
    rw [kpn (by show ¬ (k : Int) = 1; omega) (by show ¬ (k : Int) = 3; omega) (by show ¬ (k : Int) = 4; omega) (by show ¬ (k : Int) = 7; omega)]
    unfold rdKind
    rw [if_neg (by omega), if_neg (by omega), if_neg (by omega), if_neg (by omega)]
    have e : [num id 8].flatten = num id 8 ++ [] := by simp
    show rdn ((⟨[num id 8].flatten, 0⟩ : R).number 8) = _
    rw [e, num8_back f.i]
    rfl
  · obtain ⟨h1, h2, h3, h4, h5, h6⟩ := h
    have h1 : k = 3 := by have : (k : Int) = 3 := h1; omega
    have h2 : id = 0 := h2
    have h4 : ps = [] := h4
    have h5 : ws = [] := h5
    have h6 : vs = [] := h6
    subst h1 h2 h4 h5 h6
    refine key _ rfl ?_
    have h3 : Valid ks := h3
    rw [kp3 rfl]
    unfold rdKind
    rw [if_neg (by decide), if_pos rfl]
    have e : [textsB ks].flatten = textsB ks ++ [] := by simp
    show rd3 ((⟨[textsB ks].flatten, 0⟩ : R).texts 1024 65535) = _
    rw [e, texts_back' ⟨h3.1.2.1, h3.1.2.2⟩]
    rfl
  · obtain ⟨h1, h2, h3, h4, h5, h6⟩ := h
    have h1 : k = 4 := by have : (k : Int) = 4 := h1; omega
    have h2 : id = 0 := h2
    have h4 : ps = [] := h4
    have h5 : ks = [] := h5
    have h6 : vs = [] := h6
    subst h1 h2 h4 h5 h6
    refine key _ rfl ?_
    have hf := WantsOk.few h3
    rw [kp4 rfl]
    unfold rdKind
    rw [if_neg (by decide), if_neg (by decide), if_pos rfl]
    have e : ([num ws.length 4] ++ wantPieces ws).flatten = num ws.length 4 ++ ((wantPieces ws).flatten ++ []) := by simp
    have ec : (⟨num ws.length 4 ++ ((wantPieces ws).flatten ++ []), 0⟩ : R).count 1024 = _ := count_back ws.length 1024 _ (by have := hf.1; simp only at this; omega) hf.1
    show rd4 ((⟨([num ws.length 4] ++ wantPieces ws).flatten, 0⟩ : R).count 1024) = _
    rw [e, ec]
    unfold rd4
    dsimp only
    rw [wantsG_back ws [] (fun w hw => ⟨hf.2 w hw, f.w w hw⟩)]
    rfl
  · obtain ⟨h1, h2, ⟨v, h3, h3'⟩, h4, h5, h6⟩ := h
    have h1 : k = 7 := by have : (k : Int) = 7 := h1; omega
    have h2 : id = 0 := h2
    have h3 : vs = [v] := h3
    have h4 : ps = [] := h4
    have h5 : ks = [] := h5
    have h6 : ws = [] := h6
    subst h1 h2 h3 h4 h5 h6
    refine key _ rfl ?_
    rw [kp7 rfl]
    unfold rdKind
    rw [if_neg (by decide), if_neg (by decide), if_neg (by decide), if_pos rfl]
    show rd7 (rd7a ((⟨(verPieces v).flatten, 0⟩ : R).text 65535)) = _
    rw [ver_back h3' (f.v v List.mem_cons_self)]
    rfl
/-! What is read was laid -/
theorem pairsG_inv : ∀ (n : Nat) {r : R}, (pairsG n r).2.err = 0 → r.err = 0 ∧ r.rest = (pairPieces (pairsG n r).1).flatten ++ (pairsG n r).2.rest ∧ (pairsG n r).1.length = n
  | 0, r, h => ⟨h, rfl, rfl⟩
  | n + 1, r, h => by
    unfold pairsG at h ⊢
    have ⟨h1, h2, h3⟩ := pairsG_inv n (r := ((r.text 65535).2.text 65535).2) h
    obtain ⟨t1, t2⟩ := text_inv h1
    obtain ⟨s1, s2⟩ := text_inv t1
    refine ⟨s1, ?_, by rw [List.length_cons, h3]⟩
    have ep : (pairPieces (((r.text 65535).1, ((r.text 65535).2.text 65535).1) :: (pairsG n ((r.text 65535).2.text 65535).2).1)).flatten = textB (r.text 65535).1 ++ (textB ((r.text 65535).2.text 65535).1 ++ (pairPieces (pairsG n ((r.text 65535).2.text 65535).2).1).flatten) := by
      unfold pairPieces
      rw [List.flatMap_cons]
      simp only [List.cons_append, List.nil_append, List.flatten_cons, List.append_assoc]
    rw [ep, List.append_assoc, List.append_assoc, ← h2, ← t2]
    exact s2
theorem wantsG_inv : ∀ (n : Nat) {r : R}, (wantsG n r).2.err = 0 → r.err = 0 ∧ r.rest = (wantPieces (wantsG n r).1).flatten ++ (wantsG n r).2.rest ∧ (wantsG n r).1.length = n
  | 0, r, h => ⟨h, rfl, rfl⟩
  | n + 1, r, h => by
    unfold wantsG at h ⊢
    have ⟨h1, h2, h3⟩ := wantsG_inv n (r := ((r.text 65535).2.number 8).2) h
    obtain ⟨t1, t2⟩ := number_inv h1
    obtain ⟨s1, s2⟩ := text_inv t1
    refine ⟨s1, ?_, by rw [List.length_cons, h3]⟩
    have ep : (wantPieces (((r.text 65535).1, ((r.text 65535).2.number 8).1) :: (wantsG n ((r.text 65535).2.number 8).2).1)).flatten = textB (r.text 65535).1 ++ (num ((r.text 65535).2.number 8).1 8 ++ (wantPieces (wantsG n ((r.text 65535).2.number 8).2).1).flatten) := by
      unfold wantPieces
      rw [List.flatMap_cons]
      simp only [List.cons_append, List.nil_append, List.flatten_cons, List.append_assoc]
    rw [ep, List.append_assoc, List.append_assoc, ← h2, ← t2]
    exact s2
theorem rd7_inv {r : R} (h : (rd7a (r.text 65535)).2.err = 0) : r.rest = (verPieces (rd7a (r.text 65535)).1).flatten ++ (rd7a (r.text 65535)).2.rest := by
  unfold rd7a at h ⊢
  unfold rd7b at h ⊢
  by_cases h0 : ((r.text 65535).2.number 8).1 = 0
  · rw [if_pos h0] at h ⊢
    obtain ⟨t1, t2⟩ := number_inv h
    obtain ⟨s1, s2⟩ := text_inv t1
    rw [s2, t2, h0]
    unfold verPieces
    simp
  · rw [if_neg h0] at h ⊢
    unfold rd7c rd7d at h ⊢
    obtain ⟨q1, q2⟩ := texts_inv h
    obtain ⟨p1, p2⟩ := text_inv q1
    obtain ⟨t1, t2⟩ := number_inv p1
    obtain ⟨s1, s2⟩ := text_inv t1
    dsimp only
    unfold verPieces
    dsimp only
    rw [if_neg h0, s2, t2, p2, q2]
    simp
theorem rdKind_inv {k : Nat} {r : R} (h : (rdKind k r).2.err = 0) (c q : Nat) : r.err = 0 ∧ r.rest = (kindPieces ((rdKind k r).1.msg k c q)).flatten ++ (rdKind k r).2.rest := by
  have hk : ((k : Nat) : Int) = 1 ↔ k = 1 := by omega
  have hk3 : ((k : Nat) : Int) = 3 ↔ k = 3 := by omega
  have hk4 : ((k : Nat) : Int) = 4 ↔ k = 4 := by omega
  have hk7 : ((k : Nat) : Int) = 7 ↔ k = 7 := by omega
  unfold rdKind at h ⊢
  by_cases h1 : k = 1
  · subst h1
    rw [if_pos rfl] at h ⊢
    unfold rd1a rd1b rd1c at h ⊢
    obtain ⟨p1, p2, p3⟩ := pairsG_inv _ h
    obtain ⟨c1, c2⟩ := count_inv p1
    obtain ⟨t1, t2⟩ := texts_inv c1
    obtain ⟨n1, n2⟩ := number_inv t1
    refine ⟨n1, ?_⟩
    rw [kp1 rfl]
    show _ = ([num _ 8, textsB _, num (pairsG _ _).1.length 4] ++ pairPieces _).flatten ++ _
    rw [p3]
    refine n2.trans ?_
    rw [t2, c2, p2]
    simp
    rfl
  by_cases h3 : k = 3
  · subst h3
    rw [if_neg (by decide), if_pos rfl] at h ⊢
    unfold rd3 at h ⊢
    obtain ⟨t1, t2⟩ := texts_inv h
    refine ⟨t1, ?_⟩
    rw [kp3 rfl]
    show _ = [textsB _].flatten ++ _
    refine t2.trans ?_
    simp
    rfl
  by_cases h4 : k = 4
  · subst h4
    rw [if_neg (by decide), if_neg (by decide), if_pos rfl] at h ⊢
    unfold rd4 rd4a at h ⊢
    obtain ⟨p1, p2, p3⟩ := wantsG_inv _ h
    obtain ⟨c1, c2⟩ := count_inv p1
    refine ⟨c1, ?_⟩
    rw [kp4 rfl]
    show _ = ([num (wantsG _ _).1.length 4] ++ wantPieces _).flatten ++ _
    rw [p3]
    refine c2.trans ?_
    rw [p2]
    simp
    rfl
  by_cases h7 : k = 7
  · subst h7
    rw [if_neg (by decide), if_neg (by decide), if_neg (by decide), if_pos rfl] at h ⊢
    have hh : (rd7a (r.text 65535)).2.err = 0 := h
    refine ⟨?_, ?_⟩
    · unfold rd7a rd7b at hh
      by_cases h0 : ((r.text 65535).2.number 8).1 = 0
      · rw [if_pos h0] at hh; exact (text_inv (number_inv hh).1).1
      · rw [if_neg h0] at hh
        exact (text_inv (number_inv (text_inv (texts_inv hh).1).1).1).1
    · rw [kp7 rfl]
      exact rd7_inv hh
  rw [if_neg h1, if_neg h3, if_neg h4, if_neg h7] at h ⊢
  unfold rdn at h ⊢
  obtain ⟨n1, n2⟩ := number_inv h
  refine ⟨n1, ?_⟩
  rw [kpn (fun h => h1 (hk.1 h)) (fun h => h3 (hk3.1 h)) (fun h => h4 (hk4.1 h)) (fun h => h7 (hk7.1 h))]
  refine n2.trans ?_
  simp
  rfl
theorem readBody_inv {l : List UInt8} (h : (readBody l).2.err = 0) : l = body (readBody l).1 ++ (readBody l).2.rest := by
  unfold readBody rdK rdC rdQ rdM at h ⊢
  obtain ⟨k1, k2⟩ := rdKind_inv h ((((⟨l, 0⟩ : R).number 1).2.number 1).1) (((((⟨l, 0⟩ : R).number 1).2.number 1).2.number 8).1)
  obtain ⟨q1, q2⟩ := number_inv k1
  obtain ⟨c1, c2⟩ := number_inv q1
  obtain ⟨n1, n2⟩ := number_inv c1
  have n2 : l = num ((⟨l, 0⟩ : R).number 1).1 1 ++ ((⟨l, 0⟩ : R).number 1).2.rest := n2
  dsimp only
  rw [body_eq]
  refine n2.trans ?_
  show _ = num ((((⟨l, 0⟩ : R).number 1).1 : Nat) : Int).toNat 1 ++ (num (((((⟨l, 0⟩ : R).number 1).2.number 1).1 : Nat) : Int).toNat 1 ++ (num ((((⟨l, 0⟩ : R).number 1).2.number 1).2.number 8).1 8 ++ _)) ++ _
  rw [Int.toNat_natCast, Int.toNat_natCast, List.append_assoc, List.append_assoc, List.append_assoc, ← k2, ← q2, ← c2]
theorem body_read {l : List UInt8} (h : ReadOkM l) : body (readBody l).1 = l := by
  obtain ⟨hf1, hf2⟩ := fin_zero h.1
  have := readBody_inv hf1
  rw [hf2, List.append_nil] at this
  exact this.symm
end Go.Proofs.YtlgncabjphokjaaGreat
