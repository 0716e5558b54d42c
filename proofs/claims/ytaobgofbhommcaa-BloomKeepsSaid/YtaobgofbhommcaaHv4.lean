import Derived.Test.YtaobgofbhommcaaHv3
import Derived.Laws.Tables
import Derived.Laws.Cells
namespace Go.Proofs.Ytaobgofbhommcaa.Hv
open Go
set_option linter.unusedVariables false
set_option linter.unusedSimpArgs false

/-! ## Words at which the evaluation of code stands -/
structure HReq (p : Prop) (K : Prop) : Prop where
  pre : p
  post : K
/-- A test. (By 'match': where the test is a literal the evaluation goes on by itself.) -/
def hcond (t : Bool) (K : Bool → Prop) : Prop := Bool.rec (motive := fun _ => Prop) (K false) (K true) t
theorem hif {t : Bool} {A B : Prop} (h1 : t = true → A) (h2 : t = false → B) : Bool.rec (motive := fun _ => Prop) B A t := by cases t <;> simp_all
theorem hcond_intro {t : Bool} {K : Bool → Prop} (h1 : t = true → K true) (h2 : t = false → K false) : hcond t K := by
  cases t <;> simp_all [hcond]
theorem hcond_t {t : Bool} {K : Bool → Prop} (h : t = true) (h1 : K true) : hcond t K := by subst h; exact h1
theorem hcond_f {t : Bool} {K : Bool → Prop} (h : t = false) (h1 : K false) : hcond t K := by subst h; exact h1
theorem hcond_elim {t : Bool} {K : Bool → Prop} (h : hcond t K) : K t := by cases t <;> exact h
/-- A cell is read: in every heap of the window it holds the same. -/
structure HLoad (Hs : List Heap) (a : Addr) (K : Value → Prop) : Prop where
  ex : ∃ v, (∀ H ∈ Hs, H.cell? a = some v) ∧ K v
structure HLoadN (Hs : List Heap) (b off n : Nat) (K : List Value → Prop) : Prop where
  ex : ∃ vs : List Value, (∀ H ∈ Hs, ∀ i v, vs[i]? = some v → H.cell? ⟨b, off + i, none⟩ = some v) ∧ vs.length = n ∧ K vs
/-- Bytes are read as a string. -/
structure HBytes (Hs : List Heap) (a : Option Addr) (len : Nat) (K : ByteArray → Prop) : Prop where
  ex : ∃ s : ByteArray, s.size = len ∧ (a = none → len = 0) ∧ (∀ H ∈ Hs, ∀ i v, s.data.toList[i]? = some v → ∀ p, a = some p → H.cell? (p.add i) = some (.int .u8 v.toNat)) ∧ K s

/-! Laying values into a row, on lists (so that it unfolds by itself). -/
def nth {α : Type} : List α → Nat → Option α
  | [], _ => none
  | x :: _, 0 => some x
  | _ :: l, i + 1 => nth l i
theorem nth_eq {α : Type} : ∀ (l : List α) (i : Nat), nth l i = l[i]?
  | [], i => by simp [nth]
  | x :: l, 0 => rfl
  | x :: l, i + 1 => by simp [nth, nth_eq l i]
def putL : List Value → Nat → List Value → List Value
  | cells, _, [] => cells
  | [], _, _ => []
  | c :: cells, off + 1, vs => c :: putL cells off vs
  | c :: cells, 0, v :: vs => v :: putL cells 0 vs
theorem putL_set : ∀ (cells : List Value) (off : Nat) (v : Value) (vs : List Value), putL cells off (v :: vs) = putL (cells.set off v) (off + 1) vs
  | [], off, v, vs => by cases off <;> cases vs <;> simp [putL]
  | c :: cells, 0, v, vs => by
    cases vs with
    | nil => cases cells <;> simp [putL]
    | cons u us => simp [putL]
  | c :: cells, off + 1, v, vs => by
    have := putL_set cells off v vs
    cases vs with
    | nil => simp only [putL, List.set_cons_succ] at this ⊢; rw [this]
    | cons u us => simp only [putL, List.set_cons_succ] at this ⊢; rw [this]
theorem fold_put : ∀ (vs : List Value) (k off : Nat) (cells : Array Value), (vs.zipIdx k).foldl (fun cs (c, j) => cs.setIfInBounds (off + j) c) cells = (putL cells.toList (off + k) vs).toArray
  | [], k, off, cells => by
    have : putL cells.toList (off + k) [] = cells.toList := by cases cells.toList <;> cases (off + k) <;> rfl
    simp [this]
  | v :: vs, k, off, cells => by
    rw [List.zipIdx_cons, List.foldl_cons, fold_put vs (k + 1) off, putL_set]
    simp [Nat.add_assoc]
theorem putL_length : ∀ (cells : List Value) (off : Nat) (vs : List Value), (putL cells off vs).length = cells.length
  | [], off, [] => by cases off <;> rfl
  | [], off, _ :: _ => by cases off <;> rfl
  | c :: cells, 0, [] => rfl
  | c :: cells, off + 1, [] => rfl
  | c :: cells, 0, v :: vs => by simp [putL, putL_length cells 0 vs]
  | c :: cells, off + 1, v :: vs => by simp [putL, putL_length cells off (v :: vs)]
def fillL (place : Nat → Option (Nat × Nat)) (cells : List Value) : List (Nat × Value) → Option (List Value)
  | [] => some cells
  | (i, v) :: rest => match place i with
    | none => none
    | some (off, size) => cond (Nat.beq v.cells.toList.length size) (cond (Nat.ble (off + v.cells.toList.length) cells.length) (fillL place (putL cells off v.cells.toList) rest) none) none
theorem fillL_eq (place : Nat → Option (Nat × Nat)) : ∀ (parts : List (Nat × Value)) (cells : Array Value), (Instr.fill place cells parts) = (fillL place cells.toList parts).map List.toArray
  | [], cells => by simp [fillL, Instr.fill]
  | (i, v) :: rest, cells => by
    unfold fillL Instr.fill
    cases place i with
    | none => rfl
    | some p =>
      obtain ⟨off, size⟩ := p
      dsimp only
      rw [Array.length_toList, Array.length_toList]
      by_cases h1 : v.cells.size = size
      · have e1 : Nat.beq v.cells.size size = true := by rw [h1]; exact Nat.beq_refl _
        rw [e1, cond_true]
        by_cases h2 : off + v.cells.size ≤ cells.size
        · have e2 : Nat.ble (off + v.cells.size) cells.size = true := Nat.ble_eq.mpr h2
          rw [e2, cond_true, if_neg (by simp [h1]; omega)]
          have f1 := fold_put v.cells.toList 0 off cells
          rw [Nat.add_zero] at f1
          have f2 : v.cells.zipIdx.foldl (fun cs (c, j) => cs.setIfInBounds (off + j) c) cells = (putL cells.toList off v.cells.toList).toArray := by
            rw [← f1, ← Array.toList_zipIdx, Array.foldl_toList]
          refine Eq.trans (congrArg (fun x => Instr.fill place x rest) f2) ?_
          rw [fillL_eq place rest]
        · have e2 : Nat.ble (off + v.cells.size) cells.size = false := Bool.eq_false_iff.2 fun e => h2 (Nat.le_of_ble_eq_true e)
          rw [e2, cond_false, if_pos (by simp; omega)]; rfl
      · have e1 : Nat.beq v.cells.size size = false := Bool.eq_false_iff.2 fun e => h1 (Nat.eq_of_beq_eq_true e)
        rw [e1, cond_false, if_pos (by simp [h1])]; rfl
def repL : Nat → List Value → List Value
  | 0, _ => []
  | n + 1, l => l ++ repL n l
theorem repL_length : ∀ (n : Nat) (l : List Value), (repL n l).length = n * l.length
  | 0, l => by simp [repL]
  | n + 1, l => by simp [repL, repL_length n l, Nat.add_mul, Nat.add_comm]
theorem repL_get : ∀ (n : Nat) (l : List Value) (i : Nat), i < n * l.length → (repL n l)[i]? = l[i % l.length]?
  | 0, l, i, h => by simp at h
  | n + 1, l, i, h => by
    unfold repL
    by_cases hi : i < l.length
    · rw [List.getElem?_append_left hi, Nat.mod_eq_of_lt hi]
    · rw [List.getElem?_append_right (by omega)]
      have hl : i - l.length < n * l.length := by rw [Nat.add_mul, Nat.one_mul] at h; omega
      rw [repL_get n l _ hl, ← Nat.mod_eq_sub_mod (by omega)]
theorem row_eq (n : Nat) (zero : Array Value) : (Array.range (n * zero.size)).map (zero[· % zero.size]!) = (repL n zero.toList).toArray := by
  apply Array.ext
  · simp [repL_length]
  · intro i h1 h2
    simp at h1
    have hz : 0 < zero.size := by
      rcases Nat.eq_zero_or_pos zero.size with h | h
      · rw [h, Nat.mul_zero] at h1; omega
      · exact h
    have hm : i % zero.size < zero.size := Nat.mod_lt _ hz
    have := repL_get n zero.toList i (by simpa using h1)
    rw [List.getElem?_eq_getElem (by simpa [repL_length] using h1)] at this
    simp only [Array.length_toList] at this
    rw [Array.getElem?_toList, Array.getElem?_eq_getElem hm] at this
    simp only [Option.some.injEq] at this
    simp [this, hm]
def builtL (P : Program) (t : TypeId) (parts : List (Nat × Value)) : Option (List Value) :=
  match P.info? t, P.underlying t with
  | some it, some (.array _ e) =>
    match it.zero, P.info? e with
    | some z, some ie => fillL (fun i => some (i * ie.size, ie.size)) z.cells.toList parts
    | _, _ => none
  | some it, some (.struct fields) =>
    match it.zero, fields.toList.mapM (fun f => (P.info? f.type).map fun i => (f.offset, i.size)) with
    | some z, some places => fillL (fun i => nth places i) z.cells.toList parts
    | _, _ => none
  | _, _ => none
theorem builtL_eq (P : Program) (t : TypeId) (parts : List (Nat × Value)) : P.built t parts = (builtL P t parts).map List.toArray := by
  unfold Program.built builtL
  cases h1 : P.info? t with
  | none => rfl
  | some it =>
    cases h2 : P.underlying t with
    | none => rfl
    | some td =>
      cases td with
      | array n e =>
        dsimp only
        cases h3 : it.zero with
        | none => rfl
        | some z =>
          cases h4 : P.info? e with
          | none => rfl
          | some ie => exact fillL_eq _ _ _
      | struct fields =>
        dsimp only
        cases h3 : it.zero with
        | none => rfl
        | some z =>
          cases h4 : fields.toList.mapM (fun f => (P.info? f.type).map fun i => (f.offset, i.size)) with
          | none => rfl
          | some places =>
            refine Eq.trans (congrArg (fun f => Instr.fill f z.cells parts) ?_) (fillL_eq _ _ _)
            funext i
            rw [nth_eq]; simp
      | _ => rfl

/-! Sealed words: no unfolding comes behind them ('whnf' at large numerals never ends); each has its equation. -/
noncomputable def wr (k : IntKind) (n : Int) : Int := (Classical.choose (⟨_, rfl⟩ : ∃ f : IntKind → Int → Int, f = IntKind.wrap)) k n
theorem wr_eq (k : IntKind) (n : Int) : wr k n = k.wrap n := congrFun (congrFun (Classical.choose_spec (⟨_, rfl⟩ : ∃ f : IntKind → Int → Int, f = IntKind.wrap)) k) n
noncomputable def bitsS (op : BinOp) (k : IntKind) (x y : Int) : Int := (Classical.choose (⟨_, rfl⟩ : ∃ f : BinOp → IntKind → Int → Int → Int, f = bits)) op k x y
theorem bitsS_eq (op : BinOp) (k : IntKind) (x y : Int) : bitsS op k x y = bits op k x y := congrFun (congrFun (congrFun (congrFun (Classical.choose_spec (⟨_, rfl⟩ : ∃ f : BinOp → IntKind → Int → Int → Int, f = bits)) op) k) x) y
noncomputable def ltB (a b : Int) : Bool := (Classical.choose (⟨_, rfl⟩ : ∃ f : Int → Int → Bool, f = fun a b => decide (a < b))) a b
theorem ltB_eq (a b : Int) : ltB a b = decide (a < b) := congrFun (congrFun (Classical.choose_spec (⟨_, rfl⟩ : ∃ f : Int → Int → Bool, f = fun a b => decide (a < b))) a) b
noncomputable def eqB (a b : Int) : Bool := (Classical.choose (⟨_, rfl⟩ : ∃ f : Int → Int → Bool, f = fun a b => a == b)) a b
theorem eqB_eq (a b : Int) : eqB a b = (a == b) := congrFun (congrFun (Classical.choose_spec (⟨_, rfl⟩ : ∃ f : Int → Int → Bool, f = fun a b => a == b)) a) b
noncomputable def seqB (a b : ByteArray) : Bool := (Classical.choose (⟨_, rfl⟩ : ∃ f : ByteArray → ByteArray → Bool, f = fun a b => a.toList == b.toList)) a b
theorem seqB_eq (a b : ByteArray) : seqB a b = (a.toList == b.toList) := congrFun (congrFun (Classical.choose_spec (⟨_, rfl⟩ : ∃ f : ByteArray → ByteArray → Bool, f = fun a b => a.toList == b.toList)) a) b
noncomputable def sltB (a b : ByteArray) : Bool := (Classical.choose (⟨_, rfl⟩ : ∃ f : ByteArray → ByteArray → Bool, f = fun a b => Op.bytesLess a.toList b.toList)) a b
theorem sltB_eq (a b : ByteArray) : sltB a b = Op.bytesLess a.toList b.toList := congrFun (congrFun (Classical.choose_spec (⟨_, rfl⟩ : ∃ f : ByteArray → ByteArray → Bool, f = fun a b => Op.bytesLess a.toList b.toList)) a) b
noncomputable def shlS (k : IntKind) (a b : Int) : Int := (Classical.choose (⟨_, rfl⟩ : ∃ f : IntKind → Int → Int → Int, f = fun k a b => k.wrap (a * 2 ^ (min b.toNat k.bits)))) k a b
theorem shlS_eq (k : IntKind) (a b : Int) : shlS k a b = k.wrap (a * 2 ^ (min b.toNat k.bits)) := congrFun (congrFun (congrFun (Classical.choose_spec (⟨_, rfl⟩ : ∃ f : IntKind → Int → Int → Int, f = fun k a b => k.wrap (a * 2 ^ (min b.toNat k.bits)))) k) a) b
noncomputable def shrS (k : IntKind) (a b : Int) : Int := (Classical.choose (⟨_, rfl⟩ : ∃ f : IntKind → Int → Int → Int, f = fun k a b => a.fdiv (2 ^ (min b.toNat k.bits)))) k a b
theorem shrS_eq (k : IntKind) (a b : Int) : shrS k a b = a.fdiv (2 ^ (min b.toNat k.bits)) := congrFun (congrFun (congrFun (Classical.choose_spec (⟨_, rfl⟩ : ∃ f : IntKind → Int → Int → Int, f = fun k a b => a.fdiv (2 ^ (min b.toNat k.bits)))) k) a) b
/-- A bound, sealed. -/
def cap48 : Int := 2 ^ 48
def cap63 : Int := 2 ^ 63
def cap24 : Nat := 2 ^ 24

/-- Read by the model's own program s: in every heap of the window it yields the same. -/
structure HRd (P : Program) (s : Sem Value) (Hs : List Heap) (K : Value → Prop) : Prop where
  ex : ∃ v, (∀ H ∈ Hs, Rds P s H v) ∧ K v

def forceL : List Value → (List Value → Prop) → Prop
  | [], k => k []
  | v :: l, k => forceL l fun l' => k (v :: l')
theorem forceL_iff (l : List Value) (k : List Value → Prop) : forceL l k ↔ k l := by
  induction l generalizing k with
  | nil => exact Iff.rfl
  | cons v l ih => exact ih _

def isAggB (P : Program) (t : TypeId) : Option Bool :=
  match P.underlying t with
  | some (.struct _) | some (.array _ _) => some true
  | some _ => some false
  | none => none
def offMul (i s : Nat) : Nat := match s with | 1 => i | s => i * s
theorem offMul_eq (i s : Nat) : offMul i s = i * s := by unfold offMul; split <;> simp
def slAddr (a : Option Addr) (l cap size : Nat) : Option Addr := if cap = l then a else a.map (·.add (l * size))
def byteAt (s : ByteArray) (i : Int) : Int := (s.data.toList.getD i.toNat 0).toNat

/-- Another comparison: what the model's own program yields. -/
structure HBin (P : Program) (op : BinOp) (t : TypeId) (x y : Operand) (u v : Value) (K : Value → Prop) : Prop where
  ex : ∃ r, K r ∧ ∀ w, (do eqGuard op t x y u v; binOp op t u v : Sem Value).run P w = .ok r w
def fbin (P : Program) (op : BinOp) (t : TypeId) (x y : Operand) (K : Value → Prop) : Value → Value → Prop
  | .int k a, .int k' b =>
    match op with
    | .shl => HReq (0 ≤ b) (K (.int k (shlS k a b)))
    | .shr => HReq (0 ≤ b) (K (.int k (shrS k a b)))
    | op => cond (decide (k = k')) (match op with
      | .add => K (.int k (wr k (a + b)))
      | .sub => K (.int k (wr k (a - b)))
      | .mul => K (.int k (wr k (a * b)))
      | .quo => HReq (b ≠ 0) (K (.int k (wr k (a.tdiv b))))
      | .rem => HReq (b ≠ 0) (K (.int k (a.tmod b)))
      | .and => K (.int k (bitsS .and k a b))
      | .or => K (.int k (bitsS .or k a b))
      | .xor => K (.int k (bitsS .xor k a b))
      | .andNot => K (.int k (bitsS .andNot k a b))
      | .eql => K (.bool (eqB a b))
      | .neq => K (.bool (!eqB a b))
      | .lss => K (.bool (ltB a b))
      | .leq => K (.bool (!ltB b a))
      | .gtr => K (.bool (ltB b a))
      | .geq => K (.bool (!ltB a b))
      | _ => False) False
  | .string a, .string b =>
    match op with
    | .add => HReq (((a.size + b.size : Nat) : Int) ≤ 9223372036854775807) (K (.string (a ++ b)))
    | .eql => K (.bool (seqB a b))
    | .neq => K (.bool (!seqB a b))
    | .lss => K (.bool (sltB a b))
    | .leq => K (.bool (sltB a b || seqB a b))
    | .gtr => K (.bool (!(sltB a b || seqB a b)))
    | .geq => K (.bool (!sltB a b))
    | _ => False
  | .bool a, .bool b =>
    match P.underlying t, op with
    | some .bool, .eql => K (.bool (a == b))
    | some .bool, .neq => K (.bool (!(a == b)))
    | _, _ => False
  | .pointer a, .pointer none =>
    match P.underlying t, op with
    | some (.pointer _), .eql => K (.bool a.isNone)
    | some (.pointer _), .neq => K (.bool (!a.isNone))
    | _, _ => False
  | .slice a _ _, .slice none _ _ =>
    match P.underlying t, op with
    | some (.slice _), .eql => K (.bool a.isNone)
    | some (.slice _), .neq => K (.bool (!a.isNone))
    | _, _ => False
  | u, v => HBin P op t x y u v K

def fconv (P : Program) (Hs : List Heap) (src dst : TypeId) (v : Value) (K : Value → Prop) : Prop :=
  match P.underlying src, P.underlying dst, v with
  | some _, some (.int k), .int _ n => K (.int k (wr k n))
  | some _, some .string, .string s => K (.string s)
  | some (.slice e), some .string, .slice a len _ =>
    match P.underlying e with
    | some (.int .u8) => HBytes Hs a len fun s => K (.string s)
    | _ => False
  | _, _, _ => False

def fslice (P : Program) (t : TypeId) (v : Value) (lo hi : Option Value) (K : Value → Prop) : Prop :=
  match P.underlying t, v with
  | some .string, .string s =>
    (match hi with
      | none => fun (k : Nat → Prop) => k s.size
      | some (.int _ h) => fun k => HReq (0 ≤ h ∧ h ≤ s.size) (k h.toNat)
      | _ => fun _ => False) fun h =>
    (match lo with
      | none => fun (k : Nat → Prop) => k 0
      | some (.int _ l) => fun k => HReq (0 ≤ l ∧ l ≤ h) (k l.toNat)
      | _ => fun _ => False) fun l => K (.string (s.extract l h))
  | some (.slice e), .slice a len cap =>
    match P.info? e with
    | none => False
    | some ie =>
      (match hi with
        | none => fun (k : Nat → Prop) => k len
        | some (.int _ h) => fun k => HReq (0 ≤ h ∧ h ≤ cap) (k h.toNat)
        | _ => fun _ => False) fun h =>
      (match lo with
        | none => K (.slice a h cap)
        | some (.int _ l) => HReq (0 ≤ l ∧ l ≤ h) (K (.slice (slAddr a l.toNat cap ie.size) (h - l.toNat) (cap - l.toNat)))
        | _ => False)
  | _, _ => False

/-- s[l:h:m] -/
def fslice3 (P : Program) (t : TypeId) (v : Value) (lo hi : Option Value) (mx : Value) (K : Value → Prop) : Prop :=
  match P.underlying t, v with
  | some (.slice e), .slice a _ cap =>
    match P.info? e, lo, hi, mx with
    | some ie, some (.int _ l), some (.int _ h), .int _ m => HReq ((0 ≤ m ∧ m ≤ cap) ∧ (0 ≤ h ∧ h ≤ m.toNat) ∧ (0 ≤ l ∧ l ≤ h.toNat)) (K (.slice (slAddr a l.toNat m.toNat ie.size) (h.toNat - l.toNat) (m.toNat - l.toNat)))
    | _, _, _, _ => False
  | _, _ => False

def fpart (P : Program) (t : TypeId) (cs : List Value) (off : Nat) (K : Value → Prop) : Prop :=
  match isAggB P t, P.info? t with
  | some true, some i => forceL ((cs.drop off).take i.size) fun l => K (.agg l.toArray)
  | some false, _ => (match cs[off]? with | some v => K v | none => False)
  | _, _ => False

def findex (P : Program) (t : TypeId) (vx vi : Value) (K : Value → Prop) : Prop :=
  match P.underlying t, vx, vi with
  | some .string, .string s, .int _ i => HReq (0 ≤ i ∧ i < s.size) (K (.int .u8 (byteAt s i)))
  | some (.array n e), .agg cs, .int _ i =>
    (match isAggB P e with
      | some false => HReq (0 ≤ i ∧ i < n ∧ i < cs.size ∧ P.cellsOf e = 1 ∧ (P.info? e).isSome = true) (K (cs.toList.getD i.toNat undef))
      | _ => False)
  | _, _, _ => False

def findexAddr (P : Program) (t : TypeId) (vx vi : Value) (K : Value → Prop) : Prop :=
  match P.underlying t, vx, vi with
  | some (.slice e), .slice (some ⟨b, off, none⟩) len _, .int _ i =>
    (match P.info? e with
      | some ie => HReq (0 ≤ i ∧ i < len) (K (.pointer (some ⟨b, off + offMul i.toNat ie.size, none⟩)))
      | none => False)
  | some (.array n e), .pointer (some ⟨b, off, none⟩), .int _ i =>
    (match P.info? e with
      | some ie => HReq (0 ≤ i ∧ i < n) (K (.pointer (some ⟨b, off + offMul i.toNat ie.size, none⟩)))
      | none => False)
  | _, _, _ => False

def fmax (b : Builtin) (K : Value → Prop) : List Value → Prop
  | .int k x :: rest => (match rest with
    | [] => K (.int k x)
    | [.int k' y] => K (.int k (if b = .max then (if y > x then y else x) else (if y < x then y else x)))
    | _ => False)
  | _ => False

/-- What an operation that only reads comes to. -/
def fop (P : Program) (ρ : Operand → Value) (Hs : List Heap) (K : Value → Prop) : Op → Prop
  | .move x => K (ρ x)
  | .assign x => K (ρ x)
  | .pick c a b => (match ρ c with | .bool true => K (ρ a) | .bool false => K (ρ b) | _ => False)
  | .load t a => (match ρ a with
    | .pointer (some ⟨b, off, none⟩) => (match isAggB P t, P.info? t with
      | some true, some i => HLoadN Hs b off i.size fun vs => K (.agg vs.toArray)
      | some false, _ => HLoad Hs ⟨b, off, none⟩ K
      | _, _ => False)
    | _ => False)
  | .nilCheck x => (match ρ x with
    | .pointer (some a) => K (.pointer (some a))
    | .iface t v => K (.iface t v)
    | .func (.func f) u c => K (.func (.func f) u c)
    | _ => False)
  | .binOp op t x y _ => fbin P op t x y K (ρ x) (ρ y)
  | .unOp op _ x => (match op, ρ x with
    | .not, .bool b => K (.bool (!b))
    | .neg, .int k n => K (.int k (wr k (0 - n)))
    | .xor, .int k n => K (.int k (bitsS .xor k (if k.signed then -1 else k.max) n))
    | _, _ => False)
  | .convert src dst x => fconv P Hs src dst (ρ x) K
  | .makeInterface t x => (match P.underlying t with
    | some (.interface _) => False
    | some _ => K (.iface t (ρ x))
    | none => False)
  | .makeFunc fn first captured => K (.func fn (first.map ρ) (captured.map ρ))
  | .slice t x lo hi none => fslice P t (ρ x) (lo.map ρ) (hi.map ρ) K
  | .slice t x lo hi (some mx) => fslice3 P t (ρ x) (lo.map ρ) (hi.map ρ) (ρ mx) K
  | .fieldAddr s x f => (match P.underlying s, ρ x with
    | some (.struct fs), .pointer (some ⟨b, off, none⟩) => (match fs[f]? with
      | some fd => (match P.info? fd.type with
        | some i => cond (Nat.beq i.size 0) False (K (.pointer (some ⟨b, off + fd.offset, none⟩)))
        | none => False)
      | none => False)
    | _, _ => False)
  | .field t x f => (match P.underlying t, ρ x with
    | some (.struct fs), .agg cs => (match fs[f]? with
      | some fd => fpart P fd.type cs.toList fd.offset K
      | none => False)
    | _, _ => False)
  | .indexAddr t x i => findexAddr P t (ρ x) (ρ i) K
  | .index t x i => findex P t (ρ x) (ρ i) K
  | .extract x j => (match ρ x with
    | .tuple vs => (match vs.toList[j]? with | some v => K v | none => False)
    | _ => False)
  | .build t parts => (match builtL P t (parts.toList.map fun p => (p.1, ρ p.2)) with
    | some cells => forceL cells fun l => K (.agg l.toArray)
    | none => False)
  | .lookup t x i ok => HRd P (Instr.lookup t (ρ x) (ρ i) ok) Hs K
  | .typeAssert x xt at_ ok => HRd P (Instr.typeAssert (ρ x) xt at_ ok) Hs K
  | .call { callee := .builtin .len, args, argTypes } => (match args.toList.map ρ, argTypes.toList.map P.underlying with
    | [.slice _ n _], [some (.slice _)] => K (.int .i64 n)
    | [.string s], [some .string] => K (.int .i64 s.size)
    | [_], [some (.array n _)] => K (.int .i64 n)
    | [.map r], [some (.map _ _)] => HRd P (Builtin.len_ argTypes 0 #[.map r]) Hs K
    | _, _ => False)
  | .call { callee := .builtin .max, args, .. } => fmax .max K (args.toList.map ρ)
  | .call { callee := .builtin .min, args, .. } => fmax .min K (args.toList.map ρ)
  | _ => False

theorem Rds.pure_value {P : Program} {s : Sem Value} {H : Heap} {v : Value} (h : Rds P s H v) : Rds P (do pure (Next.value (← s))) H (.value v) := fun w hs => by
  simp [h w hs]
theorem Rds.pure {P : Program} {α : Type} {x : α} {H : Heap} : Rds P (Pure.pure x) H x := fun w hs => rfl

theorem rds_loadN {P : Program} {H : Heap} {b off : Nat} {vs : List Value} (h : ∀ i v, vs[i]? = some v → H.cell? ⟨b, off + i, none⟩ = some v) : Rds P (loadCells ⟨b, off, none⟩ vs.length) H vs.toArray := fun w hs =>
  run_loadCells_list w ⟨b, off, none⟩ vs fun j v hj => by
    have := hs.cell (h j v hj)
    rw [Addr.add_lit]; exact this

theorem isAgg_run {P : Program} {t : TypeId} {r : Bool} (h : isAggB P t = some r) (w : World) : (isAgg t).run P w = .ok r w := by
  unfold isAggB at h
  unfold isAgg
  cases hu : P.underlying t with
  | none => simp [hu] at h
  | some d =>
    rw [Sem.run_bind, run_underlying hu w]
    rw [hu] at h
    cases d <;> simp at h <;> subst h <;> rfl

theorem sizeOf_run {P : Program} {t : TypeId} {i : TypeInfo} (h : P.info? t = some i) (w : World) : (sizeOf t).run P w = .ok i.size w := by
  simp [sizeOf, typeInfo, h]

theorem run_equalIn_bool {P : Program} (d : Nat) {t : TypeId} (hu : P.underlying t = some .bool) (a b : Bool) (w : World) : (Op.equalIn (d + 1) t (.bool a) (.bool b)).run P w = .ok (a == b) w := by
  unfold Op.equalIn; simp [run_underlying hu]
theorem run_equalIn_pnil {P : Program} (d : Nat) {t e : TypeId} (hu : P.underlying t = some (.pointer e)) (a : Option Addr) (w : World) : (Op.equalIn (d + 1) t (.pointer a) (.pointer none)).run P w = .ok a.isNone w := by
  unfold Op.equalIn; cases a <;> simp [run_underlying hu]
theorem run_equalIn_snil {P : Program} (d : Nat) {t e : TypeId} (hu : P.underlying t = some (.slice e)) (a : Option Addr) (n c n' c' : Nat) (w : World) : (Op.equalIn (d + 1) t (.slice a n c) (.slice none n' c')).run P w = .ok a.isNone w := by
  unfold Op.equalIn; cases a <;> simp [run_underlying hu]
theorem binOp_eq_ (t : TypeId) (u v : Value) (h : ∀ k a k' b, ¬ (u = .int k a ∧ v = .int k' b)) (h2 : ∀ k a k' b, ¬ (u = .float k a ∧ v = .float k' b)) (h3 : ∀ k a b k' c d, ¬ (u = .complex k a b ∧ v = .complex k' c d)) (h4 : ∀ a b, ¬ (u = .string a ∧ v = .string b)) :
    binOp .eql t u v = (do pure (.bool (← Op.equalIn (9999 + 1) t u v))) ∧ binOp .neq t u v = (do pure (.bool (!(← Op.equalIn (9999 + 1) t u v)))) := by
  constructor <;> (cases u <;> cases v <;> first | rfl | exact absurd ⟨rfl, rfl⟩ (h _ _ _ _) | exact absurd ⟨rfl, rfl⟩ (h2 _ _ _ _) | exact absurd ⟨rfl, rfl⟩ (h3 _ _ _ _ _ _) | exact absurd ⟨rfl, rfl⟩ (h4 _ _))
theorem fbin_sound {P : Program} {op : BinOp} {t : TypeId} {x y : Operand} {K : Value → Prop} {u v : Value} (h : fbin P op t x y K u v) :
    ∃ r, K r ∧ ∀ w, (do eqGuard op t x y u v; binOp op t u v : Sem Value).run P w = .ok r w := by
  unfold fbin at h
  split at h
  · rename_i k a k' b
    have hg : ∀ w, (do eqGuard op t x y (.int k a) (.int k' b); binOp op t (.int k a) (.int k' b) : Sem Value).run P w = (binOp op t (.int k a) (.int k' b)).run P w := fun w => by
      rw [eqGuard_at_int]; rfl
    split at h
    · obtain ⟨h0, h⟩ := h
      refine ⟨_, h, fun w => ?_⟩
      rw [hg, binOp_shl]
      simp [Op.shift, Int.not_lt.2 h0, shlS_eq]
    · obtain ⟨h0, h⟩ := h
      refine ⟨_, h, fun w => ?_⟩
      rw [hg, binOp_shr]
      simp [Op.shift, Int.not_lt.2 h0, shrS_eq]
    · by_cases hk : k = k'
      · subst hk
        simp only [decide_true, cond_true] at h
        split at h <;> first
          | exact h.elim
          | (obtain ⟨h0, h⟩ := h; exact ⟨_, h, fun w => by rw [hg]; simp [binOp, Op.intDiv, h0, wr_eq]⟩)
          | (refine ⟨_, h, fun w => ?_⟩; rw [hg]; simp [binOp, Op.intArith, Op.intBits, Op.intCmp, wr_eq, bitsS_eq, eqB_eq, ltB_eq, bits]; done)
          | (refine ⟨_, h, fun w => ?_⟩; rw [hg]; simp [binOp, Op.intCmp, eqB_eq, bne]; done)
          | (refine ⟨_, h, fun w => ?_⟩; rw [hg]; simp only [binOp, Op.intCmp, ltB_eq, if_false, ne_eq, not_true_eq_false, Sem.run_pure, ← decide_not, Int.not_lt]; done)
          | (refine ⟨_, h, fun w => ?_⟩; rw [hg]; simp only [binOp, Op.intCmp, ltB_eq, if_false, ne_eq, not_true_eq_false, Sem.run_pure, ← decide_not, Int.not_lt]; rfl)
      · simp [hk] at h
  · rename_i a b
    have hg : ∀ w, (do eqGuard op t x y (.string a) (.string b); binOp op t (.string a) (.string b) : Sem Value).run P w = (binOp op t (.string a) (.string b)).run P w := fun w => by
      rw [eqGuard_at_string]; rfl
    split at h <;> first
      | exact h.elim
      | (obtain ⟨h0, h⟩ := h; exact ⟨_, h, fun w => by rw [hg]; simp only [binOp, Op.stringOp, IntKind.max_i64]; rw [if_neg (by omega)]; rfl⟩)
      | exact ⟨_, h, fun w => by rw [hg]; simp [binOp, Op.stringOp, seqB_eq, sltB_eq]⟩
  · rename_i a b
    have hg : ∀ w, (do eqGuard op t x y (.bool a) (.bool b); binOp op t (.bool a) (.bool b) : Sem Value).run P w = (binOp op t (.bool a) (.bool b)).run P w := fun w => by
      rw [eqGuard_at_bool]; rfl
    have he := binOp_eq_ t (.bool a) (.bool b) (by simp) (by simp) (by simp) (by simp)
    generalize hu : P.underlying t = d at h
    cases d with
    | none => exact h.elim
    | some d =>
      cases d <;> try exact h.elim
      cases op <;> first
        | exact h.elim
        | exact ⟨_, h, fun w => by rw [hg, he.1]; simp only [Sem.run_bind, run_equalIn_bool _ hu]; rfl⟩
        | exact ⟨_, h, fun w => by rw [hg, he.2]; simp only [Sem.run_bind, run_equalIn_bool _ hu]; rfl⟩
  · rename_i a
    have hg : ∀ w, (do eqGuard op t x y (.pointer a) (.pointer none); binOp op t (.pointer a) (.pointer none) : Sem Value).run P w = (binOp op t (.pointer a) (.pointer none)).run P w := fun w => by
      rw [eqGuard_at_pointer]; rfl
    have he := binOp_eq_ t (.pointer a) (.pointer none) (by simp) (by simp) (by simp) (by simp)
    generalize hu : P.underlying t = d at h
    cases d with
    | none => exact h.elim
    | some d =>
      cases d <;> try exact h.elim
      cases op <;> first
        | exact h.elim
        | exact ⟨_, h, fun w => by rw [hg, he.1]; simp only [Sem.run_bind, run_equalIn_pnil _ hu]; rfl⟩
        | exact ⟨_, h, fun w => by rw [hg, he.2]; simp only [Sem.run_bind, run_equalIn_pnil _ hu]; rfl⟩
  · rename_i a n c n' c'
    have hg : ∀ w, (do eqGuard op t x y (.slice a n c) (.slice none n' c'); binOp op t (.slice a n c) (.slice none n' c') : Sem Value).run P w = (binOp op t (.slice a n c) (.slice none n' c')).run P w := fun w => by
      rw [eqGuard_at_slice]; rfl
    have he := binOp_eq_ t (.slice a n c) (.slice none n' c') (by simp) (by simp) (by simp) (by simp)
    generalize hu : P.underlying t = d at h
    cases d with
    | none => exact h.elim
    | some d =>
      cases d <;> try exact h.elim
      cases op <;> first
        | exact h.elim
        | exact ⟨_, h, fun w => by rw [hg, he.1]; simp only [Sem.run_bind, run_equalIn_snil _ hu]; rfl⟩
        | exact ⟨_, h, fun w => by rw [hg, he.2]; simp only [Sem.run_bind, run_equalIn_snil _ hu]; rfl⟩
  · exact h.ex
end Go.Proofs.Ytaobgofbhommcaa.Hv
