import Derived.Test.YtfcmjomnpahllaaV1
import Derived.Test.YtfcmjomnpahllaaA7
import Derived.CallsIn
import Derived.Sort.OwnSorted
namespace Go.Proofs.Ytfcmjomnpahllaa
open Go Hv Go.RowKit Go.Shelf Go.Sort
set_option linter.unusedVariables false
set_option linter.unusedSimpArgs false
set_option maxRecDepth 10000
set_option maxHeartbeats 1000000
/-! From the kit's contracts to calls over heaps; slices.Sorted(slices.Values(l)). -/
theorem txts_enc (ls : List (List UInt8)) : txts ls = ls.map encStr := rfl
theorem made_calls {P : Program} {f : FuncId} {args : List Value} {H : Heap} {K : Value → Heap → Prop} {e : TypeId} {size n : Nat} {xs : List Value}
    (h : ∀ w, Sat H w → Calls P f args.toArray w fun e' w' => ∃ v, e' = .returned v ∧ w'.ownsRow w.heap.size e size v n xs ∧ Below w.heap.size w w')
    (hk : ∀ a c H', Made H H' e size a n c xs → K (.slice a n c) H') : HCalls P f args H K := by
  intro w hs
  refine (h w hs).mono ?_
  rintro e' w' ⟨v, rfl, ⟨hl, ho⟩, hb⟩
  rcases ho with ⟨rfl, h0⟩ | ⟨g, cap, cur, rfl, hg, hgb, h1, h2, h3, h4⟩
  · subst h0
    have hx : xs = [] := List.eq_nil_of_length_eq_zero (by rw [hl]; simp)
    subst hx
    refine ⟨_, H, rfl, hk none 0 H ⟨OwnRow.nil _ _ _, Upd.refl _ _, fun p hp => by cases hp⟩, fun b o hbo => ?_, ⟨hb.os, hb.tape, hb.output, hb.size, fun b hlt _ => hb.block b hlt, fun b h1 h2 => absurd h1 h2⟩⟩
    rw [hb.block b (hs.lt (by rw [hbo]; simp))]; exact hs b o hbo
  · have hn : H g = none := Classical.byContradiction fun hne => by have := hs.lt hne; omega
    refine ⟨_, H.upd g (.cells cur e (0, 0)), rfl, hk (some ⟨g, 0, none⟩) cap _ ⟨OwnRow.made (upd_same _ _ _) h3 h1 hl fun i v hv => ?_, Upd.new hn _, fun p hp => by cases hp; exact hn⟩, fun b o hbo => ?_, ⟨hb.os, hb.tape, hb.output, hb.size, fun b hlt _ => hb.block b hlt, fun b h1 h2 => ?_⟩⟩
    · have hi : i < n * size := by rw [← hl]; exact (List.getElem?_eq_some_iff.1 hv).1
      rw [← h4, List.getElem?_take_of_lt hi, Array.getElem?_toList] at hv; exact hv
    · by_cases e1 : b = g
      · subst e1; rw [upd_same] at hbo; cases hbo; exact hgb
      · rw [upd_ne _ _ e1] at hbo
        rw [hb.block b (hs.lt (by rw [hbo]; simp))]; exact hs b o hbo
    · by_cases e1 : b = g
      · subst e1; exact hg
      · rw [upd_ne _ _ e1] at h2; exact absurd h1 h2
/-- A call of the kit's that sorts a row in its place. -/
theorem sort_calls {P : Program} {f : FuncId} {H : Heap} {K : Value → Heap → Prop} {e : TypeId} {g n cap : Nat} {ls ts : List (List UInt8)} (ho : OwnRow H e 1 (some ⟨g, 0, none⟩) n cap (txts ls)) (hts : ts.length = n)
    (h : ∀ w, Sort.Holds encStr w g 0 ls.toArray → g < w.heap.size → Calls P f #[.slice (some ⟨g, 0, none⟩) ls.length cap] w fun e' w' => e' = .returned (.tuple #[]) ∧ ∃ m os, w' = grow (putRow encStr (Sort.ahead w m) g 0 ts.toArray) os)
    (hk : ∀ H', OwnRow H' e 1 (some ⟨g, 0, none⟩) n cap (txts ts) → Upd [g] H H' → K (.tuple #[]) H') : HCalls P f [.slice (some ⟨g, 0, none⟩) n cap] H K := by
  intro w hs
  rcases ho.ok with ⟨ha, _⟩ | ⟨g', cur, ha, hg, hsz, hle, hc⟩
  · cases ha
  cases ha
  have hw := hs g _ hg
  have hlt : g < w.heap.size := (Array.getElem?_eq_some_iff.1 hw).1
  have hl : ls.length = n := by have := ho.len; simpa [txts] using this
  subst hl
  have hh : Sort.Holds encStr w g 0 ls.toArray := by
    refine holds_of_block hw ?_
    apply List.ext_getElem?
    intro i
    by_cases hi : i < ls.length
    · rw [List.getElem?_take_of_lt hi, Array.getElem?_toList]
      obtain ⟨s, hs'⟩ : ∃ s, ls[i]? = some s := ⟨ls[i], by simp [hi]⟩
      rw [hc i (.string (bs s)) (by simp [txts, hs']), List.getElem?_map, hs']; rfl
    · rw [List.getElem?_eq_none (by simp; omega), List.getElem?_eq_none (by simp; omega)]
  refine (h w hh hlt).mono ?_
  rintro e' w' ⟨rfl, m, os, rfl⟩
  have hhs := heap_sorted (w := w) (n := m) (os := os) ts.toArray hw
  have hgb := grownBy_sorted (w := w) (g := g) (n := m) (os := os) ts.toArray
  refine ⟨_, H.upd g (.cells (putCells encStr 0 ts.toArray cur) e (0, 0)), rfl, hk _ (OwnRow.made (upd_same _ _ _) (by simpa [putCells] using hsz) hle (by simp [txts, hts]) fun i v hv => ?_) (Upd.upd (by simp) _), fun b o hbo => ?_, ⟨hgb.os, hgb.tape, hgb.output, hgb.size, fun b hlt' hb => ?_, fun b h1 h2 => ?_⟩⟩
  · have hi : i < ts.length := by have := (List.getElem?_eq_some_iff.1 hv).1; simpa [txts] using this
    have ht := take_putCells cur ts (by omega)
    have h5 : ((putCells encStr 0 ts.toArray cur).toList.take ts.length)[i]? = (ts.map encStr)[i]? := by rw [ht]
    rw [List.getElem?_take_of_lt hi, Array.getElem?_toList] at h5
    rw [h5]; exact hv
  · by_cases e1 : b = g
    · subst e1; rw [upd_same] at hbo; cases hbo; exact hhs
    · rw [upd_ne _ _ e1] at hbo
      rw [hgb.block b (hs.lt (by rw [hbo]; simp)) (fun e => e1 (by cases e; rfl))]; exact hs b o hbo
  · have e1 : b ≠ g := fun e => by rw [e, hg] at hb; cases hb
    exact hgb.block b hlt' (fun e => e1 (by cases e; rfl))
  · by_cases e1 : b = g
    · subst e1; rw [hg] at h1; cases h1
    · rw [upd_ne _ _ e1] at h2; exact absurd h1 h2
def sortT (ls : List (List UInt8)) : List (List UInt8) := ls.mergeSort fun x y => decide (x ≤ y)
theorem sort_t {H : Heap} {K : Value → Heap → Prop} {g n cap : Nat} {ls : List (List UInt8)} (ho : OwnRow H 9 1 (some ⟨g, 0, none⟩) n cap (txts ls)) (hn : n < 4611686018427387904)
    (hk : ∀ H', OwnRow H' 9 1 (some ⟨g, 0, none⟩) n cap (txts (sortT ls)) → Upd [g] H H' → K (.tuple #[]) H') : HCalls Try.prog 59 [.slice (some ⟨g, 0, none⟩) n cap] H K := by
  have hl : ls.length = n := by have := ho.len; simpa [txts] using this
  exact sort_calls (ts := sortT ls) ho (by unfold sortT; rw [List.length_mergeSort]; exact hl) (fun w hh hlt => Any.slices_Sort_string Vals.Sk g 0 cap ls w hh hlt (by omega)) hk
theorem cell_sat {H : Heap} {w : World} (hs : Sat H w) {a : Addr} {v : Value} (h : H.cell? a = some v) : a.block < w.heap.size := hs.lt fun e => by
  unfold Heap.cell? at h; rw [e] at h; cases h
theorem appendSeq_t {a : Option Addr} {n c Bs : Nat} {l : List (List UInt8)} {H : Heap} {K : Value → Heap → Prop} (hr : RowAt H a (txts l)) (hl : l.length = n) (h0 : 0 < n) (hn : n ≤ 8796093021952) (hb : H.cell? ⟨Bs, 0, none⟩ = some (.slice a n c))
    (hk : ∀ a' c' H', Made H H' 9 1 a' n c' (txts l) → K (.slice a' n c') H') : HCalls Try.prog 67 [.slice none 0 0, .func (.func 92) #[] #[.pointer (some ⟨Bs, 0, none⟩)]] H K := by
  subst hl
  refine made_calls (fun w hs => ?_) hk
  have hcell : ∀ i s, l[i]? = some s → (txts l)[i]? = some (Value.string (bs s)) := fun i s h => by unfold txts; rw [List.getElem?_map, h]; rfl
  obtain ⟨s0, hs0⟩ : ∃ s, l[0]? = some s := ⟨l[0], by simp [h0]⟩
  obtain ⟨b, off, rfl, hc0⟩ := hr 0 _ (hcell 0 s0 hs0)
  have hI : Vals.Holds w.heap.size w (.slice (some ⟨b, off, none⟩) l.length c) l := by
    refine .inr ⟨b, off, c, rfl, cell_sat hs hc0, fun j hj => ?_⟩
    obtain ⟨s, hs'⟩ : ∃ s, l[j]? = some s := ⟨l[j], by simp [hj]⟩
    rw [hs']
    exact hs.cell (hr.get (hcell j s hs'))
  refine ((callsIn_wide (n := 5)).1 (Vals.append_in Fence.wide 5 trivial trivial rfl (by decide) Bs _ l (by omega) (by unfold maxLen; omega) w (cell_sat hs hb) (hs.cell hb) hI)).mono ?_
  rintro e w' ⟨v, h1, h2, _, h3⟩
  exact ⟨v, h1, h2, h3⟩
theorem collect_t {a : Option Addr} {n c Bs : Nat} {l : List (List UInt8)} {H : Heap} {K : Value → Heap → Prop} (hr : RowAt H a (txts l)) (hl : l.length = n) (h0 : 0 < n) (hn : n ≤ 8796093021952) (hb : H.cell? ⟨Bs, 0, none⟩ = some (.slice a n c))
    (hk : ∀ a' c' H', Made H H' 9 1 a' n c' (txts l) → K (.slice a' n c') H') : HCalls Try.prog 58 [.func (.func 92) #[] #[.pointer (some ⟨Bs, 0, none⟩)]] H K := by
  refine hcalls (fn := Try.f58) [] mixed Try.func58 rfl rfl rfl ?_
  (repeat first | refine HReg.step ?_ | refine HCode.step ?_)
  refine HCall.mk ⟨Try.f67, Try.func67, by rfl, by rfl⟩ ?_
  refine appendSeq_t hr hl h0 hn hb fun a' c' H' m => ?_
  (repeat first | refine HReg.step ?_ | refine HCode.step ?_)
  exact hk a' c' H' m
theorem sorted_t {a : Option Addr} {n c Bs : Nat} {l : List (List UInt8)} {H : Heap} {K : Value → Heap → Prop} (hr : RowAt H a (txts l)) (hl : l.length = n) (h0 : 0 < n) (hn : n ≤ 8796093021952) (hb : H.cell? ⟨Bs, 0, none⟩ = some (.slice a n c))
    (hk : ∀ a' c' H', Made H H' 9 1 a' n c' (txts (sortT l)) → K (.slice a' n c') H') : HCalls Try.prog 43 [.func (.func 92) #[] #[.pointer (some ⟨Bs, 0, none⟩)]] H K := by
  refine hcalls (fn := Try.f43) [] mixed Try.func43 rfl rfl rfl ?_
  (repeat first | refine HReg.step ?_ | refine HCode.step ?_)
  refine HCall.mk ⟨Try.f58, Try.func58, by rfl, by rfl⟩ ?_
  refine collect_t hr hl h0 hn hb fun a1 c1 H1 m1 => ?_
  obtain ⟨g, rfl⟩ := m1.own.addr h0
  (repeat first | refine HReg.step ?_ | refine HCode.step ?_)
  refine HCall.mk ⟨Try.f59, Try.func59, by rfl, by rfl⟩ ?_
  refine sort_t m1.own (by omega) fun H2 o2 u2 => ?_
  (repeat first | refine HReg.step ?_ | refine HCode.step ?_)
  exact hk _ _ H2 ⟨o2, Upd.drop m1.upd u2 fun b hb => by rw [List.mem_singleton.1 hb]; exact m1.new _ rfl, m1.new⟩
theorem values_t {a : Option Addr} {n c : Nat} {H : Heap} {K : Value → Heap → Prop} (hk : ∀ b H', H b = none → Upd [] H H' → H'.cell? ⟨b, 0, none⟩ = some (.slice a n c) → K (.func (.func 92) #[] #[.pointer (some ⟨b, 0, none⟩)]) H') : HCalls Try.prog 70 [.slice a n c] H K := by
  refine hcalls (fn := Try.f70) [] mixed Try.func70 rfl rfl rfl ?_
  (repeat first | refine HReg.step ?_ | refine HCode.step ?_)
  refine HNew.mk fun b hb => ?_
  (repeat first | refine HReg.step ?_ | refine HCode.step ?_)
  exact hk b _ hb (Upd.new hb _) (by rw [cell_of (upd_same _ _ _)]; rfl)
end Go.Proofs.Ytfcmjomnpahllaa
