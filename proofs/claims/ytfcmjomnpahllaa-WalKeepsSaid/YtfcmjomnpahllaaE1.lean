import Derived.Test.YtfcmjomnpahllaaE0
import Derived.Test.YtfcmjomnpahllaaDk9
import Derived.Test.YtfcmjomnpahllaaV2
import Derived.Test.YtfcmjomnpahllaaK1
import Derived.CallsIn
import Derived.StringKeys
import Derived.Sort.OwnSorted
namespace Go.Proofs.Ytfcmjomnpahllaa
open Go Hv Go.RowKit Go.Shelf Go.Sort
set_option linter.unusedVariables false
set_option linter.unusedSimpArgs false
set_option maxRecDepth 10000
set_option maxHeartbeats 1000000
/-! List: the names of a disk's files, rising. -/
theorem made_callsQ {P : Program} {f : FuncId} {args : List Value} {H : Heap} {K : Value → Heap → Prop} {e : TypeId} {size : Nat} {Q : Nat → List Value → Prop}
    (h : ∀ w, Sat H w → Calls P f args.toArray w fun e' w' => ∃ v n xs, Q n xs ∧ e' = .returned v ∧ w'.ownsRow w.heap.size e size v n xs ∧ Below w.heap.size w w')
    (hk : ∀ a c n xs H', Q n xs → Made H H' e size a n c xs → K (.slice a n c) H') : HCalls P f args H K := by
  intro w hs
  refine (h w hs).mono ?_
  rintro e' w' ⟨v, n, xs, hQ, rfl, ⟨hl, ho⟩, hb⟩
  rcases ho with ⟨rfl, h0⟩ | ⟨g, cap, cur, rfl, hg, hgb, h1, h2, h3, h4⟩
  · subst h0
    have hx : xs = [] := List.eq_nil_of_length_eq_zero (by rw [hl]; simp)
    subst hx
    refine ⟨_, H, rfl, hk none 0 _ _ H hQ ⟨OwnRow.nil _ _ _, Upd.refl _ _, fun p hp => by cases hp⟩, fun b o hbo => ?_, ⟨hb.os, hb.tape, hb.output, hb.size, fun b hlt _ => hb.block b hlt, fun b h1 h2 => absurd h1 h2⟩⟩
    rw [hb.block b (hs.lt (by rw [hbo]; simp))]; exact hs b o hbo
  · have hn : H g = none := Classical.byContradiction fun hne => by have := hs.lt hne; omega
    refine ⟨_, H.upd g (.cells cur e (0, 0)), rfl, hk (some ⟨g, 0, none⟩) cap _ _ _ hQ ⟨OwnRow.made (upd_same _ _ _) h3 h1 hl fun i v hv => ?_, Upd.new hn _, fun p hp => by cases hp; exact hn⟩, fun b o hbo => ?_, ⟨hb.os, hb.tape, hb.output, hb.size, fun b hlt _ => hb.block b hlt, fun b h1 h2 => ?_⟩⟩
    · have hi : i < n * size := by rw [← hl]; exact (List.getElem?_eq_some_iff.1 hv).1
      rw [← h4, List.getElem?_take_of_lt hi, Array.getElem?_toList] at hv; exact hv
    · by_cases e1 : b = g
      · subst e1; rw [upd_same] at hbo; cases hbo; exact hgb
      · rw [upd_ne _ _ e1] at hbo
        rw [hb.block b (hs.lt (by rw [hbo]; simp))]; exact hs b o hbo
    · by_cases e1 : b = g
      · subst e1; exact hg
      · rw [upd_ne _ _ e1] at h2; exact absurd h1 h2
/-- The names of files, as lists of bytes. -/
def namesOf (fl : List Fl) : List Txt := fl.map fun f => f.name.data.toList
def rN (v : Value) : Option (DataW Unit × List MemPlace) := some (.nil, [])
def rgN (f : Fl) : Lit × DataW Unit := (.string f.name.data.toList, .nil)
theorem reads_fl {f : Fl} (h : f.name.size ≤ 32) : Go.WideElems.rd (H := Unit) Try.prog 9 rN f.ent.e = some (rgN f) := by
  unfold Go.WideElems.rd Fl.ent Ent.e
  have : keyOf Try.prog 9 (.string f.name) = some (.string f.name.data.toList) := Go.WideMaps.keyOf_string_mk Try.underlying9 (by unfold maxLen; omega)
  simp only [this, rN, Option.bind_some, Option.map_some, rgN]
theorem owns_fl {w : World} {H : Heap} {r c : Nat} {fl : List Fl} (hs : Sat H w) (hm : MapAt H r (fl.map Fl.ent) c) (hb : ∀ f ∈ fl, f.born < c) (hnb : (fl.map Fl.born).Nodup) (hnn : (fl.map Fl.name).Nodup) (h32 : ∀ f ∈ fl, f.name.size ≤ 32) (hlen : fl.length ≤ 1000) :
    w.ownsMap Try.prog 9 rN r fl.length (.map ((fl.map rgN).foldr DataW.insert [])) := by
  have e0 : (((fl.map Fl.ent).map Ent.e).toArray).toList = fl.map fun f => f.ent.e := by rw [List.toList_toArray, List.map_map]; rfl
  refine ⟨_, c, hs _ _ hm, ⟨?_, ⟨?_, ?_, ?_⟩, ?_⟩, ?_, ?_⟩
  · simp only [List.size_toArray, List.length_map]; unfold maxLen; omega
  · rw [e0]
    intro x hx
    obtain ⟨f, hf, rfl⟩ := List.mem_map.1 hx
    exact hb f hf
  · rw [e0, List.map_map]; exact hnb
  · rw [e0, List.map_map]
    have : (fl.map Fl.name).map Value.string = fl.map ((fun x => MapEntry.key x) ∘ fun f => f.ent.e) := by rw [List.map_map]; rfl
    rw [← this]
    exact List.Pairwise.map _ (fun a b (h : a ≠ b) (hab : Value.string a = Value.string b) => h (by injection hab)) hnn
  · rw [e0]
    intro x hx
    obtain ⟨f, hf, rfl⟩ := List.mem_map.1 hx
    exact ⟨_, reads_fl (h32 f hf)⟩
  · simp only [List.size_toArray, List.length_map]; exact Nat.le_refl _
  · rw [e0, List.map_map]
    congr 2
    apply List.map_congr_left
    intro f hf
    show rgN f = Go.WideElems.rg Try.prog 9 rN f.ent.e
    unfold Go.WideElems.rg
    rw [reads_fl (h32 f hf)]; rfl
theorem keys_fl (fl : List Fl) : (strKeys (.map ((fl.map rgN).foldr DataW.insert [] : List (Lit × DataW Unit)))).Perm (namesOf fl) := by
  show (List.map (fun (p : Lit × DataW Unit) => strOf p.1) ((fl.map rgN).foldr DataW.insert [])).Perm _
  refine ((Go.WideShapes.sorted_perm (fl.map rgN)).map _).trans ?_
  rw [List.map_map]
  exact List.Perm.of_eq rfl
section
variable {H1 H : Heap} {g r : Nat} {s : St} {fl : List Fl} {K : Value → Heap → Prop}
theorem keys_t {m : Nat} (hk : ∀ b H', H b = none → Upd [] H H' → H'.cell? ⟨b, 0, none⟩ = some (.map (some m)) → K (.func (.func 60) #[] #[.pointer (some ⟨b, 0, none⟩)]) H') : HCalls Try.prog 44 [.map (some m)] H K := by
  refine hcalls (fn := Try.f44) [] mixed Try.func44 rfl rfl rfl ?_
  (repeat first | refine HReg.step ?_ | refine HCode.step ?_)
  refine HNew.mk fun b hb => ?_
  (repeat first | refine HReg.step ?_ | refine HCode.step ?_)
  exact hk b _ hb (Upd.new hb _) (by rw [cell_of (upd_same _ _ _)]; rfl)
theorem dsorted_t {b c m : Nat} (hm : MapAt H m (fl.map Fl.ent) c) (hb : ∀ f ∈ fl, f.born < c) (hnb : (fl.map Fl.born).Nodup) (hnn : (fl.map Fl.name).Nodup) (h32 : ∀ f ∈ fl, f.name.size ≤ 32) (hlen : fl.length ≤ 1000) (hc : H.cell? ⟨b, 0, none⟩ = some (.map (some m)))
    (hk : ∀ a c' ns H', ns.Perm (namesOf fl) → Made H H' 9 1 a fl.length c' (txts (sortT ns)) → K (.slice a fl.length c') H') : HCalls Try.prog 43 [.func (.func 60) #[] #[.pointer (some ⟨b, 0, none⟩)]] H K := by
  refine made_callsQ (e := 9) (size := 1) (Q := fun n xs => n = fl.length ∧ ∃ ns, ns.Perm (namesOf fl) ∧ xs = txts (sortT ns)) (fun w hs => ?_) ?_
  · have hown := owns_fl hs hm hb hnb hnn h32 hlen
    have hsz : Maps.size (.map ((fl.map rgN).foldr DataW.insert [] : List (Lit × DataW Unit))) = fl.length := by
      show List.length _ = _
      rw [(Go.WideShapes.sorted_perm (fl.map rgN)).length_eq, List.length_map]
    have hseq : SeqGives Fence.wide 2 Try.prog 60 #[.pointer (some ⟨b, 0, none⟩)] encStr (fun ss => ss.Perm (strKeys (.map ((fl.map rgN).foldr DataW.insert [] : List (Lit × DataW Unit))))) (Maps.size (.map ((fl.map rgN).foldr DataW.insert [] : List (Lit × DataW Unit)))) w :=
      AnyZ.keys_gives (ρ := Lay.Kk_ren) { Lay.Kk with } Fence.wide _ trivial rfl (by omega) b m fl.length _ w (cell_sat hs hc) (hs.cell hc) hown
    have cS := AnyZ.sorted_in Lay.Ss Fence.wide 5 trivial trivial trivial trivial rfl (by omega) (Lay.sorts _) (enters_of Try.func59 (by kernel_rfl) rfl) 60 #[.pointer (some ⟨b, 0, none⟩)] trivial (enters_of Try.func60 (by kernel_rfl) rfl) _ _ (by rw [hsz]; unfold maxLen; omega) (by rw [hsz]; omega) _ hseq
    change CallsIn _ _ Try.prog 43 _ _ _ at cS
    refine ((callsIn_wide (n := 5)).1 cS).mono ?_
    rintro e w' ⟨v, ss, rfl, hp, hrow, _, hbe⟩
    have hp' := hp.trans (keys_fl fl)
    have hl : ss.length = fl.length := by rw [hp'.length_eq]; unfold namesOf; rw [List.length_map]
    exact ⟨v, _, _, ⟨hl, ss, hp', rfl⟩, rfl, hrow, hbe⟩
  · rintro a c' n xs H' ⟨rfl, ns, hp, rfl⟩ m'
    exact hk a c' ns H' hp m'
theorem list_t (D : DiskAt H1 H g r s fl) (h32 : ∀ k x, s.call.fs k = some x → k.size ≤ 32) (h16 : s.call.cnt ≤ 16)
    (hno : s.call.d.off = true → ∀ fl' H', DiskAt H1 H' g r s.call fl' → Stp H H' g r fl fl' → K (.tuple #[.slice none 0 0, .int .i64 62]) H')
    (hyes : s.call.d.off = false → ∀ a c ns fl' H2 H', DiskAt H1 H2 g r s.call fl' → Stp H H2 g r fl fl' → ns.Perm (namesOf fl') → Made H2 H' 9 1 a fl'.length c (txts (sortT ns)) → K (.tuple #[.slice a fl'.length c, .int .i64 0]) H') :
    HCalls Try.prog 25 [.pointer (some ⟨g, 0, none⟩)] H K := by
  refine hcalls (fn := Try.f25) [] mixed Try.func25 rfl rfl rfl ?_
  (repeat first | refine HReg.step ?_ | refine HCode.step ?_)
  refine HCall.mk ⟨Try.f42, Try.func42, by rfl, by rfl⟩ ?_
  refine call_t D fun fl' H2 D' S' => ?_
  (repeat first | refine HReg.step ?_ | refine HCode.step ?_)
  refine hif (fun ho => ?_) (fun ho => ?_)
  · have ho : s.call.d.off = true := by simpa using ho
    (repeat first | refine HReg.step ?_ | refine HCode.step ?_)
    exact hno ho fl' H2 D' S'
  · have ho : s.call.d.off = false := by simpa using ho
    have P := D'.phys
    obtain ⟨c, hm, hb⟩ := P.map
    (repeat first | refine HReg.step ?_ | refine HCode.step ?_)
    refine HLoad.one (v := .map (some r)) (by exact P.obj.rows.get (i := 0) rfl) ?_
    (repeat first | refine HReg.step ?_ | refine HCode.step ?_)
    refine HCall.mk ⟨Try.f44, Try.func44, by rfl, by rfl⟩ ?_
    refine keys_t fun b H3 hb3 u3 hc3 => ?_
    (repeat first | refine HReg.step ?_ | refine HCode.step ?_)
    refine HCall.mk ⟨Try.f43, Try.func43, by rfl, by rfl⟩ ?_
    refine dsorted_t (fl := fl') (mapAt_upd hm u3 (by simp)) hb P.nb P.nn (fun f hf => h32 _ _ (D'.get f hf)) (by have := D'.cnt; omega) hc3 fun a c' ns H4 hp m4 => ?_
    (repeat first | refine HReg.step ?_ | refine HCode.step ?_)
    exact hyes ho a c' ns fl' H2 H4 D' S' hp (m4.back u3)
end
end Go.Proofs.Ytfcmjomnpahllaa
