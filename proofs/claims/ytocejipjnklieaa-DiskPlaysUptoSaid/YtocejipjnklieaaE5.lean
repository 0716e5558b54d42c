import Derived.Test.YtocejipjnklieaaE4
namespace Go.Proofs.Ytocejipjnklieaa
open Go Hv
set_option linter.unusedVariables false
set_option linter.unusedSimpArgs false
set_option maxRecDepth 10000
set_option maxHeartbeats 4000000
/-! shot: all files of a disk. CUT2 -/
theorem St.upp_call (s : St) : s.upp.call = s.upp := St.call_idle rfl
theorem St.upp_on (s : St) : s.upp.d.off = false := rfl
theorem upp_read {s : St} {t : Txt} (h : s.fs (bs t) ≠ none) : s.upp.readF (bs t) = (0, bytesAt s t) := by
  unfold St.readF bytesAt
  rw [St.upp_call, if_neg (by rw [St.upp_on]; decide)]
  show (match s.fs (bs t) with | none => _ | some (x, _) => _) = _
  cases e : s.fs (bs t) with
  | none => exact absurd e h
  | some x => rfl
structure ShInv (H1 Hs : Heap) (g r : Nat) (s : St) (fls : List Fl) (ns : List Txt) (aL : Option Addr) (cL b2 b4 : Nat) (m : Nat) (vs : List Value) (H : Heap) : Prop where
  ex : ∃ (i : Nat) (aN aB : Option Addr) (cN cB : Nat) (fl : List Fl), vs = [.bool true, .int .i64 (i : Int)] ∧ m + i = ns.length ∧ ShS H1 Hs g r s fls ns aL cL b4 i i aN aB cN cB fl H ∧ OwnRow H 55 1 (some ⟨b2, 0, none⟩) 2 2 [.slice none 0 0, .slice none 0 0]
structure ShJ (H1 Hs : Heap) (g r : Nat) (s : St) (fls : List Fl) (ns : List Txt) (aL : Option Addr) (cL b2 b4 : Nat) (vs : List Value) (H : Heap) : Prop where
  ex : ∃ (aN aB : Option Addr) (cN cB : Nat) (fl : List Fl), vs = [.bool true] ∧ ShS H1 Hs g r s fls ns aL cL b4 ns.length ns.length aN aB cN cB fl H ∧ OwnRow H 55 1 (some ⟨b2, 0, none⟩) 2 2 [.slice none 0 0, .slice none 0 0]
section
variable {H1 H : Heap} {g r N : Nat} {s : St} {fl : List Fl} {K : Value → Heap → Prop}
theorem shot_t (D : DiskAt H1 H g r s fl) (ok : s.Ok N) (hN : N ≤ 140737488355328)
    (hk : ∀ v ns fl' H', DiskAt H1 H' g r s.upp fl' → Stp H H' g r fl fl' → Nms s ns → ns.length ≤ 16 → ShotR (Zn H g r fl) H' (dblk g r fl') v s ns → K (.tuple #[v, .bool true]) H') : HCalls Try.prog 30 [.pointer (some ⟨g, 0, none⟩)] H K := by
  refine hcalls (fn := Try.f30) [(10, [(0, 0), (1, 0), (2, 0), (3, 0), (4, 0), (5, 0), (6, 0), (7, 0), (8, 0), (9, 0), (10, 0), (11, 0), (12, 0), (13, 0), (14, 0), (15, 0), (16, 0), (17, 0), (18, 0), (19, 0), (20, 0), (21, 0), (22, 0), (23, 0), (24, 0), (25, 0), (26, 0), (27, 0), (28, 0), (29, 0), (30, 0), (31, 0)]), (11, [(2, 0), (3, 0), (4, 0), (5, 0), (6, 0), (0, 1), (1, 1), (7, 0), (8, 0), (9, 0)]), (12, [(2, 0), (3, 0), (4, 0), (0, 2), (1, 2), (5, 0), (6, 0), (7, 0)])] mixed Try.func30 rfl rfl (by decide +kernel) ?_
  (repeat first | refine HReg.step ?_ | refine HCode.step ?_)
  refine HNew.mk fun b2 hb2 => ?_
  have u2 : Upd [] H (H.upd b2 (.cells [.slice none 0 0, .slice none 0 0].toArray 55)) := Upd.new hb2 _
  have o2 : OwnRow (H.upd b2 (.cells [.slice none 0 0, .slice none 0 0].toArray 55)) 55 1 (some ⟨b2, 0, none⟩) 2 2 [.slice none 0 0, .slice none 0 0] := OwnRow.lit (upd_same _ _ _) rfl
  generalize H.upd b2 (.cells [.slice none 0 0, .slice none 0 0].toArray 55) = H2 at u2 o2 ⊢
  have D2 := D.upd0 u2
  (repeat first | refine HReg.step ?_ | refine HCode.step ?_)
  refine HCall.mk ⟨Try.f17, Try.func17, by rfl, by rfl⟩ ?_
  refine up_t D2 fun H3 D3 S3 => ?_
  have S03 := S3.back0 u2
  have o2 := o2.upd S3.upd (off_notin (D2.offT o2 (by decide) (by decide) (by decide)))
  (repeat first | refine HReg.step ?_ | refine HCode.step ?_)
  refine HNew.mk fun b4 hb4 => ?_
  have u4 : Upd [] H3 (H3.upd b4 (.cells [.slice none 0 0, .slice none 0 0].toArray 55)) := Upd.new hb4 _
  have o4 : OwnRow (H3.upd b4 (.cells [.slice none 0 0, .slice none 0 0].toArray 55)) 55 1 (some ⟨b4, 0, none⟩) 2 2 [.slice none 0 0, .slice none 0 0] := OwnRow.lit (upd_same _ _ _) rfl
  generalize H3.upd b4 (.cells [.slice none 0 0, .slice none 0 0].toArray 55) = H4 at u4 o4 ⊢
  have D4 := D3.upd0 u4
  have S04 := S03.fwd0 u4
  have z4 : Zn H g r fl b4 := Zn.of S03 hb4
  have z2 : Zn H g r fl b2 := .inr hb2
  have ne24 : b4 ≠ b2 := fun e => by
    subst e
    rcases o2.ok with ⟨h1, _⟩ | ⟨g', cur, ha, hg, _⟩
    · cases h1
    · cases ha; rw [hb4] at hg; cases hg
  have o2 := o2.upd u4 (Off.nil _)
  have oks : s.upp.Ok N := ok.upp
  (repeat first | refine HReg.step ?_ | refine HCode.step ?_)
  refine HCall.mk ⟨Try.f21, Try.func21, by rfl, by rfl⟩ ?_
  refine list_f D4 oks (fun ho => (by rw [St.upp_call, St.upp_on] at ho; cases ho)) fun _ aL cL ns fl5 H5 H6 D5 S5 nms h16 mL => ?_
  rw [St.upp_call] at D5 nms
  have D6 := D5.upd0 mL.upd
  have S06 := (S04.trans S5).fwd0 mL.upd
  have nms' : Nms s ns := ⟨nms.ri, nms.mem⟩
  have o4 := (o4.upd S5.upd (off_notin (D4.offT o4 (by decide) (by decide) (by decide)))).upd mL.upd (Off.nil _)
  have o2 := (o2.upd S5.upd (off_notin (D4.offT o2 (by decide) (by decide) (by decide)))).upd mL.upd (Off.nil _)
  have kL : Kept (Zn H g r fl) H6 (dblk g r fl5) 9 1 aL ns.length cL (txts ns) := Kept.made D5 mL fun b hb => Zn.of (S04.trans S5) hb
  have hnb : ∀ b, Zn H g r fl b → H1 b = none := fun b hb => hb.elim (fun h => D.phys.old b h) (fun h => Upd.none (S := []) D.base (by simp) h)
  have st : ShS H1 H g r s.upp fl ns aL cL b4 0 0 none none 0 0 fl5 H6 :=
    ⟨D6, S06, kL, o4, z4, ⟨OwnRow.nil _ _ _, fun b hb => by simp [blk] at hb, fun b hb => by simp [blk] at hb⟩, ⟨[], ⟨OwnRow.nil _ _ _, fun b hb => by simp [blk] at hb, fun b hb => by simp [blk] at hb⟩, trivial⟩, Off.nil _, hnb⟩
  have hmem : ∀ t ∈ ns, s.upp.fs (bs t) ≠ none := fun t ht => (nms'.mem t).1 ht
  ((repeat refine HReg.step ?_); first | (show HCode _ _ _ (Code.seq (Code.seq (Code.region _ _ _) (Code.block _ _)) _) _ _ _; refine hcutC (a := Code.seq (Code.region _ _ _) (Code.block _ _)) [7, 8, 9, 10, 11, 12, 22, 23, 24, 25, 26, 27, 28, 29, 30, 31, 32, 33, 34, 35, 36, 37, 38, 39, 40, 41, 42, 43, 44, 45, 46, 47, 48, 49, 50, 51, 52, 53, 54, 55, 56, 57, 58, 59, 60, 61, 62, 63, 64, 65, 66, 67, 68, 69, 70, 71, 72, 73, 74, 75, 76, 77, 78, 79, 80, 81, 82, 83, 84, 85, 86, 87, 88, 89, 90, 91, 92] [7] (ShJ H1 H g r s.upp fl ns aL cL b2 b4) rfl (by repeat' first | exact Resp.retD | exact Resp1.valuesK | refine Resp.blockD ?_ | refine Resp.thenD ?_ ?_ | refine Resp.hcode ?_) ?_ ?_) | (refine HCode.step ?_; (repeat refine HReg.step ?_); first | (show HCode _ _ _ (Code.seq (Code.seq (Code.region _ _ _) (Code.block _ _)) _) _ _ _; refine hcutC (a := Code.seq (Code.region _ _ _) (Code.block _ _)) [7, 8, 9, 10, 11, 12, 22, 23, 24, 25, 26, 27, 28, 29, 30, 31, 32, 33, 34, 35, 36, 37, 38, 39, 40, 41, 42, 43, 44, 45, 46, 47, 48, 49, 50, 51, 52, 53, 54, 55, 56, 57, 58, 59, 60, 61, 62, 63, 64, 65, 66, 67, 68, 69, 70, 71, 72, 73, 74, 75, 76, 77, 78, 79, 80, 81, 82, 83, 84, 85, 86, 87, 88, 89, 90, 91, 92] [7] (ShJ H1 H g r s.upp fl ns aL cL b2 b4) rfl (by repeat' first | exact Resp.retD | exact Resp1.valuesK | refine Resp.blockD ?_ | refine Resp.thenD ?_ ?_ | refine Resp.hcode ?_) ?_ ?_) | (refine HCode.step ?_; (repeat refine HReg.step ?_); first | (show HCode _ _ _ (Code.seq (Code.seq (Code.region _ _ _) (Code.block _ _)) _) _ _ _; refine hcutC (a := Code.seq (Code.region _ _ _) (Code.block _ _)) [7, 8, 9, 10, 11, 12, 22, 23, 24, 25, 26, 27, 28, 29, 30, 31, 32, 33, 34, 35, 36, 37, 38, 39, 40, 41, 42, 43, 44, 45, 46, 47, 48, 49, 50, 51, 52, 53, 54, 55, 56, 57, 58, 59, 60, 61, 62, 63, 64, 65, 66, 67, 68, 69, 70, 71, 72, 73, 74, 75, 76, 77, 78, 79, 80, 81, 82, 83, 84, 85, 86, 87, 88, 89, 90, 91, 92] [7] (ShJ H1 H g r s.upp fl ns aL cL b2 b4) rfl (by repeat' first | exact Resp.retD | exact Resp1.valuesK | refine Resp.blockD ?_ | refine Resp.thenD ?_ ?_ | refine Resp.hcode ?_) ?_ ?_) | (refine HCode.step ?_; (repeat refine HReg.step ?_); first | (show HCode _ _ _ (Code.seq (Code.seq (Code.region _ _ _) (Code.block _ _)) _) _ _ _; refine hcutC (a := Code.seq (Code.region _ _ _) (Code.block _ _)) [7, 8, 9, 10, 11, 12, 22, 23, 24, 25, 26, 27, 28, 29, 30, 31, 32, 33, 34, 35, 36, 37, 38, 39, 40, 41, 42, 43, 44, 45, 46, 47, 48, 49, 50, 51, 52, 53, 54, 55, 56, 57, 58, 59, 60, 61, 62, 63, 64, 65, 66, 67, 68, 69, 70, 71, 72, 73, 74, 75, 76, 77, 78, 79, 80, 81, 82, 83, 84, 85, 86, 87, 88, 89, 90, 91, 92] [7] (ShJ H1 H g r s.upp fl ns aL cL b2 b4) rfl (by repeat' first | exact Resp.retD | exact Resp1.valuesK | refine Resp.blockD ?_ | refine Resp.thenD ?_ ?_ | refine Resp.hcode ?_) ?_ ?_) | (refine HCode.step ?_; (repeat refine HReg.step ?_); first | (show HCode _ _ _ (Code.seq (Code.seq (Code.region _ _ _) (Code.block _ _)) _) _ _ _; refine hcutC (a := Code.seq (Code.region _ _ _) (Code.block _ _)) [7, 8, 9, 10, 11, 12, 22, 23, 24, 25, 26, 27, 28, 29, 30, 31, 32, 33, 34, 35, 36, 37, 38, 39, 40, 41, 42, 43, 44, 45, 46, 47, 48, 49, 50, 51, 52, 53, 54, 55, 56, 57, 58, 59, 60, 61, 62, 63, 64, 65, 66, 67, 68, 69, 70, 71, 72, 73, 74, 75, 76, 77, 78, 79, 80, 81, 82, 83, 84, 85, 86, 87, 88, 89, 90, 91, 92] [7] (ShJ H1 H g r s.upp fl ns aL cL b2 b4) rfl (by repeat' first | exact Resp.retD | exact Resp1.valuesK | refine Resp.blockD ?_ | refine Resp.thenD ?_ ?_ | refine Resp.hcode ?_) ?_ ?_) | (refine HCode.step ?_; (repeat refine HReg.step ?_); first | (show HCode _ _ _ (Code.seq (Code.seq (Code.region _ _ _) (Code.block _ _)) _) _ _ _; refine hcutC (a := Code.seq (Code.region _ _ _) (Code.block _ _)) [7, 8, 9, 10, 11, 12, 22, 23, 24, 25, 26, 27, 28, 29, 30, 31, 32, 33, 34, 35, 36, 37, 38, 39, 40, 41, 42, 43, 44, 45, 46, 47, 48, 49, 50, 51, 52, 53, 54, 55, 56, 57, 58, 59, 60, 61, 62, 63, 64, 65, 66, 67, 68, 69, 70, 71, 72, 73, 74, 75, 76, 77, 78, 79, 80, 81, 82, 83, 84, 85, 86, 87, 88, 89, 90, 91, 92] [7] (ShJ H1 H g r s.upp fl ns aL cL b2 b4) rfl (by repeat' first | exact Resp.retD | exact Resp1.valuesK | refine Resp.blockD ?_ | refine Resp.thenD ?_ ?_ | refine Resp.hcode ?_) ?_ ?_) | (refine HCode.step ?_; (repeat refine HReg.step ?_); first | (show HCode _ _ _ (Code.seq (Code.seq (Code.region _ _ _) (Code.block _ _)) _) _ _ _; refine hcutC (a := Code.seq (Code.region _ _ _) (Code.block _ _)) [7, 8, 9, 10, 11, 12, 22, 23, 24, 25, 26, 27, 28, 29, 30, 31, 32, 33, 34, 35, 36, 37, 38, 39, 40, 41, 42, 43, 44, 45, 46, 47, 48, 49, 50, 51, 52, 53, 54, 55, 56, 57, 58, 59, 60, 61, 62, 63, 64, 65, 66, 67, 68, 69, 70, 71, 72, 73, 74, 75, 76, 77, 78, 79, 80, 81, 82, 83, 84, 85, 86, 87, 88, 89, 90, 91, 92] [7] (ShJ H1 H g r s.upp fl ns aL cL b2 b4) rfl (by repeat' first | exact Resp.retD | exact Resp1.valuesK | refine Resp.blockD ?_ | refine Resp.thenD ?_ ?_ | refine Resp.hcode ?_) ?_ ?_) | (refine HCode.step ?_; (repeat refine HReg.step ?_); first | (show HCode _ _ _ (Code.seq (Code.seq (Code.region _ _ _) (Code.block _ _)) _) _ _ _; refine hcutC (a := Code.seq (Code.region _ _ _) (Code.block _ _)) [7, 8, 9, 10, 11, 12, 22, 23, 24, 25, 26, 27, 28, 29, 30, 31, 32, 33, 34, 35, 36, 37, 38, 39, 40, 41, 42, 43, 44, 45, 46, 47, 48, 49, 50, 51, 52, 53, 54, 55, 56, 57, 58, 59, 60, 61, 62, 63, 64, 65, 66, 67, 68, 69, 70, 71, 72, 73, 74, 75, 76, 77, 78, 79, 80, 81, 82, 83, 84, 85, 86, 87, 88, 89, 90, 91, 92] [7] (ShJ H1 H g r s.upp fl ns aL cL b2 b4) rfl (by repeat' first | exact Resp.retD | exact Resp1.valuesK | refine Resp.blockD ?_ | refine Resp.thenD ?_ ?_ | refine Resp.hcode ?_) ?_ ?_) | (refine HCode.step ?_; (repeat refine HReg.step ?_); first | (show HCode _ _ _ (Code.seq (Code.seq (Code.region _ _ _) (Code.block _ _)) _) _ _ _; refine hcutC (a := Code.seq (Code.region _ _ _) (Code.block _ _)) [7, 8, 9, 10, 11, 12, 22, 23, 24, 25, 26, 27, 28, 29, 30, 31, 32, 33, 34, 35, 36, 37, 38, 39, 40, 41, 42, 43, 44, 45, 46, 47, 48, 49, 50, 51, 52, 53, 54, 55, 56, 57, 58, 59, 60, 61, 62, 63, 64, 65, 66, 67, 68, 69, 70, 71, 72, 73, 74, 75, 76, 77, 78, 79, 80, 81, 82, 83, 84, 85, 86, 87, 88, 89, 90, 91, 92] [7] (ShJ H1 H g r s.upp fl ns aL cL b2 b4) rfl (by repeat' first | exact Resp.retD | exact Resp1.valuesK | refine Resp.blockD ?_ | refine Resp.thenD ?_ ?_ | refine Resp.hcode ?_) ?_ ?_) | (refine HCode.step ?_; (repeat refine HReg.step ?_); first | (show HCode _ _ _ (Code.seq (Code.seq (Code.region _ _ _) (Code.block _ _)) _) _ _ _; refine hcutC (a := Code.seq (Code.region _ _ _) (Code.block _ _)) [7, 8, 9, 10, 11, 12, 22, 23, 24, 25, 26, 27, 28, 29, 30, 31, 32, 33, 34, 35, 36, 37, 38, 39, 40, 41, 42, 43, 44, 45, 46, 47, 48, 49, 50, 51, 52, 53, 54, 55, 56, 57, 58, 59, 60, 61, 62, 63, 64, 65, 66, 67, 68, 69, 70, 71, 72, 73, 74, 75, 76, 77, 78, 79, 80, 81, 82, 83, 84, 85, 86, 87, 88, 89, 90, 91, 92] [7] (ShJ H1 H g r s.upp fl ns aL cL b2 b4) rfl (by repeat' first | exact Resp.retD | exact Resp1.valuesK | refine Resp.blockD ?_ | refine Resp.thenD ?_ ?_ | refine Resp.hcode ?_) ?_ ?_) | (refine HCode.step ?_; (repeat refine HReg.step ?_); first | (show HCode _ _ _ (Code.seq (Code.seq (Code.region _ _ _) (Code.block _ _)) _) _ _ _; refine hcutC (a := Code.seq (Code.region _ _ _) (Code.block _ _)) [7, 8, 9, 10, 11, 12, 22, 23, 24, 25, 26, 27, 28, 29, 30, 31, 32, 33, 34, 35, 36, 37, 38, 39, 40, 41, 42, 43, 44, 45, 46, 47, 48, 49, 50, 51, 52, 53, 54, 55, 56, 57, 58, 59, 60, 61, 62, 63, 64, 65, 66, 67, 68, 69, 70, 71, 72, 73, 74, 75, 76, 77, 78, 79, 80, 81, 82, 83, 84, 85, 86, 87, 88, 89, 90, 91, 92] [7] (ShJ H1 H g r s.upp fl ns aL cL b2 b4) rfl (by repeat' first | exact Resp.retD | exact Resp1.valuesK | refine Resp.blockD ?_ | refine Resp.thenD ?_ ?_ | refine Resp.hcode ?_) ?_ ?_) | (refine HCode.step ?_; (repeat refine HReg.step ?_); first | (show HCode _ _ _ (Code.seq (Code.seq (Code.region _ _ _) (Code.block _ _)) _) _ _ _; refine hcutC (a := Code.seq (Code.region _ _ _) (Code.block _ _)) [7, 8, 9, 10, 11, 12, 22, 23, 24, 25, 26, 27, 28, 29, 30, 31, 32, 33, 34, 35, 36, 37, 38, 39, 40, 41, 42, 43, 44, 45, 46, 47, 48, 49, 50, 51, 52, 53, 54, 55, 56, 57, 58, 59, 60, 61, 62, 63, 64, 65, 66, 67, 68, 69, 70, 71, 72, 73, 74, 75, 76, 77, 78, 79, 80, 81, 82, 83, 84, 85, 86, 87, 88, 89, 90, 91, 92] [7] (ShJ H1 H g r s.upp fl ns aL cL b2 b4) rfl (by repeat' first | exact Resp.retD | exact Resp1.valuesK | refine Resp.blockD ?_ | refine Resp.thenD ?_ ?_ | refine Resp.hcode ?_) ?_ ?_) | (refine HCode.step ?_; (repeat refine HReg.step ?_); first | (show HCode _ _ _ (Code.seq (Code.seq (Code.region _ _ _) (Code.block _ _)) _) _ _ _; refine hcutC (a := Code.seq (Code.region _ _ _) (Code.block _ _)) [7, 8, 9, 10, 11, 12, 22, 23, 24, 25, 26, 27, 28, 29, 30, 31, 32, 33, 34, 35, 36, 37, 38, 39, 40, 41, 42, 43, 44, 45, 46, 47, 48, 49, 50, 51, 52, 53, 54, 55, 56, 57, 58, 59, 60, 61, 62, 63, 64, 65, 66, 67, 68, 69, 70, 71, 72, 73, 74, 75, 76, 77, 78, 79, 80, 81, 82, 83, 84, 85, 86, 87, 88, 89, 90, 91, 92] [7] (ShJ H1 H g r s.upp fl ns aL cL b2 b4) rfl (by repeat' first | exact Resp.retD | exact Resp1.valuesK | refine Resp.blockD ?_ | refine Resp.thenD ?_ ?_ | refine Resp.hcode ?_) ?_ ?_) | (refine HCode.step ?_; (repeat refine HReg.step ?_); first | (show HCode _ _ _ (Code.seq (Code.seq (Code.region _ _ _) (Code.block _ _)) _) _ _ _; refine hcutC (a := Code.seq (Code.region _ _ _) (Code.block _ _)) [7, 8, 9, 10, 11, 12, 22, 23, 24, 25, 26, 27, 28, 29, 30, 31, 32, 33, 34, 35, 36, 37, 38, 39, 40, 41, 42, 43, 44, 45, 46, 47, 48, 49, 50, 51, 52, 53, 54, 55, 56, 57, 58, 59, 60, 61, 62, 63, 64, 65, 66, 67, 68, 69, 70, 71, 72, 73, 74, 75, 76, 77, 78, 79, 80, 81, 82, 83, 84, 85, 86, 87, 88, 89, 90, 91, 92] [7] (ShJ H1 H g r s.upp fl ns aL cL b2 b4) rfl (by repeat' first | exact Resp.retD | exact Resp1.valuesK | refine Resp.blockD ?_ | refine Resp.thenD ?_ ?_ | refine Resp.hcode ?_) ?_ ?_) | (refine HCode.step ?_; (repeat refine HReg.step ?_); first | (show HCode _ _ _ (Code.seq (Code.seq (Code.region _ _ _) (Code.block _ _)) _) _ _ _; refine hcutC (a := Code.seq (Code.region _ _ _) (Code.block _ _)) [7, 8, 9, 10, 11, 12, 22, 23, 24, 25, 26, 27, 28, 29, 30, 31, 32, 33, 34, 35, 36, 37, 38, 39, 40, 41, 42, 43, 44, 45, 46, 47, 48, 49, 50, 51, 52, 53, 54, 55, 56, 57, 58, 59, 60, 61, 62, 63, 64, 65, 66, 67, 68, 69, 70, 71, 72, 73, 74, 75, 76, 77, 78, 79, 80, 81, 82, 83, 84, 85, 86, 87, 88, 89, 90, 91, 92] [7] (ShJ H1 H g r s.upp fl ns aL cL b2 b4) rfl (by repeat' first | exact Resp.retD | exact Resp1.valuesK | refine Resp.blockD ?_ | refine Resp.thenD ?_ ?_ | refine Resp.hcode ?_) ?_ ?_) | (refine HCode.step ?_; (repeat refine HReg.step ?_); first | (show HCode _ _ _ (Code.seq (Code.seq (Code.region _ _ _) (Code.block _ _)) _) _ _ _; refine hcutC (a := Code.seq (Code.region _ _ _) (Code.block _ _)) [7, 8, 9, 10, 11, 12, 22, 23, 24, 25, 26, 27, 28, 29, 30, 31, 32, 33, 34, 35, 36, 37, 38, 39, 40, 41, 42, 43, 44, 45, 46, 47, 48, 49, 50, 51, 52, 53, 54, 55, 56, 57, 58, 59, 60, 61, 62, 63, 64, 65, 66, 67, 68, 69, 70, 71, 72, 73, 74, 75, 76, 77, 78, 79, 80, 81, 82, 83, 84, 85, 86, 87, 88, 89, 90, 91, 92] [7] (ShJ H1 H g r s.upp fl ns aL cL b2 b4) rfl (by repeat' first | exact Resp.retD | exact Resp1.valuesK | refine Resp.blockD ?_ | refine Resp.thenD ?_ ?_ | refine Resp.hcode ?_) ?_ ?_) | (refine HCode.step ?_; (repeat refine HReg.step ?_); first | (show HCode _ _ _ (Code.seq (Code.seq (Code.region _ _ _) (Code.block _ _)) _) _ _ _; refine hcutC (a := Code.seq (Code.region _ _ _) (Code.block _ _)) [7, 8, 9, 10, 11, 12, 22, 23, 24, 25, 26, 27, 28, 29, 30, 31, 32, 33, 34, 35, 36, 37, 38, 39, 40, 41, 42, 43, 44, 45, 46, 47, 48, 49, 50, 51, 52, 53, 54, 55, 56, 57, 58, 59, 60, 61, 62, 63, 64, 65, 66, 67, 68, 69, 70, 71, 72, 73, 74, 75, 76, 77, 78, 79, 80, 81, 82, 83, 84, 85, 86, 87, 88, 89, 90, 91, 92] [7] (ShJ H1 H g r s.upp fl ns aL cL b2 b4) rfl (by repeat' first | exact Resp.retD | exact Resp1.valuesK | refine Resp.blockD ?_ | refine Resp.thenD ?_ ?_ | refine Resp.hcode ?_) ?_ ?_) | (refine HCode.step ?_; (repeat refine HReg.step ?_); first | (show HCode _ _ _ (Code.seq (Code.seq (Code.region _ _ _) (Code.block _ _)) _) _ _ _; refine hcutC (a := Code.seq (Code.region _ _ _) (Code.block _ _)) [7, 8, 9, 10, 11, 12, 22, 23, 24, 25, 26, 27, 28, 29, 30, 31, 32, 33, 34, 35, 36, 37, 38, 39, 40, 41, 42, 43, 44, 45, 46, 47, 48, 49, 50, 51, 52, 53, 54, 55, 56, 57, 58, 59, 60, 61, 62, 63, 64, 65, 66, 67, 68, 69, 70, 71, 72, 73, 74, 75, 76, 77, 78, 79, 80, 81, 82, 83, 84, 85, 86, 87, 88, 89, 90, 91, 92] [7] (ShJ H1 H g r s.upp fl ns aL cL b2 b4) rfl (by repeat' first | exact Resp.retD | exact Resp1.valuesK | refine Resp.blockD ?_ | refine Resp.thenD ?_ ?_ | refine Resp.hcode ?_) ?_ ?_) | (refine HCode.step ?_; (repeat refine HReg.step ?_); first | (show HCode _ _ _ (Code.seq (Code.seq (Code.region _ _ _) (Code.block _ _)) _) _ _ _; refine hcutC (a := Code.seq (Code.region _ _ _) (Code.block _ _)) [7, 8, 9, 10, 11, 12, 22, 23, 24, 25, 26, 27, 28, 29, 30, 31, 32, 33, 34, 35, 36, 37, 38, 39, 40, 41, 42, 43, 44, 45, 46, 47, 48, 49, 50, 51, 52, 53, 54, 55, 56, 57, 58, 59, 60, 61, 62, 63, 64, 65, 66, 67, 68, 69, 70, 71, 72, 73, 74, 75, 76, 77, 78, 79, 80, 81, 82, 83, 84, 85, 86, 87, 88, 89, 90, 91, 92] [7] (ShJ H1 H g r s.upp fl ns aL cL b2 b4) rfl (by repeat' first | exact Resp.retD | exact Resp1.valuesK | refine Resp.blockD ?_ | refine Resp.thenD ?_ ?_ | refine Resp.hcode ?_) ?_ ?_) | (refine HCode.step ?_; (repeat refine HReg.step ?_); first | (show HCode _ _ _ (Code.seq (Code.seq (Code.region _ _ _) (Code.block _ _)) _) _ _ _; refine hcutC (a := Code.seq (Code.region _ _ _) (Code.block _ _)) [7, 8, 9, 10, 11, 12, 22, 23, 24, 25, 26, 27, 28, 29, 30, 31, 32, 33, 34, 35, 36, 37, 38, 39, 40, 41, 42, 43, 44, 45, 46, 47, 48, 49, 50, 51, 52, 53, 54, 55, 56, 57, 58, 59, 60, 61, 62, 63, 64, 65, 66, 67, 68, 69, 70, 71, 72, 73, 74, 75, 76, 77, 78, 79, 80, 81, 82, 83, 84, 85, 86, 87, 88, 89, 90, 91, 92] [7] (ShJ H1 H g r s.upp fl ns aL cL b2 b4) rfl (by repeat' first | exact Resp.retD | exact Resp1.valuesK | refine Resp.blockD ?_ | refine Resp.thenD ?_ ?_ | refine Resp.hcode ?_) ?_ ?_) | (refine HCode.step ?_; (repeat refine HReg.step ?_); (show HCode _ _ _ (Code.seq (Code.seq (Code.region _ _ _) (Code.block _ _)) _) _ _ _; refine hcutC (a := Code.seq (Code.region _ _ _) (Code.block _ _)) [7, 8, 9, 10, 11, 12, 22, 23, 24, 25, 26, 27, 28, 29, 30, 31, 32, 33, 34, 35, 36, 37, 38, 39, 40, 41, 42, 43, 44, 45, 46, 47, 48, 49, 50, 51, 52, 53, 54, 55, 56, 57, 58, 59, 60, 61, 62, 63, 64, 65, 66, 67, 68, 69, 70, 71, 72, 73, 74, 75, 76, 77, 78, 79, 80, 81, 82, 83, 84, 85, 86, 87, 88, 89, 90, 91, 92] [7] (ShJ H1 H g r s.upp fl ns aL cL b2 b4) rfl (by repeat' first | exact Resp.retD | exact Resp1.valuesK | refine Resp.blockD ?_ | refine Resp.thenD ?_ ?_ | refine Resp.hcode ?_) ?_ ?_))))))))))))))))))))))
  · (repeat first | refine HReg.step ?_ | refine HCode.step ?_)
    refine hloopC [7, 8, 9, 10, 11, 12, 22, 23, 24, 25, 26, 27, 28, 29, 30, 31, 32, 33, 34, 35, 36, 37, 38, 39, 40, 41, 42, 43, 44, 45, 46, 47, 48, 49, 50, 51, 52, 53, 54, 55, 56, 57, 58, 59, 60, 61, 62, 63, 64, 65, 66, 67, 68, 69, 70, 71, 72, 73, 74, 75, 76, 77, 78, 79, 80, 81, 82, 83, 84, 85, 86, 87, 88, 89, 90, 91, 92] [7, 8] (ShInv H1 H g r s.upp fl ns aL cL b2 b4) rfl (by repeat' first | exact Resp.retD | exact Resp1.valuesK | refine Resp.blockD ?_ | refine Resp.thenD ?_ ?_ | refine Resp.hcode ?_) ?_ ?_
    · exact ⟨ns.length, ShInv.mk ⟨0, none, none, 0, 0, fl5, by rw [eqB_self 0]; rfl, rfl, st, o2⟩⟩
    rintro m _ fe H7 ⟨i, aN, aB, cN, cB, fl7, rfl, hmi, q, o2⟩
    have wi : wr .i64 ((i : Int) + 1) = ((i + 1 : Nat) : Int) := by rw [wr_i64 (by omega) (by omega)]; omega
    (repeat first | refine HReg.step ?_ | refine HCode.step ?_)
    refine hif (fun h1 => ?_) (fun h1 => ?_)
    · have h1 := ltB_true.1 h1
      obtain ⟨t, ht⟩ : ∃ t, ns[i]? = some t := ⟨ns[i]'(by omega), by simp⟩
      obtain ⟨gL, rfl⟩ := q.L.own.addr (by omega)
      have hrd : s.upp.readF (bs t) = (0, bytesAt s.upp t) := upp_read (s := s) (t := t) (hmem t (List.mem_of_getElem? ht))
      have hl : (bytesAt s.upp t).length ≤ N := by
        have h0 := hmem t (List.mem_of_getElem? ht)
        unfold bytesAt
        cases e : s.upp.fs (bs t) with
        | none => exact absurd e h0
        | some x => exact (oks.le _ _ e).1
      have off2 : ∀ {H'' : Heap} {xs : List Value}, OwnRow H'' 55 1 (some ⟨b2, 0, none⟩) 2 2 xs → Off [b4] (some ⟨b2, 0, none⟩) := fun _ p hp hm => by cases hp; exact ne24 (List.mem_singleton.1 hm).symm
      (repeat first | refine HReg.step ?_ | refine HCode.step ?_)
      refine HReq.mk ⟨by omega, by omega⟩ ?_
      (repeat first | refine HReg.step ?_ | refine HCode.step ?_)
      refine HLoad.one (q.L.own.rows.get (txts_get ht)) ?_
      (repeat first | refine HReg.step ?_ | refine HCode.step ?_)
      refine HCall.mk ⟨Try.f18, Try.func18, by rfl, by rfl⟩ ?_
      refine read_f q.D fun a9 c9 fl8 H8 H9 D8 S8 m9 => ?_
      rw [hrd] at m9 ⊢
      rw [St.upp_call] at D8
      have dq := q.D
      have q8 := q.disk D8 S8
      have k9 : Kept (Zn H g r fl) H9 (dblk g r fl8) 5 1 a9 (bytesAt s.upp t).length c9 (u8s (bytesAt s.upp t)) := Kept.made D8 m9 fun b hb => Zn.of q8.S hb
      have q := q8.upd0 m9.upd
      have o2 := (o2.upd S8.upd (off_notin (dq.offT o2 (by decide) (by decide) (by decide)))).upd m9.upd (Off.nil _)
      (repeat first | refine HReg.step ?_ | refine HCode.step ?_)
      refine HReq.mk ⟨by omega, by omega⟩ ?_
      (repeat first | refine HReg.step ?_ | refine HCode.step ?_)
      refine HLoad.one (q.L.own.rows.get (txts_get ht)) ?_
      (repeat first | refine HReg.step ?_ | refine HCode.step ?_)
      refine HCall.mk ⟨Try.f34, Try.func34, by rfl, by rfl⟩ ?_
      refine size_f q.D fun fl9 H10 D10 S10 => ?_
      rw [hrd]
      rw [St.upp_call] at D10
      have k9 := k9.stp S10
      have o2 := o2.upd S10.upd (off_notin (q.D.offT o2 (by decide) (by decide) (by decide)))
      have q := q.disk D10 S10
      (repeat first | refine HReg.step ?_ | refine HCode.step ?_)
      rw [eqB_self 0]
      (repeat first | refine HReg.step ?_ | refine HCode.step ?_)
      rw [eqB_self 0]
      (repeat first | refine HReg.step ?_ | refine HCode.step ?_)
      rw [eqB_self]
      (repeat first | refine HReg.step ?_ | refine HCode.step ?_)
      refine hif (fun h2 => ?_) (fun h2 => ?_)
      · have h2 := eqB_true.1 h2
        (repeat first | refine HReg.step ?_ | refine HCode.step ?_)
        refine HReq.mk ⟨by omega, by omega⟩ ?_
        (repeat first | refine HReg.step ?_ | refine HCode.step ?_)
        refine HLoad.one (q.L.own.rows.get (txts_get ht)) ?_
        (repeat first | refine HReg.step ?_ | refine HCode.step ?_)
        refine HReq.mk (by decide) ?_
        (repeat first | refine HReg.step ?_ | refine HCode.step ?_)
        refine HNew.as (o' := .cells (txts [t]).toArray 9) rfl fun b10 hb10 => ?_
        have u10 : Upd [] H10 (H10.upd b10 (.cells (txts [t]).toArray 9)) := Upd.new hb10 _
        have r10 : RowAt (H10.upd b10 (.cells (txts [t]).toArray 9)) (some ⟨b10, 0, none⟩) (txts [t]) := RowAt.of_cells (upd_same _ _ _)
        generalize H10.upd b10 (.cells (txts [t]).toArray 9) = H11 at u10 r10 ⊢
        have q11 := q.upd0 u10
        have o2 := o2.upd u10 (Off.nil _)
        (repeat first | refine HReg.step ?_ | refine HCode.step ?_)
        refine HLoad_two (v := .slice aN i cN) (by exact q11.o4.rows.get (i := 0) rfl) (by exact q.o4.rows.get (i := 0) rfl) ?_
        (repeat first | refine HReg.step ?_ | refine HCode.step ?_)
        refine q11.name ht (by omega) r10 fun aN' cN' H12 u12 o12 f12 => ?_
        have o2 := o2.upd u12 (q11.N.own.offT o2 (by decide))
        (repeat first | refine HReg.step ?_ | refine HCode.step ?_)
        refine store_row o12 (v := .slice aN' (i + 1) cN') rfl (i := 0) (by decide) (by rfl) fun H13 o13 u13 => ?_
        have q13 := f12 H13 o13 u13
        have o2 := o2.upd u13 (off2 o2)
        have k11 := k9.upd u10 (Off.nil _)
        have k12 := k11.upd u12 (q11.N.own.offT k11.own (by decide))
        have k13 := k12.upd u13 (OwnRow.offT (b := a9) o12 k12.own (by decide))
        (repeat first | refine HReg.step ?_ | refine HCode.step ?_)
        refine HCall.mk ⟨Try.f12, Try.func12, by rfl, by rfl⟩ ?_
        refine own_t k13.own.rows rfl (by show (bytesAt s.upp t).length ≤ _; omega) fun a14 c14 H14 m14 => ?_
        have q14 := q13.upd0 m14.upd
        have o2 := o2.upd m14.upd (Off.nil _)
        have k14 : Kept (Zn H g r fl) H14 (dblk g r fl9) 5 1 a14 (bytesAt s.upp t).length c14 (u8s (bytesAt s.upp t)) := Kept.made q13.D m14 fun b hb => Zn.of q13.S hb
        (repeat first | refine HReg.step ?_ | refine HCode.step ?_)
        refine HReq.mk (by decide) ?_
        (repeat first | refine HReg.step ?_ | refine HCode.step ?_)
        refine HNew.as (o' := .cells [Value.slice a14 (bytesAt s.upp t).length c14].toArray 22) rfl fun b15 hb15 => ?_
        have u15 : Upd [] H14 (H14.upd b15 (.cells [Value.slice a14 (bytesAt s.upp t).length c14].toArray 22)) := Upd.new hb15 _
        have r15 : RowAt (H14.upd b15 (.cells [Value.slice a14 (bytesAt s.upp t).length c14].toArray 22)) (some ⟨b15, 0, none⟩) [.slice a14 (bytesAt s.upp t).length c14] := RowAt.of_cells (upd_same _ _ _)
        generalize H14.upd b15 (.cells [Value.slice a14 (bytesAt s.upp t).length c14].toArray 22) = H15 at u15 r15 ⊢
        have q15 := q14.upd0 u15
        have o2 := o2.upd u15 (Off.nil _)
        (repeat first | refine HReg.step ?_ | refine HCode.step ?_)
        refine HLoad_three (v := .slice aB i cB) (by exact q15.o4.rows.get (i := 1) rfl) (by exact q14.o4.rows.get (i := 1) rfl) (by exact q13.o4.rows.get (i := 1) rfl) ?_
        (repeat first | refine HReg.step ?_ | refine HCode.step ?_)
        refine q15.bytes ht (by omega) r15 (k14.upd u15 (Off.nil _)) fun aB' cB' H16 u16 o16 f16 => ?_
        have o2 : OwnRow H16 55 1 (some ⟨b2, 0, none⟩) 2 2 [.slice none 0 0, .slice none 0 0] := by
          obtain ⟨vs, kB, _⟩ := q15.B
          exact o2.upd u16 (kB.own.offT o2 (by decide))
        (repeat first | refine HReg.step ?_ | refine HCode.step ?_)
        refine store_row o16 (v := .slice aB' (i + 1) cB') rfl (i := 1) (by decide) (by rfl) fun H17 o17 u17 => ?_
        have q17 := f16 H17 o17 u17
        have o2 := o2.upd u17 (off2 o2)
        (repeat first | refine HReg.step ?_ | refine HCode.step ?_)
        rw [wi]
        exact ⟨m - 1, by omega, ShInv.mk ⟨i + 1, aN', aB', cN', cB', fl9, rfl, by omega, q17, o2⟩⟩
      · have h2 := eqB_false.1 h2
        obtain ⟨t0, ht0⟩ : ∃ t, ns[i - 1]? = some t := ⟨ns[i - 1]'(by omega), by simp⟩
        have wm : wr .i64 ((i : Int) - 1) = ((i - 1 : Nat) : Int) := by rw [wr_i64 (by omega) (by omega)]; omega
        have hlt : t0 < t := by
          have h3 : i - 1 < ns.length := by omega
          have h4 : i < ns.length := by omega
          have h5 := List.pairwise_iff_getElem.1 nms'.ri (i - 1) i h3 h4 (by omega)
          rw [List.getElem?_eq_getElem h3] at ht0
          rw [List.getElem?_eq_getElem h4] at ht
          cases ht0; cases ht; exact h5
        (repeat first | refine HReg.step ?_ | refine HCode.step ?_)
        rw [wm]
        (repeat first | refine HReg.step ?_ | refine HCode.step ?_)
        refine HReq.mk ⟨by omega, by omega⟩ ?_
        (repeat first | refine HReg.step ?_ | refine HCode.step ?_)
        refine HLoad.one (q.L.own.rows.get (txts_get ht0)) ?_
        (repeat first | refine HReg.step ?_ | refine HCode.step ?_)
        refine HReq.mk ⟨by omega, by omega⟩ ?_
        (repeat first | refine HReg.step ?_ | refine HCode.step ?_)
        refine HLoad.one (q.L.own.rows.get (txts_get ht)) ?_
        (repeat first | refine HReg.step ?_ | refine HCode.step ?_)
        rw [sltB_bs, decide_eq_true hlt]
        (repeat first | refine HReg.step ?_ | refine HCode.step ?_)
        refine HReq.mk ⟨by omega, by omega⟩ ?_
        (repeat first | refine HReg.step ?_ | refine HCode.step ?_)
        refine HLoad.one (q.L.own.rows.get (txts_get ht)) ?_
        (repeat first | refine HReg.step ?_ | refine HCode.step ?_)
        refine HReq.mk (by decide) ?_
        (repeat first | refine HReg.step ?_ | refine HCode.step ?_)
        refine HNew.as (o' := .cells (txts [t]).toArray 9) rfl fun b10 hb10 => ?_
        have u10 : Upd [] H10 (H10.upd b10 (.cells (txts [t]).toArray 9)) := Upd.new hb10 _
        have r10 : RowAt (H10.upd b10 (.cells (txts [t]).toArray 9)) (some ⟨b10, 0, none⟩) (txts [t]) := RowAt.of_cells (upd_same _ _ _)
        generalize H10.upd b10 (.cells (txts [t]).toArray 9) = H11 at u10 r10 ⊢
        have q11 := q.upd0 u10
        have o2 := o2.upd u10 (Off.nil _)
        (repeat first | refine HReg.step ?_ | refine HCode.step ?_)
        refine HLoad_two (v := .slice aN i cN) (by exact q11.o4.rows.get (i := 0) rfl) (by exact q.o4.rows.get (i := 0) rfl) ?_
        (repeat first | refine HReg.step ?_ | refine HCode.step ?_)
        refine q11.name ht (by omega) r10 fun aN' cN' H12 u12 o12 f12 => ?_
        have o2 := o2.upd u12 (q11.N.own.offT o2 (by decide))
        (repeat first | refine HReg.step ?_ | refine HCode.step ?_)
        refine store_row o12 (v := .slice aN' (i + 1) cN') rfl (i := 0) (by decide) (by rfl) fun H13 o13 u13 => ?_
        have q13 := f12 H13 o13 u13
        have o2 := o2.upd u13 (off2 o2)
        have k11 := k9.upd u10 (Off.nil _)
        have k12 := k11.upd u12 (q11.N.own.offT k11.own (by decide))
        have k13 := k12.upd u13 (OwnRow.offT (b := a9) o12 k12.own (by decide))
        (repeat first | refine HReg.step ?_ | refine HCode.step ?_)
        refine HCall.mk ⟨Try.f12, Try.func12, by rfl, by rfl⟩ ?_
        refine own_t k13.own.rows rfl (by show (bytesAt s.upp t).length ≤ _; omega) fun a14 c14 H14 m14 => ?_
        have q14 := q13.upd0 m14.upd
        have o2 := o2.upd m14.upd (Off.nil _)
        have k14 : Kept (Zn H g r fl) H14 (dblk g r fl9) 5 1 a14 (bytesAt s.upp t).length c14 (u8s (bytesAt s.upp t)) := Kept.made q13.D m14 fun b hb => Zn.of q13.S hb
        (repeat first | refine HReg.step ?_ | refine HCode.step ?_)
        refine HReq.mk (by decide) ?_
        (repeat first | refine HReg.step ?_ | refine HCode.step ?_)
        refine HNew.as (o' := .cells [Value.slice a14 (bytesAt s.upp t).length c14].toArray 22) rfl fun b15 hb15 => ?_
        have u15 : Upd [] H14 (H14.upd b15 (.cells [Value.slice a14 (bytesAt s.upp t).length c14].toArray 22)) := Upd.new hb15 _
        have r15 : RowAt (H14.upd b15 (.cells [Value.slice a14 (bytesAt s.upp t).length c14].toArray 22)) (some ⟨b15, 0, none⟩) [.slice a14 (bytesAt s.upp t).length c14] := RowAt.of_cells (upd_same _ _ _)
        generalize H14.upd b15 (.cells [Value.slice a14 (bytesAt s.upp t).length c14].toArray 22) = H15 at u15 r15 ⊢
        have q15 := q14.upd0 u15
        have o2 := o2.upd u15 (Off.nil _)
        (repeat first | refine HReg.step ?_ | refine HCode.step ?_)
        refine HLoad_three (v := .slice aB i cB) (by exact q15.o4.rows.get (i := 1) rfl) (by exact q14.o4.rows.get (i := 1) rfl) (by exact q13.o4.rows.get (i := 1) rfl) ?_
        (repeat first | refine HReg.step ?_ | refine HCode.step ?_)
        refine q15.bytes ht (by omega) r15 (k14.upd u15 (Off.nil _)) fun aB' cB' H16 u16 o16 f16 => ?_
        have o2 : OwnRow H16 55 1 (some ⟨b2, 0, none⟩) 2 2 [.slice none 0 0, .slice none 0 0] := by
          obtain ⟨vs, kB, _⟩ := q15.B
          exact o2.upd u16 (kB.own.offT o2 (by decide))
        (repeat first | refine HReg.step ?_ | refine HCode.step ?_)
        refine store_row o16 (v := .slice aB' (i + 1) cB') rfl (i := 1) (by decide) (by rfl) fun H17 o17 u17 => ?_
        have q17 := f16 H17 o17 u17
        have o2 := o2.upd u17 (off2 o2)
        (repeat first | refine HReg.step ?_ | refine HCode.step ?_)
        rw [wi]
        exact ⟨m - 1, by omega, ShInv.mk ⟨i + 1, aN', aB', cN', cB', fl9, rfl, by omega, q17, o2⟩⟩
    · have h1 := ltB_false.1 h1
      (repeat first | refine HReg.step ?_ | refine HCode.step ?_)
      obtain rfl : i = ns.length := by omega
      exact ShJ.mk ⟨aN, aB, cN, cB, fl7, rfl, q, o2⟩
  rintro _ fe1 H7 ⟨aN, aB, cN, cB, fl7, rfl, q, o2⟩
  obtain ⟨vB, kB, al⟩ := q.B
  (repeat first | refine HReg.step ?_ | refine HCode.step ?_)
  refine HLoadN_row q.o4.rows rfl ?_
  (repeat first | refine HReg.step ?_ | refine HCode.step ?_)
  rw [show ltB 16 (ns.length : Int) = false from ltB_false.2 (by omega)]
  (repeat first | refine HReg.step ?_ | refine HCode.step ?_)
  refine store_row o2 (v := .slice aN ns.length cN) rfl (i := 0) (by decide) (by rfl) fun H8 o8 u8 => ?_
  refine store_row o8 (v := .slice aB ns.length cB) rfl (i := 1) (by decide) (by rfl) fun H9 o9 u9 => ?_
  (repeat first | refine HReg.step ?_ | refine HCode.step ?_)
  refine HLoadN_row o9.rows rfl ?_
  have dq := q.D.offT o2 (by decide) (by decide) (by decide)
  have u29 := u8.trans u9
  have zz : ∀ b ∈ [b2], Zn H g r fl b := fun b hb => by rw [List.mem_singleton.1 hb]; exact z2
  have D9 := q.D.upd u29 (fun b hb => dq b hb) (fun b hb => hnb b (zz b hb))
  have kN := q.N
  rw [List.take_length] at kN al
  have := hk (.agg [.slice aN ns.length cN, .slice aB ns.length cB].toArray) ns fl7 H9 D9 (q.S.fwdN u29 zz) nms' h16 ⟨aN, aB, cN, cB, vB, rfl, kN.upd u29 (OwnRow.offT (b := aN) o2 kN.own (by decide)), kB.upd u29 (OwnRow.offT (b := aB) o2 kB.own (by decide)), al.mono fun v t h => h.upd u29 fun b hb => o2.notT (by decide) b hb⟩
  exact this
end
end Go.Proofs.Ytocejipjnklieaa
