import Derived.Test.YtokfmkfobjkkpaaD8
namespace Go.Proofs.Ytokfmkfobjkkpaa
open Go Hv
set_option linter.unusedVariables false
set_option linter.unusedSimpArgs false
set_option maxRecDepth 10000
set_option maxHeartbeats 4000000
/-! The document's read -/
structure RqS (H : Heap) (b2 b4 : Nat) (x : Rec) (ap : Option Addr) (cp : Nat) (ak : Option Addr) (ck : Nat) (H' : Heap) : Prop where
  o : OwnRow H' 27 1 (some ⟨b4, 0, none⟩) 4 4 (rcells x ap cp ak ck)
  o2 : OwnRow H' 27 1 (some ⟨b2, 0, none⟩) 4 4 zeroR
  p : OwnRow H' 49 2 ap x.ps.length cp (pairsV x.ps)
  k : OwnRow H' 9 1 ak x.ks.length ck (txts x.ks)
  pn : ∀ b ∈ blk ap, H b = none
  kn : ∀ b ∈ blk ak, H b = none
  n2 : H b2 = none
  n4 : H b4 = none
  ne : b2 ≠ b4
  u : Upd [] H H'
  np : x.ps.length ≤ 2000000
  nk : x.ks.length ≤ 2000000
theorem RqS.upd0 {H : Heap} {b2 b4 : Nat} {x : Rec} {ap ak : Option Addr} {cp ck : Nat} {H1 H2 : Heap} (s : RqS H b2 b4 x ap cp ak ck H1) (u : Upd [] H1 H2) : RqS H b2 b4 x ap cp ak ck H2 :=
  ⟨s.o.upd u (Off.nil _), s.o2.upd u (Off.nil _), s.p.upd u (Off.nil _), s.k.upd u (Off.nil _), s.pn, s.kn, s.n2, s.n4, s.ne, s.u.trans u, s.np, s.nk⟩
theorem RqS.recIn {H : Heap} {b2 b4 : Nat} {x : Rec} {ap ak : Option Addr} {cp ck : Nat} {H1 : Heap} (s : RqS H b2 b4 x ap cp ak ck H1) : RecIn H1 x ap ak := by
  have h1 := s.np
  have h2 := s.nk
  exact ⟨s.p.rows, s.k.rows, by omega, by omega⟩
theorem RqS.addP {H : Heap} {b2 b4 : Nat} {kind : Int} {id : Nat} {ps : List (Txt × Txt)} {ks : List Txt} {ap ak a12 : Option Addr} {cp ck c12 : Nat} {H1 H2 H3 : Heap} {p : Txt × Txt} (s : RqS H b2 b4 ⟨kind, id, ps, ks⟩ ap cp ak ck H1)
    (o12 : OwnRow H2 49 2 a12 (ps.length + 1) c12 (pairsV (ps ++ [p]))) (u12 : Upd (blk ap) H1 H2) (f12 : ∀ p, a12 = some p → ap = some p ∨ H1 p.block = none)
    (o13 : OwnRow H3 27 1 (some ⟨b4, 0, none⟩) 4 4 [.int .i64 kind, .int .u64 (id : Int), .slice a12 (ps.length + 1) c12, .slice ak ks.length ck]) (u13 : Upd [b4] H2 H3) (hb : ps.length + 1 ≤ 2000000) : RqS H b2 b4 ⟨kind, id, ps ++ [p], ks⟩ a12 c12 ak ck H3 := by
  have hlen : (ps ++ [p]).length = ps.length + 1 := by simp
  have k12 := s.k.upd u12 (s.p.offT s.k (by decide))
  have o42 := s.o.upd u12 (s.p.offT s.o (by decide))
  refine ⟨?_, (s.o2.upd u12 (s.p.offT s.o2 (by decide))).upd u13 (fun q hq hb => by cases hq; exact s.ne (List.mem_singleton.1 hb)), ?_, k12.upd u13 (o42.offT k12 (by decide)), ?_, s.kn, s.n2, s.n4, s.ne, ?_, by show (ps ++ [p]).length ≤ _; rw [hlen]; exact hb, s.nk⟩
  · unfold rcells; rw [hlen]; exact o13
  · show OwnRow H3 49 2 a12 (ps ++ [p]).length c12 _
    rw [hlen]; exact o12.upd u13 (o42.offT o12 (by decide))
  · intro b hb
    obtain ⟨q, hq, rfl⟩ := blk_of hb
    rcases f12 q hq with e | e
    · exact s.pn _ (by rw [e]; simp [blk])
    · exact Upd.none (S := []) s.u (by simp) e
  · exact Upd.drop (Upd.drop s.u u12 s.pn) u13 fun b hb => by rw [List.mem_singleton.1 hb]; exact s.n4
theorem RqS.addK {H : Heap} {b2 b4 : Nat} {kind : Int} {id : Nat} {ps : List (Txt × Txt)} {ks : List Txt} {ap ak a12 : Option Addr} {cp ck c12 : Nat} {H1 H2 H3 : Heap} {p : Txt} (s : RqS H b2 b4 ⟨kind, id, ps, ks⟩ ap cp ak ck H1)
    (o12 : OwnRow H2 9 1 a12 (ks.length + 1) c12 (txts (ks ++ [p]))) (u12 : Upd (blk ak) H1 H2) (f12 : ∀ p, a12 = some p → ak = some p ∨ H1 p.block = none)
    (o13 : OwnRow H3 27 1 (some ⟨b4, 0, none⟩) 4 4 [.int .i64 kind, .int .u64 (id : Int), .slice ap ps.length cp, .slice a12 (ks.length + 1) c12]) (u13 : Upd [b4] H2 H3) (hb : ks.length + 1 ≤ 2000000) : RqS H b2 b4 ⟨kind, id, ps, ks ++ [p]⟩ ap cp a12 c12 H3 := by
  have hlen : (ks ++ [p]).length = ks.length + 1 := by simp
  have k12 := s.p.upd u12 (s.k.offT s.p (by decide))
  have o42 := s.o.upd u12 (s.k.offT s.o (by decide))
  refine ⟨?_, (s.o2.upd u12 (s.k.offT s.o2 (by decide))).upd u13 (fun q hq hb => by cases hq; exact s.ne (List.mem_singleton.1 hb)), k12.upd u13 (o42.offT k12 (by decide)), ?_, s.pn, ?_, s.n2, s.n4, s.ne, ?_, s.np, by show (ks ++ [p]).length ≤ _; rw [hlen]; exact hb⟩
  · unfold rcells; rw [hlen]; exact o13
  · show OwnRow H3 9 1 a12 (ks ++ [p]).length c12 _
    rw [hlen]; exact o12.upd u13 (o42.offT o12 (by decide))
  · intro b hb
    obtain ⟨q, hq, rfl⟩ := blk_of hb
    rcases f12 q hq with e | e
    · exact s.kn _ (by rw [e]; simp [blk])
    · exact Upd.none (S := []) s.u (by simp) e
  · exact Upd.drop (Upd.drop s.u u12 s.kn) u13 fun b hb => by rw [List.mem_singleton.1 hb]; exact s.n4
end Go.Proofs.Ytokfmkfobjkkpaa
