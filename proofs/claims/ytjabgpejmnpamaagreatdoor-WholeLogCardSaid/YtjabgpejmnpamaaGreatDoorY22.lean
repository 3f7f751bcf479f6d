/-
  Part 22 of the proof.
-/
import Derived.Test.YtjabgpejmnpamaaGreatDoorY19
import Derived.Maps.OwnOps
import Derived.Maps.Views
set_option linter.unusedVariables false
namespace Go.Proofs.YtjabgpejmnpamaaGreatDoor
open Go.ChangeShapes Go.WideShapes Go.ChangeAt Go.RowKit
set_option maxRecDepth 100000
theorem SliceR.mapP {α β : Type} {p : Pat α} {q : Pat β} {w : World} {v : Value} {l : List α} (f : α → β) (hs : q.size = p.size) (hh : ∀ cs x, p.holds w cs x → q.holds w cs (f x)) (h : SliceR p w v l) : SliceR q w v (l.map f) := by
  obtain ⟨ad, cap, hv, hc, h⟩ := h
  refine ⟨ad, cap, by rw [List.length_map]; exact hv, by rw [List.length_map]; exact hc, ?_⟩
  rcases h with ⟨rfl, h⟩ | ⟨b, off, h1, h2, h3⟩
  · exact .inl ⟨rfl, h⟩
  · refine .inr ⟨b, off, h1, h2, fun i hi => ?_⟩
    rw [List.length_map] at hi
    obtain ⟨cs, h4, h5⟩ := h3 i hi
    rw [List.getElem_map, hs]
    exact ⟨cs, hh _ _ h4, h5⟩
abbrev patPW := Pat.pair Pat.i64 (Pat.pair Pat.i64 (Pat.pair Pat.u64 (Pat.rep 8 Pat.u8)))
abbrev patMv := Pat.pair Pat.i64 (Pat.pair Pat.i64 (Pat.pair Pat.i64 Pat.i64))
abbrev patRec := Pat.pair Pat.u64 (Pat.pair Pat.u64 (Pat.pair (Pat.slice patPW) (Pat.pair (Pat.slice patMv) (Pat.slice Pat.u8))))
theorem opBlk : Opens Tryz.prog 76 (Pat.rep 8 Pat.u8) := Opens.array opU8 Tryz.underlying76 (by kernel_rfl)
theorem opB4 : Opens Tryz.prog 48 (Pat.rep 4 Pat.u8) := Opens.array opU8 Tryz.underlying48 (by kernel_rfl)
theorem opPW : Opens Tryz.prog 94 patPW :=
  Opens.struct Tryz.underlying94 (OpensF.cons opI64 rfl (OpensF.cons opI64 rfl (OpensF.cons opU64 rfl (OpensF.last opBlk rfl)))) (by kernel_rfl)
theorem opPl : Opens Tryz.prog 96 (Pat.pair Pat.i64 Pat.i64) :=
  Opens.struct Tryz.underlying96 (OpensF.cons opI64 rfl (OpensF.last opI64 rfl)) (by kernel_rfl)
theorem opMv : Opens Tryz.prog 98 patMv :=
  Opens.struct Tryz.underlying98 (OpensF.cons opI64 rfl (OpensF.cons opI64 rfl (OpensF.last opPl rfl))) (by kernel_rfl)
theorem opByts : Opens Tryz.prog 47 (Pat.slice Pat.u8) := Opens.slice opU8 Tryz.underlying47 (by kernel_rfl) (by kernel_rfl)
theorem opPWs : Opens Tryz.prog 49 (Pat.slice patPW) := Opens.slice opPW Tryz.underlying49 (by kernel_rfl) (by kernel_rfl)
theorem opMvs : Opens Tryz.prog 50 (Pat.slice patMv) := Opens.slice opMv Tryz.underlying50 (by kernel_rfl) (by kernel_rfl)
theorem opRec : Opens Tryz.prog 52 patRec :=
  Opens.struct Tryz.underlying52 (OpensF.cons opU64 rfl (OpensF.cons opU64 rfl (OpensF.cons opPWs rfl (OpensF.cons opMvs rfl (OpensF.last opByts rfl))))) (by kernel_rfl)
theorem opRecs : Opens Tryz.prog 46 (Pat.slice patRec) := Opens.slice opRec Tryz.underlying46 (by kernel_rfl) (by kernel_rfl)
abbrev PWT := Int × Int × BitVec 64 × List (BitVec 8)
abbrev MvT := Int × Int × Int × Int
abbrev RecT := BitVec 64 × BitVec 64 × List PWT × List MvT × List (BitVec 8)
def toPW (x : PWT) : Lg.PW := ⟨x.1, x.2.1, x.2.2.1, x.2.2.2⟩
def toMv (x : MvT) : Lg.Mv := ⟨x.1, x.2.1, x.2.2.1, x.2.2.2⟩
def toRec (x : RecT) : Lg.Rec := ⟨x.1, x.2.1, x.2.2.1.map toPW, x.2.2.2.1.map toMv, x.2.2.2.2⟩
theorem holds_pw {w : World} (cs : List Value) (x : PWT) (h : patPW.holds w cs x) : PatW.holds w cs (toPW x) := by
  obtain ⟨x0, x1, x2, x3⟩ := x
  obtain ⟨_, _, rfl, ⟨rfl, _⟩, _, _, rfl, ⟨rfl, _⟩, _, _, rfl, ⟨rfl, _⟩, hd⟩ := h
  obtain ⟨h1, h2, _⟩ := rep_one hd
  subst h1
  refine ⟨?_, h2⟩
  show _ = (pwA (toPW (x0, x1, x2, x3))).toList
  have h3 : x3.map encB = (blkA x3).toList := by rw [← blkA_of h2]
  rw [h3]
  rfl
theorem holds_mv {w : World} (cs : List Value) (x : MvT) (h : patMv.holds w cs x) : PatM.holds w cs (toMv x) := by
  obtain ⟨x0, x1, x2, x3⟩ := x
  obtain ⟨_, _, rfl, ⟨rfl, _⟩, _, _, rfl, ⟨rfl, _⟩, _, _, rfl, ⟨rfl, _⟩, ⟨rfl, _⟩⟩ := h
  rfl
theorem holds_rec {w : World} (cs : List Value) (x : RecT) (h : patRec.holds w cs x) : PatR.holds w cs (toRec x) := by
  obtain ⟨x0, x1, x2, x3, x4⟩ := x
  obtain ⟨_, _, rfl, ⟨rfl, _⟩, _, _, rfl, ⟨rfl, _⟩, _, _, rfl, hw, _, _, rfl, hm, hn⟩ := h
  obtain ⟨wv, rfl, hw1, _⟩ := hw
  obtain ⟨mv, rfl, hm1, _⟩ := hm
  obtain ⟨nv, rfl, hn1, _⟩ := hn
  exact ⟨wv, mv, nv, rfl, hw1.mapP toPW rfl holds_pw, hm1.mapP toMv rfl holds_mv, hn1.at.1⟩
section
variable {H : Type} {enc : TypeId × Value → H} {w : World} {r : Reach} {b0 : Nat} {v : Value} {d : DataW H} {ps : List MemPlace}
theorem open_recs (hval : Value.okWide Tryz.prog w r b0 46 v) (h : DataW.Trod enc Tryz.prog w 0 (fun _ => true) true 46 v d ps) : ∃ ls : List Lg.Rec, SliceR PatR w v ls ∧ ls.length ≤ maxLen := by
  obtain ⟨l, hl⟩ := opRecs.cell (by kernel_rfl) hval h
  obtain ⟨h1, h2⟩ := holds_slice hl
  exact ⟨_, h1.mapP toRec rfl holds_rec, by rw [List.length_map]; exact h2⟩
theorem open_byts (hval : Value.okWide Tryz.prog w r b0 47 v) (h : DataW.Trod enc Tryz.prog w 0 (fun _ => true) true 47 v d ps) : ∃ l : List (BitVec 8), SliceAt encB w v l ∧ l.length ≤ maxLen := by
  obtain ⟨l, hl⟩ := opByts.cell (by kernel_rfl) hval h
  obtain ⟨h1, h2⟩ := holds_slice hl
  exact ⟨l, h1.at.1, h2⟩
theorem open_b4 (hval : Value.okWide Tryz.prog w r b0 48 v) (h : DataW.Trod enc Tryz.prog w 0 (fun _ => true) true 48 v d ps) : ∃ k : BitVec 8 × BitVec 8 × BitVec 8 × BitVec 8, v = .agg #[encB k.1, encB k.2.1, encB k.2.2.1, encB k.2.2.2] := by
  obtain ⟨cs, x, rfl, hx⟩ := opB4.agg (by kernel_rfl) hval h
  obtain ⟨h1, h2, _⟩ := rep_one hx
  match x, h2 with
  | [a, b, c, e], _ => exact ⟨(a, b, c, e), by rw [h1]; rfl⟩
variable {P : Program} {base : Nat} {spare : Nat → Bool} {held : Bool}
theorem trodAll_five {t t' t'' t3 t4 : TypeId} {args : Array Value} {ds : List (DataW H)} {ps : List MemPlace} (h : DataW.TrodAll enc P w base spare held [t, t', t'', t3, t4] args.toList ds ps) :
    ∃ v v' v'' v3 v4 d d' d'' d3 d4 p p' p'' p3 p4, args = #[v, v', v'', v3, v4] ∧ ds = [d, d', d'', d3, d4] ∧ ps = p ++ p' ++ p'' ++ p3 ++ p4 ∧ DataW.Trod enc P w base spare held t v d p ∧ DataW.Trod enc P w base spare held t' v' d' p' ∧ DataW.Trod enc P w base spare held t'' v'' d'' p'' ∧ DataW.Trod enc P w base spare held t3 v3 d3 p3 ∧ DataW.Trod enc P w base spare held t4 v4 d4 p4 := by
  obtain ⟨v, vs, d, ds', p, q, hargs, rfl, rfl, hd, hrest⟩ := trodAll_cons h
  obtain ⟨v', vs', d', ds'', p', q', rfl, rfl, rfl, hd', hrest'⟩ := trodAll_cons hrest
  obtain ⟨v'', vs'', d'', ds''', p'', q'', rfl, rfl, rfl, hd'', hrest''⟩ := trodAll_cons hrest'
  obtain ⟨v3, vs3, d3, ds3, p3, q3, rfl, rfl, rfl, hd3, hrest3⟩ := trodAll_cons hrest''
  obtain ⟨v4, vs4, d4, ds4, p4, q4, rfl, rfl, rfl, hd4, hrest4⟩ := trodAll_cons hrest3
  obtain ⟨rfl, rfl, rfl⟩ := trodAll_nil hrest4
  exact ⟨v, v', v'', v3, v4, d, d', d'', d3, d4, p, p', p'', p3, p4, by cases args; simp_all, rfl, by simp, hd, hd', hd'', hd3, hd4⟩
end
end Go.Proofs.YtjabgpejmnpamaaGreatDoor
