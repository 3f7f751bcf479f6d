/-
  Chapter 31 (election): what a law's arguments are: labels, lists of labels.
-/
import Derived.Test.YtpmbbeflgifgaaaElA
import Derived.Test.YtpmbbeflgifgaaaLawKit
import Derived.Test.YtpmbbeflgifgaaaArg
namespace Go.Proofs.Ytpmbbeflgifgaaa
open Go.ChangeShapes Go.WideShapes Go.ChangeAt Go.RowKit
set_option linter.unusedVariables false

theorem own : ownKnob Try.prog.godebug = none := by kernel_rfl
theorem laid : laidOutB Try.prog = true := by kernel_rfl
theorem opU64 : Opens Try.prog 26 Pat.u64 := Opens.u64 Try.underlying26 (by kernel_rfl)
theorem opI64 : Opens Try.prog 3 Pat.i64 := Opens.i64 Try.underlying3 (by kernel_rfl)
theorem opBool : Opens Try.prog 4 Pat.bool := Opens.bool Try.underlying4 (by kernel_rfl)
theorem opBools : Opens Try.prog 23 (Pat.slice Pat.bool) := Opens.slice opBool Try.underlying23 (by kernel_rfl) (by kernel_rfl)
theorem opInts : Opens Try.prog 33 (Pat.slice Pat.i64) := Opens.slice opI64 Try.underlying33 (by kernel_rfl) (by kernel_rfl)
abbrev patGeo := Pat.pair Pat.i64 (Pat.pair Pat.i64 (Pat.pair Pat.i64 (Pat.pair Pat.i64 Pat.i64)))
abbrev patCfg := Pat.pair Pat.i64 (Pat.pair Pat.i64 (Pat.pair Pat.i64 (Pat.pair Pat.i64 (Pat.pair patGeo (Pat.pair Pat.i64 Pat.i64)))))
abbrev patLab := Pat.pair Pat.u64 (Pat.pair Pat.i64 (Pat.pair Pat.u64 (Pat.pair Pat.u64 (Pat.pair patCfg (Pat.pair (Pat.slice Pat.bool) (Pat.pair Pat.i64 (Pat.pair Pat.u64 Pat.u64)))))))
theorem opGeo : Opens Try.prog 28 patGeo :=
  Opens.struct Try.underlying28 (OpensF.cons opI64 rfl (OpensF.cons opI64 rfl (OpensF.cons opI64 rfl (OpensF.cons opI64 rfl (OpensF.last opI64 rfl))))) (by kernel_rfl)
theorem opCfg : Opens Try.prog 30 patCfg :=
  Opens.struct Try.underlying30 (OpensF.cons opI64 rfl (OpensF.cons opI64 rfl (OpensF.cons opI64 rfl (OpensF.cons opI64 rfl (OpensF.cons opGeo rfl (OpensF.cons opI64 rfl (OpensF.last opI64 rfl))))))) (by kernel_rfl)
theorem opLab : Opens Try.prog 32 patLab :=
  Opens.struct Try.underlying32 (OpensF.cons opU64 rfl (OpensF.cons opI64 rfl (OpensF.cons opU64 rfl (OpensF.cons opU64 rfl (OpensF.cons opCfg rfl (OpensF.cons opBools rfl (OpensF.cons opI64 rfl (OpensF.cons opU64 rfl (OpensF.last opU64 rfl))))))))) (by kernel_rfl)
theorem opLabs : Opens Try.prog 22 (Pat.slice patLab) := Opens.slice opLab Try.underlying22 (by kernel_rfl) (by kernel_rfl)

abbrev GeoT := Int × Int × Int × Int × Int
abbrev CfgT := Int × Int × Int × Int × GeoT × Int × Int
abbrev LabT := BitVec 64 × Int × BitVec 64 × BitVec 64 × CfgT × List Bool × Int × BitVec 64 × BitVec 64
def toCfg (x : CfgT) : Cfg := ⟨x.1, x.2.1, x.2.2.1, x.2.2.2.1, x.2.2.2.2.1.1, x.2.2.2.2.1.2.1, x.2.2.2.2.1.2.2.1, x.2.2.2.2.1.2.2.2.1, x.2.2.2.2.1.2.2.2.2, x.2.2.2.2.2.1, x.2.2.2.2.2.2⟩
def toLD (x : LabT) : LD := (⟨x.1, x.2.1, x.2.2.1, x.2.2.2.1, toCfg x.2.2.2.2.1, x.2.2.2.2.2.2.1, x.2.2.2.2.2.2.2.1, x.2.2.2.2.2.2.2.2⟩, x.2.2.2.2.2.1)
/-- the numbers of a label are such as int holds -/
def LabI (l : Lab) : Prop := I64 l.disk ∧ I64 l.blob ∧ ∀ z, z ∈ cfgL l.c → I64 z
theorem holds_lab {w : World} {cs : List Value} {x : LabT} (h : patLab.holds w cs x) : ∃ dv, cs = (labA (toLD x).1 dv).toList ∧ SliceAt Value.bool w dv (toLD x).2 ∧ (toLD x).2.length ≤ maxLen ∧ LabI (toLD x).1 := by
  obtain ⟨x0, x1, x2, x3, ⟨y0, y1, y2, y3, ⟨z0, z1, z2, z3, z4⟩, y5, y6⟩, x5, x6, x7, x8⟩ := x
  obtain ⟨_, _, rfl, ⟨rfl, _⟩, _, _, rfl, ⟨rfl, i1⟩, _, _, rfl, ⟨rfl, _⟩, _, _, rfl, ⟨rfl, _⟩, _, _, rfl, hc, _, _, rfl, hs, _, _, rfl, ⟨rfl, i6⟩, _, _, rfl, ⟨rfl, _⟩, ⟨rfl, _⟩⟩ := h
  obtain ⟨_, _, rfl, ⟨rfl, j0⟩, _, _, rfl, ⟨rfl, j1⟩, _, _, rfl, ⟨rfl, j2⟩, _, _, rfl, ⟨rfl, j3⟩, _, _, rfl, hg, _, _, rfl, ⟨rfl, j5⟩, ⟨rfl, j6⟩⟩ := hc
  obtain ⟨_, _, rfl, ⟨rfl, k0⟩, _, _, rfl, ⟨rfl, k1⟩, _, _, rfl, ⟨rfl, k2⟩, _, _, rfl, ⟨rfl, k3⟩, ⟨rfl, k4⟩⟩ := hg
  obtain ⟨dv, rfl, hd, hl⟩ := hs
  refine ⟨dv, rfl, hd.at.1, hl, i1, i6, fun z hz => ?_⟩
  simp only [toLD, toCfg, cfgL, List.mem_cons, List.not_mem_nil, or_false] at hz
  rcases hz with rfl | rfl | rfl | rfl | rfl | rfl | rfl | rfl | rfl | rfl | rfl <;> assumption
theorem patLab_size : patLab.size = 19 := rfl
theorem labs_of {w : World} {v : Value} {xs : List LabT} (h : SliceR patLab w v xs) : LabsAt w v (xs.map toLD) ∧ ∀ l, l ∈ xs.map toLD → l.2.length ≤ maxLen ∧ LabI l.1 := by
  obtain ⟨ad, cap, hv, hc, h⟩ := h
  rcases h with ⟨rfl, _⟩ | ⟨b, off, rfl, hb, hi⟩
  · exact ⟨⟨ad, cap, hv, hc, .inl rfl⟩, by simp⟩
  · have key : ∀ i (hi : i < xs.length), ∃ dv, LabAt w b (off + i * 19) (toLD xs[i]).1 dv ∧ SliceAt Value.bool w dv (toLD xs[i]).2 ∧ (toLD xs[i]).2.length ≤ maxLen ∧ LabI (toLD xs[i]).1 := fun i hi' => by
      obtain ⟨cs, h1, h2⟩ := hi i hi'
      obtain ⟨dv, h3, h4, h5, h6⟩ := holds_lab h1
      refine ⟨dv, ⟨fun j u hj => ?_, hb⟩, h4, h5, h6⟩
      rw [← h3] at hj
      obtain ⟨hj1, rfl⟩ := List.getElem?_eq_some_iff.1 hj
      have := h2 j hj1
      rwa [patLab_size] at this
    refine ⟨⟨some ⟨b, off, none⟩, cap, by rw [List.length_map]; exact hv, by rw [List.length_map]; exact hc, .inr ⟨b, off, rfl, fun i hi' => ?_⟩⟩, fun l hl => ?_⟩
    · rw [List.length_map] at hi'
      obtain ⟨dv, h1, h2, _⟩ := key i hi'
      rw [List.getElem_map]
      exact ⟨dv, h1, h2⟩
    · obtain ⟨x, hx, rfl⟩ := List.mem_map.1 hl
      obtain ⟨i, hi', rfl⟩ := List.getElem_of_mem hx
      obtain ⟨_, _, _, h3, h4⟩ := key i hi'
      exact ⟨h3, h4⟩
section
variable {H : Type} {enc : TypeId × Value → H} {w : World} {r : Reach} {b0 : Nat} {v : Value} {d : DataW H} {ps : List MemPlace}
theorem open_i64 (hval : Value.okWide Try.prog w r b0 3 v) (h : DataW.Trod enc Try.prog w 0 (fun _ => true) true 3 v d ps) : ∃ n : Int, v = .int .i64 n ∧ I64 n := by
  obtain ⟨x, hx⟩ := opI64.cell (by kernel_rfl) hval h
  exact ⟨x, holds_i64 hx⟩
theorem open_u64 (hval : Value.okWide Try.prog w r b0 26 v) (h : DataW.Trod enc Try.prog w 0 (fun _ => true) true 26 v d ps) : ∃ x, v = encU x := by
  obtain ⟨x, hx⟩ := opU64.cell (by kernel_rfl) hval h
  exact ⟨x, holds_u64 hx⟩
theorem open_bools (hval : Value.okWide Try.prog w r b0 23 v) (h : DataW.Trod enc Try.prog w 0 (fun _ => true) true 23 v d ps) : ∃ l : List Bool, SliceAt Value.bool w v l ∧ l.length ≤ maxLen := by
  obtain ⟨l, hl⟩ := opBools.cell (by kernel_rfl) hval h
  obtain ⟨h1, h2⟩ := holds_slice hl
  exact ⟨l, h1.at.1, h2⟩
theorem open_ints (hval : Value.okWide Try.prog w r b0 33 v) (h : DataW.Trod enc Try.prog w 0 (fun _ => true) true 33 v d ps) : ∃ l : List Int, SliceAt encI w v l ∧ l.length ≤ maxLen ∧ ∀ z, z ∈ l → I64 z := by
  obtain ⟨l, hl⟩ := opInts.cell (by kernel_rfl) hval h
  obtain ⟨h1, h2⟩ := holds_slice hl
  exact ⟨l, h1.at.1, h2, h1.at.2⟩
theorem open_labs (hval : Value.okWide Try.prog w r b0 22 v) (h : DataW.Trod enc Try.prog w 0 (fun _ => true) true 22 v d ps) : ∃ ls : List LD, LabsAt w v ls ∧ ls.length ≤ maxLen ∧ ∀ l, l ∈ ls → l.2.length ≤ maxLen ∧ LabI l.1 := by
  obtain ⟨l, hl⟩ := opLabs.cell (by kernel_rfl) hval h
  obtain ⟨h1, h2⟩ := holds_slice hl
  obtain ⟨h3, h4⟩ := labs_of h1
  exact ⟨_, h3, by rw [List.length_map]; exact h2, h4⟩
theorem open_lab (hval : Value.okWide Try.prog w r b0 32 v) (h : DataW.Trod enc Try.prog w 0 (fun _ => true) true 32 v d ps) : ∃ (l : Lab) (dv : Value) (ds : List Bool), v = labV l dv ∧ SliceAt Value.bool w dv ds ∧ ds.length ≤ maxLen ∧ LabI l := by
  obtain ⟨cs, x, rfl, hx⟩ := opLab.agg (by kernel_rfl) hval h
  obtain ⟨dv, h1, h2, h3, h4⟩ := holds_lab hx
  exact ⟨_, dv, _, by rw [h1], h2, h3, h4⟩
end
end Go.Proofs.Ytpmbbeflgifgaaa
