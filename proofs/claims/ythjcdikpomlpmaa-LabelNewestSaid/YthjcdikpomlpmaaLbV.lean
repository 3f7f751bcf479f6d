/-
  Chapter 30 (label): what a law's arguments are.
-/
import Derived.Test.YthjcdikpomlpmaaLbU
import Derived.Test.YthjcdikpomlpmaaLawKit
import Derived.Test.YthjcdikpomlpmaaArg
namespace Go.Proofs.Ythjcdikpomlpmaa
open Go.ChangeShapes Go.WideShapes Go.ChangeAt Go.RowKit
set_option linter.unusedVariables false

theorem own : ownKnob Try.prog.godebug = none := by kernel_rfl
theorem laid : laidOutB Try.prog = true := by kernel_rfl
theorem opU64 : Opens Try.prog 22 Pat.u64 := Opens.u64 Try.underlying22 (by kernel_rfl)
theorem opU8 : Opens Try.prog 5 Pat.u8 := Opens.u8 Try.underlying5 (by kernel_rfl)
theorem opI64 : Opens Try.prog 3 Pat.i64 := Opens.i64 Try.underlying3 (by kernel_rfl)
theorem opBool : Opens Try.prog 4 Pat.bool := Opens.bool Try.underlying4 (by kernel_rfl)
theorem opBools : Opens Try.prog 27 (Pat.slice Pat.bool) := Opens.slice opBool Try.underlying27 (by kernel_rfl) (by kernel_rfl)
theorem opBytes : Opens Try.prog 35 (Pat.slice Pat.u8) := Opens.slice opU8 Try.underlying35 (by kernel_rfl) (by kernel_rfl)
theorem opRows : Opens Try.prog 31 (Pat.slice (Pat.slice Pat.u8)) := Opens.slice opBytes Try.underlying31 (by kernel_rfl) (by kernel_rfl)
abbrev patGeo := Pat.pair Pat.i64 (Pat.pair Pat.i64 (Pat.pair Pat.i64 (Pat.pair Pat.i64 Pat.i64)))
abbrev patCfg := Pat.pair Pat.i64 (Pat.pair Pat.i64 (Pat.pair Pat.i64 (Pat.pair Pat.i64 (Pat.pair patGeo (Pat.pair Pat.i64 Pat.i64)))))
abbrev patLab := Pat.pair Pat.u64 (Pat.pair Pat.i64 (Pat.pair Pat.u64 (Pat.pair Pat.u64 (Pat.pair patCfg (Pat.pair (Pat.slice Pat.bool) (Pat.pair Pat.i64 (Pat.pair Pat.u64 Pat.u64)))))))
theorem opGeo : Opens Try.prog 24 patGeo :=
  Opens.struct Try.underlying24 (OpensF.cons opI64 rfl (OpensF.cons opI64 rfl (OpensF.cons opI64 rfl (OpensF.cons opI64 rfl (OpensF.last opI64 rfl))))) (by kernel_rfl)
theorem opCfg : Opens Try.prog 26 patCfg :=
  Opens.struct Try.underlying26 (OpensF.cons opI64 rfl (OpensF.cons opI64 rfl (OpensF.cons opI64 rfl (OpensF.cons opI64 rfl (OpensF.cons opGeo rfl (OpensF.cons opI64 rfl (OpensF.last opI64 rfl))))))) (by kernel_rfl)
theorem opLab : Opens Try.prog 29 patLab :=
  Opens.struct Try.underlying29 (OpensF.cons opU64 rfl (OpensF.cons opI64 rfl (OpensF.cons opU64 rfl (OpensF.cons opU64 rfl (OpensF.cons opCfg rfl (OpensF.cons opBools rfl (OpensF.cons opI64 rfl (OpensF.cons opU64 rfl (OpensF.last opU64 rfl))))))))) (by kernel_rfl)
abbrev GeoT := Int × Int × Int × Int × Int
abbrev CfgT := Int × Int × Int × Int × GeoT × Int × Int
abbrev LabT := BitVec 64 × Int × BitVec 64 × BitVec 64 × CfgT × List Bool × Int × BitVec 64 × BitVec 64
abbrev LD := Lab × List Bool
def toCfg (x : CfgT) : Cfg := ⟨x.1, x.2.1, x.2.2.1, x.2.2.2.1, x.2.2.2.2.1.1, x.2.2.2.2.1.2.1, x.2.2.2.2.1.2.2.1, x.2.2.2.2.1.2.2.2.1, x.2.2.2.2.1.2.2.2.2, x.2.2.2.2.2.1, x.2.2.2.2.2.2⟩
def toLD (x : LabT) : LD := (⟨x.1, x.2.1, x.2.2.1, x.2.2.2.1, toCfg x.2.2.2.2.1, x.2.2.2.2.2.2.1, x.2.2.2.2.2.2.2.1, x.2.2.2.2.2.2.2.2⟩, x.2.2.2.2.2.1)
/-- the numbers of a label are such as int holds -/
def LabI (l : Lab) : Prop := I64 l.disk ∧ I64 l.blob ∧ ∀ z, z ∈ cfgL l.c → I64 z
def cfgA (c : Cfg) : List Value := [.int .i64 c.d, .int .i64 c.w, .int .i64 c.t, .int .i64 c.s, .int .i64 c.r, .int .i64 c.b, .int .i64 c.k, .int .i64 c.c, .int .i64 c.o, .int .i64 c.a, .int .i64 c.g]
theorem holds_cfg {w : World} {cs : List Value} {x : CfgT} (h : patCfg.holds w cs x) : cs = cfgA (toCfg x) ∧ ∀ z, z ∈ cfgL (toCfg x) → I64 z := by
  obtain ⟨y0, y1, y2, y3, ⟨z0, z1, z2, z3, z4⟩, y5, y6⟩ := x
  obtain ⟨_, _, rfl, ⟨rfl, j0⟩, _, _, rfl, ⟨rfl, j1⟩, _, _, rfl, ⟨rfl, j2⟩, _, _, rfl, ⟨rfl, j3⟩, _, _, rfl, hg, _, _, rfl, ⟨rfl, j5⟩, ⟨rfl, j6⟩⟩ := h
  obtain ⟨_, _, rfl, ⟨rfl, k0⟩, _, _, rfl, ⟨rfl, k1⟩, _, _, rfl, ⟨rfl, k2⟩, _, _, rfl, ⟨rfl, k3⟩, ⟨rfl, k4⟩⟩ := hg
  refine ⟨rfl, fun z hz => ?_⟩
  simp only [toCfg, cfgL, List.mem_cons, List.not_mem_nil, or_false] at hz
  rcases hz with rfl | rfl | rfl | rfl | rfl | rfl | rfl | rfl | rfl | rfl | rfl <;> assumption
theorem holds_lab {w : World} {cs : List Value} {x : LabT} (h : patLab.holds w cs x) : ∃ dv, cs = (labA (toLD x).1 dv).toList ∧ SliceAt Value.bool w dv (toLD x).2 ∧ (toLD x).2.length ≤ maxLen ∧ LabI (toLD x).1 := by
  obtain ⟨x0, x1, x2, x3, y, x5, x6, x7, x8⟩ := x
  obtain ⟨_, _, rfl, ⟨rfl, _⟩, _, _, rfl, ⟨rfl, i1⟩, _, _, rfl, ⟨rfl, _⟩, _, _, rfl, ⟨rfl, _⟩, _, _, rfl, hc, _, _, rfl, hs, _, _, rfl, ⟨rfl, i6⟩, _, _, rfl, ⟨rfl, _⟩, ⟨rfl, _⟩⟩ := h
  obtain ⟨rfl, hz⟩ := holds_cfg hc
  obtain ⟨dv, rfl, hd, hl⟩ := hs
  exact ⟨dv, rfl, hd.at.1, hl, i1, i6, hz⟩
theorem rows_of {w : World} {v : Value} {S : List (List (BitVec 8))} (h : SliceR (Pat.slice Pat.u8) w v S) : RowsB w v S ∧ ∀ l, l ∈ S → l.length ≤ maxLen := by
  obtain ⟨ad, cap, hv, hc, h⟩ := h
  rcases h with ⟨rfl, h0⟩ | ⟨b, off, rfl, hb, hi⟩
  · exact ⟨⟨[], ⟨ad, cap, hv, hc, .inl ⟨rfl, h0⟩⟩, rfl, fun i h => absurd h (by simp)⟩, by simp⟩
  · have key : ∀ i, i < S.length → ∃ s : SV, w.cell? ⟨b, off + i, none⟩ = some (encS s) ∧ SliceAt encB w (encS s) (S.getD i []) ∧ (S.getD i []).length ≤ maxLen := fun i hi' => by
      obtain ⟨cs, ⟨u, rfl, hu, hul⟩, h2⟩ := hi i hi'
      have h3 := h2 0 (by simp)
      obtain ⟨a, c, hv2, hc2, hr2⟩ := hu.at.1
      refine ⟨(a, S[i].length, c), ?_, ?_⟩
      · have e : off + i * (Pat.slice Pat.u8).size + 0 = off + i := by show off + i * 1 + 0 = _; omega
        rw [e] at h3
        rw [h3]
        show some u = _
        rw [hv2]
      · rw [getD_in hi']
        exact ⟨⟨a, c, rfl, hc2, hr2⟩, hul⟩
    obtain ⟨vs, hvl, hvs⟩ := list_of (n := S.length) key
    refine ⟨⟨vs, ⟨some ⟨b, off, none⟩, cap, by rw [hvl]; exact hv, by rw [hvl]; exact hc, .inr ⟨b, off, rfl, hb, fun i h => (hvs i h).1⟩⟩, hvl, fun i h1 h2 => ?_⟩, fun l hl => ?_⟩
    · have := (hvs i h1).2.1
      rwa [getD_in h2] at this
    · obtain ⟨i, hi', rfl⟩ := List.getElem_of_mem hl
      have := (hvs i (by rw [hvl]; exact hi')).2.2
      rwa [getD_in hi'] at this
section
variable {H : Type} {enc : TypeId × Value → H} {w : World} {r : Reach} {b0 : Nat} {v : Value} {d : DataW H} {ps : List MemPlace}
set_option maxRecDepth 100000 in
theorem open_i64 (hval : Value.okWide Try.prog w r b0 3 v) (h : DataW.Trod enc Try.prog w 0 (fun _ => true) true 3 v d ps) : ∃ n : Int, v = .int .i64 n ∧ I64 n := by
  obtain ⟨x, hx⟩ := opI64.cell (by kernel_rfl) hval h
  exact ⟨x, holds_i64 hx⟩
set_option maxRecDepth 100000 in
theorem open_u64 (hval : Value.okWide Try.prog w r b0 22 v) (h : DataW.Trod enc Try.prog w 0 (fun _ => true) true 22 v d ps) : ∃ x, v = encU x := by
  obtain ⟨x, hx⟩ := opU64.cell (by kernel_rfl) hval h
  exact ⟨x, holds_u64 hx⟩
set_option maxRecDepth 100000 in
theorem open_u8 (hval : Value.okWide Try.prog w r b0 5 v) (h : DataW.Trod enc Try.prog w 0 (fun _ => true) true 5 v d ps) : ∃ x, v = encB x := by
  obtain ⟨x, hx⟩ := opU8.cell (by kernel_rfl) hval h
  exact ⟨x, holds_u8 hx⟩
set_option maxRecDepth 100000 in
theorem open_bytes (hval : Value.okWide Try.prog w r b0 35 v) (h : DataW.Trod enc Try.prog w 0 (fun _ => true) true 35 v d ps) : ∃ l : List (BitVec 8), SliceAt encB w v l ∧ l.length ≤ maxLen := by
  obtain ⟨l, hl⟩ := opBytes.cell (by kernel_rfl) hval h
  obtain ⟨h1, h2⟩ := holds_slice hl
  exact ⟨l, h1.at.1, h2⟩
set_option maxRecDepth 100000 in
theorem open_rows (hval : Value.okWide Try.prog w r b0 31 v) (h : DataW.Trod enc Try.prog w 0 (fun _ => true) true 31 v d ps) : ∃ S : List (List (BitVec 8)), RowsB w v S ∧ S.length ≤ maxLen ∧ ∀ l, l ∈ S → l.length ≤ maxLen := by
  obtain ⟨l, hl⟩ := opRows.cell (by kernel_rfl) hval h
  obtain ⟨h1, h2⟩ := holds_slice hl
  obtain ⟨h3, h4⟩ := rows_of h1
  exact ⟨l, h3, h2, h4⟩
set_option maxRecDepth 100000 in
theorem open_lab (hval : Value.okWide Try.prog w r b0 29 v) (h : DataW.Trod enc Try.prog w 0 (fun _ => true) true 29 v d ps) : ∃ (l : Lab) (dv : Value) (ds : List Bool), v = labV l dv ∧ SliceAt Value.bool w dv ds ∧ ds.length ≤ maxLen ∧ LabI l := by
  obtain ⟨cs, x, rfl, hx⟩ := opLab.agg (by kernel_rfl) hval h
  obtain ⟨dv, h1, h2, h3, h4⟩ := holds_lab hx
  exact ⟨_, dv, _, by rw [h1], h2, h3, h4⟩
set_option maxRecDepth 100000 in
theorem open_cfg (hval : Value.okWide Try.prog w r b0 26 v) (h : DataW.Trod enc Try.prog w 0 (fun _ => true) true 26 v d ps) : ∃ c : Cfg, v = cfgV c ∧ ∀ z, z ∈ cfgL c → I64 z := by
  obtain ⟨cs, x, rfl, hx⟩ := opCfg.agg (by kernel_rfl) hval h
  obtain ⟨h1, h2⟩ := holds_cfg hx
  exact ⟨_, by rw [h1]; rfl, h2⟩
end
end Go.Proofs.Ythjcdikpomlpmaa
