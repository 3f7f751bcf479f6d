/-
  Chapter 15 (entry): what a law's arguments are.
-/
import Derived.Test.YtbjafmjeilabiaaPut
import Derived.Test.YtbjafmjeilabiaaArg
namespace Go.Proofs.Ytbjafmjeilabiaa
open Go.ChangeShapes Go.WideShapes Go.ChangeAt Go.RowKit
set_option linter.unusedVariables false

theorem own : ownKnob Try.prog.godebug = none := by kernel_rfl
theorem laid : laidOutB Try.prog = true := by kernel_rfl
theorem opU8 : Opens Try.prog 5 Pat.u8 := Opens.u8 Try.underlying5 (by kernel_rfl)
theorem opU64 : Opens Try.prog 22 Pat.u64 := Opens.u64 Try.underlying22 (by kernel_rfl)
theorem opI64 : Opens Try.prog 3 Pat.i64 := Opens.i64 Try.underlying3 (by kernel_rfl)
theorem opBytes : Opens Try.prog 27 (Pat.slice Pat.u8) := Opens.slice opU8 Try.underlying27 (by kernel_rfl) (by kernel_rfl)
theorem opBlock : Opens Try.prog 24 (Pat.rep 8 Pat.u8) := Opens.array opU8 Try.underlying24 (by kernel_rfl)
theorem opTwo : Opens Try.prog 40 (Pat.rep 2 Pat.u8) := Opens.array opU8 Try.underlying40 (by kernel_rfl)
theorem opRaw : Opens Try.prog 36 (Pat.rep 29 Pat.u8) := Opens.array opU8 Try.underlying36 (by kernel_rfl)
abbrev patE := Pat.pair Pat.i64 (Pat.pair Pat.i64 (Pat.pair Pat.u64 (Pat.rep 8 Pat.u8)))
theorem opE : Opens Try.prog 26 patE :=
  Opens.struct Try.underlying26 (OpensF.cons opI64 rfl (OpensF.cons opI64 rfl (OpensF.cons opU64 rfl (OpensF.last opBlock rfl)))) (by kernel_rfl)
theorem list8 {α : Type} {l : List α} (h : l.length = 8) : ∃ x0 x1 x2 x3 x4 x5 x6 x7, l = [x0, x1, x2, x3, x4, x5, x6, x7] := by
  match l, h with
  | [x0, x1, x2, x3, x4, x5, x6, x7], _ => exact ⟨x0, x1, x2, x3, x4, x5, x6, x7, rfl⟩
theorem list2 {α : Type} {l : List α} (h : l.length = 2) : ∃ x0 x1, l = [x0, x1] := by
  match l, h with
  | [x0, x1], _ => exact ⟨x0, x1, rfl⟩
section
variable {H : Type} {enc : TypeId × Value → H} {w : World} {r : Reach} {b0 : Nat} {v : Value} {d : DataW H} {ps : List MemPlace}
theorem open_bytes (hval : Value.okWide Try.prog w r b0 27 v) (h : DataW.Trod enc Try.prog w 0 (fun _ => true) true 27 v d ps) :
    ∃ l : List (BitVec 8), SliceAt encB w v l ∧ l.length ≤ maxLen := by
  obtain ⟨l, hl⟩ := opBytes.cell (by kernel_rfl) hval h
  obtain ⟨h1, h2⟩ := holds_slice hl
  exact ⟨l, h1.at.1, h2⟩
theorem open_u64 (hval : Value.okWide Try.prog w r b0 22 v) (h : DataW.Trod enc Try.prog w 0 (fun _ => true) true 22 v d ps) : ∃ x, v = encU x := by
  obtain ⟨x, hx⟩ := opU64.cell (by kernel_rfl) hval h
  exact ⟨x, holds_u64 hx⟩
theorem open_u8 (hval : Value.okWide Try.prog w r b0 5 v) (h : DataW.Trod enc Try.prog w 0 (fun _ => true) true 5 v d ps) : ∃ x, v = encB x := by
  obtain ⟨x, hx⟩ := opU8.cell (by kernel_rfl) hval h
  exact ⟨x, holds_u8 hx⟩
theorem open_two (hval : Value.okWide Try.prog w r b0 40 v) (h : DataW.Trod enc Try.prog w 0 (fun _ => true) true 40 v d ps) : ∃ x y, v = .agg #[encB x, encB y] := by
  obtain ⟨cs, l, rfl, hx⟩ := opTwo.agg (by kernel_rfl) hval h
  obtain ⟨rfl, hl, _⟩ := rep_one hx
  obtain ⟨x, y, rfl⟩ := list2 hl
  exact ⟨x, y, rfl⟩
theorem open_raw (hval : Value.okWide Try.prog w r b0 36 v) (h : DataW.Trod enc Try.prog w 0 (fun _ => true) true 36 v d ps) : ∃ l : List (BitVec 8), v = .agg (l.map encB).toArray ∧ l.length = 29 := by
  obtain ⟨cs, l, rfl, hx⟩ := opRaw.agg (by kernel_rfl) hval h
  obtain ⟨rfl, hl, _⟩ := rep_one hx
  exact ⟨l, rfl, hl⟩
theorem open_E (hval : Value.okWide Try.prog w r b0 26 v) (h : DataW.Trod enc Try.prog w 0 (fun _ => true) true 26 v d ps) :
    ∃ (k b : Int) (u : BitVec 64) (x0 x1 x2 x3 x4 x5 x6 x7 : BitVec 8), v = .agg #[encI k, encI b, encU u, encB x0, encB x1, encB x2, encB x3, encB x4, encB x5, encB x6, encB x7] := by
  obtain ⟨cs, x, rfl, hx⟩ := opE.agg (by kernel_rfl) hval h
  obtain ⟨c0, d0, rfl, h0, c1, d1, rfl, h1, c2, d2, rfl, h2, h3⟩ := hx
  obtain ⟨h3a, h3b, _⟩ := rep_one h3
  obtain ⟨x0, x1, x2, x3, x4, x5, x6, x7, h8⟩ := list8 h3b
  rw [h8] at h3a
  refine ⟨x.1, x.2.1, x.2.2.1, x0, x1, x2, x3, x4, x5, x6, x7, ?_⟩
  rw [h0.1, h1.1, h2.1, h3a]; rfl
end
end Go.Proofs.Ytbjafmjeilabiaa
