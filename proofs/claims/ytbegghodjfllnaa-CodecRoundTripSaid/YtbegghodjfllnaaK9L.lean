/-
  Chapter 9 (codec): what a law's arguments are.
-/
import Derived.Test.YtbegghodjfllnaaK9A
import Derived.Test.YtbegghodjfllnaaArg
namespace Go.Proofs.Ytbegghodjfllnaa
open Go.ChangeShapes Go.WideShapes Go.ChangeAt Go.RowKit
set_option linter.unusedVariables false

theorem own : ownKnob Try.prog.godebug = none := by kernel_rfl
theorem laid : laidOutB Try.prog = true := by kernel_rfl
theorem opU8 : Opens Try.prog 5 Pat.u8 := Opens.u8 Try.underlying5 (by kernel_rfl)
theorem opU64 : Opens Try.prog 22 Pat.u64 := Opens.u64 Try.underlying22 (by kernel_rfl)
theorem opI64 : Opens Try.prog 3 Pat.i64 := Opens.i64 Try.underlying3 (by kernel_rfl)
theorem opBytes : Opens Try.prog 25 (Pat.slice Pat.u8) := Opens.slice opU8 Try.underlying25 (by kernel_rfl) (by kernel_rfl)
theorem opBlock : Opens Try.prog 31 (Pat.rep 8 Pat.u8) := Opens.array opU8 Try.underlying31 (by kernel_rfl)
abbrev patV := Pat.pair Pat.u64 (Pat.pair Pat.i64 (Pat.pair (Pat.slice Pat.u8) (Pat.rep 8 Pat.u8)))
theorem opV : Opens Try.prog 33 patV :=
  Opens.struct Try.underlying33 (OpensF.cons opU64 rfl (OpensF.cons opI64 rfl (OpensF.cons opBytes rfl (OpensF.last opBlock rfl)))) (by kernel_rfl)
theorem open_bytes {H : Type} {enc : TypeId × Value → H} {w : World} {r : Reach} {b0 : Nat} {v : Value} {d : DataW H} {ps : List MemPlace}
    (hval : Value.okWide Try.prog w r b0 25 v) (h : DataW.Trod enc Try.prog w 0 (fun _ => true) true 25 v d ps) :
    ∃ l : List (BitVec 8), SliceAt encB w v l ∧ l.length ≤ maxLen := by
  obtain ⟨l, hl⟩ := opBytes.cell (by kernel_rfl) hval h
  obtain ⟨h1, h2⟩ := holds_slice hl
  exact ⟨l, h1.at.1, h2⟩
theorem holds_V {w : World} {cs : List Value} {x : BitVec 64 × Int × List (BitVec 8) × List (BitVec 8)} (h : patV.holds w cs x) :
    ∃ v, cs = encU x.1 :: encI x.2.1 :: v :: x.2.2.2.map encB ∧ I64 x.2.1 ∧ SliceAt encB w v x.2.2.1 ∧ x.2.2.1.length ≤ maxLen ∧ x.2.2.2.length = 8 := by
  obtain ⟨c0, d0, rfl, h0, c1, d1, rfl, h1, c2, d2, rfl, ⟨v, h2a, h2, h2b⟩, h3⟩ := h
  obtain ⟨h3a, h3b, _⟩ := rep_one h3
  refine ⟨v, ?_, h1.2, h2.at.1, h2b, h3b⟩
  rw [h0.1, h1.1, h2a, h3a]; rfl
theorem open_V {H : Type} {enc : TypeId × Value → H} {w : World} {r : Reach} {b0 : Nat} {v : Value} {d : DataW H} {ps : List MemPlace}
    (hval : Value.okWide Try.prog w r b0 33 v) (h : DataW.Trod enc Try.prog w 0 (fun _ => true) true 33 v d ps) :
    ∃ (u : BitVec 64) (n : Int) (vx : Value) (lx bs : List (BitVec 8)), v = .agg (encU u :: encI n :: vx :: bs.map encB).toArray ∧ I64 n ∧ SliceAt encB w vx lx ∧ lx.length ≤ maxLen ∧ bs.length = 8 := by
  obtain ⟨cs, x, rfl, hx⟩ := opV.agg (by kernel_rfl) hval h
  obtain ⟨vx, rfl, h1, h2, h3, h4⟩ := holds_V hx
  exact ⟨_, _, vx, _, _, rfl, h1, h2, h3, h4⟩
section
variable {H : Type} {enc : TypeId × Value → H} {w : World} {r : Reach} {b0 : Nat} {v : Value} {d : DataW H} {ps : List MemPlace}
theorem open_u64n (hval : Value.okWide Try.prog w r b0 22 v) (h : DataW.Trod enc Try.prog w 0 (fun _ => true) true 22 v d ps) : ∃ n : Nat, v = .int .u64 n ∧ n < 18446744073709551616 := by
  obtain ⟨x, hx⟩ := opU64.cell (by kernel_rfl) hval h
  exact ⟨x.toNat, holds_u64 hx, x.isLt⟩
theorem open_i64 (hval : Value.okWide Try.prog w r b0 3 v) (h : DataW.Trod enc Try.prog w 0 (fun _ => true) true 3 v d ps) : ∃ n : Int, v = .int .i64 n ∧ -9223372036854775808 ≤ n ∧ n ≤ 9223372036854775807 := by
  obtain ⟨x, hx⟩ := opI64.cell (by kernel_rfl) hval h
  obtain ⟨h1, h2⟩ := holds_i64 hx
  exact ⟨x, h1, h2⟩
end
theorem list8 {α : Type} {l : List α} (h : l.length = 8) : ∃ x0 x1 x2 x3 x4 x5 x6 x7, l = [x0, x1, x2, x3, x4, x5, x6, x7] := by
  match l, h with
  | [x0, x1, x2, x3, x4, x5, x6, x7], _ => exact ⟨x0, x1, x2, x3, x4, x5, x6, x7, rfl⟩
end Go.Proofs.Ytbegghodjfllnaa
