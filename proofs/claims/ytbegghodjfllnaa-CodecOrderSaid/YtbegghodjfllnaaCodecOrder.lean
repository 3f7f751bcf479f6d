/-
  PROVED: the law CodecOrder returns true for every argument: two different numbers have different encodings, none of which is the beginning of the other one; the arguments read afterwards as they read before. No condition.
-/
import Derived.Test.YtbegghodjfllnaaK9F
import Derived.Test.YtbegghodjfllnaaLawKit
namespace Go.Proofs.Ytbegghodjfllnaa
open Go.ChangeShapes Go.WideShapes Go.ChangeAt Go.RowKit
set_option linter.unusedVariables false

theorem own : ownKnob Try.prog.godebug = none := by kernel_rfl
theorem laid : laidOutB Try.prog = true := by kernel_rfl
theorem open_u64n {w : World} {r : Reach} {b0 : Nat} {v : Value} (hval : Value.okWide Try.prog w r b0 22 v) : ∃ n : Nat, v = .int .u64 n ∧ n < 18446744073709551616 := by
  have h : Cell.okWide Try.prog w r b0 22 v := by
    have h := hval
    unfold Value.okWide at h
    rw [Try.underlying22] at h
    exact h
  obtain ⟨n, rfl, h1, h2⟩ := cell_int Try.underlying22 h
  have h1' : (0 : Int) ≤ n := h1
  have h2' : n ≤ 18446744073709551615 := h2
  exact ⟨n.toNat, by rw [Int.toNat_of_nonneg h1'], by omega⟩
theorem cells2 : Try.prog.cellTypes Try.prog.depth 23 = some [3, 3] := by kernel_rfl
theorem open_two {w : World} {r : Reach} {base : Nat} {v : Value} (h : Value.okWide Try.prog w r base 23 v) :
    ∃ x y : Int, v = .agg #[.int .i64 x, .int .i64 y] ∧ (-9223372036854775808 ≤ x ∧ x ≤ 9223372036854775807) ∧ (-9223372036854775808 ≤ y ∧ y ≤ 9223372036854775807) := by
  obtain ⟨cs, rfl, hsz, hc⟩ := agg_cells (by kernel_rfl) cells2 (by kernel_rfl) h
  have hi : ∀ i (h : i < cs.size), ∃ n : Int, cs[i] = .int .i64 n ∧ (-9223372036854775808 ≤ n ∧ n ≤ 9223372036854775807) := by
    intro i h
    obtain ⟨u, hu, hok⟩ := hc i cs[i] (Array.getElem?_eq_getElem h)
    have : u = 3 := by simpa using List.mem_of_getElem? hu
    subst this
    obtain ⟨n, hn, h1, h2⟩ := cell_int Try.underlying3 hok
    exact ⟨n, hn, h1, h2⟩
  have hs : cs.size = 2 := hsz
  obtain ⟨n0, g0, b0⟩ := hi 0 (by omega)
  obtain ⟨n1, g1, b1⟩ := hi 1 (by omega)
  refine ⟨n0, n1, ?_, b0, b1⟩
  congr 1
  refine Array.ext (by simpa using hs) fun i h5 h6 => ?_
  match i, h5, h6 with
  | 0, _, _ => exact g0
  | 1, _, _ => exact g1
  | n + 2, h5, _ => omega

namespace codecOrder
set_option maxRecDepth 100000 in
theorem lifted (os : Os) (started : os.Started) (H : Type) (enc : TypeId × Value → H) :
    ReturnsInHanded {} Try.checked os 3 .any (Rows.codecOrderSpec.pre6 enc Try.prog Try.f3 Rows.codecOrderRow.domain false) (Rows.codecOrderSpec.post enc Try.prog Try.f3 false true false false) := by
  refine law_lift (C := Try.checked) own started (by kernel_rfl) Try.func3 rfl ?_ laid ?_ rfl Try.underlying4
    (ChangeSpec.witness6 (enc := enc) (C := Try.checked) false ⟨#[], #[.int .u64 0, .int .u64 0, .agg #[.int .i64 0, .int .i64 0]], []⟩ 8 (by kernel_rfl) (by kernel_rfl) (by kernel_rfl) (by kernel_rfl)) ?_
  · intro ds hds
    rw [show Try.f3.params.toList.length = 3 from rfl] at hds
    match ds, hds with
    | [d0, d1, d2], _ => rfl
  · intro t ht
    have hall : ∀ t ∈ Try.f3.params.toList, (Try.prog.readableRec t && decide (t < Try.prog.types.size)) = true := List.all_eq_true.1 (by kernel_rfl)
    have h := hall t ht
    rw [Bool.and_eq_true, decide_eq_true_eq] at h
    exact h
  · intro W base args ds p hval hA hlt hsz
    rw [show Try.f3.params.toList = [22, 22, 23] from rfl] at hA
    obtain ⟨v0, v1, v2, d0, d1, d2, p0, p1, p2, rfl, rfl, rfl, h0, h1, h2⟩ := trodAll_three hA
    obtain ⟨m, rfl, hm⟩ := open_u64n (hval 0 22 v0 rfl rfl)
    obtain ⟨n, rfl, hn⟩ := open_u64n (hval 1 22 v1 rfl rfl)
    obtain ⟨x, y, rfl, hx, hy⟩ := open_two (hval 2 23 v2 rfl rfl)
    exact codecOrder_walk m n x y W hm hn hx hy

theorem over : Rows.codecOrderRow.holds Try.pinned (OpenSpec.ofChange Rows.codecOrderSpec) :=
  OpenClaim.holds_of_wide 3 Try.f3 rfl rfl rfl rfl rfl rfl rfl ⟨rfl, rfl, rfl, rfl, rfl⟩ rfl rfl rfl rfl rfl (by kernel_rfl) Try.func3 (by kernel_rfl)
    (of_decide_eq_true (by kernel_rfl)) (by unfold Func.isWrapper; first | (rw [if_pos (by decide +kernel)]; kernel_rfl) | (rw [if_neg (by decide +kernel)]; exact ⟨rfl, rfl⟩))
    (fun os started H enc _ => lifted os started H enc)

theorem proved : Rows.CodecOrderSaid :=
  over
end codecOrder
end Go.Proofs.Ytbegghodjfllnaa
