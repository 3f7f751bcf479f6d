/-
  PROVED: the law LabelValid returns true for every argument: ValidConfig, Valid and Equal return the specified results for any labels; the arguments read afterwards as they read before. No condition.
-/
import Derived.Test.YthjcdikpomlpmaaLbY
namespace Go.Proofs.Ythjcdikpomlpmaa
open Go.ChangeShapes Go.WideShapes Go.ChangeAt Go.RowKit
set_option linter.unusedVariables false

namespace labelValid
set_option maxRecDepth 100000 in
theorem lifted (os : Os) (started : os.Started) (H : Type) (enc : TypeId × Value → H) :
    ReturnsInHanded {} Try.checked os 5 .any (Rows.labelValidSpec.pre6 enc Try.prog Try.f5 Rows.labelValidRow.domain false) (Rows.labelValidSpec.post enc Try.prog Try.f5 false true false false) := by
  refine law_lift (C := Try.checked) own started (by kernel_rfl) Try.func5 rfl ?_ laid ?_ rfl Try.underlying4
    (ChangeSpec.witness6 (enc := enc) (C := Try.checked) false ⟨#[], #[.agg #[.int .u64 0, .int .i64 0, .int .u64 0, .int .u64 0, .int .i64 0, .int .i64 0, .int .i64 0, .int .i64 0, .int .i64 0, .int .i64 0, .int .i64 0, .int .i64 0, .int .i64 0, .int .i64 0, .int .i64 0, .slice none 0 0, .int .i64 0, .int .u64 0, .int .u64 0], .agg #[.int .u64 0, .int .i64 0, .int .u64 0, .int .u64 0, .int .i64 0, .int .i64 0, .int .i64 0, .int .i64 0, .int .i64 0, .int .i64 0, .int .i64 0, .int .i64 0, .int .i64 0, .int .i64 0, .int .i64 0, .slice none 0 0, .int .i64 0, .int .u64 0, .int .u64 0]], []⟩ 8 (by kernel_rfl) (by kernel_rfl) (by kernel_rfl) (by kernel_rfl)) ?_
  · intro ds hds
    rw [show Try.f5.params.toList.length = 2 from rfl] at hds
    match ds, hds with
    | [d0, d1], _ => rfl
  · intro t ht
    have hall : ∀ t ∈ Try.f5.params.toList, (Try.prog.readableRec t && decide (t < Try.prog.types.size)) = true := List.all_eq_true.1 (by kernel_rfl)
    have h := hall t ht
    rw [Bool.and_eq_true, decide_eq_true_eq] at h
    exact h
  · intro W base args ds p hval hA hlt hsz
    rw [show Try.f5.params.toList = [29, 29] from rfl] at hA
    obtain ⟨v0, v1, d0, d1, p0, p1, rfl, rfl, rfl, h0, h1⟩ := trodAll_two hA
    obtain ⟨a, dv0, x, rfl, hx, mx, ia⟩ := open_lab (hval 0 29 v0 rfl rfl) h0
    obtain ⟨b, dv1, y, rfl, hy, my, ib⟩ := open_lab (hval 1 29 v1 rfl rfl) h1
    exact labelValid_walk a b dv0 dv1 x y W mx my hx hy

theorem over : Rows.labelValidRow.holds Try.pinned (OpenSpec.ofChange Rows.labelValidSpec) :=
  OpenClaim.holds_of_wide 5 Try.f5 rfl rfl rfl rfl rfl rfl rfl ⟨rfl, rfl, rfl, rfl, rfl⟩ rfl rfl rfl rfl rfl (by kernel_rfl) Try.func5 (by kernel_rfl)
    (of_decide_eq_true (by kernel_rfl)) (by unfold Func.isWrapper; first | (rw [if_pos (by decide +kernel)]; kernel_rfl) | (rw [if_neg (by decide +kernel)]; exact ⟨rfl, rfl⟩))
    (fun os started H enc _ => lifted os started H enc)

theorem proved : Rows.LabelValidSaid :=
  over
end labelValid
end Go.Proofs.Ythjcdikpomlpmaa
