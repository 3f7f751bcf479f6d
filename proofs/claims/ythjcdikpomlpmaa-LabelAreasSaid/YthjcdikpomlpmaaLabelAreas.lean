/-
  PROVED: the law LabelAreas returns true for every argument: the areas of a generation are the specified ones; they do not overlap each other, nor the label and blob areas of the next generation, and lie within the random sectors; the arguments read afterwards as they read before. No condition.
-/
import Derived.Test.YthjcdikpomlpmaaLbZ
namespace Go.Proofs.Ythjcdikpomlpmaa
open Go.ChangeShapes Go.WideShapes Go.ChangeAt Go.RowKit
set_option linter.unusedVariables false

namespace labelAreas
set_option maxRecDepth 100000 in
theorem lifted (os : Os) (started : os.Started) (H : Type) (enc : TypeId × Value → H) :
    ReturnsInHanded {} Try.checked os 4 .any (Rows.labelAreasSpec.pre6 enc Try.prog Try.f4 Rows.labelAreasRow.domain false) (Rows.labelAreasSpec.post enc Try.prog Try.f4 false true false false) := by
  refine law_lift (C := Try.checked) own started (by kernel_rfl) Try.func4 rfl ?_ laid ?_ rfl Try.underlying4
    (ChangeSpec.witness6 (enc := enc) (C := Try.checked) false ⟨#[], #[.agg #[.int .i64 0, .int .i64 0, .int .i64 0, .int .i64 0, .int .i64 0, .int .i64 0, .int .i64 0, .int .i64 0, .int .i64 0, .int .i64 0, .int .i64 0], .int .u64 0], []⟩ 8 (by kernel_rfl) (by kernel_rfl) (by kernel_rfl) (by kernel_rfl)) ?_
  · intro ds hds
    rw [show Try.f4.params.toList.length = 2 from rfl] at hds
    match ds, hds with
    | [d0, d1], _ => rfl
  · intro t ht
    have hall : ∀ t ∈ Try.f4.params.toList, (Try.prog.readableRec t && decide (t < Try.prog.types.size)) = true := List.all_eq_true.1 (by kernel_rfl)
    have h := hall t ht
    rw [Bool.and_eq_true, decide_eq_true_eq] at h
    exact h
  · intro W base args ds p hval hA hlt hsz
    rw [show Try.f4.params.toList = [26, 22] from rfl] at hA
    obtain ⟨v0, v1, d0, d1, p0, p1, rfl, rfl, rfl, h0, h1⟩ := trodAll_two hA
    obtain ⟨c, rfl, ic⟩ := open_cfg (hval 0 26 v0 rfl rfl) h0
    obtain ⟨g, rfl⟩ := open_u64 (hval 1 22 v1 rfl rfl) h1
    exact labelAreas_walk c g W

theorem over : Rows.labelAreasRow.holds Try.pinned (OpenSpec.ofChange Rows.labelAreasSpec) :=
  OpenClaim.holds_of_wide 4 Try.f4 rfl rfl rfl rfl rfl rfl rfl ⟨rfl, rfl, rfl, rfl, rfl⟩ rfl rfl rfl rfl rfl (by kernel_rfl) Try.func4 (by kernel_rfl)
    (of_decide_eq_true (by kernel_rfl)) (by unfold Func.isWrapper; first | (rw [if_pos (by decide +kernel)]; kernel_rfl) | (rw [if_neg (by decide +kernel)]; exact ⟨rfl, rfl⟩))
    (fun os started H enc _ => lifted os started H enc)

theorem proved : Rows.LabelAreasSaid :=
  over
end labelAreas
end Go.Proofs.Ythjcdikpomlpmaa
