/-
  PROVED: the law LabelEncode returns true for every argument: Encode returns the specified sectors, or ErrArg; there are at most 6, of at most 64 bytes each; the arguments read afterwards as they read before. No condition.
-/
import Derived.Test.YthjcdikpomlpmaaLbX
namespace Go.Proofs.Ythjcdikpomlpmaa
open Go.ChangeShapes Go.WideShapes Go.ChangeAt Go.RowKit
set_option linter.unusedVariables false

namespace labelEncode
set_option maxRecDepth 100000 in
theorem lifted (os : Os) (started : os.Started) (H : Type) (enc : TypeId × Value → H) :
    ReturnsInHanded {} Try.checked os 3 .any (Rows.labelEncodeSpec.pre6 enc Try.prog Try.f3 Rows.labelEncodeRow.domain false) (Rows.labelEncodeSpec.post enc Try.prog Try.f3 false true false false) := by
  refine law_lift (C := Try.checked) own started (by kernel_rfl) Try.func3 rfl ?_ laid ?_ rfl Try.underlying4
    (ChangeSpec.witness6 (enc := enc) (C := Try.checked) false ⟨#[], #[.agg #[.int .u64 0, .int .i64 0, .int .u64 0, .int .u64 0, .int .i64 0, .int .i64 0, .int .i64 0, .int .i64 0, .int .i64 0, .int .i64 0, .int .i64 0, .int .i64 0, .int .i64 0, .int .i64 0, .int .i64 0, .slice none 0 0, .int .i64 0, .int .u64 0, .int .u64 0]], []⟩ 8 (by kernel_rfl) (by kernel_rfl) (by kernel_rfl) (by kernel_rfl)) ?_
  · intro ds hds
    rw [show Try.f3.params.toList.length = 1 from rfl] at hds
    match ds, hds with
    | [d0], _ => rfl
  · intro t ht
    have hall : ∀ t ∈ Try.f3.params.toList, (Try.prog.readableRec t && decide (t < Try.prog.types.size)) = true := List.all_eq_true.1 (by kernel_rfl)
    have h := hall t ht
    rw [Bool.and_eq_true, decide_eq_true_eq] at h
    exact h
  · intro W base args ds p hval hA hlt hsz
    rw [show Try.f3.params.toList = [29] from rfl] at hA
    obtain ⟨v0, d0, rfl, rfl, h0⟩ := trodAll_one hA
    obtain ⟨l, dv0, x, rfl, hx, mx, il⟩ := open_lab (hval 0 29 v0 rfl rfl) h0
    exact labelEncode_walk l dv0 x W mx hx

theorem over : Rows.labelEncodeRow.holds Try.pinned (OpenSpec.ofChange Rows.labelEncodeSpec) :=
  OpenClaim.holds_of_wide 3 Try.f3 rfl rfl rfl rfl rfl rfl rfl ⟨rfl, rfl, rfl, rfl, rfl⟩ rfl rfl rfl rfl rfl (by kernel_rfl) Try.func3 (by kernel_rfl)
    (of_decide_eq_true (by kernel_rfl)) (by unfold Func.isWrapper; first | (rw [if_pos (by decide +kernel)]; kernel_rfl) | (rw [if_neg (by decide +kernel)]; exact ⟨rfl, rfl⟩))
    (fun os started H enc _ => lifted os started H enc)

theorem proved : Rows.LabelEncodeSaid :=
  over
end labelEncode
end Go.Proofs.Ythjcdikpomlpmaa
