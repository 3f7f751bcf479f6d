/-
  PROVED: the law LabelNewest returns true for every argument: Newest returns the label with the greater generation, of the areas whose labels have the right parity, or ErrNone; the arguments read afterwards as they read before. No condition.
-/
import Derived.Test.YthjcdikpomlpmaaLcG
namespace Go.Proofs.Ythjcdikpomlpmaa
open Go.ChangeShapes Go.WideShapes Go.ChangeAt Go.RowKit
set_option linter.unusedVariables false

namespace labelNewest
set_option maxRecDepth 100000 in
theorem lifted (os : Os) (started : os.Started) (H : Type) (enc : TypeId × Value → H) :
    ReturnsInHanded {} Try.checked os 9 .any (Rows.labelNewestSpec.pre6 enc Try.prog Try.f9 Rows.labelNewestRow.domain false) (Rows.labelNewestSpec.post enc Try.prog Try.f9 false true false false) := by
  refine law_lift (C := Try.checked) own started (by kernel_rfl) Try.func9 rfl ?_ laid ?_ rfl Try.underlying4
    (ChangeSpec.witness6 (enc := enc) (C := Try.checked) false ⟨#[], #[.slice none 0 0, .slice none 0 0], []⟩ 8 (by kernel_rfl) (by kernel_rfl) (by kernel_rfl) (by kernel_rfl)) ?_
  · intro ds hds
    rw [show Try.f9.params.toList.length = 2 from rfl] at hds
    match ds, hds with
    | [d0, d1], _ => rfl
  · intro t ht
    have hall : ∀ t ∈ Try.f9.params.toList, (Try.prog.readableRec t && decide (t < Try.prog.types.size)) = true := List.all_eq_true.1 (by kernel_rfl)
    have h := hall t ht
    rw [Bool.and_eq_true, decide_eq_true_eq] at h
    exact h
  · intro W base args ds p hval hA hlt hsz
    rw [show Try.f9.params.toList = [31, 31] from rfl] at hA
    obtain ⟨v0, v1, d0, d1, p0, p1, rfl, rfl, rfl, h0, h1⟩ := trodAll_two hA
    obtain ⟨S, hS, mS, qS⟩ := open_rows (hval 0 31 v0 rfl rfl) h0
    obtain ⟨T, hT, mT, qT⟩ := open_rows (hval 1 31 v1 rfl rfl) h1
    exact labelNewest_walk v0 v1 S T W mS mT qS qT hS hT

theorem over : Rows.labelNewestRow.holds Try.pinned (OpenSpec.ofChange Rows.labelNewestSpec) :=
  OpenClaim.holds_of_wide 9 Try.f9 rfl rfl rfl rfl rfl rfl rfl ⟨rfl, rfl, rfl, rfl, rfl⟩ rfl rfl rfl rfl rfl (by kernel_rfl) Try.func9 (by kernel_rfl)
    (of_decide_eq_true (by kernel_rfl)) (by unfold Func.isWrapper; first | (rw [if_pos (by decide +kernel)]; kernel_rfl) | (rw [if_neg (by decide +kernel)]; exact ⟨rfl, rfl⟩))
    (fun os started H enc _ => lifted os started H enc)

theorem proved : Rows.LabelNewestSaid :=
  over
end labelNewest
end Go.Proofs.Ythjcdikpomlpmaa
