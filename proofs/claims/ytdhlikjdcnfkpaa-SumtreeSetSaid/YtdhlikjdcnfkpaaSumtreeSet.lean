/-
  PROVED: the law SumtreeSet returns true for every argument: Set returns the tree of the list in which any sum is replaced, or ErrRange, and the first tree remains as it is; the arguments read afterwards as they read before. No condition.
-/
import Derived.Test.YtdhlikjdcnfkpaaStO
namespace Go.Proofs.Ytdhlikjdcnfkpaa
open Go.ChangeShapes Go.WideShapes Go.ChangeAt Go.RowKit
set_option linter.unusedVariables false

namespace sumtreeSet
set_option maxRecDepth 100000 in
theorem lifted (os : Os) (started : os.Started) (H : Type) (enc : TypeId × Value → H) :
    ReturnsInHanded {} Try.checked os 8 .any (Rows.sumtreeSetSpec.pre6 enc Try.prog Try.f8 Rows.sumtreeSetRow.domain false) (Rows.sumtreeSetSpec.post enc Try.prog Try.f8 false true false false) := by
  refine law_lift (C := Try.checked) own started (by kernel_rfl) Try.func8 rfl ?_ laid ?_ rfl Try.underlying4
    (ChangeSpec.witness6 (enc := enc) (C := Try.checked) false ⟨#[], #[.slice none 0 0, .int .i64 0, .int .u64 0], []⟩ 8 (by kernel_rfl) (by kernel_rfl) (by kernel_rfl) (by kernel_rfl)) ?_
  · intro ds hds
    rw [show Try.f8.params.toList.length = 3 from rfl] at hds
    match ds, hds with
    | [d0, d1, d2], _ => rfl
  · intro t ht
    have hall : ∀ t ∈ Try.f8.params.toList, (Try.prog.readableRec t && decide (t < Try.prog.types.size)) = true := List.all_eq_true.1 (by kernel_rfl)
    have h := hall t ht
    rw [Bool.and_eq_true, decide_eq_true_eq] at h
    exact h
  · intro W base args ds p hval hA hlt hsz
    rw [show Try.f8.params.toList = [22, 3, 34] from rfl] at hA
    obtain ⟨v0, v1, v2, d0, d1, d2, p0, p1, p2, rfl, rfl, rfl, h0, h1, h2⟩ := trodAll_three hA
    obtain ⟨l, hl, ml⟩ := open_list (hval 0 22 v0 rfl rfl) h0
    obtain ⟨i, rfl, hi⟩ := open_i64 (hval 1 3 v1 rfl rfl) h1
    obtain ⟨x, rfl⟩ := open_u64 (hval 2 34 v2 rfl rfl) h2
    exact sumtreeSet_walk v0 l i x W hi ml hl

theorem over : Rows.sumtreeSetRow.holds Try.pinned (OpenSpec.ofChange Rows.sumtreeSetSpec) :=
  OpenClaim.holds_of_wide 8 Try.f8 rfl rfl rfl rfl rfl rfl rfl ⟨rfl, rfl, rfl, rfl, rfl⟩ rfl rfl rfl rfl rfl (by kernel_rfl) Try.func8 (by kernel_rfl)
    (of_decide_eq_true (by kernel_rfl)) (by unfold Func.isWrapper; first | (rw [if_pos (by decide +kernel)]; kernel_rfl) | (rw [if_neg (by decide +kernel)]; exact ⟨rfl, rfl⟩))
    (fun os started H enc _ => lifted os started H enc)

theorem proved : Rows.SumtreeSetSaid :=
  over
end sumtreeSet
end Go.Proofs.Ytdhlikjdcnfkpaa
