/-
  PROVED: the law SumtreeShares returns true for every argument: the tree that Set returns shares all nodes of the levels above 0 with the first one, but those above the sum that was replaced; the arguments read afterwards as they read before. No condition.
-/
import Derived.Test.YtdhlikjdcnfkpaaStW
namespace Go.Proofs.Ytdhlikjdcnfkpaa
open Go.ChangeShapes Go.WideShapes Go.ChangeAt Go.RowKit
set_option linter.unusedVariables false

namespace sumtreeShares
set_option maxRecDepth 100000 in
theorem lifted (os : Os) (started : os.Started) (H : Type) (enc : TypeId × Value → H) :
    ReturnsInHanded {} Try.checked os 10 .any (Rows.sumtreeSharesSpec.pre6 enc Try.prog Try.f10 Rows.sumtreeSharesRow.domain false) (Rows.sumtreeSharesSpec.post enc Try.prog Try.f10 false true false false) := by
  refine law_lift (C := Try.checked) own started (by kernel_rfl) Try.func10 rfl ?_ laid ?_ rfl Try.underlying4
    (ChangeSpec.witness6 (enc := enc) (C := Try.checked) false ⟨#[], #[.slice none 0 0, .int .i64 0, .int .u64 0], []⟩ 8 (by kernel_rfl) (by kernel_rfl) (by kernel_rfl) (by kernel_rfl)) ?_
  · intro ds hds
    rw [show Try.f10.params.toList.length = 3 from rfl] at hds
    match ds, hds with
    | [d0, d1, d2], _ => rfl
  · intro t ht
    have hall : ∀ t ∈ Try.f10.params.toList, (Try.prog.readableRec t && decide (t < Try.prog.types.size)) = true := List.all_eq_true.1 (by kernel_rfl)
    have h := hall t ht
    rw [Bool.and_eq_true, decide_eq_true_eq] at h
    exact h
  · intro W base args ds p hval hA hlt hsz
    rw [show Try.f10.params.toList = [22, 3, 34] from rfl] at hA
    obtain ⟨v0, v1, v2, d0, d1, d2, p0, p1, p2, rfl, rfl, rfl, h0, h1, h2⟩ := trodAll_three hA
    obtain ⟨l, hl, ml⟩ := open_list (hval 0 22 v0 rfl rfl) h0
    obtain ⟨i, rfl, hi⟩ := open_i64 (hval 1 3 v1 rfl rfl) h1
    obtain ⟨x, rfl⟩ := open_u64 (hval 2 34 v2 rfl rfl) h2
    exact sumtreeShares_walk v0 l i x W hi ml hl

theorem over : Rows.sumtreeSharesRow.holds Try.pinned (OpenSpec.ofChange Rows.sumtreeSharesSpec) :=
  OpenClaim.holds_of_wide 10 Try.f10 rfl rfl rfl rfl rfl rfl rfl ⟨rfl, rfl, rfl, rfl, rfl⟩ rfl rfl rfl rfl rfl (by kernel_rfl) Try.func10 (by kernel_rfl)
    (of_decide_eq_true (by kernel_rfl)) (by unfold Func.isWrapper; first | (rw [if_pos (by decide +kernel)]; kernel_rfl) | (rw [if_neg (by decide +kernel)]; exact ⟨rfl, rfl⟩))
    (fun os started H enc _ => lifted os started H enc)

theorem proved : Rows.SumtreeSharesSaid :=
  over
end sumtreeShares
end Go.Proofs.Ytdhlikjdcnfkpaa
