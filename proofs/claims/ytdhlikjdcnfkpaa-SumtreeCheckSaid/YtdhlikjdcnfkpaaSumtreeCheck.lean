/-
  PROVED: the law SumtreeCheck returns true for every argument: Check returns the specified result for any root, numbers, sum and path; the arguments read afterwards as they read before. No condition.
-/
import Derived.Test.YtdhlikjdcnfkpaaStL
namespace Go.Proofs.Ytdhlikjdcnfkpaa
open Go.ChangeShapes Go.WideShapes Go.ChangeAt Go.RowKit
set_option linter.unusedVariables false

namespace sumtreeCheck
set_option maxRecDepth 100000 in
theorem lifted (os : Os) (started : os.Started) (H : Type) (enc : TypeId × Value → H) :
    ReturnsInHanded {} Try.checked os 4 .any (Rows.sumtreeCheckSpec.pre6 enc Try.prog Try.f4 Rows.sumtreeCheckRow.domain false) (Rows.sumtreeCheckSpec.post enc Try.prog Try.f4 false true false false) := by
  refine law_lift (C := Try.checked) own started (by kernel_rfl) Try.func4 rfl ?_ laid ?_ rfl Try.underlying4
    (ChangeSpec.witness6 (enc := enc) (C := Try.checked) false ⟨#[], #[.agg #[.int .u64 0, .int .u64 0, .int .i64 0, .int .i64 0, .slice none 0 0]], []⟩ 8 (by kernel_rfl) (by kernel_rfl) (by kernel_rfl) (by kernel_rfl)) ?_
  · intro ds hds
    rw [show Try.f4.params.toList.length = 1 from rfl] at hds
    match ds, hds with
    | [d0], _ => rfl
  · intro t ht
    have hall : ∀ t ∈ Try.f4.params.toList, (Try.prog.readableRec t && decide (t < Try.prog.types.size)) = true := List.all_eq_true.1 (by kernel_rfl)
    have h := hall t ht
    rw [Bool.and_eq_true, decide_eq_true_eq] at h
    exact h
  · intro W base args ds p hval hA hlt hsz
    rw [show Try.f4.params.toList = [36] from rfl] at hA
    obtain ⟨v0, d0, rfl, rfl, h0⟩ := trodAll_one hA
    obtain ⟨r, s, n, i, vp, p, rfl, hn, hi, hp, hm⟩ := open_proof (hval 0 36 v0 rfl rfl) h0
    exact sumtreeCheck_walk r s n i vp p W hn hi hm hp

theorem over : Rows.sumtreeCheckRow.holds Try.pinned (OpenSpec.ofChange Rows.sumtreeCheckSpec) :=
  OpenClaim.holds_of_wide 4 Try.f4 rfl rfl rfl rfl rfl rfl rfl ⟨rfl, rfl, rfl, rfl, rfl⟩ rfl rfl rfl rfl rfl (by kernel_rfl) Try.func4 (by kernel_rfl)
    (of_decide_eq_true (by kernel_rfl)) (by unfold Func.isWrapper; first | (rw [if_pos (by decide +kernel)]; kernel_rfl) | (rw [if_neg (by decide +kernel)]; exact ⟨rfl, rfl⟩))
    (fun os started H enc _ => lifted os started H enc)

theorem proved : Rows.SumtreeCheckSaid :=
  over
end sumtreeCheck
end Go.Proofs.Ytdhlikjdcnfkpaa
