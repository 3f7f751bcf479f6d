/-
  PROVED: the law ElectionCount returns true for every argument: Out and Count return the specified results; the arguments read afterwards as they read before. No condition.
-/
import Derived.Test.YtpmbbeflgifgaaaElX
namespace Go.Proofs.Ytpmbbeflgifgaaa
open Go.ChangeShapes Go.WideShapes Go.ChangeAt Go.RowKit
set_option linter.unusedVariables false

namespace electionCount
set_option maxRecDepth 100000 in
theorem lifted (os : Os) (started : os.Started) (H : Type) (enc : TypeId × Value → H) :
    ReturnsInHanded {} Try.checked os 8 .any (Rows.electionCountSpec.pre6 enc Try.prog Try.f8 Rows.electionCountRow.domain false) (Rows.electionCountSpec.post enc Try.prog Try.f8 false true false false) := by
  refine law_lift (C := Try.checked) own started (by kernel_rfl) Try.func8 rfl ?_ laid ?_ rfl Try.underlying4
    (ChangeSpec.witness6 (enc := enc) (C := Try.checked) false ⟨#[], #[.slice none 0 0], []⟩ 8 (by kernel_rfl) (by kernel_rfl) (by kernel_rfl) (by kernel_rfl)) ?_
  · intro ds hds
    rw [show Try.f8.params.toList.length = 1 from rfl] at hds
    match ds, hds with
    | [d0], _ => rfl
  · intro t ht
    have hall : ∀ t ∈ Try.f8.params.toList, (Try.prog.readableRec t && decide (t < Try.prog.types.size)) = true := List.all_eq_true.1 (by kernel_rfl)
    have h := hall t ht
    rw [Bool.and_eq_true, decide_eq_true_eq] at h
    exact h
  · intro W base args ds p hval hA hlt hsz
    rw [show Try.f8.params.toList = [33] from rfl] at hA
    obtain ⟨v0, d0, rfl, rfl, h0⟩ := trodAll_one hA
    obtain ⟨l, hl, ml, ql⟩ := open_ints (hval 0 33 v0 rfl rfl) h0
    exact electionCount_walk v0 l W ml hl

theorem over : Rows.electionCountRow.holds Try.pinned (OpenSpec.ofChange Rows.electionCountSpec) :=
  OpenClaim.holds_of_wide 8 Try.f8 rfl rfl rfl rfl rfl rfl rfl ⟨rfl, rfl, rfl, rfl, rfl⟩ rfl rfl rfl rfl rfl (by kernel_rfl) Try.func8 (by kernel_rfl)
    (of_decide_eq_true (by kernel_rfl)) (by unfold Func.isWrapper; first | (rw [if_pos (by decide +kernel)]; kernel_rfl) | (rw [if_neg (by decide +kernel)]; exact ⟨rfl, rfl⟩))
    (fun os started H enc _ => lifted os started H enc)

theorem proved : Rows.ElectionCountSaid :=
  over
end electionCount
end Go.Proofs.Ytpmbbeflgifgaaa
