/-
  PROVED: the law ElectionDead returns true for every argument: a disk that is listed in Dead of the elected label is out of service, and so is one without a label; one in service has a label with its number and the generation Gen or Prev; the arguments read afterwards as they read before. No condition.
-/
import Derived.Test.YtpmbbeflgifgaaaElY
namespace Go.Proofs.Ytpmbbeflgifgaaa
open Go.ChangeShapes Go.WideShapes Go.ChangeAt Go.RowKit
set_option linter.unusedVariables false

namespace electionDead
set_option maxRecDepth 100000 in
theorem lifted (os : Os) (started : os.Started) (H : Type) (enc : TypeId × Value → H) :
    ReturnsInHanded {} Try.checked os 5 .any (Rows.electionDeadSpec.pre6 enc Try.prog Try.f5 Rows.electionDeadRow.domain false) (Rows.electionDeadSpec.post enc Try.prog Try.f5 false true false false) := by
  refine law_lift (C := Try.checked) own started (by kernel_rfl) Try.func5 rfl ?_ laid ?_ rfl Try.underlying4
    (ChangeSpec.witness6 (enc := enc) (C := Try.checked) false ⟨#[], #[.slice none 0 0, .slice none 0 0], []⟩ 8 (by kernel_rfl) (by kernel_rfl) (by kernel_rfl) (by kernel_rfl)) ?_
  · intro ds hds
    rw [show Try.f5.params.toList.length = 2 from rfl] at hds
    match ds, hds with
    | [d0, d1], _ => rfl
  · intro t ht
    have hall : ∀ t ∈ Try.f5.params.toList, (Try.prog.readableRec t && decide (t < Try.prog.types.size)) = true := List.all_eq_true.1 (by kernel_rfl)
    have h := hall t ht
    rw [Bool.and_eq_true, decide_eq_true_eq] at h
    exact h
  · intro W base args ds p hval hA hlt hsz
    rw [show Try.f5.params.toList = [22, 23] from rfl] at hA
    obtain ⟨v0, v1, d0, d1, p0, p1, rfl, rfl, rfl, h0, h1⟩ := trodAll_two hA
    obtain ⟨l, hl, ml, ql⟩ := open_labs (hval 0 22 v0 rfl rfl) h0
    obtain ⟨r, hr, mr⟩ := open_bools (hval 1 23 v1 rfl rfl) h1
    exact electionDead_walk v0 v1 l r W ml mr ql hl hr

theorem over : Rows.electionDeadRow.holds Try.pinned (OpenSpec.ofChange Rows.electionDeadSpec) :=
  OpenClaim.holds_of_wide 5 Try.f5 rfl rfl rfl rfl rfl rfl rfl ⟨rfl, rfl, rfl, rfl, rfl⟩ rfl rfl rfl rfl rfl (by kernel_rfl) Try.func5 (by kernel_rfl)
    (of_decide_eq_true (by kernel_rfl)) (by unfold Func.isWrapper; first | (rw [if_pos (by decide +kernel)]; kernel_rfl) | (rw [if_neg (by decide +kernel)]; exact ⟨rfl, rfl⟩))
    (fun os started H enc _ => lifted os started H enc)

theorem proved : Rows.ElectionDeadSaid :=
  over
end electionDead
end Go.Proofs.Ytpmbbeflgifgaaa
