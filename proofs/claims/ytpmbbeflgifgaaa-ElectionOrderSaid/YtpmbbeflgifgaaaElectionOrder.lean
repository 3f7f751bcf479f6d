/-
  PROVED: the law ElectionOrder returns true for every argument: if no two labels have the same Disk, the elected contents and the disks in service do not depend on the order of the list; the arguments read afterwards as they read before. No condition.
-/
import Derived.Test.YtpmbbeflgifgaaaElAW
namespace Go.Proofs.Ytpmbbeflgifgaaa
open Go.ChangeShapes Go.WideShapes Go.ChangeAt Go.RowKit
set_option linter.unusedVariables false

namespace electionOrder
set_option maxRecDepth 100000 in
theorem lifted (os : Os) (started : os.Started) (H : Type) (enc : TypeId × Value → H) :
    ReturnsInHanded {} Try.checked os 4 .any (Rows.electionOrderSpec.pre6 enc Try.prog Try.f4 Rows.electionOrderRow.domain false) (Rows.electionOrderSpec.post enc Try.prog Try.f4 false true false false) := by
  refine law_lift (C := Try.checked) own started (by kernel_rfl) Try.func4 rfl ?_ laid ?_ rfl Try.underlying4
    (ChangeSpec.witness6 (enc := enc) (C := Try.checked) false ⟨#[], #[.slice none 0 0, .slice none 0 0, .int .u8 0], []⟩ 8 (by kernel_rfl) (by kernel_rfl) (by kernel_rfl) (by kernel_rfl)) ?_
  · intro ds hds
    rw [show Try.f4.params.toList.length = 3 from rfl] at hds
    match ds, hds with
    | [d0, d1, d2], _ => rfl
  · intro t ht
    have hall : ∀ t ∈ Try.f4.params.toList, (Try.prog.readableRec t && decide (t < Try.prog.types.size)) = true := List.all_eq_true.1 (by kernel_rfl)
    have h := hall t ht
    rw [Bool.and_eq_true, decide_eq_true_eq] at h
    exact h
  · intro W base args ds p hval hA hlt hsz
    rw [show Try.f4.params.toList = [22, 23, 5] from rfl] at hA
    obtain ⟨v0, v1, v2, d0, d1, d2, p0, p1, p2, rfl, rfl, rfl, h0, h1, h2⟩ := trodAll_three hA
    obtain ⟨l, hl, ml, ql⟩ := open_labs (hval 0 22 v0 rfl rfl) h0
    obtain ⟨r, hr, mr⟩ := open_bools (hval 1 23 v1 rfl rfl) h1
    obtain ⟨s, rfl⟩ := open_u8 (hval 2 5 v2 rfl rfl) h2
    exact electionOrder_walk v0 v1 l r s W ml mr ql hl hr

theorem over : Rows.electionOrderRow.holds Try.pinned (OpenSpec.ofChange Rows.electionOrderSpec) :=
  OpenClaim.holds_of_wide 4 Try.f4 rfl rfl rfl rfl rfl rfl rfl ⟨rfl, rfl, rfl, rfl, rfl⟩ rfl rfl rfl rfl rfl (by kernel_rfl) Try.func4 (by kernel_rfl)
    (of_decide_eq_true (by kernel_rfl)) (by unfold Func.isWrapper; first | (rw [if_pos (by decide +kernel)]; kernel_rfl) | (rw [if_neg (by decide +kernel)]; exact ⟨rfl, rfl⟩))
    (fun os started H enc _ => lifted os started H enc)

theorem proved : Rows.ElectionOrderSaid :=
  over
end electionOrder
end Go.Proofs.Ytpmbbeflgifgaaa
