/-
  PROVED: the law ElectionInterrupted returns true for every argument: if a checkpoint is interrupted while the labels are written, in any order of the disks, all disks in service before remain in service, and the new label is elected if at least one disk has it; the arguments read afterwards as they read before. No condition.
-/
import Derived.Test.YtpmbbeflgifgaaaElL
namespace Go.Proofs.Ytpmbbeflgifgaaa
open Go.ChangeShapes Go.WideShapes Go.ChangeAt Go.RowKit
set_option linter.unusedVariables false

namespace electionInterrupted
set_option maxRecDepth 100000 in
theorem lifted (os : Os) (started : os.Started) (H : Type) (enc : TypeId × Value → H) :
    ReturnsInHanded {} Try.checked os 6 .any (Rows.electionInterruptedSpec.pre6 enc Try.prog Try.f6 Rows.electionInterruptedRow.domain false) (Rows.electionInterruptedSpec.post enc Try.prog Try.f6 false true false false) := by
  refine law_lift (C := Try.checked) own started (by kernel_rfl) Try.func6 rfl ?_ laid ?_ rfl Try.underlying4
    (ChangeSpec.witness6 (enc := enc) (C := Try.checked) false ⟨#[], #[.agg #[.int .u64 0, .int .i64 0, .int .u64 0, .int .u64 0, .int .i64 0, .int .i64 0, .int .i64 0, .int .i64 0, .int .i64 0, .int .i64 0, .int .i64 0, .int .i64 0, .int .i64 0, .int .i64 0, .int .i64 0, .slice none 0 0, .int .i64 0, .int .u64 0, .int .u64 0], .slice none 0 0, .slice none 0 0, .int .u64 0], []⟩ 8 (by kernel_rfl) (by kernel_rfl) (by kernel_rfl) (by kernel_rfl)) ?_
  · intro ds hds
    rw [show Try.f6.params.toList.length = 4 from rfl] at hds
    match ds, hds with
    | [d0, d1, d2, d3], _ => rfl
  · intro t ht
    have hall : ∀ t ∈ Try.f6.params.toList, (Try.prog.readableRec t && decide (t < Try.prog.types.size)) = true := List.all_eq_true.1 (by kernel_rfl)
    have h := hall t ht
    rw [Bool.and_eq_true, decide_eq_true_eq] at h
    exact h
  · intro W base args ds p hval hA hlt hsz
    rw [show Try.f6.params.toList = [32, 23, 23, 26] from rfl] at hA
    obtain ⟨v0, v1, v2, v3, d0, d1, d2, d3, p0, p1, p2, p3, rfl, rfl, rfl, h0, h1, h2, h3⟩ := trodAll_four hA
    obtain ⟨l, dv, x, rfl, hx, mx, _⟩ := open_lab (hval 0 32 v0 rfl rfl) h0
    obtain ⟨dn, hdn, mdn⟩ := open_bools (hval 1 23 v1 rfl rfl) h1
    obtain ⟨lo, hlo, mlo⟩ := open_bools (hval 2 23 v2 rfl rfl) h2
    obtain ⟨s, rfl⟩ := open_u64 (hval 3 26 v3 rfl rfl) h3
    exact electionInterrupted_walk l dv v1 v2 x dn lo s W mx mdn mlo hx hdn hlo

theorem over : Rows.electionInterruptedRow.holds Try.pinned (OpenSpec.ofChange Rows.electionInterruptedSpec) :=
  OpenClaim.holds_of_wide 6 Try.f6 rfl rfl rfl rfl rfl rfl rfl ⟨rfl, rfl, rfl, rfl, rfl⟩ rfl rfl rfl rfl rfl (by kernel_rfl) Try.func6 (by kernel_rfl)
    (of_decide_eq_true (by kernel_rfl)) (by unfold Func.isWrapper; first | (rw [if_pos (by decide +kernel)]; kernel_rfl) | (rw [if_neg (by decide +kernel)]; exact ⟨rfl, rfl⟩))
    (fun os started H enc _ => lifted os started H enc)

theorem proved : Rows.ElectionInterruptedSaid :=
  over
end electionInterrupted
end Go.Proofs.Ytpmbbeflgifgaaa
