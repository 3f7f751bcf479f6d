/-
  PROVED: the law Crc64Linear returns true for every argument: the exclusive or of the sums of three byte strings of equal length is the sum of their exclusive or; the arguments read afterwards as they read before. No condition.
-/
import Derived.Test.YtmleonpecodimaaC8G
namespace Go.Proofs.Ytmleonpecodimaa
open Go.ChangeShapes Go.WideShapes Go.ChangeAt Go.RowKit
set_option linter.unusedVariables false

namespace crc64Linear
set_option maxRecDepth 100000 in
theorem lifted (os : Os) (started : os.Started) (H : Type) (enc : TypeId × Value → H) :
    ReturnsInHanded {} Try.checked os 8 .any (Rows.crc64LinearSpec.pre6 enc Try.prog Try.f8 Rows.crc64LinearRow.domain false) (Rows.crc64LinearSpec.post enc Try.prog Try.f8 false true false false) := by
  refine law_lift (C := Try.checked) own started (by kernel_rfl) Try.func8 rfl ?_ laid ?_ rfl Try.underlying4
    (ChangeSpec.witness6 (enc := enc) (C := Try.checked) false ⟨#[], #[.slice none 0 0, .slice none 0 0, .slice none 0 0], []⟩ 8 (by kernel_rfl) (by kernel_rfl) (by kernel_rfl) (by kernel_rfl)) ?_
  · intro ds hds
    rw [show Try.f8.params.toList.length = 3 from rfl] at hds
    match ds, hds with
    | [d0, d1, d2], _ => rfl
  · intro t ht
    have hall : ∀ t ∈ Try.f8.params.toList, (Try.prog.readableRec t && decide (t < Try.prog.types.size)) = true := List.all_eq_true.1 (by kernel_rfl)
    have h := hall t ht
    rw [Bool.and_eq_true, decide_eq_true_eq] at h
    exact h
  · intro W base args ds p hval hA hlt hsz
    rw [show Try.f8.params.toList = [22, 22, 22] from rfl] at hA
    obtain ⟨v0, v1, v2, d0, d1, d2, p0, p1, p2, rfl, rfl, rfl, h0, h1, h2⟩ := trodAll_three hA
    obtain ⟨l0, hs0, hl0⟩ := open_bytes (hval 0 22 v0 rfl rfl) h0
    obtain ⟨l1, hs1, hl1⟩ := open_bytes (hval 1 22 v1 rfl rfl) h1
    obtain ⟨l2, hs2, hl2⟩ := open_bytes (hval 2 22 v2 rfl rfl) h2
    exact crc64Linear_walk v0 v1 v2 l0 l1 l2 W hl0 hl1 hl2 hs0 hs1 hs2

theorem over : Rows.crc64LinearRow.holds Try.pinned (OpenSpec.ofChange Rows.crc64LinearSpec) :=
  OpenClaim.holds_of_wide 8 Try.f8 rfl rfl rfl rfl rfl rfl rfl ⟨rfl, rfl, rfl, rfl, rfl⟩ rfl rfl rfl rfl rfl (by kernel_rfl) Try.func8 (by kernel_rfl)
    (of_decide_eq_true (by kernel_rfl)) (by unfold Func.isWrapper; first | (rw [if_pos (by decide +kernel)]; kernel_rfl) | (rw [if_neg (by decide +kernel)]; exact ⟨rfl, rfl⟩))
    (fun os started H enc _ => lifted os started H enc)

theorem proved : Rows.Crc64LinearSaid :=
  over
end crc64Linear
end Go.Proofs.Ytmleonpecodimaa
