/-
  PROVED: the law CodecRoundTrip returns true for every argument: up to 10 values of every kind that are appended one after another are read in this order, and nothing is left; the arguments read afterwards as they read before. No condition.
-/
import Derived.Test.YtbegghodjfllnaaK9X
import Derived.Test.YtbegghodjfllnaaK9L
namespace Go.Proofs.Ytbegghodjfllnaa
open Go.ChangeShapes Go.WideShapes Go.ChangeAt Go.RowKit
set_option linter.unusedVariables false

namespace codecRoundTrip
set_option maxRecDepth 100000 in
theorem lifted (os : Os) (started : os.Started) (H : Type) (enc : TypeId × Value → H) :
    ReturnsInHanded {} Try.checked os 7 .any (Rows.codecRoundTripSpec.pre6 enc Try.prog Try.f7 Rows.codecRoundTripRow.domain false) (Rows.codecRoundTripSpec.post enc Try.prog Try.f7 false true false false) := by
  refine law_lift (C := Try.checked) own started (by kernel_rfl) Try.func7 rfl ?_ laid ?_ rfl Try.underlying4
    (ChangeSpec.witness6 (enc := enc) (C := Try.checked) false ⟨#[], #[.slice none 0 0], []⟩ 8 (by kernel_rfl) (by kernel_rfl) (by kernel_rfl) (by kernel_rfl)) ?_
  · intro ds hds
    rw [show Try.f7.params.toList.length = 1 from rfl] at hds
    match ds, hds with
    | [d0], _ => rfl
  · intro t ht
    have hall : ∀ t ∈ Try.f7.params.toList, (Try.prog.readableRec t && decide (t < Try.prog.types.size)) = true := List.all_eq_true.1 (by kernel_rfl)
    have h := hall t ht
    rw [Bool.and_eq_true, decide_eq_true_eq] at h
    exact h
  · intro W base args ds p hval hA hlt hsz
    rw [show Try.f7.params.toList = [51] from rfl] at hA
    obtain ⟨v0, d0, rfl, rfl, h0⟩ := trodAll_one hA
    obtain ⟨l, hl⟩ := opVs.cell (by kernel_rfl) (hval 0 51 v0 rfl rfl) h0
    obtain ⟨h1, h2⟩ := holds_slice hl
    exact codecRoundTrip_walk v0 l W h2 h1

theorem over : Rows.codecRoundTripRow.holds Try.pinned (OpenSpec.ofChange Rows.codecRoundTripSpec) :=
  OpenClaim.holds_of_wide 7 Try.f7 rfl rfl rfl rfl rfl rfl rfl ⟨rfl, rfl, rfl, rfl, rfl⟩ rfl rfl rfl rfl rfl (by kernel_rfl) Try.func7 (by kernel_rfl)
    (of_decide_eq_true (by kernel_rfl)) (by unfold Func.isWrapper; first | (rw [if_pos (by decide +kernel)]; kernel_rfl) | (rw [if_neg (by decide +kernel)]; exact ⟨rfl, rfl⟩))
    (fun os started H enc _ => lifted os started H enc)

theorem proved : Rows.CodecRoundTripSaid :=
  over
end codecRoundTrip
end Go.Proofs.Ytbegghodjfllnaa
