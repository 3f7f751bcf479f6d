/-
  PROVED: the law ReplicaLimit returns true for every argument: blobs of up to 2^20 bytes have sectors, and longer ones have none; the arguments read afterwards as they read before. No condition.
-/
import Derived.Test.YtknpdoepjihceaaRpS
namespace Go.Proofs.Ytknpdoepjihceaa
open Go.ChangeShapes Go.WideShapes Go.ChangeAt Go.RowKit
set_option linter.unusedVariables false

namespace replicaLimit
set_option maxRecDepth 100000 in
theorem lifted (os : Os) (started : os.Started) (H : Type) (enc : TypeId × Value → H) :
    ReturnsInHanded {} Try.checked os 4 .any (Rows.replicaLimitSpec.pre6 enc Try.prog Try.f4 Rows.replicaLimitRow.domain false) (Rows.replicaLimitSpec.post enc Try.prog Try.f4 false true false false) := by
  refine law_lift (C := Try.checked) own started (by kernel_rfl) Try.func4 rfl ?_ laid ?_ rfl Try.underlying4
    (ChangeSpec.witness6 (enc := enc) (C := Try.checked) false ⟨#[], #[.int .i64 0], []⟩ 8 (by kernel_rfl) (by kernel_rfl) (by kernel_rfl) (by kernel_rfl)) ?_
  · intro ds hds
    rw [show Try.f4.params.toList.length = 1 from rfl] at hds
    match ds, hds with
    | [d0], _ => rfl
  · intro t ht
    have hall : ∀ t ∈ Try.f4.params.toList, (Try.prog.readableRec t && decide (t < Try.prog.types.size)) = true := List.all_eq_true.1 (by kernel_rfl)
    have h := hall t ht
    rw [Bool.and_eq_true, decide_eq_true_eq] at h
    exact h
  · intro W base args ds p hval hA hlt hsz
    rw [show Try.f4.params.toList = [3] from rfl] at hA
    obtain ⟨v0, d0, rfl, rfl, h0⟩ := trodAll_one hA
    obtain ⟨n, rfl, h1, h2⟩ := open_i64 (hval 0 3 v0 rfl rfl) h0
    exact replicaLimit_walk n h1 h2 W

theorem over : Rows.replicaLimitRow.holds Try.pinned (OpenSpec.ofChange Rows.replicaLimitSpec) :=
  OpenClaim.holds_of_wide 4 Try.f4 rfl rfl rfl rfl rfl rfl rfl ⟨rfl, rfl, rfl, rfl, rfl⟩ rfl rfl rfl rfl rfl (by kernel_rfl) Try.func4 (by kernel_rfl)
    (of_decide_eq_true (by kernel_rfl)) (by unfold Func.isWrapper; first | (rw [if_pos (by decide +kernel)]; kernel_rfl) | (rw [if_neg (by decide +kernel)]; exact ⟨rfl, rfl⟩))
    (fun os started H enc _ => lifted os started H enc)

theorem proved : Rows.ReplicaLimitSaid :=
  over
end replicaLimit
end Go.Proofs.Ytknpdoepjihceaa
