/-
  PROVED: the law ReplicaRestores returns true for every argument: if every sector of a blob is in one of the copies at its place, and everything else is missing, Gather returns the blob; without one of the sectors, it returns ErrLost; the arguments read afterwards as they read before. No condition.
-/
import Derived.Test.YtknpdoepjihceaaRpT
namespace Go.Proofs.Ytknpdoepjihceaa
open Go.ChangeShapes Go.WideShapes Go.ChangeAt Go.RowKit
set_option linter.unusedVariables false

namespace replicaRestores
set_option maxRecDepth 100000 in
theorem lifted (os : Os) (started : os.Started) (H : Type) (enc : TypeId × Value → H) :
    ReturnsInHanded {} Try.checked os 6 .any (Rows.replicaRestoresSpec.pre6 enc Try.prog Try.f6 Rows.replicaRestoresRow.domain false) (Rows.replicaRestoresSpec.post enc Try.prog Try.f6 false true false false) := by
  refine law_lift (C := Try.checked) own started (by kernel_rfl) Try.func6 rfl ?_ laid ?_ rfl Try.underlying4
    (ChangeSpec.witness6 (enc := enc) (C := Try.checked) false ⟨#[], #[.slice none 0 0, .int .u64 0, .slice none 0 0], []⟩ 8 (by kernel_rfl) (by kernel_rfl) (by kernel_rfl) (by kernel_rfl)) ?_
  · intro ds hds
    rw [show Try.f6.params.toList.length = 3 from rfl] at hds
    match ds, hds with
    | [d0, d1, d2], _ => rfl
  · intro t ht
    have hall : ∀ t ∈ Try.f6.params.toList, (Try.prog.readableRec t && decide (t < Try.prog.types.size)) = true := List.all_eq_true.1 (by kernel_rfl)
    have h := hall t ht
    rw [Bool.and_eq_true, decide_eq_true_eq] at h
    exact h
  · intro W base args ds p hval hA hlt hsz
    rw [show Try.f6.params.toList = [22, 23, 22] from rfl] at hA
    obtain ⟨v0, v1, v2, d0, d1, d2, p0, p1, p2, rfl, rfl, rfl, h0, h1, h2⟩ := trodAll_three hA
    obtain ⟨l, hl, hlm⟩ := open_bytes (hval 0 22 v0 rfl rfl) h0
    obtain ⟨u, rfl⟩ := open_u64 (hval 1 23 v1 rfl rfl) h1
    obtain ⟨wh, hw, hwm⟩ := open_bytes (hval 2 22 v2 rfl rfl) h2
    exact replicaRestores_walk v0 v2 l wh u W hlm hwm hl hw

theorem over : Rows.replicaRestoresRow.holds Try.pinned (OpenSpec.ofChange Rows.replicaRestoresSpec) :=
  OpenClaim.holds_of_wide 6 Try.f6 rfl rfl rfl rfl rfl rfl rfl ⟨rfl, rfl, rfl, rfl, rfl⟩ rfl rfl rfl rfl rfl (by kernel_rfl) Try.func6 (by kernel_rfl)
    (of_decide_eq_true (by kernel_rfl)) (by unfold Func.isWrapper; first | (rw [if_pos (by decide +kernel)]; kernel_rfl) | (rw [if_neg (by decide +kernel)]; exact ⟨rfl, rfl⟩))
    (fun os started H enc _ => lifted os started H enc)

theorem proved : Rows.ReplicaRestoresSaid :=
  over
end replicaRestores
end Go.Proofs.Ytknpdoepjihceaa
