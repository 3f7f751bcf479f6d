/-
  PROVED: for every geometry, the law GeometryValid returns true: Valid, Size and BandSize of package geometry give what the reference gives; the argument reads afterwards as it read before. No condition.
-/
import Derived.Test.YtfoelkpnhhfgaaaGeoG
namespace Go.Proofs.Ytfoelkpnhhfgaaa
open Go.ChangeShapes Go.WideShapes Go.ChangeAt Go.RowKit
set_option linter.unusedVariables false

namespace geometryValid
set_option maxRecDepth 100000 in
theorem lifted (os : Os) (started : os.Started) (H : Type) (enc : TypeId × Value → H) :
    ReturnsInHanded {} Try.checked os 3 .any (Rows.geometryValidSpec.pre6 enc Try.prog Try.f3 Rows.geometryValidRow.domain false) (Rows.geometryValidSpec.post enc Try.prog Try.f3 false true false false) := by
  refine law_lift (C := Try.checked) own started (by kernel_rfl) Try.func3 rfl ?_ laid ?_ rfl Try.underlying4
    (ChangeSpec.witness6 (enc := enc) (C := Try.checked) false ⟨#[], #[geoV 0 0 0 0 0], []⟩ 8 (by kernel_rfl) (by kernel_rfl) (by kernel_rfl) (by kernel_rfl)) ?_
  · intro ds hds
    rw [show Try.f3.params.toList.length = 1 from rfl] at hds
    match ds, hds with
    | [d], _ => rfl
  · intro t ht
    have hall : ∀ t ∈ Try.f3.params.toList, (Try.prog.readableRec t && decide (t < Try.prog.types.size)) = true := List.all_eq_true.1 (by kernel_rfl)
    have h := hall t ht
    rw [Bool.and_eq_true, decide_eq_true_eq] at h
    exact h
  · intro W base args ds p hval hA hlt hsz
    rw [show Try.f3.params.toList = [23] from rfl] at hA
    obtain ⟨v0, d0, rfl, rfl, h0⟩ := trodAll_one hA
    obtain ⟨r, b, t, s, o, rfl⟩ := open_geo (hval 0 23 v0 rfl rfl)
    exact geometryValid_walk r b t s o W

theorem over : Rows.geometryValidRow.holds Try.pinned (OpenSpec.ofChange Rows.geometryValidSpec) :=
  OpenClaim.holds_of_wide 3 Try.f3 rfl rfl rfl rfl rfl rfl rfl ⟨rfl, rfl, rfl, rfl, rfl⟩ rfl rfl rfl rfl rfl (by kernel_rfl) Try.func3 (by kernel_rfl)
    (of_decide_eq_true (by kernel_rfl)) (by unfold Func.isWrapper; first | (rw [if_pos (by decide +kernel)]; kernel_rfl) | (rw [if_neg (by decide +kernel)]; exact ⟨rfl, rfl⟩))
    (fun os started H enc _ => lifted os started H enc)

theorem proved : Rows.GeometryValidSaid :=
  over
end geometryValid
end Go.Proofs.Ytfoelkpnhhfgaaa
