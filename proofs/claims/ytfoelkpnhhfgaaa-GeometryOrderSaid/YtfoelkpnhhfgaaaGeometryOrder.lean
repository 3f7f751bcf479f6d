/-
  PROVED: for every geometry and every number, the law GeometryOrder returns true: a shadow lies in the same band at the same position, on the following tracks, and has the stated length; the arguments read afterwards as they read before. No condition.
-/
import Derived.Test.YtfoelkpnhhfgaaaGeoK
namespace Go.Proofs.Ytfoelkpnhhfgaaa
open Go.ChangeShapes Go.WideShapes Go.ChangeAt Go.RowKit
set_option linter.unusedVariables false

namespace geometryOrder
set_option maxRecDepth 100000 in
theorem lifted (os : Os) (started : os.Started) (H : Type) (enc : TypeId × Value → H) :
    ReturnsInHanded {} Try.checked os 5 .any (Rows.geometryOrderSpec.pre6 enc Try.prog Try.f5 Rows.geometryOrderRow.domain false) (Rows.geometryOrderSpec.post enc Try.prog Try.f5 false true false false) := by
  refine law_lift (C := Try.checked) own started (by kernel_rfl) Try.func5 rfl ?_ laid ?_ rfl Try.underlying4
    (ChangeSpec.witness6 (enc := enc) (C := Try.checked) false ⟨#[], #[geoV 0 0 0 0 0, .int .i64 0], []⟩ 8 (by kernel_rfl) (by kernel_rfl) (by kernel_rfl) (by kernel_rfl)) ?_
  · intro ds hds
    rw [show Try.f5.params.toList.length = 2 from rfl] at hds
    match ds, hds with
    | [d, d'], _ => rfl
  · intro t ht
    have hall : ∀ t ∈ Try.f5.params.toList, (Try.prog.readableRec t && decide (t < Try.prog.types.size)) = true := List.all_eq_true.1 (by kernel_rfl)
    have h := hall t ht
    rw [Bool.and_eq_true, decide_eq_true_eq] at h
    exact h
  · intro W base args ds p hval hA hlt hsz
    rw [show Try.f5.params.toList = [23, 3] from rfl] at hA
    obtain ⟨v0, v1, d0, d1, p0, p1, rfl, rfl, rfl, h0, h1⟩ := trodAll_two hA
    obtain ⟨r, b, t, s, o, rfl⟩ := open_geo (hval 0 23 v0 rfl rfl)
    obtain ⟨a, rfl⟩ := okWide_int Try.underlying3 (hval 1 3 v1 rfl rfl)
    exact geometryOrder_walk r b t s o a W

theorem over : Rows.geometryOrderRow.holds Try.pinned (OpenSpec.ofChange Rows.geometryOrderSpec) :=
  OpenClaim.holds_of_wide 5 Try.f5 rfl rfl rfl rfl rfl rfl rfl ⟨rfl, rfl, rfl, rfl, rfl⟩ rfl rfl rfl rfl rfl (by kernel_rfl) Try.func5 (by kernel_rfl)
    (of_decide_eq_true (by kernel_rfl)) (by unfold Func.isWrapper; first | (rw [if_pos (by decide +kernel)]; kernel_rfl) | (rw [if_neg (by decide +kernel)]; exact ⟨rfl, rfl⟩))
    (fun os started H enc _ => lifted os started H enc)

theorem proved : Rows.GeometryOrderSaid :=
  over
end geometryOrder
end Go.Proofs.Ytfoelkpnhhfgaaa
