/-
  PROVED: for every geometry and every number, the law GeometryAddress returns true: Address gives the address or the error that the reference gives; the arguments read afterwards as they read before. No condition.
-/
import Derived.Test.YtfoelkpnhhfgaaaGeoH
namespace Go.Proofs.Ytfoelkpnhhfgaaa
open Go.ChangeShapes Go.WideShapes Go.ChangeAt Go.RowKit
set_option linter.unusedVariables false

theorem cells3 : Try.prog.cellTypes Try.prog.depth 34 = some [3, 3, 3] := by kernel_rfl
theorem open_three {w : World} {r : Reach} {base : Nat} {v : Value} (h : Value.okWide Try.prog w r base 34 v) :
    ∃ x y z : Int, v = .agg #[.int .i64 x, .int .i64 y, .int .i64 z] := by
  obtain ⟨cs, rfl, hsz, hc⟩ := agg_cells (by kernel_rfl) cells3 (by kernel_rfl) h
  have hi : ∀ i (h : i < cs.size), ∃ n, cs[i] = .int .i64 n := by
    intro i h
    obtain ⟨u, hu, hok⟩ := hc i cs[i] (Array.getElem?_eq_getElem h)
    have : u = 3 := by simpa using List.mem_of_getElem? hu
    subst this
    obtain ⟨n, hn, _⟩ := cell_int Try.underlying3 hok
    exact ⟨n, hn⟩
  have hs : cs.size = 3 := hsz
  obtain ⟨n0, h0⟩ := hi 0 (by omega)
  obtain ⟨n1, h1⟩ := hi 1 (by omega)
  obtain ⟨n2, h2⟩ := hi 2 (by omega)
  refine ⟨n0, n1, n2, ?_⟩
  congr 1
  refine Array.ext (by simpa using hs) fun i h5 h6 => ?_
  match i, h5, h6 with
  | 0, _, _ => exact h0
  | 1, _, _ => exact h1
  | 2, _, _ => exact h2
  | n + 3, h5, _ => omega

namespace geometryAddress
set_option maxRecDepth 100000 in
theorem lifted (os : Os) (started : os.Started) (H : Type) (enc : TypeId × Value → H) :
    ReturnsInHanded {} Try.checked os 7 .any (Rows.geometryAddressSpec.pre6 enc Try.prog Try.f7 Rows.geometryAddressRow.domain false) (Rows.geometryAddressSpec.post enc Try.prog Try.f7 false true false false) := by
  refine law_lift (C := Try.checked) own started (by kernel_rfl) Try.func7 rfl ?_ laid ?_ rfl Try.underlying4
    (ChangeSpec.witness6 (enc := enc) (C := Try.checked) false ⟨#[], #[geoV 0 0 0 0 0, .agg #[.int .i64 0, .int .i64 0, .int .i64 0]], []⟩ 8 (by kernel_rfl) (by kernel_rfl) (by kernel_rfl) (by kernel_rfl)) ?_
  · intro ds hds
    rw [show Try.f7.params.toList.length = 2 from rfl] at hds
    match ds, hds with
    | [d, d'], _ => rfl
  · intro t ht
    have hall : ∀ t ∈ Try.f7.params.toList, (Try.prog.readableRec t && decide (t < Try.prog.types.size)) = true := List.all_eq_true.1 (by kernel_rfl)
    have h := hall t ht
    rw [Bool.and_eq_true, decide_eq_true_eq] at h
    exact h
  · intro W base args ds p hval hA hlt hsz
    rw [show Try.f7.params.toList = [23, 34] from rfl] at hA
    obtain ⟨v0, v1, d0, d1, p0, p1, rfl, rfl, rfl, h0, h1⟩ := trodAll_two hA
    obtain ⟨r, b, t, s, o, rfl⟩ := open_geo (hval 0 23 v0 rfl rfl)
    obtain ⟨x, y, z, rfl⟩ := open_three (hval 1 34 v1 rfl rfl)
    exact geometryAddress_walk r b t s o x y z W

theorem over : Rows.geometryAddressRow.holds Try.pinned (OpenSpec.ofChange Rows.geometryAddressSpec) :=
  OpenClaim.holds_of_wide 7 Try.f7 rfl rfl rfl rfl rfl rfl rfl ⟨rfl, rfl, rfl, rfl, rfl⟩ rfl rfl rfl rfl rfl (by kernel_rfl) Try.func7 (by kernel_rfl)
    (of_decide_eq_true (by kernel_rfl)) (by unfold Func.isWrapper; first | (rw [if_pos (by decide +kernel)]; kernel_rfl) | (rw [if_neg (by decide +kernel)]; exact ⟨rfl, rfl⟩))
    (fun os started H enc _ => lifted os started H enc)

theorem proved : Rows.GeometryAddressSaid :=
  over
end geometryAddress
end Go.Proofs.Ytfoelkpnhhfgaaa
