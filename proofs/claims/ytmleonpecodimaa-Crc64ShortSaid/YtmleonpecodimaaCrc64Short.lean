/-
  PROVED: the law Crc64Short returns true for every argument: two byte strings of equal length of up to eight bytes have the same sum exactly if they are equal; the arguments read afterwards as they read before. No condition.
-/
import Derived.Test.YtmleonpecodimaaC8H
namespace Go.Proofs.Ytmleonpecodimaa
open Go.ChangeShapes Go.WideShapes Go.ChangeAt Go.RowKit
set_option linter.unusedVariables false

theorem cells8 : Try.prog.cellTypes Try.prog.depth 34 = some [5, 5, 5, 5, 5, 5, 5, 5] := by kernel_rfl
theorem open_eight {w : World} {r : Reach} {base : Nat} {v : Value} (h : Value.okWide Try.prog w r base 34 v) :
    ∃ x0 x1 x2 x3 x4 x5 x6 x7 : BitVec 8, v = .agg #[encB x0, encB x1, encB x2, encB x3, encB x4, encB x5, encB x6, encB x7] := by
  obtain ⟨cs, rfl, hsz, hc⟩ := agg_cells (by kernel_rfl) cells8 (by kernel_rfl) h
  have hi : ∀ i (h : i < cs.size), ∃ x, cs[i] = encB x := by
    intro i h
    obtain ⟨u, hu, hok⟩ := hc i cs[i] (Array.getElem?_eq_getElem h)
    have : u = 5 := by simpa using List.mem_of_getElem? hu
    subst this
    obtain ⟨n, hn, h1, h2⟩ := cell_int Try.underlying5 hok
    obtain ⟨x, hx⟩ := ub_ex n ⟨h1, h2⟩
    exact ⟨x, by rw [hn, hx]⟩
  have hs : cs.size = 8 := hsz
  obtain ⟨x0, g0⟩ := hi 0 (by omega)
  obtain ⟨x1, g1⟩ := hi 1 (by omega)
  obtain ⟨x2, g2⟩ := hi 2 (by omega)
  obtain ⟨x3, g3⟩ := hi 3 (by omega)
  obtain ⟨x4, g4⟩ := hi 4 (by omega)
  obtain ⟨x5, g5⟩ := hi 5 (by omega)
  obtain ⟨x6, g6⟩ := hi 6 (by omega)
  obtain ⟨x7, g7⟩ := hi 7 (by omega)
  refine ⟨x0, x1, x2, x3, x4, x5, x6, x7, ?_⟩
  congr 1
  refine Array.ext (by simpa using hs) fun i h5 h6 => ?_
  match i, h5, h6 with
  | 0, _, _ => exact g0
  | 1, _, _ => exact g1
  | 2, _, _ => exact g2
  | 3, _, _ => exact g3
  | 4, _, _ => exact g4
  | 5, _, _ => exact g5
  | 6, _, _ => exact g6
  | 7, _, _ => exact g7
  | n + 8, h5, _ => omega

theorem open_u8 {w : World} {r : Reach} {b0 : Nat} {v : Value} (hval : Value.okWide Try.prog w r b0 5 v) : ∃ n : Nat, v = .int .u8 n ∧ n ≤ 255 := by
  have h : Cell.okWide Try.prog w r b0 5 v := by
    have h := hval
    unfold Value.okWide at h
    rw [Try.underlying5] at h
    exact h
  obtain ⟨n, rfl, h1, h2⟩ := cell_int Try.underlying5 h
  have h1' : (0 : Int) ≤ n := h1
  have h2' : n ≤ 255 := h2
  exact ⟨n.toNat, by rw [Int.toNat_of_nonneg h1'], by omega⟩

namespace crc64Short
set_option maxRecDepth 100000 in
theorem lifted (os : Os) (started : os.Started) (H : Type) (enc : TypeId × Value → H) :
    ReturnsInHanded {} Try.checked os 9 .any (Rows.crc64ShortSpec.pre6 enc Try.prog Try.f9 Rows.crc64ShortRow.domain false) (Rows.crc64ShortSpec.post enc Try.prog Try.f9 false true false false) := by
  refine law_lift (C := Try.checked) own started (by kernel_rfl) Try.func9 rfl ?_ laid ?_ rfl Try.underlying4
    (ChangeSpec.witness6 (enc := enc) (C := Try.checked) false ⟨#[], #[.agg #[.int .u8 0, .int .u8 0, .int .u8 0, .int .u8 0, .int .u8 0, .int .u8 0, .int .u8 0, .int .u8 0], .agg #[.int .u8 0, .int .u8 0, .int .u8 0, .int .u8 0, .int .u8 0, .int .u8 0, .int .u8 0, .int .u8 0], .int .u8 0], []⟩ 8 (by kernel_rfl) (by kernel_rfl) (by kernel_rfl) (by kernel_rfl)) ?_
  · intro ds hds
    rw [show Try.f9.params.toList.length = 3 from rfl] at hds
    match ds, hds with
    | [d0, d1, d2], _ => rfl
  · intro t ht
    have hall : ∀ t ∈ Try.f9.params.toList, (Try.prog.readableRec t && decide (t < Try.prog.types.size)) = true := List.all_eq_true.1 (by kernel_rfl)
    have h := hall t ht
    rw [Bool.and_eq_true, decide_eq_true_eq] at h
    exact h
  · intro W base args ds p hval hA hlt hsz
    rw [show Try.f9.params.toList = [34, 34, 5] from rfl] at hA
    obtain ⟨v0, v1, v2, d0, d1, d2, p0, p1, p2, rfl, rfl, rfl, h0, h1, h2⟩ := trodAll_three hA
    obtain ⟨x0, x1, x2, x3, x4, x5, x6, x7, rfl⟩ := open_eight (hval 0 34 v0 rfl rfl)
    obtain ⟨y0, y1, y2, y3, y4, y5, y6, y7, rfl⟩ := open_eight (hval 1 34 v1 rfl rfl)
    obtain ⟨n, rfl, hn⟩ := open_u8 (hval 2 5 v2 rfl rfl)
    exact crc64Short_walk x0 x1 x2 x3 x4 x5 x6 x7 y0 y1 y2 y3 y4 y5 y6 y7 n hn W

theorem over : Rows.crc64ShortRow.holds Try.pinned (OpenSpec.ofChange Rows.crc64ShortSpec) :=
  OpenClaim.holds_of_wide 9 Try.f9 rfl rfl rfl rfl rfl rfl rfl ⟨rfl, rfl, rfl, rfl, rfl⟩ rfl rfl rfl rfl rfl (by kernel_rfl) Try.func9 (by kernel_rfl)
    (of_decide_eq_true (by kernel_rfl)) (by unfold Func.isWrapper; first | (rw [if_pos (by decide +kernel)]; kernel_rfl) | (rw [if_neg (by decide +kernel)]; exact ⟨rfl, rfl⟩))
    (fun os started H enc _ => lifted os started H enc)

theorem proved : Rows.Crc64ShortSaid :=
  over
end crc64Short
end Go.Proofs.Ytmleonpecodimaa
