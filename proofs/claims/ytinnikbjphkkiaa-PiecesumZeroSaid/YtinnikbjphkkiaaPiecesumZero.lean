/-
  PROVED: the law PiecesumZero returns true for every argument: of the zero leaf, no absent piece is bad; a piece with a version is; the arguments read afterwards as they read before. No condition.
-/
import Derived.Test.YtinnikbjphkkiaaPsS
import Derived.Test.YtinnikbjphkkiaaPsQ
namespace Go.Proofs.Ytinnikbjphkkiaa
open Go.ChangeShapes Go.WideShapes Go.ChangeAt Go.RowKit
set_option linter.unusedVariables false

namespace piecesumZero
set_option maxRecDepth 100000 in
theorem lifted (os : Os) (started : os.Started) (H : Type) (enc : TypeId × Value → H) :
    ReturnsInHanded {} Try.checked os 7 .any (Rows.piecesumZeroSpec.pre6 enc Try.prog Try.f7 Rows.piecesumZeroRow.domain false) (Rows.piecesumZeroSpec.post enc Try.prog Try.f7 false true false false) := by
  refine law_lift (C := Try.checked) own started (by kernel_rfl) Try.func7 rfl ?_ laid ?_ rfl Try.underlying4
    (ChangeSpec.witness6 (enc := enc) (C := Try.checked) false ⟨#[], #[.int .i64 0, .int .u8 0, .agg #[.int .i64 0, .int .i64 0, .int .u64 0, .int .u8 0, .int .u8 0, .int .u8 0, .int .u8 0, .int .u8 0, .int .u8 0, .int .u8 0, .int .u8 0]], []⟩ 8 (by kernel_rfl) (by kernel_rfl) (by kernel_rfl) (by kernel_rfl)) ?_
  · intro ds hds
    rw [show Try.f7.params.toList.length = 3 from rfl] at hds
    match ds, hds with
    | [d0, d1, d2], _ => rfl
  · intro t ht
    have hall : ∀ t ∈ Try.f7.params.toList, (Try.prog.readableRec t && decide (t < Try.prog.types.size)) = true := List.all_eq_true.1 (by kernel_rfl)
    have h := hall t ht
    rw [Bool.and_eq_true, decide_eq_true_eq] at h
    exact h
  · intro W base args ds p hval hA hlt hsz
    rw [show Try.f7.params.toList = [3, 5, 26] from rfl] at hA
    obtain ⟨v0, v1, v2, d0, d1, d2, q0, q1, q2, rfl, rfl, rfl, h0, h1, h2⟩ := trodAll_three hA
    obtain ⟨n0, rfl, hn0⟩ := open_int (hval 0 3 v0 rfl rfl) h0
    obtain ⟨n1, rfl⟩ := open_u8 (hval 1 5 v1 rfl rfl) h1
    obtain ⟨g2, p2, u2, x02, x12, x22, x32, x42, x52, x62, x72, rfl, hg2, hp2⟩ := open_PW (hval 2 26 v2 rfl rfl) h2
    exact piecesumZero_walk n0 n1 g2 p2 u2 x02 x12 x22 x32 x42 x52 x62 x72 W hn0  hg2 hp2

theorem over : Rows.piecesumZeroRow.holds Try.pinned (OpenSpec.ofChange Rows.piecesumZeroSpec) :=
  OpenClaim.holds_of_wide 7 Try.f7 rfl rfl rfl rfl rfl rfl rfl ⟨rfl, rfl, rfl, rfl, rfl⟩ rfl rfl rfl rfl rfl (by kernel_rfl) Try.func7 (by kernel_rfl)
    (of_decide_eq_true (by kernel_rfl)) (by unfold Func.isWrapper; first | (rw [if_pos (by decide +kernel)]; kernel_rfl) | (rw [if_neg (by decide +kernel)]; exact ⟨rfl, rfl⟩))
    (fun os started H enc _ => lifted os started H enc)

theorem proved : Rows.PiecesumZeroSaid :=
  over
end piecesumZero
end Go.Proofs.Ytinnikbjphkkiaa
