/-
  PROVED: the law PiecesumRecognizes returns true for every argument: a piece that Set has recorded is good; with other contents or another version it is bad, and the other pieces are judged as before; the arguments read afterwards as they read before. No condition.
-/
import Derived.Test.YtinnikbjphkkiaaPsT
import Derived.Test.YtinnikbjphkkiaaPsQ
namespace Go.Proofs.Ytinnikbjphkkiaa
open Go.ChangeShapes Go.WideShapes Go.ChangeAt Go.RowKit
set_option linter.unusedVariables false

namespace piecesumRecognizes
set_option maxRecDepth 100000 in
theorem lifted (os : Os) (started : os.Started) (H : Type) (enc : TypeId × Value → H) :
    ReturnsInHanded {} Try.checked os 6 .any (Rows.piecesumRecognizesSpec.pre6 enc Try.prog Try.f6 Rows.piecesumRecognizesRow.domain false) (Rows.piecesumRecognizesSpec.post enc Try.prog Try.f6 false true false false) := by
  refine law_lift (C := Try.checked) own started (by kernel_rfl) Try.func6 rfl ?_ laid ?_ rfl Try.underlying4
    (ChangeSpec.witness6 (enc := enc) (C := Try.checked) false ⟨#[], #[.agg #[.slice none 0 0, .slice none 0 0], .agg #[.int .i64 0, .int .i64 0, .int .u64 0, .int .u8 0, .int .u8 0, .int .u8 0, .int .u8 0, .int .u8 0, .int .u8 0, .int .u8 0, .int .u8 0], .agg #[.int .i64 0, .int .i64 0, .int .u64 0, .int .u8 0, .int .u8 0, .int .u8 0, .int .u8 0, .int .u8 0, .int .u8 0, .int .u8 0, .int .u8 0]], []⟩ 8 (by kernel_rfl) (by kernel_rfl) (by kernel_rfl) (by kernel_rfl)) ?_
  · intro ds hds
    rw [show Try.f6.params.toList.length = 3 from rfl] at hds
    match ds, hds with
    | [d0, d1, d2], _ => rfl
  · intro t ht
    have hall : ∀ t ∈ Try.f6.params.toList, (Try.prog.readableRec t && decide (t < Try.prog.types.size)) = true := List.all_eq_true.1 (by kernel_rfl)
    have h := hall t ht
    rw [Bool.and_eq_true, decide_eq_true_eq] at h
    exact h
  · intro W base args ds p hval hA hlt hsz
    rw [show Try.f6.params.toList = [32, 26, 26] from rfl] at hA
    obtain ⟨v0, v1, v2, d0, d1, d2, q0, q1, q2, rfl, rfl, rfl, h0, h1, h2⟩ := trodAll_three hA
    obtain ⟨vv0, vs0, lv0, ls0, rfl, hv0, hs0, hlv0, hls0⟩ := open_leaf (hval 0 32 v0 rfl rfl) h0
    obtain ⟨g1, p1, u1, x01, x11, x21, x31, x41, x51, x61, x71, rfl, hg1, hp1⟩ := open_PW (hval 1 26 v1 rfl rfl) h1
    obtain ⟨g2, p2, u2, x02, x12, x22, x32, x42, x52, x62, x72, rfl, hg2, hp2⟩ := open_PW (hval 2 26 v2 rfl rfl) h2
    exact piecesumRecognizes_walk vv0 vs0 lv0 ls0 g1 p1 u1 x01 x11 x21 x31 x41 x51 x61 x71 g2 p2 u2 x02 x12 x22 x32 x42 x52 x62 x72 W hv0 hs0 hlv0 hls0 hg1 hp1 hg2 hp2

theorem over : Rows.piecesumRecognizesRow.holds Try.pinned (OpenSpec.ofChange Rows.piecesumRecognizesSpec) :=
  OpenClaim.holds_of_wide 6 Try.f6 rfl rfl rfl rfl rfl rfl rfl ⟨rfl, rfl, rfl, rfl, rfl⟩ rfl rfl rfl rfl rfl (by kernel_rfl) Try.func6 (by kernel_rfl)
    (of_decide_eq_true (by kernel_rfl)) (by unfold Func.isWrapper; first | (rw [if_pos (by decide +kernel)]; kernel_rfl) | (rw [if_neg (by decide +kernel)]; exact ⟨rfl, rfl⟩))
    (fun os started H enc _ => lifted os started H enc)

theorem proved : Rows.PiecesumRecognizesSaid :=
  over
end piecesumRecognizes
end Go.Proofs.Ytinnikbjphkkiaa
