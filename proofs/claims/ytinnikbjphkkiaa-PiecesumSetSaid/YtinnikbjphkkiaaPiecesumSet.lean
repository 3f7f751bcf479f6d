/-
  PROVED: the law PiecesumSet returns true for every argument: Set returns the specified leaf or error for any leaf and write, and does not modify the leaf; the arguments read afterwards as they read before. No condition.
-/
import Derived.Test.YtinnikbjphkkiaaPsU
import Derived.Test.YtinnikbjphkkiaaPsQ
namespace Go.Proofs.Ytinnikbjphkkiaa
open Go.ChangeShapes Go.WideShapes Go.ChangeAt Go.RowKit
set_option linter.unusedVariables false

namespace piecesumSet
set_option maxRecDepth 100000 in
theorem lifted (os : Os) (started : os.Started) (H : Type) (enc : TypeId × Value → H) :
    ReturnsInHanded {} Try.checked os 5 .any (Rows.piecesumSetSpec.pre6 enc Try.prog Try.f5 Rows.piecesumSetRow.domain false) (Rows.piecesumSetSpec.post enc Try.prog Try.f5 false true false false) := by
  refine law_lift (C := Try.checked) own started (by kernel_rfl) Try.func5 rfl ?_ laid ?_ rfl Try.underlying4
    (ChangeSpec.witness6 (enc := enc) (C := Try.checked) false ⟨#[], #[.agg #[.slice none 0 0, .slice none 0 0], .agg #[.int .i64 0, .int .i64 0, .int .u64 0, .int .u8 0, .int .u8 0, .int .u8 0, .int .u8 0, .int .u8 0, .int .u8 0, .int .u8 0, .int .u8 0]], []⟩ 8 (by kernel_rfl) (by kernel_rfl) (by kernel_rfl) (by kernel_rfl)) ?_
  · intro ds hds
    rw [show Try.f5.params.toList.length = 2 from rfl] at hds
    match ds, hds with
    | [d0, d1], _ => rfl
  · intro t ht
    have hall : ∀ t ∈ Try.f5.params.toList, (Try.prog.readableRec t && decide (t < Try.prog.types.size)) = true := List.all_eq_true.1 (by kernel_rfl)
    have h := hall t ht
    rw [Bool.and_eq_true, decide_eq_true_eq] at h
    exact h
  · intro W base args ds p hval hA hlt hsz
    rw [show Try.f5.params.toList = [32, 26] from rfl] at hA
    obtain ⟨v0, v1, d0, d1, q0, q1, rfl, rfl, rfl, h0, h1⟩ := trodAll_two hA
    obtain ⟨vv0, vs0, lv0, ls0, rfl, hv0, hs0, hlv0, hls0⟩ := open_leaf (hval 0 32 v0 rfl rfl) h0
    obtain ⟨g1, p1, u1, x01, x11, x21, x31, x41, x51, x61, x71, rfl, hg1, hp1⟩ := open_PW (hval 1 26 v1 rfl rfl) h1
    exact piecesumSet_walk vv0 vs0 lv0 ls0 g1 p1 u1 x01 x11 x21 x31 x41 x51 x61 x71 W hv0 hs0 hlv0 hls0 hg1 hp1

theorem over : Rows.piecesumSetRow.holds Try.pinned (OpenSpec.ofChange Rows.piecesumSetSpec) :=
  OpenClaim.holds_of_wide 5 Try.f5 rfl rfl rfl rfl rfl rfl rfl ⟨rfl, rfl, rfl, rfl, rfl⟩ rfl rfl rfl rfl rfl (by kernel_rfl) Try.func5 (by kernel_rfl)
    (of_decide_eq_true (by kernel_rfl)) (by unfold Func.isWrapper; first | (rw [if_pos (by decide +kernel)]; kernel_rfl) | (rw [if_neg (by decide +kernel)]; exact ⟨rfl, rfl⟩))
    (fun os started H enc _ => lifted os started H enc)

theorem proved : Rows.PiecesumSetSaid :=
  over
end piecesumSet
end Go.Proofs.Ytinnikbjphkkiaa
