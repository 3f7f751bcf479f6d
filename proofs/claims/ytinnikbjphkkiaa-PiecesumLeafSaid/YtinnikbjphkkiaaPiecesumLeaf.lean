/-
  PROVED: the law PiecesumLeaf returns true for every argument: if one version or one sum of a leaf is another one, LeafSum is another one, too; the arguments read afterwards as they read before. No condition.
-/
import Derived.Test.YtinnikbjphkkiaaPsV
import Derived.Test.YtinnikbjphkkiaaPsQ
namespace Go.Proofs.Ytinnikbjphkkiaa
open Go.ChangeShapes Go.WideShapes Go.ChangeAt Go.RowKit
set_option linter.unusedVariables false

namespace piecesumLeaf
set_option maxRecDepth 100000 in
theorem lifted (os : Os) (started : os.Started) (H : Type) (enc : TypeId × Value → H) :
    ReturnsInHanded {} Try.checked os 9 .any (Rows.piecesumLeafSpec.pre6 enc Try.prog Try.f9 Rows.piecesumLeafRow.domain false) (Rows.piecesumLeafSpec.post enc Try.prog Try.f9 false true false false) := by
  refine law_lift (C := Try.checked) own started (by kernel_rfl) Try.func9 rfl ?_ laid ?_ rfl Try.underlying4
    (ChangeSpec.witness6 (enc := enc) (C := Try.checked) false ⟨#[], #[.agg #[.slice none 0 0, .slice none 0 0], .int .i64 0, .int .u64 0], []⟩ 8 (by kernel_rfl) (by kernel_rfl) (by kernel_rfl) (by kernel_rfl)) ?_
  · intro ds hds
    rw [show Try.f9.params.toList.length = 3 from rfl] at hds
    match ds, hds with
    | [d0, d1, d2], _ => rfl
  · intro t ht
    have hall : ∀ t ∈ Try.f9.params.toList, (Try.prog.readableRec t && decide (t < Try.prog.types.size)) = true := List.all_eq_true.1 (by kernel_rfl)
    have h := hall t ht
    rw [Bool.and_eq_true, decide_eq_true_eq] at h
    exact h
  · intro W base args ds p hval hA hlt hsz
    rw [show Try.f9.params.toList = [32, 3, 22] from rfl] at hA
    obtain ⟨v0, v1, v2, d0, d1, d2, q0, q1, q2, rfl, rfl, rfl, h0, h1, h2⟩ := trodAll_three hA
    obtain ⟨vv0, vs0, lv0, ls0, rfl, hv0, hs0, hlv0, hls0⟩ := open_leaf (hval 0 32 v0 rfl rfl) h0
    obtain ⟨n1, rfl, hn1⟩ := open_int (hval 1 3 v1 rfl rfl) h1
    obtain ⟨n2, rfl⟩ := open_u64 (hval 2 22 v2 rfl rfl) h2
    exact piecesumLeaf_walk vv0 vs0 lv0 ls0 n1 n2 W hv0 hs0 hlv0 hls0 hn1 

theorem over : Rows.piecesumLeafRow.holds Try.pinned (OpenSpec.ofChange Rows.piecesumLeafSpec) :=
  OpenClaim.holds_of_wide 9 Try.f9 rfl rfl rfl rfl rfl rfl rfl ⟨rfl, rfl, rfl, rfl, rfl⟩ rfl rfl rfl rfl rfl (by kernel_rfl) Try.func9 (by kernel_rfl)
    (of_decide_eq_true (by kernel_rfl)) (by unfold Func.isWrapper; first | (rw [if_pos (by decide +kernel)]; kernel_rfl) | (rw [if_neg (by decide +kernel)]; exact ⟨rfl, rfl⟩))
    (fun os started H enc _ => lifted os started H enc)

theorem proved : Rows.PiecesumLeafSaid :=
  over
end piecesumLeaf
end Go.Proofs.Ytinnikbjphkkiaa
