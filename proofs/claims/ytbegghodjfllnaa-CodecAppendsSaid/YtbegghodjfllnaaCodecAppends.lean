/-
  PROVED: the law CodecAppends returns true for every argument: all appending functions return the specified bytes behind any prefix of up to 50 bytes, and do not change the prefix; the arguments read afterwards as they read before. No condition.
-/
import Derived.Test.YtbegghodjfllnaaK9H
import Derived.Test.YtbegghodjfllnaaK9L
namespace Go.Proofs.Ytbegghodjfllnaa
open Go.ChangeShapes Go.WideShapes Go.ChangeAt Go.RowKit
set_option linter.unusedVariables false

namespace codecAppends
set_option maxRecDepth 100000 in
theorem lifted (os : Os) (started : os.Started) (H : Type) (enc : TypeId × Value → H) :
    ReturnsInHanded {} Try.checked os 4 .any (Rows.codecAppendsSpec.pre6 enc Try.prog Try.f4 Rows.codecAppendsRow.domain false) (Rows.codecAppendsSpec.post enc Try.prog Try.f4 false true false false) := by
  refine law_lift (C := Try.checked) own started (by kernel_rfl) Try.func4 rfl ?_ laid ?_ rfl Try.underlying4
    (ChangeSpec.witness6 (enc := enc) (C := Try.checked) false ⟨#[], #[.slice none 0 0, .agg #[.int .u64 0, .int .i64 0, .slice none 0 0, .int .u8 0, .int .u8 0, .int .u8 0, .int .u8 0, .int .u8 0, .int .u8 0, .int .u8 0, .int .u8 0]], []⟩ 8 (by kernel_rfl) (by kernel_rfl) (by kernel_rfl) (by kernel_rfl)) ?_
  · intro ds hds
    rw [show Try.f4.params.toList.length = 2 from rfl] at hds
    match ds, hds with
    | [d0, d1], _ => rfl
  · intro t ht
    have hall : ∀ t ∈ Try.f4.params.toList, (Try.prog.readableRec t && decide (t < Try.prog.types.size)) = true := List.all_eq_true.1 (by kernel_rfl)
    have h := hall t ht
    rw [Bool.and_eq_true, decide_eq_true_eq] at h
    exact h
  · intro W base args ds p hval hA hlt hsz
    rw [show Try.f4.params.toList = [25, 33] from rfl] at hA
    obtain ⟨v0, v1, d0, d1, p0, p1, rfl, rfl, rfl, h0, h1⟩ := trodAll_two hA
    obtain ⟨l, hl, hlm⟩ := open_bytes (hval 0 25 v0 rfl rfl) h0
    obtain ⟨u, n, vx, lx, bs, rfl, hn, hlx, hlxm, hbs⟩ := open_V (hval 1 33 v1 rfl rfl) h1
    obtain ⟨x0, x1, x2, x3, x4, x5, x6, x7, rfl⟩ := list8 hbs
    exact codecAppends_walk v0 vx l lx u.toNat n x0 x1 x2 x3 x4 x5 x6 x7 W hlm hlxm u.isLt hn hl hlx

theorem over : Rows.codecAppendsRow.holds Try.pinned (OpenSpec.ofChange Rows.codecAppendsSpec) :=
  OpenClaim.holds_of_wide 4 Try.f4 rfl rfl rfl rfl rfl rfl rfl ⟨rfl, rfl, rfl, rfl, rfl⟩ rfl rfl rfl rfl rfl (by kernel_rfl) Try.func4 (by kernel_rfl)
    (of_decide_eq_true (by kernel_rfl)) (by unfold Func.isWrapper; first | (rw [if_pos (by decide +kernel)]; kernel_rfl) | (rw [if_neg (by decide +kernel)]; exact ⟨rfl, rfl⟩))
    (fun os started H enc _ => lifted os started H enc)

theorem proved : Rows.CodecAppendsSaid :=
  over
end codecAppends
end Go.Proofs.Ytbegghodjfllnaa
