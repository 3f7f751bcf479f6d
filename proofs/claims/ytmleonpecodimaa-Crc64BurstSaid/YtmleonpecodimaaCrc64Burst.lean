/-
  PROVED: the law Crc64Burst returns true for every argument: changing any of 64 consecutive bits changes the sum; the arguments read afterwards as they read before. No condition.
-/
import Derived.Test.YtmleonpecodimaaC8I
namespace Go.Proofs.Ytmleonpecodimaa
open Go.ChangeShapes Go.WideShapes Go.ChangeAt Go.RowKit
set_option linter.unusedVariables false

theorem open_u16 {w : World} {r : Reach} {b0 : Nat} {v : Value} (hval : Value.okWide Try.prog w r b0 36 v) : ∃ n : Nat, v = .int .u16 n ∧ n ≤ 65535 := by
  have h : Cell.okWide Try.prog w r b0 36 v := by
    have h := hval
    unfold Value.okWide at h
    rw [Try.underlying36] at h
    exact h
  obtain ⟨n, rfl, h1, h2⟩ := cell_int Try.underlying36 h
  have h1' : (0 : Int) ≤ n := h1
  have h2' : n ≤ 65535 := h2
  exact ⟨n.toNat, by rw [Int.toNat_of_nonneg h1'], by omega⟩

namespace crc64Burst
set_option maxRecDepth 100000 in
theorem lifted (os : Os) (started : os.Started) (H : Type) (enc : TypeId × Value → H) :
    ReturnsInHanded {} Try.checked os 10 .any (Rows.crc64BurstSpec.pre6 enc Try.prog Try.f10 Rows.crc64BurstRow.domain false) (Rows.crc64BurstSpec.post enc Try.prog Try.f10 false true false false) := by
  refine law_lift (C := Try.checked) own started (by kernel_rfl) Try.func10 rfl ?_ laid ?_ rfl Try.underlying4
    (ChangeSpec.witness6 (enc := enc) (C := Try.checked) false ⟨#[], #[.slice none 0 0, .int .u16 0, .int .u64 0], []⟩ 8 (by kernel_rfl) (by kernel_rfl) (by kernel_rfl) (by kernel_rfl)) ?_
  · intro ds hds
    rw [show Try.f10.params.toList.length = 3 from rfl] at hds
    match ds, hds with
    | [d0, d1, d2], _ => rfl
  · intro t ht
    have hall : ∀ t ∈ Try.f10.params.toList, (Try.prog.readableRec t && decide (t < Try.prog.types.size)) = true := List.all_eq_true.1 (by kernel_rfl)
    have h := hall t ht
    rw [Bool.and_eq_true, decide_eq_true_eq] at h
    exact h
  · intro W base args ds p hval hA hlt hsz
    rw [show Try.f10.params.toList = [22, 36, 23] from rfl] at hA
    obtain ⟨v0, v1, v2, d0, d1, d2, p0, p1, p2, rfl, rfl, rfl, h0, h1, h2⟩ := trodAll_three hA
    obtain ⟨l0, hs0, hl0⟩ := open_bytes (hval 0 22 v0 rfl rfl) h0
    obtain ⟨n, rfl, hn⟩ := open_u16 (hval 1 36 v1 rfl rfl)
    obtain ⟨x, rfl⟩ := open_u64 (hval 2 23 v2 rfl rfl)
    exact crc64Burst_walk v0 l0 n x W hl0 hn hs0

theorem over : Rows.crc64BurstRow.holds Try.pinned (OpenSpec.ofChange Rows.crc64BurstSpec) :=
  OpenClaim.holds_of_wide 10 Try.f10 rfl rfl rfl rfl rfl rfl rfl ⟨rfl, rfl, rfl, rfl, rfl⟩ rfl rfl rfl rfl rfl (by kernel_rfl) Try.func10 (by kernel_rfl)
    (of_decide_eq_true (by kernel_rfl)) (by unfold Func.isWrapper; first | (rw [if_pos (by decide +kernel)]; kernel_rfl) | (rw [if_neg (by decide +kernel)]; exact ⟨rfl, rfl⟩))
    (fun os started H enc _ => lifted os started H enc)

theorem proved : Rows.Crc64BurstSaid :=
  over
end crc64Burst
end Go.Proofs.Ytmleonpecodimaa
