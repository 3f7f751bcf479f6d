/-
  Chapter 15 (entry): valid entries.
-/
import Derived.Test.YtbjafmjeilabiaaPut
import Derived.Test.YtbjafmjeilabiaaEq
namespace Go.Proofs.Ytbjafmjeilabiaa
open Go.RowKit
set_option linter.unusedVariables false

theorem size8 : ∀ w, (sizeOf 5).run Try.prog w = .ok 1 w := by intro w; kernel_rfl
def zero8 : List (BitVec 8) := [0#8, 0#8, 0#8, 0#8, 0#8, 0#8, 0#8, 0#8]
theorem eq_block (d : Nat) (x0 x1 x2 x3 x4 x5 x6 x7 y0 y1 y2 y3 y4 y5 y6 y7 : BitVec 8) (w : World) : (Op.equalIn (d + 2) 24 (.agg #[encB x0, encB x1, encB x2, encB x3, encB x4, encB x5, encB x6, encB x7]) (.agg #[encB y0, encB y1, encB y2, encB y3, encB y4, encB y5, encB y6, encB y7])).run Try.prog w = .ok (eqB [x0, x1, x2, x3, x4, x5, x6, x7] [y0, y1, y2, y3, y4, y5, y6, y7]) w :=
  run_equalIn_block w d Try.underlying24 Try.underlying5 size8 [x0, x1, x2, x3, x4, x5, x6, x7] [y0, y1, y2, y3, y4, y5, y6, y7] rfl rfl
theorem eq_zero (d : Nat) (x0 x1 x2 x3 x4 x5 x6 x7 : BitVec 8) (w : World) : (Op.equalIn (d + 2) 24 (.agg #[encB x0, encB x1, encB x2, encB x3, encB x4, encB x5, encB x6, encB x7]) (.agg #[.int .u8 0, .int .u8 0, .int .u8 0, .int .u8 0, .int .u8 0, .int .u8 0, .int .u8 0, .int .u8 0])).run Try.prog w = .ok (eqB [x0, x1, x2, x3, x4, x5, x6, x7] zero8) w :=
  eq_block d x0 x1 x2 x3 x4 x5 x6 x7 0#8 0#8 0#8 0#8 0#8 0#8 0#8 0#8 w
attribute [local go_sem] eq_block eq_zero

def vld (k b : Int) (v : BitVec 64) (d : List (BitVec 8)) : Bool := decide (0 ≤ b) && decide (b < 65536) && decide (1 ≤ un v) && (decide (k = 1) || (decide (k = 2) && eqB d zero8))
theorem vld_no {k b : Int} {v : BitVec 64} {d : List (BitVec 8)} (h : b < 0 ∨ 65536 ≤ b ∨ un v < 1) : false = vld k b v d := by
  unfold vld
  rcases h with h | h | h
  · rw [show decide (0 ≤ b) = false by simp; omega]; simp
  · rw [show decide (b < 65536) = false by simp; omega]; simp
  · rw [show decide (1 ≤ un v) = false by simp; omega]; simp
theorem vld_two {b : Int} {v : BitVec 64} {d : List (BitVec 8)} (h1 : 0 ≤ b) (h2 : b < 65536) (h3 : 1 ≤ un v) : eqB d zero8 = vld 2 b v d := by
  simp [vld, h1, h2, h3]
theorem vld_one {b : Int} {v : BitVec 64} {d : List (BitVec 8)} (h1 : 0 ≤ b) (h2 : b < 65536) (h3 : 1 ≤ un v) : true = vld 1 b v d := by
  simp [vld, h1, h2, h3]
theorem vld_other {b : Int} {v : BitVec 64} {d : List (BitVec 8)} {k : Int} (hk1 : k ≠ 1) (hk2 : k ≠ 2) : false = vld k b v d := by
  simp [vld, hk1, hk2]

theorem valid_any (k b : Int) (v : BitVec 64) (x0 x1 x2 x3 x4 x5 x6 x7 : BitVec 8) (w : World) :
    Calls Try.prog 16 #[.agg #[encI k, encI b, encU v, encB x0, encB x1, encB x2, encB x3, encB x4, encB x5, encB x6, encB x7]] w fun e w' => e = .returned (.bool (vld k b v [x0, x1, x2, x3, x4, x5, x6, x7])) ∧ Below w.heap.size w w' := by
  by_cases hbv : b < 0 ∨ 65536 ≤ b ∨ un v < 1
  · go_enter Try.func16, Try.ntmps16
    go_wp2
    all_goals first | (exfalso; omega) | (go_ret; exact ⟨ret_bool (vld_no hbv), Ext.alloc _ _⟩)
  · have h1 : 0 ≤ b := by omega
    have h2 : b < 65536 := by omega
    have h3 : 1 ≤ un v := by omega
    clear hbv
    rcases (show k = 1 ∨ k = 2 ∨ k ≠ 1 ∧ k ≠ 2 by omega) with rfl | rfl | ⟨hk1, hk2⟩
    · go_enter Try.func16, Try.ntmps16
      go_wp2
      go_ret
      exact ⟨ret_bool (vld_one h1 h2 h3), Ext.alloc _ _⟩
    · go_enter Try.func16, Try.ntmps16
      go_wp2
      go_ret
      exact ⟨ret_bool (vld_two h1 h2 h3), Ext.alloc _ _⟩
    · have HK := Lib.hid (vld_other (b := b) (v := v) (d := [x0, x1, x2, x3, x4, x5, x6, x7]) hk1 hk2)
      have hq1 : (k == 1) = false := by simpa using hk1
      have hq2 : (k == 2) = false := by simpa using hk2
      clear hk1 hk2
      go_enter Try.func16, Try.ntmps16
      go_wp2
      go_ret
      exact ⟨ret_bool HK.out, Ext.alloc _ _⟩

theorem rvalid_any (k b : Int) (v : BitVec 64) (x0 x1 x2 x3 x4 x5 x6 x7 : BitVec 8) (w : World) :
    Calls Try.prog 15 #[.agg #[encI k, encI b, encU v, encB x0, encB x1, encB x2, encB x3, encB x4, encB x5, encB x6, encB x7]] w fun e w' => e = .returned (.bool (vld k b v [x0, x1, x2, x3, x4, x5, x6, x7])) ∧ Below w.heap.size w w' := by
  rcases (show k = 1 ∨ k = 2 ∨ k ≠ 1 ∧ k ≠ 2 by omega) with rfl | rfl | ⟨hk1, hk2⟩
  · by_cases hbv : b < 0 ∨ 65536 ≤ b ∨ un v < 1
    · go_enter Try.func15, Try.ntmps15
      go_wp2
      all_goals first | (exfalso; omega) | (go_ret; exact ⟨ret_bool (vld_no hbv), Ext.alloc _ _⟩)
    · have h1 : 0 ≤ b := by omega
      have h2 : b < 65536 := by omega
      have h3 : 1 ≤ un v := by omega
      clear hbv
      go_enter Try.func15, Try.ntmps15
      go_wp2
      go_ret
      exact ⟨ret_bool (vld_one h1 h2 h3), Ext.alloc _ _⟩
  · by_cases hbv : b < 0 ∨ 65536 ≤ b ∨ un v < 1
    · go_enter Try.func15, Try.ntmps15
      go_wp2
      all_goals first | (exfalso; omega) | (go_ret; exact ⟨ret_bool (vld_no hbv), Ext.alloc _ _⟩)
    · have h1 : 0 ≤ b := by omega
      have h2 : b < 65536 := by omega
      have h3 : 1 ≤ un v := by omega
      clear hbv
      go_enter Try.func15, Try.ntmps15
      go_wp2
      go_ret
      exact ⟨ret_bool (vld_two h1 h2 h3), Ext.alloc _ _⟩
  · have HK := Lib.hid (vld_other (b := b) (v := v) (d := [x0, x1, x2, x3, x4, x5, x6, x7]) hk1 hk2)
    have hq1 : (k == 1) = false := by simpa using hk1
    have hq2 : (k == 2) = false := by simpa using hk2
    have hq3 : (k != 1) = true := by simpa using hk1
    have hq4 : (k != 2) = true := by simpa using hk2
    clear hk1 hk2
    go_enter Try.func15, Try.ntmps15
    go_wp2
    all_goals
      go_ret
      exact ⟨ret_bool HK.out, Ext.alloc _ _⟩
end Go.Proofs.Ytbjafmjeilabiaa
