/-
  Chapter 9 (codec): a nil reader.
-/
import Derived.Test.YtbegghodjfllnaaK9S
namespace Go.Proofs.Ytbegghodjfllnaa
open Go.RowKit
set_option linter.unusedVariables false
attribute [local go_sem] eq_strE ne_strE eqB_self eq_block

theorem take_nil (n : Int) (w : World) (hn : 0 ≤ n ∧ n ≤ 18446744073709551615) :
    Calls Try.prog 33 #[.pointer none, .int .u64 n] w fun e w' => e = .returned (.tuple #[.slice none 0 0, .int .i64 5]) ∧ w = w' := by
  go_enter Try.func33, Try.ntmps33
  go_wp2_with (go_at_call 34; refine (fail_nil _).mono ?_; rintro e w1 ⟨rfl, rfl⟩)
  go_ret2
  exact ⟨rfl, rfl⟩
theorem uint_nil (w : World) :
    Calls Try.prog 21 #[.pointer none] w fun e w' => e = .returned (.tuple #[.int .u64 0, .int .i64 5]) ∧ w = w' := by
  go_enter Try.func21, Try.ntmps21
  go_wp2
  refine wp_loop_rounds 1 ?_
  rw [rounds_succ]
  go_wp2_with (go_at_call 33; refine (take_nil _ _ (by omega)).mono ?_; rintro e w1 ⟨rfl, rfl⟩)
  go_ret2
  exact ⟨rfl, rfl⟩
theorem int_nil (w : World) :
    Calls Try.prog 22 #[.pointer none] w fun e w' => e = .returned (.tuple #[.int .i64 0, .int .i64 5]) ∧ w = w' := by
  have hand : bits .and .u64 0 1 = 0 := by decide
  have hxor : bits .xor .i64 0 0 = 0 := by decide
  go_enter Try.func22, Try.ntmps22
  go_wp2_with (go_at_call 21; refine (uint_nil _).mono ?_; rintro e w1 ⟨rfl, rfl⟩)
  go_ret2
  exact ⟨rfl, rfl⟩
theorem bytes_nil (w : World) :
    Calls Try.prog 23 #[.pointer none] w fun e w' => e = .returned (.tuple #[.slice none 0 0, .int .i64 5]) ∧ w = w' := by
  go_enter Try.func23, Try.ntmps23
  go_wp2_with (go_at_call 21; refine (uint_nil _).mono ?_; rintro e w1 ⟨rfl, rfl⟩)
  go_ret2
  exact ⟨rfl, rfl⟩
theorem count_nil (w : World) (most : Int) (hm : -9223372036854775808 ≤ most ∧ most ≤ 9223372036854775807) :
    Calls Try.prog 25 #[.pointer none, .int .i64 most] w fun e w' => e = .returned (.tuple #[.int .i64 0, .int .i64 5]) ∧ w = w' := by
  go_enter Try.func25, Try.ntmps25
  go_wp2_with (go_at_call 21; refine (uint_nil _).mono ?_; rintro e w1 ⟨rfl, rfl⟩)
  go_ret2
  exact ⟨rfl, rfl⟩
theorem left_nil (w : World) :
    Calls Try.prog 24 #[.pointer none] w fun e w' => e = .returned (.int .i64 0) ∧ w = w' := by
  go_enter Try.func24, Try.ntmps24
  go_wp2
  go_ret
  exact ⟨rfl, rfl⟩
theorem done_nil (w : World) :
    Calls Try.prog 26 #[.pointer none] w fun e w' => e = .returned (.int .i64 0) ∧ w = w' := by
  go_enter Try.func26, Try.ntmps26
  go_wp2
  go_ret
  exact ⟨rfl, rfl⟩
theorem block_nil (w : World) :
    Calls Try.prog 27 #[.pointer none] w fun e w' => e = .returned (.tuple #[zeroX, .int .i64 5]) ∧ Below w.heap.size w w' := by
  go_enter Try.func27, Try.ntmps27
  go_wp2_with (go_at_call 33; refine (take_nil _ _ (by omega)).mono ?_; rintro e w1 ⟨rfl, rfl⟩)
  refine bodyPost_ret (v := .tuple #[zeroX, .int .i64 5]) ?_ rfl ⟨rfl, ?_⟩
  · unfold zeroX
    simp only [results, Try.results27]
    go_simp
  · exact Ext.alloc _ _
end Go.Proofs.Ytbegghodjfllnaa
