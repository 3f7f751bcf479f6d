/-
  Chapter 25 (piecesum): fair.
-/
import Derived.Test.YtinnikbjphkkiaaPsH
namespace Go.Proofs.Ytinnikbjphkkiaa
open Go.RowKit
set_option linter.unusedVariables false

theorem fair_any (vv vs : Value) (lv ls : List (BitVec 64)) (w : World) (h1 : SliceAt encU w vv lv) (h2 : SliceAt encU w vs ls) :
    Calls Try.prog 16 #[.agg #[vv, vs]] w fun e w' => e = .returned (.bool (decide (lv.length ≤ 40 ∧ ls.length ≤ 40))) ∧ Below w.heap.size w w' := by
  obtain ⟨ad1, cap1, rfl, _, _⟩ := h1
  obtain ⟨ad2, cap2, rfl, _, _⟩ := h2
  by_cases h3 : lv.length ≤ 40
  · by_cases h4 : ls.length ≤ 40
    · have hd : decide (lv.length ≤ 40 ∧ ls.length ≤ 40) = true := by simp [h3, h4]
      rw [hd]
      clear hd
      go_enter Try.func16, Try.ntmps16
      go_wp2
      go_ret
      exact ⟨ret_bool (decide_eq_true (by omega)), by first | exact Ext.alloc _ _ | exact Ext.refl _⟩
    · have hd : decide (lv.length ≤ 40 ∧ ls.length ≤ 40) = false := by simp [h4]
      rw [hd]
      clear hd
      go_enter Try.func16, Try.ntmps16
      go_wp2
      go_ret
      exact ⟨ret_bool (decide_eq_false (by omega)), by first | exact Ext.alloc _ _ | exact Ext.refl _⟩
  · have hd : decide (lv.length ≤ 40 ∧ ls.length ≤ 40) = false := by simp [h3]
    rw [hd]
    clear hd
    go_enter Try.func16, Try.ntmps16
    go_wp2
    go_ret
    exact ⟨rfl, by first | exact Ext.alloc _ _ | exact Ext.refl _⟩
end Go.Proofs.Ytinnikbjphkkiaa
