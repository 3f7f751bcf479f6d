/-
  Chapter 10 (geometry): the contracts of Random and Address of package geometry and of its reference, and of the list comparison.
-/
import Derived.Test.YtfoelkpnhhfgaaaGeoB
namespace Go.Proofs.Ytfoelkpnhhfgaaa
open Go.RowKit
set_option linter.unusedVariables false
attribute [local go_sem ↓] Go.wp_at_zero Go.wp_at_succ

def rnd (r b t s o a : Int) : Bool := validB r b t s o && decide (0 ≤ a ∧ a < r)
theorem rnd_no {r b t s o a : Int} (h : validB r b t s o = false) : rnd r b t s o a = false := by simp [rnd, h]
theorem rnd_yes {r b t s o a : Int} (h : validB r b t s o = true) : rnd r b t s o a = decide (0 ≤ a ∧ a < r) := by simp [rnd, h]

set_option maxHeartbeats 800000 in
theorem random_any (r b t s o a : Int) (w : World) :
    Calls Try.prog 22 #[geoV r b t s o, .int .i64 a] w fun e w' => e = .returned (.bool (rnd r b t s o a)) ∧ Below w.heap.size w w' := by
  rcases hv : validB r b t s o with _ | _
  · have HV := Lib.hid hv; clear hv
    go_enter Try.func22, Try.ntmps22
    go_wp2_with (go_at_call 11; refine (valid_no _ _ _ _ _ HV.out _).mono ?_; rintro e w1 ⟨rfl, hb1⟩; have hc1 := below_cells hb1)
    go_ret
    exact ⟨ret_bool (rnd_no HV.out).symm, (Ext.alloc _ _).trans hb1⟩
  · have HV := Lib.hid hv
    have hb := bounds hv; clear hv
    go_enter Try.func22, Try.ntmps22
    go_wp2_with (first
      | (go_at_call 11; refine (valid_yes _ _ _ _ _ HV.out _).mono ?_; rintro e w1 ⟨rfl, hb1⟩; have hc1 := below_cells hb1)
      | (go_at_call 26; refine (within_any _ _ _ _).mono ?_; rintro e w2 ⟨rfl, rfl⟩))
    go_ret
    exact ⟨ret_bool (by rw [rnd_yes HV.out]; unfold withinB; congr 1; apply propext; omega), (Ext.alloc _ _).trans hb1⟩

set_option maxHeartbeats 800000 in
theorem rrandom_any (r b t s o a : Int) (w : World) :
    Calls Try.prog 23 #[geoV r b t s o, .int .i64 a] w fun e w' => e = .returned (.bool (rnd r b t s o a)) ∧ Below w.heap.size w w' := by
  rcases hv : validB r b t s o with _ | _
  · have HV := Lib.hid hv; clear hv
    go_enter Try.func23, Try.ntmps23
    go_wp2_with (go_at_call 12; refine (rvalid_no _ _ _ _ _ HV.out _).mono ?_; rintro e w1 ⟨rfl, hb1⟩; have hc1 := below_cells hb1)
    go_ret
    exact ⟨ret_bool (rnd_no HV.out).symm, (Ext.alloc _ _).trans hb1⟩
  · have HV := Lib.hid hv
    have hb := bounds hv; clear hv
    go_enter Try.func23, Try.ntmps23
    go_wp2_with (go_at_call 12; refine (rvalid_yes _ _ _ _ _ HV.out _).mono ?_; rintro e w1 ⟨rfl, hb1⟩; have hc1 := below_cells hb1)
    all_goals go_ret
    all_goals exact ⟨ret_iff (by simp only [rnd_yes HV.out, Bool.and_eq_true, decide_eq_true_eq, Bool.false_eq_true] at *; constructor <;> intro h <;> first | exact False.elim h | omega), (Ext.alloc _ _).trans hb1⟩

structure Adr where
  at_ : Int
  err : Int
abbrev Adr.val (l : Adr) : Value := .tuple #[.int .i64 l.at_, .int .i64 l.err]
def inS (b t s x y z : Int) : Bool := decide (0 ≤ x ∧ x < b ∧ 0 ≤ y ∧ y < t ∧ 0 ≤ z ∧ z < s)
def adr (r b t s o x y z : Int) : Adr :=
  if validB r b t s o = true then (if inS b t s x y z = true then ⟨r + (x * t + y) * s + z, 0⟩ else ⟨0, 2⟩) else ⟨0, 1⟩
theorem adr_no {r b t s o x y z : Int} (h : validB r b t s o = false) : adr r b t s o x y z = ⟨0, 1⟩ := by simp [adr, h]
theorem adr_out {r b t s o x y z : Int} (h : validB r b t s o = true) (h2 : inS b t s x y z = false) : adr r b t s o x y z = ⟨0, 2⟩ := by simp [adr, h, h2]
theorem adr_in {r b t s o x y z : Int} (h : validB r b t s o = true) (h2 : inS b t s x y z = true) : adr r b t s o x y z = ⟨r + (x * t + y) * s + z, 0⟩ := by simp [adr, h, h2]
theorem adr_bounds {r b t s o x y z : Int} (h : validB r b t s o = true) (h2 : inS b t s x y z = true) :
    0 ≤ x * t ∧ x * t ≤ 1024 ∧ 0 ≤ (x * t + y) * s ∧ (x * t + y) * s ≤ 131072 := by
  obtain ⟨_, _, hb1, hb2, ht1, ht2, hs1, hs2, _, _⟩ := bounds h
  have h3 : 0 ≤ x ∧ x < b ∧ 0 ≤ y ∧ y < t ∧ 0 ≤ z ∧ z < s := by simpa only [inS, decide_eq_true_eq] using h2
  have h1 : 0 ≤ x * t := Int.mul_nonneg (by omega) (by omega)
  have h2 : x * t ≤ 64 * 16 := Int.mul_le_mul (by omega) ht2 (by omega) (by omega)
  have h4 : 0 ≤ (x * t + y) * s := Int.mul_nonneg (by omega) (by omega)
  have h5 : (x * t + y) * s ≤ 2048 * 64 := Int.mul_le_mul (by omega) hs2 (by omega) (by omega)
  omega

set_option maxHeartbeats 800000 in
theorem address_any (r b t s o x y z : Int) (w : World) :
    Calls Try.prog 24 #[geoV r b t s o, .int .i64 x, .int .i64 y, .int .i64 z] w fun e w' => e = .returned (adr r b t s o x y z).val ∧ Below w.heap.size w w' := by
  rcases hv : validB r b t s o with _ | _
  · have HV := Lib.hid hv; clear hv
    go_enter Try.func24, Try.ntmps24
    go_wp2_with (go_at_call 11; refine (valid_no _ _ _ _ _ HV.out _).mono ?_; rintro e w1 ⟨rfl, hb1⟩; have hc1 := below_cells hb1)
    go_ret2
    rw [adr_no HV.out]
    exact ⟨rfl, (Ext.alloc _ _).trans hb1⟩
  · have HV := Lib.hid hv
    rcases hi : inS b t s x y z with _ | _
    · have HI := Lib.hid hi
      have hb := bounds hv; clear hv hi
      go_enter Try.func24, Try.ntmps24
      go_wp2_with (first
        | (go_at_call 11; refine (valid_yes _ _ _ _ _ HV.out _).mono ?_; rintro e w1 ⟨rfl, hb1⟩; have hc1 := below_cells hb1)
        | (go_at_call 26; refine (within_any _ _ _ _).mono ?_; rintro e w2 ⟨rfl, rfl⟩))
      all_goals first
        | (go_ret2; rw [adr_out HV.out HI.out]; exact ⟨rfl, (Ext.alloc _ _).trans hb1⟩)
        | (exfalso; have hI := HI.out; simp only [inS, withinB, decide_eq_false_iff_not, decide_eq_true_eq, Bool.not_eq_true', Bool.not_eq_true, Bool.not_eq_false', Bool.not_eq_false] at *; omega)
    · have HI := Lib.hid hi
      have hb := bounds hv
      have hq := adr_bounds hv hi
      have h3 : 0 ≤ x ∧ x < b ∧ 0 ≤ y ∧ y < t ∧ 0 ≤ z ∧ z < s := by simpa only [inS, decide_eq_true_eq] using hi
      clear hv hi
      go_enter Try.func24, Try.ntmps24
      go_wp2_with (first
        | (go_at_call 11; refine (valid_yes _ _ _ _ _ HV.out _).mono ?_; rintro e w1 ⟨rfl, hb1⟩; have hc1 := below_cells hb1)
        | (go_at_call 26; refine (within_yes _ _ _ _ (by omega)).mono ?_; rintro e w2 ⟨rfl, rfl⟩))
      go_ret2
      rw [adr_in HV.out HI.out]
      exact ⟨rfl, (Ext.alloc _ _).trans hb1⟩

set_option maxHeartbeats 800000 in
theorem raddress_any (r b t s o x y z : Int) (w : World) :
    Calls Try.prog 25 #[geoV r b t s o, .int .i64 x, .int .i64 y, .int .i64 z] w fun e w' => e = .returned (adr r b t s o x y z).val ∧ Below w.heap.size w w' := by
  rcases hv : validB r b t s o with _ | _
  · have HV := Lib.hid hv; clear hv
    go_enter Try.func25, Try.ntmps25
    go_wp2_with (go_at_call 12; refine (rvalid_no _ _ _ _ _ HV.out _).mono ?_; rintro e w1 ⟨rfl, hb1⟩; have hc1 := below_cells hb1)
    go_ret2
    rw [adr_no HV.out]
    exact ⟨rfl, (Ext.alloc _ _).trans hb1⟩
  · have HV := Lib.hid hv
    rcases hi : inS b t s x y z with _ | _
    · have HI := Lib.hid hi
      have hb := bounds hv; clear hv hi
      go_enter Try.func25, Try.ntmps25
      go_wp2_with (go_at_call 12; refine (rvalid_yes _ _ _ _ _ HV.out _).mono ?_; rintro e w1 ⟨rfl, hb1⟩; have hc1 := below_cells hb1)
      all_goals first
        | (go_ret2; rw [adr_out HV.out HI.out]; exact ⟨rfl, (Ext.alloc _ _).trans hb1⟩)
        | (exfalso; have hI := HI.out; simp only [inS, decide_eq_false_iff_not] at hI; omega)
    · have HI := Lib.hid hi
      have hb := bounds hv
      have hq := adr_bounds hv hi
      have h3 : 0 ≤ x ∧ x < b ∧ 0 ≤ y ∧ y < t ∧ 0 ≤ z ∧ z < s := by simpa only [inS, decide_eq_true_eq] using hi
      clear hv hi
      go_enter Try.func25, Try.ntmps25
      go_wp2_with (go_at_call 12; refine (rvalid_yes _ _ _ _ _ HV.out _).mono ?_; rintro e w1 ⟨rfl, hb1⟩; have hc1 := below_cells hb1)
      go_ret2
      rw [adr_in HV.out HI.out]
      exact ⟨rfl, (Ext.alloc _ _).trans hb1⟩
end Go.Proofs.Ytfoelkpnhhfgaaa
