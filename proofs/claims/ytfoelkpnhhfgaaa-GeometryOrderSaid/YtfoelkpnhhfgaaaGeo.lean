/-
  Chapter 10 (geometry): the contracts of the functions of package geometry and of its reference that hold no loop.
-/
import Derived.Test.YtfoelkpnhhfgaaaRows
import Derived.WalkKit
import Derived.ProofKit
import Derived.WalkSpells
import Derived.WalkLawsBesides
import Derived.Lib.Hide
import Derived.Deep.RegionHeld3
import Derived.Deep.DrawnRows
import Derived.Test.YtfoelkpnhhfgaaaOrd
import Derived.Test.YtfoelkpnhhfgaaaMem
namespace Go.Proofs.Ytfoelkpnhhfgaaa
open Go.RowKit
set_option linter.unusedVariables false
attribute [local go_sem ↓] Go.wp_at_zero Go.wp_at_succ

theorem below_cells {W w1 : World} (hb : Below W.heap.size W w1) : (∀ b o, b < W.heap.size → w1.cell? ⟨b, o, none⟩ = W.cell? ⟨b, o, none⟩) ∧ (∀ b o, b < W.heap.size → w1.frozen? ⟨b, o, none⟩ = W.frozen? ⟨b, o, none⟩) :=
  ⟨fun b o h => hb.cell (p := ⟨b, o, none⟩) h, fun b o h => hb.frozen (p := ⟨b, o, none⟩) h⟩

abbrev geoV (r b t s o : Int) : Value := .agg #[.int .i64 r, .int .i64 b, .int .i64 t, .int .i64 s, .int .i64 o]
def validB (r b t s o : Int) : Bool := decide (0 ≤ r ∧ r ≤ 16384 ∧ 1 ≤ b ∧ b ≤ 64 ∧ 1 ≤ t ∧ t ≤ 16 ∧ 1 ≤ s ∧ s ≤ 64 ∧ 0 ≤ o ∧ o ≤ 3)
def withinB (n lo hi : Int) : Bool := decide (lo ≤ n ∧ n ≤ hi)

theorem within_any (n lo hi : Int) (w : World) :
    Calls Try.prog 26 #[.int .i64 n, .int .i64 lo, .int .i64 hi] w fun e w' => e = .returned (.bool (withinB n lo hi)) ∧ w = w' := by
  go_enter Try.func26, Try.ntmps26
  go_wp2
  all_goals go_ret
  all_goals exact ⟨ret_iff (by simp only [withinB, Bool.and_eq_true, decide_eq_true_eq, Bool.false_eq_true]; constructor <;> intro h <;> first | exact False.elim h | omega), rfl⟩

set_option maxHeartbeats 400000 in
theorem valid_any (r b t s o : Int) (w : World) :
    Calls Try.prog 11 #[geoV r b t s o] w fun e w' => e = .returned (.bool (validB r b t s o)) ∧ Below w.heap.size w w' := by
  go_enter Try.func11, Try.ntmps11
  go_wp2_with (go_at_call 26; refine (within_any _ _ _ _).mono ?_; rintro e w' ⟨rfl, rfl⟩)
  all_goals go_ret
  all_goals exact ⟨ret_iff (by simp only [withinB, validB, Bool.and_eq_true, decide_eq_true_eq, Bool.false_eq_true] at *; constructor <;> intro h <;> first | exact False.elim h | omega), (Below.refl _ _).alloc (Nat.le_refl _) _⟩

set_option maxHeartbeats 400000 in
theorem rvalid_any (r b t s o : Int) (w : World) :
    Calls Try.prog 12 #[geoV r b t s o] w fun e w' => e = .returned (.bool (validB r b t s o)) ∧ Below w.heap.size w w' := by
  go_enter Try.func12, Try.ntmps12
  go_wp2
  all_goals go_ret
  all_goals exact ⟨ret_iff (by simp only [validB, Bool.and_eq_true, decide_eq_true_eq, Bool.false_eq_true] at *; constructor <;> intro h <;> first | exact False.elim h | omega), (Below.refl _ _).alloc (Nat.le_refl _) _⟩

def bsz (r b t s o : Int) : Int := if validB r b t s o then t * s else 0
theorem bounds {r b t s o : Int} (h : validB r b t s o = true) : 0 ≤ r ∧ r ≤ 16384 ∧ 1 ≤ b ∧ b ≤ 64 ∧ 1 ≤ t ∧ t ≤ 16 ∧ 1 ≤ s ∧ s ≤ 64 ∧ 0 ≤ o ∧ o ≤ 3 := by
  simpa only [validB, decide_eq_true_eq] using h
theorem prod_bounds {r b t s o : Int} (h : validB r b t s o = true) : 1 ≤ t * s ∧ t * s ≤ 1024 ∧ 1 ≤ b * (t * s) ∧ b * (t * s) ≤ 65536 := by
  obtain ⟨_, _, hb1, hb2, ht1, ht2, hs1, hs2, _, _⟩ := bounds h
  have h1 : 1 * 1 ≤ t * s := Int.mul_le_mul ht1 hs1 (by omega) (by omega)
  have h2 : t * s ≤ 16 * 64 := Int.mul_le_mul ht2 hs2 (by omega) (by omega)
  have h3 : 1 * 1 ≤ b * (t * s) := Int.mul_le_mul hb1 (by omega) (by omega) (by omega)
  have h4 : b * (t * s) ≤ 64 * 1024 := Int.mul_le_mul hb2 (by omega) (by omega) (by omega)
  omega

set_option maxHeartbeats 400000 in
theorem bsz_any (r b t s o : Int) (w : World) :
    Calls Try.prog 15 #[geoV r b t s o] w fun e w' => e = .returned (.int .i64 (bsz r b t s o)) ∧ Below w.heap.size w w' := by
  by_cases hv : validB r b t s o = true
  all_goals
    have HV := Lib.hid hv
    first | (have hp := prod_bounds hv; have hb := bounds hv) | skip
    go_enter Try.func15, Try.ntmps15
    go_wp2_with (go_at_call 11; refine (valid_any _ _ _ _ _ _).mono ?_; rintro e w1 ⟨rfl, hb1⟩; have hc1 := below_cells hb1)
    go_ret
    exact ⟨ret_int (by unfold bsz; simp [HV.out]), ((((Below.refl _ _).alloc (Nat.le_refl _) _).trans (hb1.mono (by simp))))⟩
theorem bsz_any_yes (r b t s o : Int) (hv : validB r b t s o = true) (w : World) :
    Calls Try.prog 15 #[geoV r b t s o] w fun e w' => e = .returned (.int .i64 (t * s)) ∧ Below w.heap.size w w' := by
  have := bsz_any r b t s o w
  rwa [show bsz r b t s o = t * s by simp [bsz, hv]] at this

set_option maxHeartbeats 400000 in
theorem rbsz_any (r b t s o : Int) (w : World) :
    Calls Try.prog 16 #[geoV r b t s o] w fun e w' => e = .returned (.int .i64 (bsz r b t s o)) ∧ Below w.heap.size w w' := by
  by_cases hv : validB r b t s o = true
  all_goals
    have HV := Lib.hid hv
    first | (have hp := prod_bounds hv; have hb := bounds hv) | skip
    go_enter Try.func16, Try.ntmps16
    go_wp2_with (go_at_call 12; refine (rvalid_any _ _ _ _ _ _).mono ?_; rintro e w1 ⟨rfl, hb1⟩; have hc1 := below_cells hb1)
    go_ret
    exact ⟨ret_int (by unfold bsz; simp [HV.out]), ((((Below.refl _ _).alloc (Nat.le_refl _) _).trans (hb1.mono (by simp))))⟩
theorem rbsz_any_yes (r b t s o : Int) (hv : validB r b t s o = true) (w : World) :
    Calls Try.prog 16 #[geoV r b t s o] w fun e w' => e = .returned (.int .i64 (t * s)) ∧ Below w.heap.size w w' := by
  have := rbsz_any r b t s o w
  rwa [show bsz r b t s o = t * s by simp [bsz, hv]] at this

def szz (r b t s o : Int) : Int := if validB r b t s o then r + b * (t * s) else 0
set_option maxHeartbeats 400000 in
theorem size_any (r b t s o : Int) (w : World) :
    Calls Try.prog 13 #[geoV r b t s o] w fun e w' => e = .returned (.int .i64 (szz r b t s o)) ∧ Below w.heap.size w w' := by
  by_cases hv : validB r b t s o = true
  · have HV := Lib.hid hv
    have hp := prod_bounds hv; have hb := bounds hv
    go_enter Try.func13, Try.ntmps13
    go_wp2_with (go_at_call 11; refine (valid_any _ _ _ _ _ _).mono ?_; rintro e w1 ⟨rfl, hb1⟩; have hc1 := below_cells hb1)
    have hz : w.heap.size < w1.heap.size := by have := hb1.size; simp at this; omega
    refine wp_region_ext [(0, true), (1, true), (2, true), (3, true), (4, true), (5, false), (6, true), (7, true), (8, true)] (by kernel_rfl) (by kernel_rfl) ?_
    iterate 5 (first
     | (refine ext_move rfl rfl (by rfl) (by rfl) ?_; simp only [Act.put, List.setIfInBounds_toArray, List.set_cons_zero, List.set_cons_succ])
     | (refine ext_assign rfl rfl (by rfl) (by rfl) ?_; simp only [Act.put, List.setIfInBounds_toArray, List.set_cons_zero, List.set_cons_succ])
     | (refine ext_pick_t rfl rfl (by rfl) (by rfl) (by rfl) ?_; simp only [Act.put, List.setIfInBounds_toArray, List.set_cons_zero, List.set_cons_succ])
     | (refine ext_pick_f rfl rfl (by rfl) (by rfl) (by rfl) ?_; simp only [Act.put, List.setIfInBounds_toArray, List.set_cons_zero, List.set_cons_succ])
     | (apply ext_take rfl (by rfl)
        · intro w' hS
          have hSc := hS.cells
          (try simp only [World.size_drew, World.cell?_drew] at hSc)
          go_simp
          (try simp (disch := omega) only [i64_id, ↓IntWalk.iteOmega, Int.tdiv_eq_ediv_of_nonneg, Int.tmod_eq_emod_of_nonneg])
          try rfl
        simp only [Act.put, List.setIfInBounds_toArray, List.set_cons_zero, List.set_cons_succ])
     | (refine ext_pass rfl (by rfl) ?_; simp only [Act.put, List.setIfInBounds_toArray, List.set_cons_zero, List.set_cons_succ]))
    (refine ext_do rfl (by rfl) (fun K hK => ?_)
     go_simp
     go_at_call 15
     refine (bsz_any_yes _ _ _ _ _ HV.out _).mono ?_
     rintro e w2 ⟨rfl, hb2⟩
     refine hK _ _ ((Ext.drew _).trans hb2) ?_
     clear hK K
     (try simp only [Act.put, List.setIfInBounds_toArray, List.set_cons_zero, List.set_cons_succ]))
    iterate 3 (first
     | (refine ext_move rfl rfl (by rfl) (by rfl) ?_; simp only [Act.put, List.setIfInBounds_toArray, List.set_cons_zero, List.set_cons_succ])
     | (refine ext_assign rfl rfl (by rfl) (by rfl) ?_; simp only [Act.put, List.setIfInBounds_toArray, List.set_cons_zero, List.set_cons_succ])
     | (refine ext_pick_t rfl rfl (by rfl) (by rfl) (by rfl) ?_; simp only [Act.put, List.setIfInBounds_toArray, List.set_cons_zero, List.set_cons_succ])
     | (refine ext_pick_f rfl rfl (by rfl) (by rfl) (by rfl) ?_; simp only [Act.put, List.setIfInBounds_toArray, List.set_cons_zero, List.set_cons_succ])
     | (apply ext_take rfl (by rfl)
        · intro w' hS
          have hSc := hS.cells
          (try simp only [World.size_drew, World.cell?_drew] at hSc)
          go_simp
          (try simp (disch := omega) only [i64_id, ↓IntWalk.iteOmega, Int.tdiv_eq_ediv_of_nonneg, Int.tmod_eq_emod_of_nonneg])
          try rfl
        simp only [Act.put, List.setIfInBounds_toArray, List.set_cons_zero, List.set_cons_succ])
     | (refine ext_pass rfl (by rfl) ?_; simp only [Act.put, List.setIfInBounds_toArray, List.set_cons_zero, List.set_cons_succ]))
    refine ext_nil ?_
    go_wp2
    go_ret
    exact ⟨ret_int (by unfold szz; simp [HV.out]), (((Ext.alloc _ _).trans hb1).trans (Ext.drew _)).trans hb2⟩
  · have HV := Lib.hid hv
    go_enter Try.func13, Try.ntmps13
    go_wp2_with (go_at_call 11; refine (valid_any _ _ _ _ _ _).mono ?_; rintro e w1 ⟨rfl, hb1⟩; have hc1 := below_cells hb1)
    go_ret
    exact ⟨ret_int (by unfold szz; simp [HV.out]), (Ext.alloc _ _).trans hb1⟩
theorem size_any_yes (r b t s o : Int) (hv : validB r b t s o = true) (w : World) :
    Calls Try.prog 13 #[geoV r b t s o] w fun e w' => e = .returned (.int .i64 (r + b * (t * s))) ∧ Below w.heap.size w w' := by
  have := size_any r b t s o w
  rwa [show szz r b t s o = r + b * (t * s) by simp [szz, hv]] at this

set_option maxHeartbeats 400000 in
theorem rsize_any (r b t s o : Int) (w : World) :
    Calls Try.prog 14 #[geoV r b t s o] w fun e w' => e = .returned (.int .i64 (szz r b t s o)) ∧ Below w.heap.size w w' := by
  by_cases hv : validB r b t s o = true
  · have HV := Lib.hid hv
    have hp := prod_bounds hv; have hb := bounds hv
    go_enter Try.func14, Try.ntmps14
    go_wp2_with (go_at_call 12; refine (rvalid_any _ _ _ _ _ _).mono ?_; rintro e w1 ⟨rfl, hb1⟩; have hc1 := below_cells hb1)
    have hz : w.heap.size < w1.heap.size := by have := hb1.size; simp at this; omega
    refine wp_region_ext [(0, true), (1, true), (2, true), (3, true), (4, true), (5, false), (6, true), (7, true), (8, true)] (by kernel_rfl) (by kernel_rfl) ?_
    iterate 5 (first
     | (refine ext_move rfl rfl (by rfl) (by rfl) ?_; simp only [Act.put, List.setIfInBounds_toArray, List.set_cons_zero, List.set_cons_succ])
     | (refine ext_assign rfl rfl (by rfl) (by rfl) ?_; simp only [Act.put, List.setIfInBounds_toArray, List.set_cons_zero, List.set_cons_succ])
     | (refine ext_pick_t rfl rfl (by rfl) (by rfl) (by rfl) ?_; simp only [Act.put, List.setIfInBounds_toArray, List.set_cons_zero, List.set_cons_succ])
     | (refine ext_pick_f rfl rfl (by rfl) (by rfl) (by rfl) ?_; simp only [Act.put, List.setIfInBounds_toArray, List.set_cons_zero, List.set_cons_succ])
     | (apply ext_take rfl (by rfl)
        · intro w' hS
          have hSc := hS.cells
          (try simp only [World.size_drew, World.cell?_drew] at hSc)
          go_simp
          (try simp (disch := omega) only [i64_id, ↓IntWalk.iteOmega, Int.tdiv_eq_ediv_of_nonneg, Int.tmod_eq_emod_of_nonneg])
          try rfl
        simp only [Act.put, List.setIfInBounds_toArray, List.set_cons_zero, List.set_cons_succ])
     | (refine ext_pass rfl (by rfl) ?_; simp only [Act.put, List.setIfInBounds_toArray, List.set_cons_zero, List.set_cons_succ]))
    (refine ext_do rfl (by rfl) (fun K hK => ?_)
     go_simp
     go_at_call 16
     refine (rbsz_any_yes _ _ _ _ _ HV.out _).mono ?_
     rintro e w2 ⟨rfl, hb2⟩
     refine hK _ _ ((Ext.drew _).trans hb2) ?_
     clear hK K
     (try simp only [Act.put, List.setIfInBounds_toArray, List.set_cons_zero, List.set_cons_succ]))
    iterate 3 (first
     | (refine ext_move rfl rfl (by rfl) (by rfl) ?_; simp only [Act.put, List.setIfInBounds_toArray, List.set_cons_zero, List.set_cons_succ])
     | (refine ext_assign rfl rfl (by rfl) (by rfl) ?_; simp only [Act.put, List.setIfInBounds_toArray, List.set_cons_zero, List.set_cons_succ])
     | (refine ext_pick_t rfl rfl (by rfl) (by rfl) (by rfl) ?_; simp only [Act.put, List.setIfInBounds_toArray, List.set_cons_zero, List.set_cons_succ])
     | (refine ext_pick_f rfl rfl (by rfl) (by rfl) (by rfl) ?_; simp only [Act.put, List.setIfInBounds_toArray, List.set_cons_zero, List.set_cons_succ])
     | (apply ext_take rfl (by rfl)
        · intro w' hS
          have hSc := hS.cells
          (try simp only [World.size_drew, World.cell?_drew] at hSc)
          go_simp
          (try simp (disch := omega) only [i64_id, ↓IntWalk.iteOmega, Int.tdiv_eq_ediv_of_nonneg, Int.tmod_eq_emod_of_nonneg])
          try rfl
        simp only [Act.put, List.setIfInBounds_toArray, List.set_cons_zero, List.set_cons_succ])
     | (refine ext_pass rfl (by rfl) ?_; simp only [Act.put, List.setIfInBounds_toArray, List.set_cons_zero, List.set_cons_succ]))
    refine ext_nil ?_
    go_wp2
    go_ret
    exact ⟨ret_int (by unfold szz; simp [HV.out]), (((Ext.alloc _ _).trans hb1).trans (Ext.drew _)).trans hb2⟩
  · have HV := Lib.hid hv
    go_enter Try.func14, Try.ntmps14
    go_wp2_with (go_at_call 12; refine (rvalid_any _ _ _ _ _ _).mono ?_; rintro e w1 ⟨rfl, hb1⟩; have hc1 := below_cells hb1)
    go_ret
    exact ⟨ret_int (by unfold szz; simp [HV.out]), (Ext.alloc _ _).trans hb1⟩
theorem rsize_any_yes (r b t s o : Int) (hv : validB r b t s o = true) (w : World) :
    Calls Try.prog 14 #[geoV r b t s o] w fun e w' => e = .returned (.int .i64 (r + b * (t * s))) ∧ Below w.heap.size w w' := by
  have := rsize_any r b t s o w
  rwa [show szz r b t s o = r + b * (t * s) by simp [szz, hv]] at this

end Go.Proofs.Ytfoelkpnhhfgaaa
