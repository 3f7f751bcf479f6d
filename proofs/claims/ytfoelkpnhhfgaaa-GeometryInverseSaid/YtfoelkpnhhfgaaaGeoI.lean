/-
  Chapter 10 (geometry): the walks of GeometryUnion, GeometryInverse.
-/
import Derived.Test.YtfoelkpnhhfgaaaGeoG
namespace Go.Proofs.Ytfoelkpnhhfgaaa
open Go.ChangeShapes Go.WideShapes Go.ChangeAt Go.RowKit
set_option linter.unusedVariables false

theorem szz_yes {r b t s o : Int} (h : validB r b t s o = true) : szz r b t s o = r + b * (t * s) := by simp [szz, h]

set_option maxHeartbeats 1000000 in
theorem geometryUnion_walk (r b t s o a : Int) (w : World) :
    Calls Try.prog 8 #[geoV r b t s o, .int .i64 a] w fun e w' => e = .returned (.bool true) ∧ Below w.heap.size w w' := by
  rcases hv : validB r b t s o with _ | _
  · have HV := Lib.hid hv; clear hv
    go_enter Try.func8, Try.ntmps8
    go_wp2_with fail
    have hz : w.heap.size < (w.alloc (.cells #[.int .i64 r, .int .i64 b, .int .i64 t, .int .i64 s, .int .i64 o] 23)).heap.size := by simp
    generalize hW : w.alloc (.cells #[.int .i64 r, .int .i64 b, .int .i64 t, .int .i64 s, .int .i64 o] 23) = W at *
    have c0 : W.cell? ⟨w.heap.size, 0, none⟩ = some (.int .i64 r) := by rw [← hW]; simp
    have c1 : W.cell? ⟨w.heap.size, 1, none⟩ = some (.int .i64 b) := by rw [← hW]; simp
    have c2 : W.cell? ⟨w.heap.size, 2, none⟩ = some (.int .i64 t) := by rw [← hW]; simp
    have c3 : W.cell? ⟨w.heap.size, 3, none⟩ = some (.int .i64 s) := by rw [← hW]; simp
    have c4 : W.cell? ⟨w.heap.size, 4, none⟩ = some (.int .i64 o) := by rw [← hW]; simp
    have hxW : Ext w W := by rw [← hW]; exact Ext.alloc _ _
    clear hW
    have hx0 := Ext.refl W
    have tok := True.intro
    go_wp2_with (first
      | (have _t := tok; (go_at_call 10; refine (awake_any _).mono ?_; rintro e w1 ⟨rfl, hb1⟩; have hx1 : Ext W w1 := hx0.trans hb1; have hc1 := hx1.cells; have hz1 := Nat.lt_of_lt_of_le hz hx1.below.size); clear tok _t)
      | (go_at_call 12; refine (rvalid_no _ _ _ _ _ HV.out _).mono ?_; rintro e w2 ⟨rfl, hb2⟩; have hx2 : Ext W w2 := hx1.trans hb2; have hc2 := hx2.cells; have hz2 := Nat.lt_of_lt_of_le hz hx2.below.size)
      | (go_at_call 10; refine (awake_any _).mono ?_; rintro e w3 ⟨rfl, hb3⟩; have hx3 : Ext W w3 := hx2.trans hb3; have hc3 := hx3.cells; have hz3 := Nat.lt_of_lt_of_le hz hx3.below.size))
    go_ret
    exact ⟨rfl, hxW.trans hx3⟩
  · have HV := Lib.hid hv
    have hp := prod_bounds hv; have hb := bounds hv; clear hv
    by_cases hr : 0 ≤ a ∧ a < b
    · have hin0 : inS b t s a 0 0 = true := by simp only [inS, decide_eq_true_eq]; omega
      have hin1 : inS b t s a (t - 1) (s - 1) = true := by simp only [inS, decide_eq_true_eq]; omega
      have HA := Lib.hid (adr_in HV.out hin0)
      have HB := Lib.hid (adr_in HV.out hin1)
      have HN := Lib.hid (adr_bounds HV.out hin0)
      have e1 : r + (a * t + 0) * s + 0 = r + a * (t * s) := by rw [Int.add_zero, Int.add_zero, Int.mul_assoc]
      have e2 : r + (a * t + (t - 1)) * s + (s - 1) = r + a * (t * s) + t * s - 1 := by
        have : (a * t + (t - 1)) * s = a * (t * s) + t * s - s := by
          rw [Int.add_mul, Int.sub_mul, Int.mul_assoc, Int.one_mul]; omega
        omega
      have E1 := Lib.hid e1
      have E2 := Lib.hid e2
      have hab : 0 ≤ a * (t * s) ∧ a * (t * s) ≤ 65536 := by
        have h1 := Int.mul_nonneg hr.1 (show 0 ≤ t * s by omega)
        have h2 : a * (t * s) ≤ 64 * 1024 := Int.mul_le_mul (by omega) (by omega) (by omega) (by omega)
        omega
      clear e1 e2 hin0 hin1
      go_enter Try.func8, Try.ntmps8
      go_wp2_with fail
      have hz : w.heap.size < (w.alloc (.cells #[.int .i64 r, .int .i64 b, .int .i64 t, .int .i64 s, .int .i64 o] 23)).heap.size := by simp
      generalize hW : w.alloc (.cells #[.int .i64 r, .int .i64 b, .int .i64 t, .int .i64 s, .int .i64 o] 23) = W at *
      have c0 : W.cell? ⟨w.heap.size, 0, none⟩ = some (.int .i64 r) := by rw [← hW]; simp
      have c1 : W.cell? ⟨w.heap.size, 1, none⟩ = some (.int .i64 b) := by rw [← hW]; simp
      have c2 : W.cell? ⟨w.heap.size, 2, none⟩ = some (.int .i64 t) := by rw [← hW]; simp
      have c3 : W.cell? ⟨w.heap.size, 3, none⟩ = some (.int .i64 s) := by rw [← hW]; simp
      have c4 : W.cell? ⟨w.heap.size, 4, none⟩ = some (.int .i64 o) := by rw [← hW]; simp
      have hxW : Ext w W := by rw [← hW]; exact Ext.alloc _ _
      clear hW
      have hx0 := Ext.refl W
      have tok := True.intro
      go_wp2_with (first
        | (go_at_call 10; refine (awake_any _).mono ?_; rintro e w1 ⟨rfl, hb1⟩; have hx1 : Ext W w1 := hx0.trans hb1; have hc1 := hx1.cells; have hz1 := Nat.lt_of_lt_of_le hz hx1.below.size)
        | (go_at_call 12; refine (rvalid_yes _ _ _ _ _ HV.out _).mono ?_; rintro e w2 ⟨rfl, hb2⟩; have hx2 : Ext W w2 := hx1.trans hb2; have hc2 := hx2.cells; have hz2 := Nat.lt_of_lt_of_le hz hx2.below.size)
        | (go_at_call 15; refine (bsz_any_yes _ _ _ _ _ HV.out _).mono ?_; rintro e w3 ⟨rfl, hb3⟩; have hx3 : Ext W w3 := hx2.trans hb3; have hc3 := hx3.cells; have hz3 := Nat.lt_of_lt_of_le hz hx3.below.size)
        | (have _t := tok; go_at_call 24; refine (address_any _ _ _ _ _ _ _ _ _).mono ?_; rintro e w4 ⟨rfl, hb4⟩; rw [HA.out, E1.out]; have hx4 : Ext W w4 := hx3.trans hb4; have hc4 := hx4.cells; have hz4 := Nat.lt_of_lt_of_le hz hx4.below.size; clear tok _t)
        | (go_at_call 24; refine (address_any _ _ _ _ _ _ _ _ _).mono ?_; rintro e w5 ⟨rfl, hb5⟩; rw [HB.out, E2.out]; have hx5 : Ext W w5 := hx4.trans hb5; have hc5 := hx5.cells; have hz5 := Nat.lt_of_lt_of_le hz hx5.below.size))
      have hxd := hx5.trans (Ext.drew w5)
      refine wp_region_ext [(0, true), (1, true), (2, true), (3, true), (4, true), (5, true), (6, true), (7, true), (8, true), (9, true), (10, true), (11, true), (12, true), (13, true), (14, true), (15, true), (16, true), (17, true), (18, true), (19, true), (20, true), (21, true), (22, true), (23, true), (24, true), (25, true), (27, true), (28, true), (29, true), (30, true), (31, true), (32, true), (33, true), (26, false), (34, true), (35, true), (36, true)] (by kernel_rfl) (by kernel_rfl) ?_
      iterate 33 (first
       | (refine ext_move rfl rfl (by rfl) (by rfl) ?_; simp only [Act.put, List.setIfInBounds_toArray, List.set_cons_zero, List.set_cons_succ])
       | (refine ext_assign rfl rfl (by rfl) (by rfl) ?_; simp only [Act.put, List.setIfInBounds_toArray, List.set_cons_zero, List.set_cons_succ])
       | (refine ext_pick_t rfl rfl (by rfl) (by rfl) (by rfl) ?_; simp only [Act.put, List.setIfInBounds_toArray, List.set_cons_zero, List.set_cons_succ])
       | (refine ext_pick_f rfl rfl (by rfl) (by rfl) (by rfl) ?_; simp only [Act.put, List.setIfInBounds_toArray, List.set_cons_zero, List.set_cons_succ])
       | (apply ext_take rfl (by rfl)
          · intro w' hS
            have hSc := hS.cells
            (try simp only [World.size_drew, World.cell?_drew] at hSc)
            go_simp
            (try simp (disch := omega) only [i64_id, ↓IntWalk.iteOmega, Int.tdiv_eq_ediv_of_nonneg, Int.tmod_eq_emod_of_nonneg])
            try rfl
          simp only [Act.put, List.setIfInBounds_toArray, List.set_cons_zero, List.set_cons_succ])
       | (refine ext_pass rfl (by rfl) ?_; simp only [Act.put, List.setIfInBounds_toArray, List.set_cons_zero, List.set_cons_succ]))
      (refine ext_do rfl (by rfl) (fun K hK => ?_)
       go_simp
       go_at_call 13
       refine (size_any_yes _ _ _ _ _ HV.out _).mono ?_
       rintro e w6 ⟨rfl, hb6⟩
       have hx6 : Ext W w6 := hxd.trans hb6
       have hc6 := hx6.cells
       have hz6 := Nat.lt_of_lt_of_le hz hx6.below.size
       refine hK _ _ (by first | exact hb6 | exact (Ext.drew _).trans hb6) ?_
       clear hK K
       (try simp only [Act.put, List.setIfInBounds_toArray, List.set_cons_zero, List.set_cons_succ]))
      iterate 3 (first
       | (refine ext_move rfl rfl (by rfl) (by rfl) ?_; simp only [Act.put, List.setIfInBounds_toArray, List.set_cons_zero, List.set_cons_succ])
       | (refine ext_assign rfl rfl (by rfl) (by rfl) ?_; simp only [Act.put, List.setIfInBounds_toArray, List.set_cons_zero, List.set_cons_succ])
       | (refine ext_pick_t rfl rfl (by rfl) (by rfl) (by rfl) ?_; simp only [Act.put, List.setIfInBounds_toArray, List.set_cons_zero, List.set_cons_succ])
       | (refine ext_pick_f rfl rfl (by rfl) (by rfl) (by rfl) ?_; simp only [Act.put, List.setIfInBounds_toArray, List.set_cons_zero, List.set_cons_succ])
       | (apply ext_take rfl (by rfl)
          · intro w' hS
            have hSc := hS.cells
            (try simp only [World.size_drew, World.cell?_drew] at hSc)
            go_simp
            (try simp (disch := omega) only [i64_id, ↓IntWalk.iteOmega, Int.tdiv_eq_ediv_of_nonneg, Int.tmod_eq_emod_of_nonneg])
            try rfl
          simp only [Act.put, List.setIfInBounds_toArray, List.set_cons_zero, List.set_cons_succ])
       | (refine ext_pass rfl (by rfl) ?_; simp only [Act.put, List.setIfInBounds_toArray, List.set_cons_zero, List.set_cons_succ]))
      refine ext_nil ?_
      go_wp2
      go_ret
      exact ⟨rfl, hxW.trans hx6⟩
    · have hr' : a < 0 ∨ b ≤ a := by omega
      clear hr
      rcases hr' with hr | hr
      · go_enter Try.func8, Try.ntmps8
        go_wp2_with fail
        have hz : w.heap.size < (w.alloc (.cells #[.int .i64 r, .int .i64 b, .int .i64 t, .int .i64 s, .int .i64 o] 23)).heap.size := by simp
        generalize hW : w.alloc (.cells #[.int .i64 r, .int .i64 b, .int .i64 t, .int .i64 s, .int .i64 o] 23) = W at *
        have c0 : W.cell? ⟨w.heap.size, 0, none⟩ = some (.int .i64 r) := by rw [← hW]; simp
        have c1 : W.cell? ⟨w.heap.size, 1, none⟩ = some (.int .i64 b) := by rw [← hW]; simp
        have c2 : W.cell? ⟨w.heap.size, 2, none⟩ = some (.int .i64 t) := by rw [← hW]; simp
        have c3 : W.cell? ⟨w.heap.size, 3, none⟩ = some (.int .i64 s) := by rw [← hW]; simp
        have c4 : W.cell? ⟨w.heap.size, 4, none⟩ = some (.int .i64 o) := by rw [← hW]; simp
        have hxW : Ext w W := by rw [← hW]; exact Ext.alloc _ _
        clear hW
        have hx0 := Ext.refl W
        have tok := True.intro
        go_wp2_with (first
          | (have _t := tok; (go_at_call 10; refine (awake_any _).mono ?_; rintro e w1 ⟨rfl, hb1⟩; have hx1 : Ext W w1 := hx0.trans hb1; have hc1 := hx1.cells; have hz1 := Nat.lt_of_lt_of_le hz hx1.below.size); clear tok _t)
          | (go_at_call 12; refine (rvalid_yes _ _ _ _ _ HV.out _).mono ?_; rintro e w2 ⟨rfl, hb2⟩; have hx2 : Ext W w2 := hx1.trans hb2; have hc2 := hx2.cells; have hz2 := Nat.lt_of_lt_of_le hz hx2.below.size)
          | (go_at_call 10; refine (awake_any _).mono ?_; rintro e w3 ⟨rfl, hb3⟩; have hx3 : Ext W w3 := hx2.trans hb3; have hc3 := hx3.cells; have hz3 := Nat.lt_of_lt_of_le hz hx3.below.size))
        go_ret
        exact ⟨rfl, hxW.trans hx3⟩
      · have hr2 : ¬ a < 0 := by omega
        go_enter Try.func8, Try.ntmps8
        go_wp2_with fail
        have hz : w.heap.size < (w.alloc (.cells #[.int .i64 r, .int .i64 b, .int .i64 t, .int .i64 s, .int .i64 o] 23)).heap.size := by simp
        generalize hW : w.alloc (.cells #[.int .i64 r, .int .i64 b, .int .i64 t, .int .i64 s, .int .i64 o] 23) = W at *
        have c0 : W.cell? ⟨w.heap.size, 0, none⟩ = some (.int .i64 r) := by rw [← hW]; simp
        have c1 : W.cell? ⟨w.heap.size, 1, none⟩ = some (.int .i64 b) := by rw [← hW]; simp
        have c2 : W.cell? ⟨w.heap.size, 2, none⟩ = some (.int .i64 t) := by rw [← hW]; simp
        have c3 : W.cell? ⟨w.heap.size, 3, none⟩ = some (.int .i64 s) := by rw [← hW]; simp
        have c4 : W.cell? ⟨w.heap.size, 4, none⟩ = some (.int .i64 o) := by rw [← hW]; simp
        have hxW : Ext w W := by rw [← hW]; exact Ext.alloc _ _
        clear hW
        have hx0 := Ext.refl W
        have tok := True.intro
        go_wp2_with (first
          | (have _t := tok; (go_at_call 10; refine (awake_any _).mono ?_; rintro e w1 ⟨rfl, hb1⟩; have hx1 : Ext W w1 := hx0.trans hb1; have hc1 := hx1.cells; have hz1 := Nat.lt_of_lt_of_le hz hx1.below.size); clear tok _t)
          | (go_at_call 12; refine (rvalid_yes _ _ _ _ _ HV.out _).mono ?_; rintro e w2 ⟨rfl, hb2⟩; have hx2 : Ext W w2 := hx1.trans hb2; have hc2 := hx2.cells; have hz2 := Nat.lt_of_lt_of_le hz hx2.below.size)
          | (go_at_call 10; refine (awake_any _).mono ?_; rintro e w3 ⟨rfl, hb3⟩; have hx3 : Ext W w3 := hx2.trans hb3; have hc3 := hx3.cells; have hz3 := Nat.lt_of_lt_of_le hz hx3.below.size))
        go_ret
        exact ⟨rfl, hxW.trans hx3⟩
end Go.Proofs.Ytfoelkpnhhfgaaa
