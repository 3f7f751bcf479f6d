/-
  Chapter 10 (geometry): the walks of GeometryShadow, GeometryLocate, GeometryAddress.
-/
import Derived.Test.YtfoelkpnhhfgaaaGeoG
namespace Go.Proofs.Ytfoelkpnhhfgaaa
open Go.ChangeShapes Go.WideShapes Go.ChangeAt Go.RowKit
set_option linter.unusedVariables false

theorem shw_short (r b t s o a : Int) : (shw r b t s o a).length ≤ maxLen := by
  unfold shw; rw [shwN_length]; unfold shwC
  split
  · rename_i h
    have hv : validB r b t s o = true := by
      rcases h' : validB r b t s o with _ | _
      · rw [loc_no h'] at h; exact absurd h (by decide)
      · rfl
    have := bounds hv
    unfold maxLen; omega
  · unfold maxLen; omega

set_option maxHeartbeats 1000000 in
theorem geometryShadow_walk (r b t s o a : Int) (w : World) :
    Calls Try.prog 4 #[geoV r b t s o, .int .i64 a] w fun e w' => e = .returned (.bool true) ∧ Below w.heap.size w w' := by
  go_enter Try.func4, Try.ntmps4
  go_wp2
  have hz : w.heap.size < (w.alloc (.cells #[.int .i64 r, .int .i64 b, .int .i64 t, .int .i64 s, .int .i64 o] 23)).heap.size := by simp
  generalize hW : w.alloc (.cells #[.int .i64 r, .int .i64 b, .int .i64 t, .int .i64 s, .int .i64 o] 23) = W at *
  have c0 : W.cell? ⟨w.heap.size, 0, none⟩ = some (.int .i64 r) := by rw [← hW]; simp
  have c1 : W.cell? ⟨w.heap.size, 1, none⟩ = some (.int .i64 b) := by rw [← hW]; simp
  have c2 : W.cell? ⟨w.heap.size, 2, none⟩ = some (.int .i64 t) := by rw [← hW]; simp
  have c3 : W.cell? ⟨w.heap.size, 3, none⟩ = some (.int .i64 s) := by rw [← hW]; simp
  have c4 : W.cell? ⟨w.heap.size, 4, none⟩ = some (.int .i64 o) := by rw [← hW]; simp
  have hxW : Ext w W := by rw [← hW]; exact Ext.alloc _ _
  clear hW
  have hx0 := Ext.drew W
  refine wp_region_ext [(0, false), (1, true), (2, true), (3, true), (5, true), (6, true), (4, false), (7, false), (8, false), (9, true), (10, true)] (by kernel_rfl) (by kernel_rfl) ?_
  (refine ext_do rfl (by rfl) (fun K hK => ?_)
   go_simp
   go_at_call 10
   refine (awake_any _).mono ?_
   rintro e w1 ⟨rfl, hb1⟩
   have hx1 : Ext W w1 := hx0.trans hb1
   have hc1 := hx1.cells
   have hz1 := Nat.lt_of_lt_of_le hz hx1.below.size
   refine hK _ _ (by first | exact hb1 | exact (Ext.drew _).trans hb1) ?_
   clear hK K
   (try simp only [Act.put, List.setIfInBounds_toArray, List.set_cons_zero, List.set_cons_succ]))
  iterate 5 (first
   | (refine ext_move rfl rfl (by rfl) ?_; simp only [Act.put, List.setIfInBounds_toArray, List.set_cons_zero, List.set_cons_succ])
   | (apply ext_take rfl (by rfl)
      · intro w' hS
        have hSc := hS.cells
        (try simp only [World.size_drew, World.cell?_drew] at hSc)
        go_simp
        (try simp (disch := omega) only [i64_id, ↓IntWalk.iteOmega, Int.tdiv_eq_ediv_of_nonneg, Int.tmod_eq_emod_of_nonneg])
        try rfl
      simp only [Act.put, List.setIfInBounds_toArray, List.set_cons_zero, List.set_cons_succ]))
  (refine ext_do rfl (by rfl) (fun K hK => ?_)
   go_simp
   go_at_call 18
   refine (shadow_any _ _ _ _ _ _ _).mono ?_
   rintro e w2 ⟨v2, rfl, hs2, hb2⟩
   have hx2 : Ext W w2 := hx1.trans hb2
   have hc2 := hx2.cells
   have hz2 := Nat.lt_of_lt_of_le hz hx2.below.size
   refine hK _ _ (by first | exact hb2 | exact (Ext.drew _).trans hb2) ?_
   clear hK K
   (try simp only [Act.put, List.setIfInBounds_toArray, List.set_cons_zero, List.set_cons_succ]))
  (refine ext_do rfl (by rfl) (fun K hK => ?_)
   go_simp
   go_at_call 19
   refine (rshadow_any _ _ _ _ _ _ _).mono ?_
   rintro e w3 ⟨v3, rfl, hs3, hb3⟩
   have hx3 : Ext W w3 := hx2.trans hb3
   have hc3 := hx3.cells
   have hz3 := Nat.lt_of_lt_of_le hz hx3.below.size
   refine hK _ _ (by first | exact hb3 | exact (Ext.drew _).trans hb3) ?_
   clear hK K
   (try simp only [Act.put, List.setIfInBounds_toArray, List.set_cons_zero, List.set_cons_succ]))
  (refine ext_do rfl (by rfl) (fun K hK => ?_)
   go_simp
   go_at_call 17
   refine (ints_any _ _ _ _ _ (hs2.ext hb3) hs3 (shw_short _ _ _ _ _ _) (shw_short _ _ _ _ _ _)).mono ?_
   rintro e w4 ⟨rfl, hb4⟩
   have hx4 : Ext W w4 := hx3.trans hb4
   have hc4 := hx4.cells
   have hz4 := Nat.lt_of_lt_of_le hz hx4.below.size
   refine hK _ _ (by first | exact hb4 | exact (Ext.drew _).trans hb4) ?_
   clear hK K
   (try simp only [Act.put, List.setIfInBounds_toArray, List.set_cons_zero, List.set_cons_succ]))
  iterate 2 (first
   | (refine ext_move rfl rfl (by rfl) ?_; simp only [Act.put, List.setIfInBounds_toArray, List.set_cons_zero, List.set_cons_succ])
   | (apply ext_take rfl (by rfl)
      · intro w' hS
        have hSc := hS.cells
        (try simp only [World.size_drew, World.cell?_drew] at hSc)
        go_simp
        (try simp (disch := omega) only [i64_id, ↓IntWalk.iteOmega, Int.tdiv_eq_ediv_of_nonneg, Int.tmod_eq_emod_of_nonneg])
        try rfl
      simp only [Act.put, List.setIfInBounds_toArray, List.set_cons_zero, List.set_cons_succ]))
  refine ext_nil ?_
  go_wp2
  go_ret
  exact ⟨rfl, hxW.trans hx4⟩

set_option maxHeartbeats 1000000 in
theorem geometryLocate_walk (r b t s o a : Int) (w : World) :
    Calls Try.prog 6 #[geoV r b t s o, .int .i64 a] w fun e w' => e = .returned (.bool true) ∧ Below w.heap.size w w' := by
  go_enter Try.func6, Try.ntmps6
  go_wp2_with fail
  have hz : w.heap.size < (w.alloc (.cells #[.int .i64 r, .int .i64 b, .int .i64 t, .int .i64 s, .int .i64 o] 23)).heap.size := by simp
  generalize hW : w.alloc (.cells #[.int .i64 r, .int .i64 b, .int .i64 t, .int .i64 s, .int .i64 o] 23) = W at *
  have c0 : W.cell? ⟨w.heap.size, 0, none⟩ = some (.int .i64 r) := by rw [← hW]; simp
  have c1 : W.cell? ⟨w.heap.size, 1, none⟩ = some (.int .i64 b) := by rw [← hW]; simp
  have c2 : W.cell? ⟨w.heap.size, 2, none⟩ = some (.int .i64 t) := by rw [← hW]; simp
  have c3 : W.cell? ⟨w.heap.size, 3, none⟩ = some (.int .i64 s) := by rw [← hW]; simp
  have c4 : W.cell? ⟨w.heap.size, 4, none⟩ = some (.int .i64 o) := by rw [← hW]; simp
  have hxW : Ext w W := by rw [← hW]; exact Ext.alloc _ _
  clear hW
  have hx0 := Ext.refl W
  go_wp2_with (first
    | (go_at_call 21; refine (locate_any _ _ _ _ _ _ _).mono ?_; rintro e w1 ⟨rfl, hb1⟩; have hx1 : Ext W w1 := hx0.trans hb1; have hc1 := hx1.cells; have hz1 := Nat.lt_of_lt_of_le hz hx1.below.size)
    | (go_at_call 20; refine (rlocate_any _ _ _ _ _ _ _).mono ?_; rintro e w2 ⟨rfl, hb2⟩; have hx2 : Ext W w2 := hx1.trans hb2; have hc2 := hx2.cells; have hz2 := Nat.lt_of_lt_of_le hz hx2.below.size))
  have hxd := hx2.trans (Ext.drew w2)
  refine wp_region_ext [(0, false), (1, true), (2, true), (3, true), (4, true), (5, true), (6, true), (7, true), (8, true), (9, true), (10, true), (11, true), (12, true), (13, true), (14, true), (15, true), (16, true), (17, true), (18, true), (19, true), (20, true), (21, true), (22, true), (23, true), (25, true), (26, true), (24, false), (27, false), (28, true), (29, true), (30, true)] (by kernel_rfl) (by kernel_rfl) ?_
  (refine ext_do rfl (by rfl) (fun K hK => ?_)
   go_simp
   go_at_call 10
   refine (awake_any _).mono ?_
   rintro e w3 ⟨rfl, hb3⟩
   have hx3 : Ext W w3 := hxd.trans hb3
   have hc3 := hx3.cells
   have hz3 := Nat.lt_of_lt_of_le hz hx3.below.size
   refine hK _ _ (by first | exact hb3 | exact (Ext.drew _).trans hb3) ?_
   clear hK K
   (try simp only [Act.put, List.setIfInBounds_toArray, List.set_cons_zero, List.set_cons_succ]))
  iterate 25 (first
   | (refine ext_move rfl rfl (by rfl) ?_; simp only [Act.put, List.setIfInBounds_toArray, List.set_cons_zero, List.set_cons_succ])
   | (apply ext_take rfl (by rfl)
      · intro w' hS
        have hSc := hS.cells
        (try simp only [World.size_drew, World.cell?_drew] at hSc)
        go_simp
        (try simp (disch := omega) only [i64_id, ↓IntWalk.iteOmega, Int.tdiv_eq_ediv_of_nonneg, Int.tmod_eq_emod_of_nonneg])
        try rfl
      simp only [Act.put, List.setIfInBounds_toArray, List.set_cons_zero, List.set_cons_succ]))
  (refine ext_do rfl (by rfl) (fun K hK => ?_)
   go_simp
   go_at_call 22
   refine (random_any _ _ _ _ _ _ _).mono ?_
   rintro e w4 ⟨rfl, hb4⟩
   have hx4 : Ext W w4 := hx3.trans hb4
   have hc4 := hx4.cells
   have hz4 := Nat.lt_of_lt_of_le hz hx4.below.size
   refine hK _ _ (by first | exact hb4 | exact (Ext.drew _).trans hb4) ?_
   clear hK K
   (try simp only [Act.put, List.setIfInBounds_toArray, List.set_cons_zero, List.set_cons_succ]))
  (refine ext_do rfl (by rfl) (fun K hK => ?_)
   go_simp
   go_at_call 23
   refine (rrandom_any _ _ _ _ _ _ _).mono ?_
   rintro e w5 ⟨rfl, hb5⟩
   have hx5 : Ext W w5 := hx4.trans hb5
   have hc5 := hx5.cells
   have hz5 := Nat.lt_of_lt_of_le hz hx5.below.size
   refine hK _ _ (by first | exact hb5 | exact (Ext.drew _).trans hb5) ?_
   clear hK K
   (try simp only [Act.put, List.setIfInBounds_toArray, List.set_cons_zero, List.set_cons_succ]))
  iterate 3 (first
   | (refine ext_move rfl rfl (by rfl) ?_; simp only [Act.put, List.setIfInBounds_toArray, List.set_cons_zero, List.set_cons_succ])
   | (apply ext_take rfl (by rfl)
      · intro w' hS
        have hSc := hS.cells
        (try simp only [World.size_drew, World.cell?_drew] at hSc)
        go_simp
        (try simp (disch := omega) only [i64_id, ↓IntWalk.iteOmega, Int.tdiv_eq_ediv_of_nonneg, Int.tmod_eq_emod_of_nonneg])
        try rfl
      simp only [Act.put, List.setIfInBounds_toArray, List.set_cons_zero, List.set_cons_succ]))
  refine ext_nil ?_
  go_wp2
  go_ret
  exact ⟨rfl, hxW.trans hx5⟩

set_option maxHeartbeats 1000000 in
theorem geometryAddress_walk (r b t s o x y z : Int) (w : World) :
    Calls Try.prog 7 #[geoV r b t s o, .agg #[.int .i64 x, .int .i64 y, .int .i64 z]] w fun e w' => e = .returned (.bool true) ∧ Below w.heap.size w w' := by
  go_enter Try.func7, Try.ntmps7
  go_wp2_with fail
  have hz : w.heap.size < ((w.alloc (.cells #[.int .i64 r, .int .i64 b, .int .i64 t, .int .i64 s, .int .i64 o] 23)).alloc (.cells #[.int .i64 x, .int .i64 y, .int .i64 z] 34)).heap.size := by simp; omega
  have hz' : w.heap.size + 1 < ((w.alloc (.cells #[.int .i64 r, .int .i64 b, .int .i64 t, .int .i64 s, .int .i64 o] 23)).alloc (.cells #[.int .i64 x, .int .i64 y, .int .i64 z] 34)).heap.size := by simp
  generalize hW : (w.alloc (.cells #[.int .i64 r, .int .i64 b, .int .i64 t, .int .i64 s, .int .i64 o] 23)).alloc (.cells #[.int .i64 x, .int .i64 y, .int .i64 z] 34) = W at *
  have c0 : W.cell? ⟨w.heap.size, 0, none⟩ = some (.int .i64 r) := by rw [← hW]; simp
  have c1 : W.cell? ⟨w.heap.size, 1, none⟩ = some (.int .i64 b) := by rw [← hW]; simp
  have c2 : W.cell? ⟨w.heap.size, 2, none⟩ = some (.int .i64 t) := by rw [← hW]; simp
  have c3 : W.cell? ⟨w.heap.size, 3, none⟩ = some (.int .i64 s) := by rw [← hW]; simp
  have c4 : W.cell? ⟨w.heap.size, 4, none⟩ = some (.int .i64 o) := by rw [← hW]; simp
  have c5 : W.cell? ⟨w.heap.size + 1, 0, none⟩ = some (.int .i64 x) := by rw [← hW]; simp
  have c6 : W.cell? ⟨w.heap.size + 1, 1, none⟩ = some (.int .i64 y) := by rw [← hW]; simp
  have c7 : W.cell? ⟨w.heap.size + 1, 2, none⟩ = some (.int .i64 z) := by rw [← hW]; simp
  have hxW : Ext w W := by rw [← hW]; exact (Ext.alloc _ _).trans (Ext.alloc _ _)
  clear hW
  have hx0 := Ext.refl W
  go_wp2_with (first
    | (go_at_call 24; refine (address_any _ _ _ _ _ _ _ _ _).mono ?_; rintro e w1 ⟨rfl, hb1⟩; have hx1 : Ext W w1 := hx0.trans hb1; have hc1 := hx1.cells; have hz1 := Nat.lt_of_lt_of_le hz hx1.below.size)
    | (go_at_call 25; refine (raddress_any _ _ _ _ _ _ _ _ _).mono ?_; rintro e w2 ⟨rfl, hb2⟩; have hx2 : Ext W w2 := hx1.trans hb2; have hc2 := hx2.cells; have hz2 := Nat.lt_of_lt_of_le hz hx2.below.size)
    | (go_at_call 10; refine (awake_any _).mono ?_; rintro e w3 ⟨rfl, hb3⟩; have hx3 : Ext W w3 := hx2.trans hb3; have hc3 := hx3.cells; have hz3 := Nat.lt_of_lt_of_le hz hx3.below.size))
  go_ret
  exact ⟨rfl, hxW.trans hx3⟩
end Go.Proofs.Ytfoelkpnhhfgaaa
