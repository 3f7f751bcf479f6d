/-
  Chapter 10 (geometry): GeometryValid.
-/
import Derived.Test.YtfoelkpnhhfgaaaGeoF
import Derived.Test.YtfoelkpnhhfgaaaLawKit
namespace Go.Proofs.Ytfoelkpnhhfgaaa
open Go.ChangeShapes Go.WideShapes Go.ChangeAt Go.RowKit
set_option linter.unusedVariables false

theorem own : ownKnob Try.prog.godebug = none := by kernel_rfl
theorem laid : laidOutB Try.prog = true := by kernel_rfl
theorem cellsG : Try.prog.cellTypes Try.prog.depth 23 = some [3, 3, 3, 3, 3] := by kernel_rfl
theorem cellsG5 : Try.prog.cellsOf 23 = 5 := by kernel_rfl

theorem open_geo {w : World} {r : Reach} {base : Nat} {v : Value} (h : Value.okWide Try.prog w r base 23 v) :
    ∃ r b t s o : Int, v = geoV r b t s o := by
  obtain ⟨cs, rfl, hsz, hc⟩ := agg_cells (by kernel_rfl) cellsG cellsG5 h
  have hi : ∀ i (h : i < cs.size), ∃ n, cs[i] = .int .i64 n := by
    intro i h
    obtain ⟨u, hu, hok⟩ := hc i cs[i] (Array.getElem?_eq_getElem h)
    have : u = 3 := by
      have hm := List.mem_of_getElem? hu
      simpa using hm
    subst this
    obtain ⟨n, hn, _⟩ := cell_int Try.underlying3 hok
    exact ⟨n, hn⟩
  have hs : cs.size = 5 := hsz
  obtain ⟨n0, h0⟩ := hi 0 (by omega)
  obtain ⟨n1, h1⟩ := hi 1 (by omega)
  obtain ⟨n2, h2⟩ := hi 2 (by omega)
  obtain ⟨n3, h3⟩ := hi 3 (by omega)
  obtain ⟨n4, h4⟩ := hi 4 (by omega)
  refine ⟨n0, n1, n2, n3, n4, ?_⟩
  show Value.agg cs = Value.agg _
  congr 1
  refine Array.ext (by simpa using hs) fun i h5 h6 => ?_
  match i, h5, h6 with
  | 0, _, _ => exact h0
  | 1, _, _ => exact h1
  | 2, _, _ => exact h2
  | 3, _, _ => exact h3
  | 4, _, _ => exact h4
  | n + 5, h5, _ => omega

set_option maxHeartbeats 1000000 in
theorem geometryValid_walk (r b t s o : Int) (w : World) :
    Calls Try.prog 3 #[geoV r b t s o] w fun e w' => e = .returned (.bool true) ∧ Below w.heap.size w w' := by
  go_enter Try.func3, Try.ntmps3
  go_wp2
  have hz : w.heap.size < (w.alloc (.cells #[.int .i64 r, .int .i64 b, .int .i64 t, .int .i64 s, .int .i64 o] 23)).heap.size := by simp
  generalize hW : w.alloc (.cells #[.int .i64 r, .int .i64 b, .int .i64 t, .int .i64 s, .int .i64 o] 23) = W at *
  have c0 : W.cell? ⟨w.heap.size, 0, none⟩ = some (.int .i64 r) := by rw [← hW]; simp
  have c1 : W.cell? ⟨w.heap.size, 1, none⟩ = some (.int .i64 b) := by rw [← hW]; simp
  have c2 : W.cell? ⟨w.heap.size, 2, none⟩ = some (.int .i64 t) := by rw [← hW]; simp
  have c3 : W.cell? ⟨w.heap.size, 3, none⟩ = some (.int .i64 s) := by rw [← hW]; simp
  have c4 : W.cell? ⟨w.heap.size, 4, none⟩ = some (.int .i64 o) := by rw [← hW]; simp
  have hxW : Ext w W := by rw [← hW]; exact Ext.alloc _ _
  clear hW
  have hx0 := Ext.drew W
  refine wp_region_ext [(0, false), (1, true), (2, true), (4, true), (3, false), (5, false), (6, true), (7, true), (8, true), (9, true), (11, true), (10, false), (12, false), (13, true), (14, true), (15, true), (16, true), (18, true), (17, false), (19, false), (20, true), (21, true), (22, true)] (by kernel_rfl) (by kernel_rfl) ?_
  (refine ext_do rfl (by rfl) (fun K hK => ?_)
   go_simp
   go_at_call 10
   refine (awake_any _).mono ?_
   rintro e w1 ⟨rfl, hb1⟩
   have hx1 : Ext W w1 := hx0.trans hb1
   have hc1 := hx1.cells
   have hz1 := Nat.lt_of_lt_of_le hz hx1.below.size
   refine hK _ _ (by first | exact hb1 | exact (Ext.drew _).trans hb1) ?_
   clear hK K
   (try simp only [Act.put, List.setIfInBounds_toArray, List.set_cons_zero, List.set_cons_succ]))
  iterate 3 (first
   | (refine ext_move rfl rfl (by rfl) (by rfl) ?_; simp only [Act.put, List.setIfInBounds_toArray, List.set_cons_zero, List.set_cons_succ])
   | (refine ext_assign rfl rfl (by rfl) (by rfl) ?_; simp only [Act.put, List.setIfInBounds_toArray, List.set_cons_zero, List.set_cons_succ])
   | (refine ext_pick_t rfl rfl (by rfl) (by rfl) (by rfl) ?_; simp only [Act.put, List.setIfInBounds_toArray, List.set_cons_zero, List.set_cons_succ])
   | (refine ext_pick_f rfl rfl (by rfl) (by rfl) (by rfl) ?_; simp only [Act.put, List.setIfInBounds_toArray, List.set_cons_zero, List.set_cons_succ])
   | (apply ext_take rfl (by rfl)
      · intro w' hS
        have hSc := hS.cells
        (try simp only [World.size_drew, World.cell?_drew] at hSc)
        go_simp
        (try simp (disch := omega) only [i64_id, ↓IntWalk.iteOmega, Int.tdiv_eq_ediv_of_nonneg, Int.tmod_eq_emod_of_nonneg])
        try rfl
      simp only [Act.put, List.setIfInBounds_toArray, List.set_cons_zero, List.set_cons_succ])
   | (refine ext_pass rfl (by rfl) ?_; simp only [Act.put, List.setIfInBounds_toArray, List.set_cons_zero, List.set_cons_succ]))
  (refine ext_do rfl (by rfl) (fun K hK => ?_)
   go_simp
   go_at_call 11
   refine (valid_any _ _ _ _ _ _).mono ?_
   rintro e w2 ⟨rfl, hb2⟩
   have hx2 : Ext W w2 := hx1.trans hb2
   have hc2 := hx2.cells
   have hz2 := Nat.lt_of_lt_of_le hz hx2.below.size
   refine hK _ _ (by first | exact hb2 | exact (Ext.drew _).trans hb2) ?_
   clear hK K
   (try simp only [Act.put, List.setIfInBounds_toArray, List.set_cons_zero, List.set_cons_succ]))
  (refine ext_do rfl (by rfl) (fun K hK => ?_)
   go_simp
   go_at_call 12
   refine (rvalid_any _ _ _ _ _ _).mono ?_
   rintro e w3 ⟨rfl, hb3⟩
   have hx3 : Ext W w3 := hx2.trans hb3
   have hc3 := hx3.cells
   have hz3 := Nat.lt_of_lt_of_le hz hx3.below.size
   refine hK _ _ (by first | exact hb3 | exact (Ext.drew _).trans hb3) ?_
   clear hK K
   (try simp only [Act.put, List.setIfInBounds_toArray, List.set_cons_zero, List.set_cons_succ]))
  iterate 5 (first
   | (refine ext_move rfl rfl (by rfl) (by rfl) ?_; simp only [Act.put, List.setIfInBounds_toArray, List.set_cons_zero, List.set_cons_succ])
   | (refine ext_assign rfl rfl (by rfl) (by rfl) ?_; simp only [Act.put, List.setIfInBounds_toArray, List.set_cons_zero, List.set_cons_succ])
   | (refine ext_pick_t rfl rfl (by rfl) (by rfl) (by rfl) ?_; simp only [Act.put, List.setIfInBounds_toArray, List.set_cons_zero, List.set_cons_succ])
   | (refine ext_pick_f rfl rfl (by rfl) (by rfl) (by rfl) ?_; simp only [Act.put, List.setIfInBounds_toArray, List.set_cons_zero, List.set_cons_succ])
   | (apply ext_take rfl (by rfl)
      · intro w' hS
        have hSc := hS.cells
        (try simp only [World.size_drew, World.cell?_drew] at hSc)
        go_simp
        (try simp (disch := omega) only [i64_id, ↓IntWalk.iteOmega, Int.tdiv_eq_ediv_of_nonneg, Int.tmod_eq_emod_of_nonneg])
        try rfl
      simp only [Act.put, List.setIfInBounds_toArray, List.set_cons_zero, List.set_cons_succ])
   | (refine ext_pass rfl (by rfl) ?_; simp only [Act.put, List.setIfInBounds_toArray, List.set_cons_zero, List.set_cons_succ]))
  (refine ext_do rfl (by rfl) (fun K hK => ?_)
   go_simp
   go_at_call 13
   refine (size_any _ _ _ _ _ _).mono ?_
   rintro e w4 ⟨rfl, hb4⟩
   have hx4 : Ext W w4 := hx3.trans hb4
   have hc4 := hx4.cells
   have hz4 := Nat.lt_of_lt_of_le hz hx4.below.size
   refine hK _ _ (by first | exact hb4 | exact (Ext.drew _).trans hb4) ?_
   clear hK K
   (try simp only [Act.put, List.setIfInBounds_toArray, List.set_cons_zero, List.set_cons_succ]))
  (refine ext_do rfl (by rfl) (fun K hK => ?_)
   go_simp
   go_at_call 14
   refine (rsize_any _ _ _ _ _ _).mono ?_
   rintro e w5 ⟨rfl, hb5⟩
   have hx5 : Ext W w5 := hx4.trans hb5
   have hc5 := hx5.cells
   have hz5 := Nat.lt_of_lt_of_le hz hx5.below.size
   refine hK _ _ (by first | exact hb5 | exact (Ext.drew _).trans hb5) ?_
   clear hK K
   (try simp only [Act.put, List.setIfInBounds_toArray, List.set_cons_zero, List.set_cons_succ]))
  iterate 5 (first
   | (refine ext_move rfl rfl (by rfl) (by rfl) ?_; simp only [Act.put, List.setIfInBounds_toArray, List.set_cons_zero, List.set_cons_succ])
   | (refine ext_assign rfl rfl (by rfl) (by rfl) ?_; simp only [Act.put, List.setIfInBounds_toArray, List.set_cons_zero, List.set_cons_succ])
   | (refine ext_pick_t rfl rfl (by rfl) (by rfl) (by rfl) ?_; simp only [Act.put, List.setIfInBounds_toArray, List.set_cons_zero, List.set_cons_succ])
   | (refine ext_pick_f rfl rfl (by rfl) (by rfl) (by rfl) ?_; simp only [Act.put, List.setIfInBounds_toArray, List.set_cons_zero, List.set_cons_succ])
   | (apply ext_take rfl (by rfl)
      · intro w' hS
        have hSc := hS.cells
        (try simp only [World.size_drew, World.cell?_drew] at hSc)
        go_simp
        (try simp (disch := omega) only [i64_id, ↓IntWalk.iteOmega, Int.tdiv_eq_ediv_of_nonneg, Int.tmod_eq_emod_of_nonneg])
        try rfl
      simp only [Act.put, List.setIfInBounds_toArray, List.set_cons_zero, List.set_cons_succ])
   | (refine ext_pass rfl (by rfl) ?_; simp only [Act.put, List.setIfInBounds_toArray, List.set_cons_zero, List.set_cons_succ]))
  (refine ext_do rfl (by rfl) (fun K hK => ?_)
   go_simp
   go_at_call 15
   refine (bsz_any _ _ _ _ _ _).mono ?_
   rintro e w6 ⟨rfl, hb6⟩
   have hx6 : Ext W w6 := hx5.trans hb6
   have hc6 := hx6.cells
   have hz6 := Nat.lt_of_lt_of_le hz hx6.below.size
   refine hK _ _ (by first | exact hb6 | exact (Ext.drew _).trans hb6) ?_
   clear hK K
   (try simp only [Act.put, List.setIfInBounds_toArray, List.set_cons_zero, List.set_cons_succ]))
  (refine ext_do rfl (by rfl) (fun K hK => ?_)
   go_simp
   go_at_call 16
   refine (rbsz_any _ _ _ _ _ _).mono ?_
   rintro e w7 ⟨rfl, hb7⟩
   have hx7 : Ext W w7 := hx6.trans hb7
   have hc7 := hx7.cells
   have hz7 := Nat.lt_of_lt_of_le hz hx7.below.size
   refine hK _ _ (by first | exact hb7 | exact (Ext.drew _).trans hb7) ?_
   clear hK K
   (try simp only [Act.put, List.setIfInBounds_toArray, List.set_cons_zero, List.set_cons_succ]))
  iterate 3 (first
   | (refine ext_move rfl rfl (by rfl) (by rfl) ?_; simp only [Act.put, List.setIfInBounds_toArray, List.set_cons_zero, List.set_cons_succ])
   | (refine ext_assign rfl rfl (by rfl) (by rfl) ?_; simp only [Act.put, List.setIfInBounds_toArray, List.set_cons_zero, List.set_cons_succ])
   | (refine ext_pick_t rfl rfl (by rfl) (by rfl) (by rfl) ?_; simp only [Act.put, List.setIfInBounds_toArray, List.set_cons_zero, List.set_cons_succ])
   | (refine ext_pick_f rfl rfl (by rfl) (by rfl) (by rfl) ?_; simp only [Act.put, List.setIfInBounds_toArray, List.set_cons_zero, List.set_cons_succ])
   | (apply ext_take rfl (by rfl)
      · intro w' hS
        have hSc := hS.cells
        (try simp only [World.size_drew, World.cell?_drew] at hSc)
        go_simp
        (try simp (disch := omega) only [i64_id, ↓IntWalk.iteOmega, Int.tdiv_eq_ediv_of_nonneg, Int.tmod_eq_emod_of_nonneg])
        try rfl
      simp only [Act.put, List.setIfInBounds_toArray, List.set_cons_zero, List.set_cons_succ])
   | (refine ext_pass rfl (by rfl) ?_; simp only [Act.put, List.setIfInBounds_toArray, List.set_cons_zero, List.set_cons_succ]))
  refine ext_nil ?_
  go_wp2
  go_ret
  exact ⟨rfl, hxW.trans hx7⟩
end Go.Proofs.Ytfoelkpnhhfgaaa
