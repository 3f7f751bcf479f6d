/-
  Chapter 10 (geometry): the contracts of Random, Locate and Address of package geometry and of its reference.
-/
import Derived.Test.YtfoelkpnhhfgaaaGeo
namespace Go.Proofs.Ytfoelkpnhhfgaaa
open Go.RowKit
set_option linter.unusedVariables false
attribute [local go_sem ↓] Go.wp_at_zero Go.wp_at_succ

theorem within_yes (n lo hi : Int) (w : World) (h : lo ≤ n ∧ n ≤ hi) :
    Calls Try.prog 26 #[.int .i64 n, .int .i64 lo, .int .i64 hi] w fun e w' => e = .returned (.bool true) ∧ w = w' := by
  have := within_any n lo hi w
  rwa [show withinB n lo hi = true by simpa [withinB] using h] at this
theorem within_no (n lo hi : Int) (w : World) (h : ¬ (lo ≤ n ∧ n ≤ hi)) :
    Calls Try.prog 26 #[.int .i64 n, .int .i64 lo, .int .i64 hi] w fun e w' => e = .returned (.bool false) ∧ w = w' := by
  have := within_any n lo hi w
  rwa [show withinB n lo hi = false by simpa [withinB] using h] at this
theorem valid_yes (r b t s o : Int) (hv : validB r b t s o = true) (w : World) :
    Calls Try.prog 11 #[geoV r b t s o] w fun e w' => e = .returned (.bool true) ∧ Below w.heap.size w w' := hv ▸ valid_any r b t s o w
theorem valid_no (r b t s o : Int) (hv : validB r b t s o = false) (w : World) :
    Calls Try.prog 11 #[geoV r b t s o] w fun e w' => e = .returned (.bool false) ∧ Below w.heap.size w w' := hv ▸ valid_any r b t s o w
theorem rvalid_yes (r b t s o : Int) (hv : validB r b t s o = true) (w : World) :
    Calls Try.prog 12 #[geoV r b t s o] w fun e w' => e = .returned (.bool true) ∧ Below w.heap.size w w' := hv ▸ rvalid_any r b t s o w
theorem rvalid_no (r b t s o : Int) (hv : validB r b t s o = false) (w : World) :
    Calls Try.prog 12 #[geoV r b t s o] w fun e w' => e = .returned (.bool false) ∧ Below w.heap.size w w' := hv ▸ rvalid_any r b t s o w

/-- the place of an address: the three numbers and the error -/
structure Loc where
  band : Int
  track : Int
  pos : Int
  err : Int
abbrev Loc.val (l : Loc) : Value := .tuple #[.int .i64 l.band, .int .i64 l.track, .int .i64 l.pos, .int .i64 l.err]
def inB (r b t s o a : Int) : Bool := decide (r ≤ a ∧ a < r + b * (t * s))
def loc (r b t s o a : Int) : Loc :=
  if validB r b t s o = true then (if inB r b t s o a = true then ⟨(a - r) / s / t, (a - r) / s % t, (a - r) % s, 0⟩ else ⟨0, 0, 0, 2⟩) else ⟨0, 0, 0, 1⟩
theorem loc_no {r b t s o a : Int} (h : validB r b t s o = false) : loc r b t s o a = ⟨0, 0, 0, 1⟩ := by simp [loc, h]
theorem loc_out {r b t s o a : Int} (h : validB r b t s o = true) (h2 : inB r b t s o a = false) : loc r b t s o a = ⟨0, 0, 0, 2⟩ := by simp [loc, h, h2]
theorem loc_in {r b t s o a : Int} (h : validB r b t s o = true) (h2 : inB r b t s o a = true) : loc r b t s o a = ⟨(a - r) / s / t, (a - r) / s % t, (a - r) % s, 0⟩ := by simp [loc, h, h2]

theorem div_bounds {n s : Int} (h0 : 0 ≤ n) (hs : 1 ≤ s) : 0 ≤ n / s ∧ n / s ≤ n ∧ 0 ≤ n % s ∧ n % s < s := by
  refine ⟨Int.ediv_nonneg h0 (by omega), Int.ediv_le_self _ h0, Int.emod_nonneg _ (by omega), Int.emod_lt_of_pos _ (by omega)⟩

set_option maxHeartbeats 800000 in
theorem locate_any (r b t s o a : Int) (w : World) :
    Calls Try.prog 21 #[geoV r b t s o, .int .i64 a] w fun e w' => e = .returned (loc r b t s o a).val ∧ Below w.heap.size w w' := by
  rcases hv : validB r b t s o with _ | _
  · have HV := Lib.hid hv; clear hv
    go_enter Try.func21, Try.ntmps21
    go_wp2_with (go_at_call 11; refine (valid_no _ _ _ _ _ HV.out _).mono ?_; rintro e w1 ⟨rfl, hb1⟩; have hc1 := below_cells hb1)
    ((try simp only [Exit.inBlock, Exit.then]); refine bodyPost_ret (results_tmp4 rfl _ _ _) rfl ?_)
    rw [loc_no HV.out]
    exact ⟨rfl, (Ext.alloc _ _).trans hb1⟩
  · have HV := Lib.hid hv
    have hp := prod_bounds hv; have hb := bounds hv; clear hv
    rcases hi : inB r b t s o a with _ | _
    · have HI := Lib.hid hi
      have hj : ¬ (r ≤ a ∧ a < r + b * (t * s)) := by simpa only [inB, decide_eq_false_iff_not] using hi
      have HJ := Lib.hid hj
      clear hi hj
      go_enter Try.func21, Try.ntmps21
      go_wp2_with (go_at_call 11; refine (valid_yes _ _ _ _ _ HV.out _).mono ?_; rintro e w1 ⟨rfl, hb1⟩; have hc1 := below_cells hb1)
      have hz : w.heap.size < w1.heap.size := by have := hb1.size; simp at this; omega
      refine wp_region_ext [(0, true), (1, true), (2, true), (3, true), (4, false), (5, true), (6, false), (7, true), (8, true)] (by kernel_rfl) (by kernel_rfl) ?_
      iterate 4 (first
       | (refine ext_move rfl rfl (by rfl) (by rfl) ?_; simp only [Act.put, List.setIfInBounds_toArray, List.set_cons_zero, List.set_cons_succ])
       | (refine ext_assign rfl rfl (by rfl) (by rfl) ?_; simp only [Act.put, List.setIfInBounds_toArray, List.set_cons_zero, List.set_cons_succ])
       | (refine ext_pick_t rfl rfl (by rfl) (by rfl) (by rfl) ?_; simp only [Act.put, List.setIfInBounds_toArray, List.set_cons_zero, List.set_cons_succ])
       | (refine ext_pick_f rfl rfl (by rfl) (by rfl) (by rfl) ?_; simp only [Act.put, List.setIfInBounds_toArray, List.set_cons_zero, List.set_cons_succ])
       | (apply ext_take rfl (by rfl)
          · intro w' hS
            have hSc := hS.cells
            (try simp only [World.size_drew, World.cell?_drew] at hSc)
            go_simp
            (try simp (disch := omega) only [i64_id, ↓IntWalk.iteOmega, Int.tdiv_eq_ediv_of_nonneg, Int.tmod_eq_emod_of_nonneg])
            try rfl
          simp only [Act.put, List.setIfInBounds_toArray, List.set_cons_zero, List.set_cons_succ])
       | (refine ext_pass rfl (by rfl) ?_; simp only [Act.put, List.setIfInBounds_toArray, List.set_cons_zero, List.set_cons_succ]))
      (refine ext_do rfl (by rfl) (fun K hK => ?_)
       go_simp
       go_at_call 13
       refine (size_any_yes _ _ _ _ _ HV.out _).mono ?_
       rintro e w2 ⟨rfl, hb2⟩
       refine hK _ _ ((Ext.drew _).trans hb2) ?_
       clear hK K
       (try simp only [Act.put, List.setIfInBounds_toArray, List.set_cons_zero, List.set_cons_succ]))
      iterate 1 (first
       | (refine ext_move rfl rfl (by rfl) (by rfl) ?_; simp only [Act.put, List.setIfInBounds_toArray, List.set_cons_zero, List.set_cons_succ])
       | (refine ext_assign rfl rfl (by rfl) (by rfl) ?_; simp only [Act.put, List.setIfInBounds_toArray, List.set_cons_zero, List.set_cons_succ])
       | (refine ext_pick_t rfl rfl (by rfl) (by rfl) (by rfl) ?_; simp only [Act.put, List.setIfInBounds_toArray, List.set_cons_zero, List.set_cons_succ])
       | (refine ext_pick_f rfl rfl (by rfl) (by rfl) (by rfl) ?_; simp only [Act.put, List.setIfInBounds_toArray, List.set_cons_zero, List.set_cons_succ])
       | (apply ext_take rfl (by rfl)
          · intro w' hS
            have hSc := hS.cells
            (try simp only [World.size_drew, World.cell?_drew] at hSc)
            go_simp
            (try simp (disch := omega) only [i64_id, ↓IntWalk.iteOmega, Int.tdiv_eq_ediv_of_nonneg, Int.tmod_eq_emod_of_nonneg])
            try rfl
          simp only [Act.put, List.setIfInBounds_toArray, List.set_cons_zero, List.set_cons_succ])
       | (refine ext_pass rfl (by rfl) ?_; simp only [Act.put, List.setIfInBounds_toArray, List.set_cons_zero, List.set_cons_succ]))
      (refine ext_do rfl (by rfl) (fun K hK => ?_)
       go_simp
       go_at_call 26
       refine (within_no _ _ _ _ (by have := HJ.out; omega)).mono ?_
       rintro e w3 ⟨rfl, rfl⟩
       refine hK _ _ (Ext.refl _) ?_
       clear hK K
       (try simp only [Act.put, List.setIfInBounds_toArray, List.set_cons_zero, List.set_cons_succ]))
      iterate 2 (first
       | (refine ext_move rfl rfl (by rfl) (by rfl) ?_; simp only [Act.put, List.setIfInBounds_toArray, List.set_cons_zero, List.set_cons_succ])
       | (refine ext_assign rfl rfl (by rfl) (by rfl) ?_; simp only [Act.put, List.setIfInBounds_toArray, List.set_cons_zero, List.set_cons_succ])
       | (refine ext_pick_t rfl rfl (by rfl) (by rfl) (by rfl) ?_; simp only [Act.put, List.setIfInBounds_toArray, List.set_cons_zero, List.set_cons_succ])
       | (refine ext_pick_f rfl rfl (by rfl) (by rfl) (by rfl) ?_; simp only [Act.put, List.setIfInBounds_toArray, List.set_cons_zero, List.set_cons_succ])
       | (apply ext_take rfl (by rfl)
          · intro w' hS
            have hSc := hS.cells
            (try simp only [World.size_drew, World.cell?_drew] at hSc)
            go_simp
            (try simp (disch := omega) only [i64_id, ↓IntWalk.iteOmega, Int.tdiv_eq_ediv_of_nonneg, Int.tmod_eq_emod_of_nonneg])
            try rfl
          simp only [Act.put, List.setIfInBounds_toArray, List.set_cons_zero, List.set_cons_succ])
       | (refine ext_pass rfl (by rfl) ?_; simp only [Act.put, List.setIfInBounds_toArray, List.set_cons_zero, List.set_cons_succ]))
      refine ext_nil ?_
      go_wp2
      ((try simp only [Exit.inBlock, Exit.then]); refine bodyPost_ret (results_tmp4 rfl _ _ _) rfl ?_)
      rw [loc_out HV.out HI.out]
      exact ⟨rfl, (((Ext.alloc _ _).trans hb1).trans (Ext.drew _)).trans hb2⟩
    · have HI := Lib.hid hi
      have hj : r ≤ a ∧ a < r + b * (t * s) := by simpa only [inB, decide_eq_true_eq] using hi
      have hn : 0 ≤ a - r := by omega
      have hd := div_bounds hn (show 1 ≤ s by omega)
      have hd2 := div_bounds hd.1 (show 1 ≤ t by omega)
      clear hi
      go_enter Try.func21, Try.ntmps21
      go_wp2_with (go_at_call 11; refine (valid_yes _ _ _ _ _ HV.out _).mono ?_; rintro e w1 ⟨rfl, hb1⟩; have hc1 := below_cells hb1)
      have hz : w.heap.size < w1.heap.size := by have := hb1.size; simp at this; omega
      refine wp_region_ext [(0, true), (1, true), (2, true), (3, true), (4, false), (5, true), (6, false), (7, true), (8, true)] (by kernel_rfl) (by kernel_rfl) ?_
      iterate 4 (first
       | (refine ext_move rfl rfl (by rfl) (by rfl) ?_; simp only [Act.put, List.setIfInBounds_toArray, List.set_cons_zero, List.set_cons_succ])
       | (refine ext_assign rfl rfl (by rfl) (by rfl) ?_; simp only [Act.put, List.setIfInBounds_toArray, List.set_cons_zero, List.set_cons_succ])
       | (refine ext_pick_t rfl rfl (by rfl) (by rfl) (by rfl) ?_; simp only [Act.put, List.setIfInBounds_toArray, List.set_cons_zero, List.set_cons_succ])
       | (refine ext_pick_f rfl rfl (by rfl) (by rfl) (by rfl) ?_; simp only [Act.put, List.setIfInBounds_toArray, List.set_cons_zero, List.set_cons_succ])
       | (apply ext_take rfl (by rfl)
          · intro w' hS
            have hSc := hS.cells
            (try simp only [World.size_drew, World.cell?_drew] at hSc)
            go_simp
            (try simp (disch := omega) only [i64_id, ↓IntWalk.iteOmega, Int.tdiv_eq_ediv_of_nonneg, Int.tmod_eq_emod_of_nonneg])
            try rfl
          simp only [Act.put, List.setIfInBounds_toArray, List.set_cons_zero, List.set_cons_succ])
       | (refine ext_pass rfl (by rfl) ?_; simp only [Act.put, List.setIfInBounds_toArray, List.set_cons_zero, List.set_cons_succ]))
      (refine ext_do rfl (by rfl) (fun K hK => ?_)
       go_simp
       go_at_call 13
       refine (size_any_yes _ _ _ _ _ HV.out _).mono ?_
       rintro e w2 ⟨rfl, hb2⟩
       refine hK _ _ ((Ext.drew _).trans hb2) ?_
       clear hK K
       (try simp only [Act.put, List.setIfInBounds_toArray, List.set_cons_zero, List.set_cons_succ]))
      iterate 1 (first
       | (refine ext_move rfl rfl (by rfl) (by rfl) ?_; simp only [Act.put, List.setIfInBounds_toArray, List.set_cons_zero, List.set_cons_succ])
       | (refine ext_assign rfl rfl (by rfl) (by rfl) ?_; simp only [Act.put, List.setIfInBounds_toArray, List.set_cons_zero, List.set_cons_succ])
       | (refine ext_pick_t rfl rfl (by rfl) (by rfl) (by rfl) ?_; simp only [Act.put, List.setIfInBounds_toArray, List.set_cons_zero, List.set_cons_succ])
       | (refine ext_pick_f rfl rfl (by rfl) (by rfl) (by rfl) ?_; simp only [Act.put, List.setIfInBounds_toArray, List.set_cons_zero, List.set_cons_succ])
       | (apply ext_take rfl (by rfl)
          · intro w' hS
            have hSc := hS.cells
            (try simp only [World.size_drew, World.cell?_drew] at hSc)
            go_simp
            (try simp (disch := omega) only [i64_id, ↓IntWalk.iteOmega, Int.tdiv_eq_ediv_of_nonneg, Int.tmod_eq_emod_of_nonneg])
            try rfl
          simp only [Act.put, List.setIfInBounds_toArray, List.set_cons_zero, List.set_cons_succ])
       | (refine ext_pass rfl (by rfl) ?_; simp only [Act.put, List.setIfInBounds_toArray, List.set_cons_zero, List.set_cons_succ]))
      (refine ext_do rfl (by rfl) (fun K hK => ?_)
       go_simp
       go_at_call 26
       refine (within_yes _ _ _ _ (by omega)).mono ?_
       rintro e w3 ⟨rfl, rfl⟩
       refine hK _ _ (Ext.refl _) ?_
       clear hK K
       (try simp only [Act.put, List.setIfInBounds_toArray, List.set_cons_zero, List.set_cons_succ]))
      iterate 2 (first
       | (refine ext_move rfl rfl (by rfl) (by rfl) ?_; simp only [Act.put, List.setIfInBounds_toArray, List.set_cons_zero, List.set_cons_succ])
       | (refine ext_assign rfl rfl (by rfl) (by rfl) ?_; simp only [Act.put, List.setIfInBounds_toArray, List.set_cons_zero, List.set_cons_succ])
       | (refine ext_pick_t rfl rfl (by rfl) (by rfl) (by rfl) ?_; simp only [Act.put, List.setIfInBounds_toArray, List.set_cons_zero, List.set_cons_succ])
       | (refine ext_pick_f rfl rfl (by rfl) (by rfl) (by rfl) ?_; simp only [Act.put, List.setIfInBounds_toArray, List.set_cons_zero, List.set_cons_succ])
       | (apply ext_take rfl (by rfl)
          · intro w' hS
            have hSc := hS.cells
            (try simp only [World.size_drew, World.cell?_drew] at hSc)
            go_simp
            (try simp (disch := omega) only [i64_id, ↓IntWalk.iteOmega, Int.tdiv_eq_ediv_of_nonneg, Int.tmod_eq_emod_of_nonneg])
            try rfl
          simp only [Act.put, List.setIfInBounds_toArray, List.set_cons_zero, List.set_cons_succ])
       | (refine ext_pass rfl (by rfl) ?_; simp only [Act.put, List.setIfInBounds_toArray, List.set_cons_zero, List.set_cons_succ]))
      refine ext_nil ?_
      have hz2 : w.heap.size < w2.heap.size := by have := hb2.size; simp at this; omega
      have hc2 := ((Ext.drew w1).trans hb2).cells
      go_wp2
      refine wp_region_ext [(0, true), (1, true), (2, true), (3, true), (4, true), (5, true), (6, true), (7, true), (8, true), (9, true)] (by kernel_rfl) (by kernel_rfl) ?_
      iterate 10 (first
       | (refine ext_move rfl rfl (by rfl) (by rfl) ?_; simp only [Act.put, List.setIfInBounds_toArray, List.set_cons_zero, List.set_cons_succ])
       | (refine ext_assign rfl rfl (by rfl) (by rfl) ?_; simp only [Act.put, List.setIfInBounds_toArray, List.set_cons_zero, List.set_cons_succ])
       | (refine ext_pick_t rfl rfl (by rfl) (by rfl) (by rfl) ?_; simp only [Act.put, List.setIfInBounds_toArray, List.set_cons_zero, List.set_cons_succ])
       | (refine ext_pick_f rfl rfl (by rfl) (by rfl) (by rfl) ?_; simp only [Act.put, List.setIfInBounds_toArray, List.set_cons_zero, List.set_cons_succ])
       | (apply ext_take rfl (by rfl)
          · intro w' hS
            have hSc := hS.cells
            (try simp only [World.size_drew, World.cell?_drew] at hSc)
            go_simp
            (try simp (disch := omega) only [i64_id, ↓IntWalk.iteOmega, Int.tdiv_eq_ediv_of_nonneg, Int.tmod_eq_emod_of_nonneg])
            try rfl
          simp only [Act.put, List.setIfInBounds_toArray, List.set_cons_zero, List.set_cons_succ])
       | (refine ext_pass rfl (by rfl) ?_; simp only [Act.put, List.setIfInBounds_toArray, List.set_cons_zero, List.set_cons_succ]))
      refine ext_nil ?_
      go_wp2
      refine wp_region_ext [(0, true), (1, true), (2, true), (3, true), (4, true), (5, true), (6, true), (7, true), (8, true), (9, true), (10, true), (11, true), (12, true)] (by kernel_rfl) (by kernel_rfl) ?_
      iterate 13 (first
       | (refine ext_move rfl rfl (by rfl) (by rfl) ?_; simp only [Act.put, List.setIfInBounds_toArray, List.set_cons_zero, List.set_cons_succ])
       | (refine ext_assign rfl rfl (by rfl) (by rfl) ?_; simp only [Act.put, List.setIfInBounds_toArray, List.set_cons_zero, List.set_cons_succ])
       | (refine ext_pick_t rfl rfl (by rfl) (by rfl) (by rfl) ?_; simp only [Act.put, List.setIfInBounds_toArray, List.set_cons_zero, List.set_cons_succ])
       | (refine ext_pick_f rfl rfl (by rfl) (by rfl) (by rfl) ?_; simp only [Act.put, List.setIfInBounds_toArray, List.set_cons_zero, List.set_cons_succ])
       | (apply ext_take rfl (by rfl)
          · intro w' hS
            have hSc := hS.cells
            (try simp only [World.size_drew, World.cell?_drew] at hSc)
            go_simp
            (try simp (disch := omega) only [i64_id, ↓IntWalk.iteOmega, Int.tdiv_eq_ediv_of_nonneg, Int.tmod_eq_emod_of_nonneg])
            try rfl
          simp only [Act.put, List.setIfInBounds_toArray, List.set_cons_zero, List.set_cons_succ])
       | (refine ext_pass rfl (by rfl) ?_; simp only [Act.put, List.setIfInBounds_toArray, List.set_cons_zero, List.set_cons_succ]))
      refine ext_nil ?_
      go_wp2
      ((try simp only [Exit.inBlock, Exit.then]); refine bodyPost_ret (results_tmp4 rfl _ _ _) rfl ?_)
      rw [loc_in HV.out HI.out]
      exact ⟨rfl, (((((Ext.alloc _ _).trans hb1).trans (Ext.drew _)).trans hb2).trans (Ext.drew _)).trans (Ext.drew _)⟩

theorem quo_comm {n t s : Int} (hs : 0 ≤ s) : n / (t * s) = n / s / t := by
  rw [Int.mul_comm, Int.ediv_ediv_of_nonneg hs]

set_option maxHeartbeats 800000 in
theorem rlocate_any (r b t s o a : Int) (w : World) :
    Calls Try.prog 20 #[geoV r b t s o, .int .i64 a] w fun e w' => e = .returned (loc r b t s o a).val ∧ Below w.heap.size w w' := by
  rcases hv : validB r b t s o with _ | _
  · have HV := Lib.hid hv; clear hv
    go_enter Try.func20, Try.ntmps20
    go_wp2_with (go_at_call 12; refine (rvalid_no _ _ _ _ _ HV.out _).mono ?_; rintro e w1 ⟨rfl, hb1⟩; have hc1 := below_cells hb1)
    ((try simp only [Exit.inBlock, Exit.then]); refine bodyPost_ret (results_tmp4 rfl _ _ _) rfl ?_)
    rw [loc_no HV.out]
    exact ⟨rfl, (Ext.alloc _ _).trans hb1⟩
  · have HV := Lib.hid hv
    have hp := prod_bounds hv; have hb := bounds hv; clear hv
    rcases hi : inB r b t s o a with _ | _
    · have HI := Lib.hid hi
      have hj : ¬ (r ≤ a ∧ a < r + b * (t * s)) := by simpa only [inB, decide_eq_false_iff_not] using hi
      have HJ := Lib.hid hj
      clear hi
      rcases Int.lt_or_le a r with hl | hl
      · clear hj
        go_enter Try.func20, Try.ntmps20
        go_wp2_with (go_at_call 12; refine (rvalid_yes _ _ _ _ _ HV.out _).mono ?_; rintro e w1 ⟨rfl, hb1⟩; have hc1 := below_cells hb1)
        ((try simp only [Exit.inBlock, Exit.then]); refine bodyPost_ret (results_tmp4 rfl _ _ _) rfl ?_)
        rw [loc_out HV.out HI.out]
        exact ⟨rfl, (Ext.alloc _ _).trans hb1⟩
      · have hg : r + b * (t * s) ≤ a := by omega
        clear hj
        go_enter Try.func20, Try.ntmps20
        go_wp2_with (first
          | (go_at_call 12; refine (rvalid_yes _ _ _ _ _ HV.out _).mono ?_; rintro e w1 ⟨rfl, hb1⟩; have hc1 := below_cells hb1; have hz : w.heap.size < w1.heap.size := (by have := hb1.size; simp at this; omega))
          | (go_at_call 14; refine (rsize_any_yes _ _ _ _ _ HV.out _).mono ?_; rintro e w2 ⟨rfl, hb2⟩; have hc2 := below_cells hb2))
        ((try simp only [Exit.inBlock, Exit.then]); refine bodyPost_ret (results_tmp4 rfl _ _ _) rfl ?_)
        rw [loc_out HV.out HI.out]
        exact ⟨rfl, ((Ext.alloc _ _).trans hb1).trans hb2⟩
    · have HI := Lib.hid hi
      have hj : r ≤ a ∧ a < r + b * (t * s) := by simpa only [inB, decide_eq_true_eq] using hi
      have hn : 0 ≤ a - r := by omega
      have hd := div_bounds hn (show 1 ≤ s by omega)
      have hd2 := div_bounds hd.1 (show 1 ≤ t by omega)
      have hd3 := div_bounds hn hp.1
      have hq : Hid ((a - r) / (t * s) = (a - r) / s / t) := quo_comm (by omega)
      clear hi
      go_enter Try.func20, Try.ntmps20
      go_wp2_with (first
        | (go_at_call 12; refine (rvalid_yes _ _ _ _ _ HV.out _).mono ?_; rintro e w1 ⟨rfl, hb1⟩; have hc1 := below_cells hb1; have hz : w.heap.size < w1.heap.size := (by have := hb1.size; simp at this; omega))
        | (go_at_call 14; refine (rsize_any_yes _ _ _ _ _ HV.out _).mono ?_; rintro e w2 ⟨rfl, hb2⟩; have hc2 := below_cells hb2; have hz2 : w.heap.size < w2.heap.size := (by have := hb2.size; omega)))
      refine wp_region_ext [(0, true), (1, true), (4, true), (5, true), (6, true), (7, true), (8, true), (9, true), (10, true), (11, true), (12, true), (13, true), (14, true), (2, false), (3, true), (15, true), (16, true), (17, true), (18, true)] (by kernel_rfl) (by kernel_rfl) ?_
      iterate 13 (first
       | (refine ext_move rfl rfl (by rfl) (by rfl) ?_; simp only [Act.put, List.setIfInBounds_toArray, List.set_cons_zero, List.set_cons_succ])
       | (refine ext_assign rfl rfl (by rfl) (by rfl) ?_; simp only [Act.put, List.setIfInBounds_toArray, List.set_cons_zero, List.set_cons_succ])
       | (refine ext_pick_t rfl rfl (by rfl) (by rfl) (by rfl) ?_; simp only [Act.put, List.setIfInBounds_toArray, List.set_cons_zero, List.set_cons_succ])
       | (refine ext_pick_f rfl rfl (by rfl) (by rfl) (by rfl) ?_; simp only [Act.put, List.setIfInBounds_toArray, List.set_cons_zero, List.set_cons_succ])
       | (apply ext_take rfl (by rfl)
          · intro w' hS
            have hSc := hS.cells
            (try simp only [World.size_drew, World.cell?_drew] at hSc)
            go_simp
            (try simp (disch := omega) only [i64_id, ↓IntWalk.iteOmega, Int.tdiv_eq_ediv_of_nonneg, Int.tmod_eq_emod_of_nonneg])
            try rfl
          simp only [Act.put, List.setIfInBounds_toArray, List.set_cons_zero, List.set_cons_succ])
       | (refine ext_pass rfl (by rfl) ?_; simp only [Act.put, List.setIfInBounds_toArray, List.set_cons_zero, List.set_cons_succ]))
      (refine ext_do rfl (by rfl) (fun K hK => ?_)
       go_simp
       go_at_call 16
       refine (rbsz_any_yes _ _ _ _ _ HV.out _).mono ?_
       rintro e w3 ⟨rfl, hb3⟩
       refine hK _ _ ((Ext.drew _).trans hb3) ?_
       clear hK K
       (try simp only [Act.put, List.setIfInBounds_toArray, List.set_cons_zero, List.set_cons_succ]))
      iterate 5 (first
       | (refine ext_move rfl rfl (by rfl) (by rfl) ?_; simp only [Act.put, List.setIfInBounds_toArray, List.set_cons_zero, List.set_cons_succ])
       | (refine ext_assign rfl rfl (by rfl) (by rfl) ?_; simp only [Act.put, List.setIfInBounds_toArray, List.set_cons_zero, List.set_cons_succ])
       | (refine ext_pick_t rfl rfl (by rfl) (by rfl) (by rfl) ?_; simp only [Act.put, List.setIfInBounds_toArray, List.set_cons_zero, List.set_cons_succ])
       | (refine ext_pick_f rfl rfl (by rfl) (by rfl) (by rfl) ?_; simp only [Act.put, List.setIfInBounds_toArray, List.set_cons_zero, List.set_cons_succ])
       | (apply ext_take rfl (by rfl)
          · intro w' hS
            have hSc := hS.cells
            (try simp only [World.size_drew, World.cell?_drew] at hSc)
            go_simp
            (try simp (disch := omega) only [i64_id, ↓IntWalk.iteOmega, Int.tdiv_eq_ediv_of_nonneg, Int.tmod_eq_emod_of_nonneg])
            try rfl
          simp only [Act.put, List.setIfInBounds_toArray, List.set_cons_zero, List.set_cons_succ])
       | (refine ext_pass rfl (by rfl) ?_; simp only [Act.put, List.setIfInBounds_toArray, List.set_cons_zero, List.set_cons_succ]))
      refine ext_nil ?_
      go_wp2
      ((try simp only [Exit.inBlock, Exit.then]); refine bodyPost_ret (results_tmp4 rfl _ _ _) rfl ?_)
      rw [loc_in HV.out HI.out, ← hq.out]
      exact ⟨rfl, ((((Ext.alloc _ _).trans hb1).trans hb2).trans (Ext.drew _)).trans hb3⟩
end Go.Proofs.Ytfoelkpnhhfgaaa
