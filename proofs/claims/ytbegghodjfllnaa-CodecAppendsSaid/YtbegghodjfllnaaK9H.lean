/-
  Chapter 9 (codec): the walk of CodecAppends.
-/
import Derived.Test.YtbegghodjfllnaaK9G
namespace Go.Proofs.Ytbegghodjfllnaa
open Go.RowKit
set_option linter.unusedVariables false
attribute [local go_sem] eq_strB

set_option maxHeartbeats 2000000 in
theorem codecAppends_walk (v vx : Value) (l lx : List (BitVec 8)) (u : Nat) (n : Int) (x0 x1 x2 x3 x4 x5 x6 x7 : BitVec 8) (w : World) (hl : l.length ≤ maxLen) (hlx : lx.length ≤ maxLen) (hu : u < 18446744073709551616) (hn : -9223372036854775808 ≤ n ∧ n ≤ 9223372036854775807)
    (h : SliceAt encB w v l) (hx : SliceAt encB w vx lx) :
    Calls Try.prog 4 #[v, .agg #[.int .u64 u, .int .i64 n, vx, encB x0, encB x1, encB x2, encB x3, encB x4, encB x5, encB x6, encB x7]] w fun e w' => e = .returned (.bool true) ∧ Below w.heap.size w w' := by
  have HA := Lib.hid h
  have HX := Lib.hid hx
  have HU := Lib.hid hu
  have HNB := Lib.hid hn
  unfold maxLen at hl hlx
  obtain ⟨ad, cap, rfl, _, _⟩ := h
  obtain ⟨adx, capx, rfl, _, _⟩ := hx
  go_enter Try.func4, Try.ntmps4
  go_wp2_with fail
  have hz : w.heap.size < (w.alloc (.cells #[.int .u64 u, .int .i64 n, .slice adx lx.length capx, encB x0, encB x1, encB x2, encB x3, encB x4, encB x5, encB x6, encB x7] 33)).heap.size := by simp
  generalize hW : w.alloc (.cells #[.int .u64 u, .int .i64 n, .slice adx lx.length capx, encB x0, encB x1, encB x2, encB x3, encB x4, encB x5, encB x6, encB x7] 33) = W at *
  have c0 : W.cell? ⟨w.heap.size, 0, none⟩ = some (.int .u64 u) := by rw [← hW]; simp
  have c1 : W.cell? ⟨w.heap.size, 1, none⟩ = some (.int .i64 n) := by rw [← hW]; simp
  have c2 : W.cell? ⟨w.heap.size, 2, none⟩ = some (.slice adx lx.length capx) := by rw [← hW]; simp
  have c3 : W.cell? ⟨w.heap.size, 3, none⟩ = some (encB x0) := by rw [← hW]; simp
  have c4 : W.cell? ⟨w.heap.size, 4, none⟩ = some (encB x1) := by rw [← hW]; simp
  have c5 : W.cell? ⟨w.heap.size, 5, none⟩ = some (encB x2) := by rw [← hW]; simp
  have c6 : W.cell? ⟨w.heap.size, 6, none⟩ = some (encB x3) := by rw [← hW]; simp
  have c7 : W.cell? ⟨w.heap.size, 7, none⟩ = some (encB x4) := by rw [← hW]; simp
  have c8 : W.cell? ⟨w.heap.size, 8, none⟩ = some (encB x5) := by rw [← hW]; simp
  have c9 : W.cell? ⟨w.heap.size, 9, none⟩ = some (encB x6) := by rw [← hW]; simp
  have c10 : W.cell? ⟨w.heap.size, 10, none⟩ = some (encB x7) := by rw [← hW]; simp
  have hxW : Ext w W := by rw [← hW]; exact Ext.alloc _ _
  clear hW
  have hx0 := Ext.refl W
  by_cases h50 : l.length ≤ 50
  · by_cases h100 : lx.length ≤ 100
    · have HA1 := Lib.hid (HA.out.ext hxW)
      have HX1 := Lib.hid (HX.out.ext hxW)
      have hl5 : l.length ≤ 50000 := by omega
      have hlx5 : lx.length ≤ 50000 := by omega
      go_wp2_with ((go_at_call 10; refine (awake_any _).mono ?_; rintro e w1 ⟨rfl, hb1⟩; have hx1 : Ext W w1 := hx0.trans hb1; have hc1 := hx1.cells; have hz1 := Nat.lt_of_lt_of_le hz hx1.below.size); have hcv0 := run_str (P := Try.prog) Try.underlying25 Try.underlying5 Try.underlying9 w1 _ _ (HA1.out.ext hb1))
      have HA2 := Lib.hid ((HA1.out.ext hx1).ext (Ext.drew w1))
      have HX2 := Lib.hid ((HX1.out.ext hx1).ext (Ext.drew w1))
      have hxd := hx1.trans (Ext.drew w1)
      have hcd := hxd.cells
      refine wp_region_ext [(0, true), (1, true), (2, true), (5, true), (6, true), (7, true), (3, false), (4, true), (8, false), (9, true), (10, true), (11, true), (12, true), (13, true), (14, true), (17, true), (18, true), (19, true), (15, false), (16, true), (20, false), (21, true), (22, true), (23, true), (24, true), (25, true), (26, true), (27, true), (30, true), (31, true), (32, true), (28, false), (29, true), (33, false), (34, true), (35, true), (36, true), (37, true), (38, true), (39, true), (40, true), (43, true), (44, true), (45, true), (41, false), (42, true), (46, false), (47, true), (48, true), (49, true), (50, true), (51, true), (52, true), (53, true), (54, true), (55, true), (56, true)] (by kernel_rfl) (by kernel_rfl) ?_
      iterate 6 (first
       | (refine ext_move rfl rfl (by rfl) (by rfl) ?_; simp only [Act.put, List.setIfInBounds_toArray, List.set_cons_zero, List.set_cons_succ])
       | (refine ext_assign rfl rfl (by rfl) (by rfl) ?_; simp only [Act.put, List.setIfInBounds_toArray, List.set_cons_zero, List.set_cons_succ])
       | (refine ext_pick_t rfl rfl (by rfl) (by rfl) (by rfl) ?_; simp only [Act.put, List.setIfInBounds_toArray, List.set_cons_zero, List.set_cons_succ])
       | (refine ext_pick_f rfl rfl (by rfl) (by rfl) (by rfl) ?_; simp only [Act.put, List.setIfInBounds_toArray, List.set_cons_zero, List.set_cons_succ])
       | (apply ext_take rfl (by rfl)
          · intro w' hS
            have hSc := hS.cells
            (try simp only [World.size_drew, World.cell?_drew] at hSc)
            go_simp
            (try simp (disch := omega) only [i64_id, ↓IntWalk.iteOmega, Int.tdiv_eq_ediv_of_nonneg, Int.tmod_eq_emod_of_nonneg])
            try rfl
          simp only [Act.put, List.setIfInBounds_toArray, List.set_cons_zero, List.set_cons_succ])
       | (refine ext_pass rfl (by rfl) ?_; simp only [Act.put, List.setIfInBounds_toArray, List.set_cons_zero, List.set_cons_succ]))
      (refine ext_do rfl (by rfl) (fun K hK => ?_)
       go_simp
       go_at_call 11
       refine (appendUint_any _ l u _ hl5 HU.out HA2.out).mono ?_
       rintro e w2 ⟨v2, rfl, hown2, hb2⟩
       have HS2 := Lib.hid (OwnB.slice hown2)
       have hx2 : Ext W w2 := hxd.trans hb2
       have hc2 := hx2.cells
       have hz2 := Nat.lt_of_lt_of_le hz hx2.below.size
       refine hK _ _ (by first | exact hb2 | exact (Ext.drew _).trans hb2) ?_
       clear hK K hown2
       (try simp only [Act.put, List.setIfInBounds_toArray, List.set_cons_zero, List.set_cons_succ]))
      have hy := hb2
      (apply ext_take rfl (by rfl)
       · intro w' hS
         have hcv := run_str (P := Try.prog) Try.underlying25 Try.underlying5 Try.underlying9 w' _ _ (HS2.out.ext hS)
         go_simp
         try rfl
       simp only [Act.put, List.setIfInBounds_toArray, List.set_cons_zero, List.set_cons_succ])
      (refine ext_do rfl (by rfl) (fun K hK => ?_)
       go_simp
       go_at_call 14
       refine (rappendUint_any _ l u _ hl5 HU.out (HA2.out.ext hy)).mono ?_
       rintro e w3 ⟨v3, rfl, hown3, hb3⟩
       have HS3 := Lib.hid (OwnB.slice hown3)
       have hx3 : Ext W w3 := hx2.trans hb3
       have hc3 := hx3.cells
       have hz3 := Nat.lt_of_lt_of_le hz hx3.below.size
       refine hK _ _ (by first | exact hb3 | exact (Ext.drew _).trans hb3) ?_
       clear hK K hown3
       (try simp only [Act.put, List.setIfInBounds_toArray, List.set_cons_zero, List.set_cons_succ]))
      have hy := Ext.trans hy hb3
      (apply ext_take rfl (by rfl)
       · intro w' hS
         have hcv := run_str (P := Try.prog) Try.underlying25 Try.underlying5 Try.underlying9 w' _ _ (HS3.out.ext hS)
         go_simp
         try rfl
       simp only [Act.put, List.setIfInBounds_toArray, List.set_cons_zero, List.set_cons_succ])
      iterate 8 (first
       | (refine ext_move rfl rfl (by rfl) (by rfl) ?_; simp only [Act.put, List.setIfInBounds_toArray, List.set_cons_zero, List.set_cons_succ])
       | (refine ext_assign rfl rfl (by rfl) (by rfl) ?_; simp only [Act.put, List.setIfInBounds_toArray, List.set_cons_zero, List.set_cons_succ])
       | (refine ext_pick_t rfl rfl (by rfl) (by rfl) (by rfl) ?_; simp only [Act.put, List.setIfInBounds_toArray, List.set_cons_zero, List.set_cons_succ])
       | (refine ext_pick_f rfl rfl (by rfl) (by rfl) (by rfl) ?_; simp only [Act.put, List.setIfInBounds_toArray, List.set_cons_zero, List.set_cons_succ])
       | (apply ext_take rfl (by rfl)
          · intro w' hS
            have hSc := hS.cells
            (try simp only [World.size_drew, World.cell?_drew] at hSc)
            go_simp
            (try simp (disch := omega) only [i64_id, ↓IntWalk.iteOmega, Int.tdiv_eq_ediv_of_nonneg, Int.tmod_eq_emod_of_nonneg])
            try rfl
          simp only [Act.put, List.setIfInBounds_toArray, List.set_cons_zero, List.set_cons_succ])
       | (refine ext_pass rfl (by rfl) ?_; simp only [Act.put, List.setIfInBounds_toArray, List.set_cons_zero, List.set_cons_succ]))
      (refine ext_do rfl (by rfl) (fun K hK => ?_)
       go_simp
       go_at_call 12
       refine (appendInt_any _ l n _ hl5 HNB.out.1 HNB.out.2 (HA2.out.ext hy)).mono ?_
       rintro e w4 ⟨v4, rfl, hown4, hb4⟩
       have HS4 := Lib.hid (OwnB.slice hown4)
       have hx4 : Ext W w4 := hx3.trans hb4
       have hc4 := hx4.cells
       have hz4 := Nat.lt_of_lt_of_le hz hx4.below.size
       refine hK _ _ (by first | exact hb4 | exact (Ext.drew _).trans hb4) ?_
       clear hK K hown4
       (try simp only [Act.put, List.setIfInBounds_toArray, List.set_cons_zero, List.set_cons_succ]))
      have hy := Ext.trans hy hb4
      (apply ext_take rfl (by rfl)
       · intro w' hS
         have hcv := run_str (P := Try.prog) Try.underlying25 Try.underlying5 Try.underlying9 w' _ _ (HS4.out.ext hS)
         go_simp
         try rfl
       simp only [Act.put, List.setIfInBounds_toArray, List.set_cons_zero, List.set_cons_succ])
      (refine ext_do rfl (by rfl) (fun K hK => ?_)
       go_simp
       go_at_call 15
       refine (rappendInt_any _ l n _ hl5 HNB.out.1 HNB.out.2 (HA2.out.ext hy)).mono ?_
       rintro e w5 ⟨v5, rfl, hown5, hb5⟩
       have HS5 := Lib.hid (OwnB.slice hown5)
       have hx5 : Ext W w5 := hx4.trans hb5
       have hc5 := hx5.cells
       have hz5 := Nat.lt_of_lt_of_le hz hx5.below.size
       refine hK _ _ (by first | exact hb5 | exact (Ext.drew _).trans hb5) ?_
       clear hK K hown5
       (try simp only [Act.put, List.setIfInBounds_toArray, List.set_cons_zero, List.set_cons_succ]))
      have hy := Ext.trans hy hb5
      (apply ext_take rfl (by rfl)
       · intro w' hS
         have hcv := run_str (P := Try.prog) Try.underlying25 Try.underlying5 Try.underlying9 w' _ _ (HS5.out.ext hS)
         go_simp
         try rfl
       simp only [Act.put, List.setIfInBounds_toArray, List.set_cons_zero, List.set_cons_succ])
      iterate 9 (first
       | (refine ext_move rfl rfl (by rfl) (by rfl) ?_; simp only [Act.put, List.setIfInBounds_toArray, List.set_cons_zero, List.set_cons_succ])
       | (refine ext_assign rfl rfl (by rfl) (by rfl) ?_; simp only [Act.put, List.setIfInBounds_toArray, List.set_cons_zero, List.set_cons_succ])
       | (refine ext_pick_t rfl rfl (by rfl) (by rfl) (by rfl) ?_; simp only [Act.put, List.setIfInBounds_toArray, List.set_cons_zero, List.set_cons_succ])
       | (refine ext_pick_f rfl rfl (by rfl) (by rfl) (by rfl) ?_; simp only [Act.put, List.setIfInBounds_toArray, List.set_cons_zero, List.set_cons_succ])
       | (apply ext_take rfl (by rfl)
          · intro w' hS
            have hSc := hS.cells
            (try simp only [World.size_drew, World.cell?_drew] at hSc)
            go_simp
            (try simp (disch := omega) only [i64_id, ↓IntWalk.iteOmega, Int.tdiv_eq_ediv_of_nonneg, Int.tmod_eq_emod_of_nonneg])
            try rfl
          simp only [Act.put, List.setIfInBounds_toArray, List.set_cons_zero, List.set_cons_succ])
       | (refine ext_pass rfl (by rfl) ?_; simp only [Act.put, List.setIfInBounds_toArray, List.set_cons_zero, List.set_cons_succ]))
      (refine ext_do rfl (by rfl) (fun K hK => ?_)
       go_simp
       go_at_call 16
       refine (appendBytes_any _ _ l lx _ hl5 hlx5 (HA2.out.ext hy) (HX2.out.ext hy)).mono ?_
       rintro e w6 ⟨v6, rfl, hown6, hb6⟩
       have HS6 := Lib.hid (OwnB.slice hown6)
       have hx6 : Ext W w6 := hx5.trans hb6
       have hc6 := hx6.cells
       have hz6 := Nat.lt_of_lt_of_le hz hx6.below.size
       refine hK _ _ (by first | exact hb6 | exact (Ext.drew _).trans hb6) ?_
       clear hK K hown6
       (try simp only [Act.put, List.setIfInBounds_toArray, List.set_cons_zero, List.set_cons_succ]))
      have hy := Ext.trans hy hb6
      (apply ext_take rfl (by rfl)
       · intro w' hS
         have hcv := run_str (P := Try.prog) Try.underlying25 Try.underlying5 Try.underlying9 w' _ _ (HS6.out.ext hS)
         go_simp
         try rfl
       simp only [Act.put, List.setIfInBounds_toArray, List.set_cons_zero, List.set_cons_succ])
      (refine ext_do rfl (by rfl) (fun K hK => ?_)
       go_simp
       go_at_call 17
       refine (rappendBytes_any _ _ l lx _ hl5 hlx5 (HA2.out.ext hy) (HX2.out.ext hy)).mono ?_
       rintro e w7 ⟨v7, rfl, hown7, hb7⟩
       have HS7 := Lib.hid (OwnB.slice hown7)
       have hx7 : Ext W w7 := hx6.trans hb7
       have hc7 := hx7.cells
       have hz7 := Nat.lt_of_lt_of_le hz hx7.below.size
       refine hK _ _ (by first | exact hb7 | exact (Ext.drew _).trans hb7) ?_
       clear hK K hown7
       (try simp only [Act.put, List.setIfInBounds_toArray, List.set_cons_zero, List.set_cons_succ]))
      have hy := Ext.trans hy hb7
      (apply ext_take rfl (by rfl)
       · intro w' hS
         have hcv := run_str (P := Try.prog) Try.underlying25 Try.underlying5 Try.underlying9 w' _ _ (HS7.out.ext hS)
         go_simp
         try rfl
       simp only [Act.put, List.setIfInBounds_toArray, List.set_cons_zero, List.set_cons_succ])
      iterate 9 (first
       | (refine ext_move rfl rfl (by rfl) (by rfl) ?_; simp only [Act.put, List.setIfInBounds_toArray, List.set_cons_zero, List.set_cons_succ])
       | (refine ext_assign rfl rfl (by rfl) (by rfl) ?_; simp only [Act.put, List.setIfInBounds_toArray, List.set_cons_zero, List.set_cons_succ])
       | (refine ext_pick_t rfl rfl (by rfl) (by rfl) (by rfl) ?_; simp only [Act.put, List.setIfInBounds_toArray, List.set_cons_zero, List.set_cons_succ])
       | (refine ext_pick_f rfl rfl (by rfl) (by rfl) (by rfl) ?_; simp only [Act.put, List.setIfInBounds_toArray, List.set_cons_zero, List.set_cons_succ])
       | (apply ext_take rfl (by rfl)
          · intro w' hS
            have hSc := hS.cells
            (try simp only [World.size_drew, World.cell?_drew] at hSc)
            go_simp
            (try simp (disch := omega) only [i64_id, ↓IntWalk.iteOmega, Int.tdiv_eq_ediv_of_nonneg, Int.tmod_eq_emod_of_nonneg])
            try rfl
          simp only [Act.put, List.setIfInBounds_toArray, List.set_cons_zero, List.set_cons_succ])
       | (refine ext_pass rfl (by rfl) ?_; simp only [Act.put, List.setIfInBounds_toArray, List.set_cons_zero, List.set_cons_succ]))
      (refine ext_do rfl (by rfl) (fun K hK => ?_)
       go_simp
       go_at_call 18
       refine (appendBlock_any _ l [x0, x1, x2, x3, x4, x5, x6, x7] _ hl5 rfl (HA2.out.ext hy)).mono ?_
       rintro e w8 ⟨v8, rfl, hown8, hb8⟩
       have HS8 := Lib.hid (OwnB.slice hown8)
       have hx8 : Ext W w8 := hx7.trans hb8
       have hc8 := hx8.cells
       have hz8 := Nat.lt_of_lt_of_le hz hx8.below.size
       refine hK _ _ (by first | exact hb8 | exact (Ext.drew _).trans hb8) ?_
       clear hK K hown8
       (try simp only [Act.put, List.setIfInBounds_toArray, List.set_cons_zero, List.set_cons_succ]))
      have hy := Ext.trans hy hb8
      (apply ext_take rfl (by rfl)
       · intro w' hS
         have hcv := run_str (P := Try.prog) Try.underlying25 Try.underlying5 Try.underlying9 w' _ _ (HS8.out.ext hS)
         go_simp
         try rfl
       simp only [Act.put, List.setIfInBounds_toArray, List.set_cons_zero, List.set_cons_succ])
      (refine ext_do rfl (by rfl) (fun K hK => ?_)
       go_simp
       go_at_call 19
       refine (rappendBlock_any _ l [x0, x1, x2, x3, x4, x5, x6, x7] _ hl5 rfl (HA2.out.ext hy)).mono ?_
       rintro e w9 ⟨v9, rfl, hown9, hb9⟩
       have HS9 := Lib.hid (OwnB.slice hown9)
       have hx9 : Ext W w9 := hx8.trans hb9
       have hc9 := hx9.cells
       have hz9 := Nat.lt_of_lt_of_le hz hx9.below.size
       refine hK _ _ (by first | exact hb9 | exact (Ext.drew _).trans hb9) ?_
       clear hK K hown9
       (try simp only [Act.put, List.setIfInBounds_toArray, List.set_cons_zero, List.set_cons_succ]))
      have hy := Ext.trans hy hb9
      (apply ext_take rfl (by rfl)
       · intro w' hS
         have hcv := run_str (P := Try.prog) Try.underlying25 Try.underlying5 Try.underlying9 w' _ _ (HS9.out.ext hS)
         go_simp
         try rfl
       simp only [Act.put, List.setIfInBounds_toArray, List.set_cons_zero, List.set_cons_succ])
      iterate 4 (first
       | (refine ext_move rfl rfl (by rfl) (by rfl) ?_; simp only [Act.put, List.setIfInBounds_toArray, List.set_cons_zero, List.set_cons_succ])
       | (refine ext_assign rfl rfl (by rfl) (by rfl) ?_; simp only [Act.put, List.setIfInBounds_toArray, List.set_cons_zero, List.set_cons_succ])
       | (refine ext_pick_t rfl rfl (by rfl) (by rfl) (by rfl) ?_; simp only [Act.put, List.setIfInBounds_toArray, List.set_cons_zero, List.set_cons_succ])
       | (refine ext_pick_f rfl rfl (by rfl) (by rfl) (by rfl) ?_; simp only [Act.put, List.setIfInBounds_toArray, List.set_cons_zero, List.set_cons_succ])
       | (apply ext_take rfl (by rfl)
          · intro w' hS
            have hSc := hS.cells
            (try simp only [World.size_drew, World.cell?_drew] at hSc)
            go_simp
            (try simp (disch := omega) only [i64_id, ↓IntWalk.iteOmega, Int.tdiv_eq_ediv_of_nonneg, Int.tmod_eq_emod_of_nonneg])
            try rfl
          simp only [Act.put, List.setIfInBounds_toArray, List.set_cons_zero, List.set_cons_succ])
       | (refine ext_pass rfl (by rfl) ?_; simp only [Act.put, List.setIfInBounds_toArray, List.set_cons_zero, List.set_cons_succ]))
      (apply ext_take rfl (by rfl)
       · intro w' hS
         have hcv := run_str (P := Try.prog) Try.underlying25 Try.underlying5 Try.underlying9 w' _ _ ((HA2.out.ext hy).ext hS)
         go_simp
         try rfl
       simp only [Act.put, List.setIfInBounds_toArray, List.set_cons_zero, List.set_cons_succ])
      iterate 4 (first
       | (refine ext_move rfl rfl (by rfl) (by rfl) ?_; simp only [Act.put, List.setIfInBounds_toArray, List.set_cons_zero, List.set_cons_succ])
       | (refine ext_assign rfl rfl (by rfl) (by rfl) ?_; simp only [Act.put, List.setIfInBounds_toArray, List.set_cons_zero, List.set_cons_succ])
       | (refine ext_pick_t rfl rfl (by rfl) (by rfl) (by rfl) ?_; simp only [Act.put, List.setIfInBounds_toArray, List.set_cons_zero, List.set_cons_succ])
       | (refine ext_pick_f rfl rfl (by rfl) (by rfl) (by rfl) ?_; simp only [Act.put, List.setIfInBounds_toArray, List.set_cons_zero, List.set_cons_succ])
       | (apply ext_take rfl (by rfl)
          · intro w' hS
            have hSc := hS.cells
            (try simp only [World.size_drew, World.cell?_drew] at hSc)
            go_simp
            (try simp (disch := omega) only [i64_id, ↓IntWalk.iteOmega, Int.tdiv_eq_ediv_of_nonneg, Int.tmod_eq_emod_of_nonneg])
            try rfl
          simp only [Act.put, List.setIfInBounds_toArray, List.set_cons_zero, List.set_cons_succ])
       | (refine ext_pass rfl (by rfl) ?_; simp only [Act.put, List.setIfInBounds_toArray, List.set_cons_zero, List.set_cons_succ]))
      refine ext_nil ?_
      go_wp2
      go_ret
      exact ⟨rfl, hxW.trans hx9⟩
    · go_wp2_with ((go_at_call 10; refine (awake_any _).mono ?_; rintro e w1 ⟨rfl, hb1⟩; have hx1 : Ext W w1 := hx0.trans hb1; have hc1 := hx1.cells; have hz1 := Nat.lt_of_lt_of_le hz hx1.below.size))
      go_ret
      exact ⟨rfl, hxW.trans hx1⟩
  · go_wp2_with ((go_at_call 10; refine (awake_any _).mono ?_; rintro e w1 ⟨rfl, hb1⟩; have hx1 : Ext W w1 := hx0.trans hb1; have hc1 := hx1.cells; have hz1 := Nat.lt_of_lt_of_le hz hx1.below.size))
    go_ret
    exact ⟨rfl, hxW.trans hx1⟩
end Go.Proofs.Ytbegghodjfllnaa
