/-
  Chapter 30 (label): the walk of LabelValid.
-/
import Derived.Test.YthjcdikpomlpmaaLbW
namespace Go.Proofs.Ythjcdikpomlpmaa
open Go.ChangeShapes Go.WideShapes Go.ChangeAt Go.RowKit
set_option linter.unusedVariables false

theorem eqL_refl (a : Lab) (x : List Bool) : eqL a a x x = true := eqL_iff.2 ⟨rfl, rfl⟩
set_option maxRecDepth 100000 in
set_option maxHeartbeats 4000000 in
theorem labelValid_walk (a b : Lab) (da db : Value) (x y : List Bool) (w : World) (hmx : x.length ≤ maxLen) (hmy : y.length ≤ maxLen) (hx : SliceAt Value.bool w da x) (hy : SliceAt Value.bool w db y) :
    Calls Try.prog 5 #[labV a da, labV b db] w fun e w' => e = .returned (.bool true) ∧ Below w.heap.size w w' := by
  have HC := Lib.hid (config_any a.c)
  have HRC := Lib.hid (rconfig_any a.c)
  have HV := Lib.hid (fun (w' : World) (e : Ext w w') (hl : x.length ≤ 100000) => valid_any a da x w' hl (hx.ext e))
  have HRV := Lib.hid (fun (w' : World) (e : Ext w w') (hl : x.length ≤ 100000) => rvalid_any a da x w' hl (hx.ext e))
  have HE := Lib.hid (fun (w' : World) (e : Ext w w') (hl : x.length ≤ 100000) (hk : y.length ≤ 100000) => equal_any a b da db x y w' hl hk (hx.ext e) (hy.ext e))
  have HRE := Lib.hid (fun (w' : World) (e : Ext w w') (hl : x.length ≤ 100000) (hk : y.length ≤ 100000) => requal_any a b da db x y w' hl hk (hx.ext e) (hy.ext e))
  have HEE := Lib.hid (fun (w' : World) (e : Ext w w') (hl : x.length ≤ 100000) => equal_any a a da da x x w' hl hl (hx.ext e) (hx.ext e))
  rw [eqL_refl] at HEE
  obtain ⟨a1, c1, rfl⟩ := hx.shape
  obtain ⟨a2, c2, rfl⟩ := hy.shape
  unfold maxLen at hmx hmy
  obtain ⟨n, hn⟩ : ∃ n, x.length = n := ⟨_, rfl⟩
  obtain ⟨m, hm⟩ : ∃ m, y.length = m := ⟨_, rfl⟩
  rw [hn] at HV HRV HE HRE HEE hmx ⊢
  rw [hm] at HE HRE hmy ⊢
  generalize eqL a b x y = Q at *
  generalize validL a x = V at *
  have HB1 : Hid (BoxAt ((w.alloc (.cells (labA a (.slice a1 n c1)) 29)).alloc (.cells (labA b (.slice a2 m c2)) 29)) w.heap.size (labA a (.slice a1 n c1)) 29) := (BoxAt.new w _ _).ext (Ext.alloc _ _)
  have HB2 : Hid (BoxAt ((w.alloc (.cells (labA a (.slice a1 n c1)) 29)).alloc (.cells (labA b (.slice a2 m c2)) 29)) (w.heap.size + 1) (labA b (.slice a2 m c2)) 29) := box_new2 _ _ _ _
  have HX1 : Hid (Ext w ((w.alloc (.cells (labA a (.slice a1 n c1)) 29)).alloc (.cells (labA b (.slice a2 m c2)) 29))) := (Ext.alloc _ _).trans (Ext.alloc _ _)
  clear hx hy hn hm
  go_enter Try.func5, Try.ntmps5
  go_upto_region 1 with fail
  generalize (w.alloc (.cells (labA a (.slice a1 n c1)) 29)).alloc (.cells (labA b (.slice a2 m c2)) 29) = w1 at *
  go_wp2_with fail
  go_at_call 10
  refine (awake_any _).mono ?_
  rintro e w2 ⟨rfl, hx2⟩
  have HX2 : Hid (Ext w w2) := HX1.out.trans hx2
  have HB12 := Lib.hid (HB1.out.ext hx2)
  have HB22 := Lib.hid (HB2.out.ext hx2)
  clear hx2 HB1 HB2 HX1
  have m15 := HB12.out.cell 15 (v := .slice a1 n c1) rfl
  have p15 := HB22.out.cell 15 (v := .slice a2 m c2) rfl
  have hg1 := HB12.out.lt
  have hg2 := HB22.out.lt
  by_cases hbig : 100 < n
  · have d1 : decide ((100 : Int) < (n : Int)) = true := by rw [decide_eq_true_iff]; omega
    have d2 : decide (100 < n) = true := by rw [decide_eq_true_iff]; omega
    clear hbig
    go_wp2_with fail
    go_ret
    exact ⟨rfl, HX2.out⟩
  · have d1 : decide ((100 : Int) < (n : Int)) = false := by rw [decide_eq_false_iff_not]; omega
    have d2 : decide (100 < n) = false := by rw [decide_eq_false_iff_not]; omega
    have hn1 : n ≤ 100000 := by omega
    clear hbig
    by_cases hbig2 : 100 < m
    · have d3 : decide ((100 : Int) < (m : Int)) = true := by rw [decide_eq_true_iff]; omega
      have d4 : decide (100 < m) = true := by rw [decide_eq_true_iff]; omega
      clear hbig2
      go_wp2_with fail
      go_ret
      exact ⟨rfl, HX2.out⟩
    · have d3 : decide ((100 : Int) < (m : Int)) = false := by rw [decide_eq_false_iff_not]; omega
      have d4 : decide (100 < m) = false := by rw [decide_eq_false_iff_not]; omega
      have hm1 : m ≤ 100000 := by omega
      clear hbig2
      go_wp2_with fail
      clear m15 p15 hg1 hg2 d1 d2 d3 d4
      have b1 : (V == V) = true := by simp
      have b2 : (Q == Q) = true := by simp
      have b3 : (cfgB a.c == cfgB a.c) = true := by simp
      refine wp_region_ext [(0, true), (1, true), (3, true), (4, true), (2, false), (5, false), (6, true), (7, true), (8, true), (10, true), (9, false), (11, false), (12, true), (13, true), (14, true), (15, true), (16, true), (18, true), (19, true), (17, false), (20, false), (21, true), (22, true), (23, true), (24, true), (25, true), (26, false), (27, true), (28, true)] (by kernel_rfl) (by kernel_rfl) ?_
      (first
       | (refine ext_move rfl rfl (by rfl) (by rfl) ?_; simp only [Act.put, List.setIfInBounds_toArray, List.set_cons_zero, List.set_cons_succ])
       | (refine ext_assign rfl rfl (by rfl) (by rfl) ?_; simp only [Act.put, List.setIfInBounds_toArray, List.set_cons_zero, List.set_cons_succ])
       | (refine ext_pick_t rfl rfl (by rfl) (by rfl) (by rfl) ?_; simp only [Act.put, List.setIfInBounds_toArray, List.set_cons_zero, List.set_cons_succ])
       | (refine ext_pick_f rfl rfl (by rfl) (by rfl) (by rfl) ?_; simp only [Act.put, List.setIfInBounds_toArray, List.set_cons_zero, List.set_cons_succ])
       | (apply ext_take rfl (by rfl)
          · intro w' hS
            have hSc := hS.cells
            (try simp only [World.size_drew, World.cell?_drew] at hSc)
            go_simp
            (try simp (disch := omega) only [i64_id, u64_id, ↓IntWalk.iteOmega, Int.tdiv_eq_ediv_of_nonneg, Int.tmod_eq_emod_of_nonneg])
            try rfl
          simp only [Act.put, List.setIfInBounds_toArray, List.set_cons_zero, List.set_cons_succ])
       | (refine ext_pass rfl (by rfl) ?_; simp only [Act.put, List.setIfInBounds_toArray, List.set_cons_zero, List.set_cons_succ]))
      (refine ext_load 26 rfl (by rfl) rfl (by rfl) (fun w' hS => (LabAt.of_box (HB12.out.ext hS)).cfg) ?_; simp only [Act.put, List.setIfInBounds_toArray, List.set_cons_zero, List.set_cons_succ])
      (first
       | (refine ext_move rfl rfl (by rfl) (by rfl) ?_; simp only [Act.put, List.setIfInBounds_toArray, List.set_cons_zero, List.set_cons_succ])
       | (refine ext_assign rfl rfl (by rfl) (by rfl) ?_; simp only [Act.put, List.setIfInBounds_toArray, List.set_cons_zero, List.set_cons_succ])
       | (refine ext_pick_t rfl rfl (by rfl) (by rfl) (by rfl) ?_; simp only [Act.put, List.setIfInBounds_toArray, List.set_cons_zero, List.set_cons_succ])
       | (refine ext_pick_f rfl rfl (by rfl) (by rfl) (by rfl) ?_; simp only [Act.put, List.setIfInBounds_toArray, List.set_cons_zero, List.set_cons_succ])
       | (apply ext_take rfl (by rfl)
          · intro w' hS
            have hSc := hS.cells
            (try simp only [World.size_drew, World.cell?_drew] at hSc)
            go_simp
            (try simp (disch := omega) only [i64_id, u64_id, ↓IntWalk.iteOmega, Int.tdiv_eq_ediv_of_nonneg, Int.tmod_eq_emod_of_nonneg])
            try rfl
          simp only [Act.put, List.setIfInBounds_toArray, List.set_cons_zero, List.set_cons_succ])
       | (refine ext_pass rfl (by rfl) ?_; simp only [Act.put, List.setIfInBounds_toArray, List.set_cons_zero, List.set_cons_succ]))
      (refine ext_load 26 rfl (by rfl) rfl (by rfl) (fun w' hS => (LabAt.of_box (HB12.out.ext hS)).cfg) ?_; simp only [Act.put, List.setIfInBounds_toArray, List.set_cons_zero, List.set_cons_succ])
      refine ext_do rfl (by rfl) (fun K hK => ?_)
      go_simp
      go_at_call 15
      refine (HC.out _).mono ?_
      rintro e w3 ⟨rfl, hx3⟩
      have HX3 : Hid (Ext w2 w3) := (Ext.drew _).trans hx3
      refine hK _ _ HX3.out ?_
      clear hK K hx3
      (try simp only [Act.put, List.setIfInBounds_toArray, List.set_cons_zero, List.set_cons_succ])
      refine ext_do rfl (by rfl) (fun K hK => ?_)
      go_simp
      go_at_call 16
      refine (HRC.out _).mono ?_
      rintro e w4 ⟨rfl, hx4⟩
      have HX4 : Hid (Ext w2 w4) := Ext.trans HX3.out hx4
      refine hK _ _ hx4 ?_
      clear hK K hx4
      (try simp only [Act.put, List.setIfInBounds_toArray, List.set_cons_zero, List.set_cons_succ])
      have HB4 := Lib.hid (HB12.out.ext HX4.out)
      iterate 2 (first
       | (refine ext_move rfl rfl (by rfl) (by rfl) ?_; simp only [Act.put, List.setIfInBounds_toArray, List.set_cons_zero, List.set_cons_succ])
       | (refine ext_assign rfl rfl (by rfl) (by rfl) ?_; simp only [Act.put, List.setIfInBounds_toArray, List.set_cons_zero, List.set_cons_succ])
       | (refine ext_pick_t rfl rfl (by rfl) (by rfl) (by rfl) ?_; simp only [Act.put, List.setIfInBounds_toArray, List.set_cons_zero, List.set_cons_succ])
       | (refine ext_pick_f rfl rfl (by rfl) (by rfl) (by rfl) ?_; simp only [Act.put, List.setIfInBounds_toArray, List.set_cons_zero, List.set_cons_succ])
       | (apply ext_take rfl (by rfl)
          · intro w' hS
            have hSc := hS.cells
            (try simp only [World.size_drew, World.cell?_drew] at hSc)
            go_simp
            (try simp (disch := omega) only [i64_id, u64_id, ↓IntWalk.iteOmega, Int.tdiv_eq_ediv_of_nonneg, Int.tmod_eq_emod_of_nonneg])
            try rfl
          simp only [Act.put, List.setIfInBounds_toArray, List.set_cons_zero, List.set_cons_succ])
       | (refine ext_pass rfl (by rfl) ?_; simp only [Act.put, List.setIfInBounds_toArray, List.set_cons_zero, List.set_cons_succ]))
      (refine ext_load 29 rfl (by rfl) rfl (by rfl) (fun w' hS => (LabAt.of_box (HB4.out.ext hS)).load) ?_; simp only [Act.put, List.setIfInBounds_toArray, List.set_cons_zero, List.set_cons_succ])
      (refine ext_load 29 rfl (by rfl) rfl (by rfl) (fun w' hS => (LabAt.of_box (HB4.out.ext hS)).load) ?_; simp only [Act.put, List.setIfInBounds_toArray, List.set_cons_zero, List.set_cons_succ])
      refine ext_do rfl (by rfl) (fun K hK => ?_)
      go_simp
      go_at_call 17
      refine (HV.out _ (HX2.out.trans HX4.out) hn1).mono ?_
      rintro e w5 ⟨rfl, hx5⟩
      have HX5 : Hid (Ext w2 w5) := Ext.trans HX4.out hx5
      refine hK _ _ hx5 ?_
      clear hK K hx5
      (try simp only [Act.put, List.setIfInBounds_toArray, List.set_cons_zero, List.set_cons_succ])
      refine ext_do rfl (by rfl) (fun K hK => ?_)
      go_simp
      go_at_call 18
      refine (HRV.out _ (HX2.out.trans HX5.out) hn1).mono ?_
      rintro e w6 ⟨rfl, hx6⟩
      have HX6 : Hid (Ext w2 w6) := Ext.trans HX5.out hx6
      refine hK _ _ hx6 ?_
      clear hK K hx6
      (try simp only [Act.put, List.setIfInBounds_toArray, List.set_cons_zero, List.set_cons_succ])
      have HB6 := Lib.hid (HB12.out.ext HX6.out)
      have HC6 := Lib.hid (HB22.out.ext HX6.out)
      iterate 3 (first
       | (refine ext_move rfl rfl (by rfl) (by rfl) ?_; simp only [Act.put, List.setIfInBounds_toArray, List.set_cons_zero, List.set_cons_succ])
       | (refine ext_assign rfl rfl (by rfl) (by rfl) ?_; simp only [Act.put, List.setIfInBounds_toArray, List.set_cons_zero, List.set_cons_succ])
       | (refine ext_pick_t rfl rfl (by rfl) (by rfl) (by rfl) ?_; simp only [Act.put, List.setIfInBounds_toArray, List.set_cons_zero, List.set_cons_succ])
       | (refine ext_pick_f rfl rfl (by rfl) (by rfl) (by rfl) ?_; simp only [Act.put, List.setIfInBounds_toArray, List.set_cons_zero, List.set_cons_succ])
       | (apply ext_take rfl (by rfl)
          · intro w' hS
            have hSc := hS.cells
            (try simp only [World.size_drew, World.cell?_drew] at hSc)
            go_simp
            (try simp (disch := omega) only [i64_id, u64_id, ↓IntWalk.iteOmega, Int.tdiv_eq_ediv_of_nonneg, Int.tmod_eq_emod_of_nonneg])
            try rfl
          simp only [Act.put, List.setIfInBounds_toArray, List.set_cons_zero, List.set_cons_succ])
       | (refine ext_pass rfl (by rfl) ?_; simp only [Act.put, List.setIfInBounds_toArray, List.set_cons_zero, List.set_cons_succ]))
      (refine ext_load 29 rfl (by rfl) rfl (by rfl) (fun w' hS => (LabAt.of_box (HB6.out.ext hS)).load) ?_; simp only [Act.put, List.setIfInBounds_toArray, List.set_cons_zero, List.set_cons_succ])
      (refine ext_load 29 rfl (by rfl) rfl (by rfl) (fun w' hS => (LabAt.of_box (HC6.out.ext hS)).load) ?_; simp only [Act.put, List.setIfInBounds_toArray, List.set_cons_zero, List.set_cons_succ])
      (refine ext_load 29 rfl (by rfl) rfl (by rfl) (fun w' hS => (LabAt.of_box (HB6.out.ext hS)).load) ?_; simp only [Act.put, List.setIfInBounds_toArray, List.set_cons_zero, List.set_cons_succ])
      (refine ext_load 29 rfl (by rfl) rfl (by rfl) (fun w' hS => (LabAt.of_box (HC6.out.ext hS)).load) ?_; simp only [Act.put, List.setIfInBounds_toArray, List.set_cons_zero, List.set_cons_succ])
      refine ext_do rfl (by rfl) (fun K hK => ?_)
      go_simp
      go_at_call 19
      refine (HE.out _ (HX2.out.trans HX6.out) hn1 hm1).mono ?_
      rintro e w7 ⟨rfl, hx7⟩
      have HX7 : Hid (Ext w2 w7) := Ext.trans HX6.out hx7
      refine hK _ _ hx7 ?_
      clear hK K hx7
      (try simp only [Act.put, List.setIfInBounds_toArray, List.set_cons_zero, List.set_cons_succ])
      refine ext_do rfl (by rfl) (fun K hK => ?_)
      go_simp
      go_at_call 20
      refine (HRE.out _ (HX2.out.trans HX7.out) hn1 hm1).mono ?_
      rintro e w8 ⟨rfl, hx8⟩
      have HX8 : Hid (Ext w2 w8) := Ext.trans HX7.out hx8
      refine hK _ _ hx8 ?_
      clear hK K hx8
      (try simp only [Act.put, List.setIfInBounds_toArray, List.set_cons_zero, List.set_cons_succ])
      have HB8 := Lib.hid (HB12.out.ext HX8.out)
      iterate 3 (first
       | (refine ext_move rfl rfl (by rfl) (by rfl) ?_; simp only [Act.put, List.setIfInBounds_toArray, List.set_cons_zero, List.set_cons_succ])
       | (refine ext_assign rfl rfl (by rfl) (by rfl) ?_; simp only [Act.put, List.setIfInBounds_toArray, List.set_cons_zero, List.set_cons_succ])
       | (refine ext_pick_t rfl rfl (by rfl) (by rfl) (by rfl) ?_; simp only [Act.put, List.setIfInBounds_toArray, List.set_cons_zero, List.set_cons_succ])
       | (refine ext_pick_f rfl rfl (by rfl) (by rfl) (by rfl) ?_; simp only [Act.put, List.setIfInBounds_toArray, List.set_cons_zero, List.set_cons_succ])
       | (apply ext_take rfl (by rfl)
          · intro w' hS
            have hSc := hS.cells
            (try simp only [World.size_drew, World.cell?_drew] at hSc)
            go_simp
            (try simp (disch := omega) only [i64_id, u64_id, ↓IntWalk.iteOmega, Int.tdiv_eq_ediv_of_nonneg, Int.tmod_eq_emod_of_nonneg])
            try rfl
          simp only [Act.put, List.setIfInBounds_toArray, List.set_cons_zero, List.set_cons_succ])
       | (refine ext_pass rfl (by rfl) ?_; simp only [Act.put, List.setIfInBounds_toArray, List.set_cons_zero, List.set_cons_succ]))
      (refine ext_load 29 rfl (by rfl) rfl (by rfl) (fun w' hS => (LabAt.of_box (HB8.out.ext hS)).load) ?_; simp only [Act.put, List.setIfInBounds_toArray, List.set_cons_zero, List.set_cons_succ])
      (refine ext_load 29 rfl (by rfl) rfl (by rfl) (fun w' hS => (LabAt.of_box (HB8.out.ext hS)).load) ?_; simp only [Act.put, List.setIfInBounds_toArray, List.set_cons_zero, List.set_cons_succ])
      refine ext_do rfl (by rfl) (fun K hK => ?_)
      go_simp
      go_at_call 19
      refine (HEE.out _ (HX2.out.trans HX8.out) hn1).mono ?_
      rintro e w9 ⟨rfl, hx9⟩
      have HX9 : Hid (Ext w2 w9) := Ext.trans HX8.out hx9
      refine hK _ _ hx9 ?_
      clear hK K hx9
      (try simp only [Act.put, List.setIfInBounds_toArray, List.set_cons_zero, List.set_cons_succ])
      iterate 2 (first
       | (refine ext_move rfl rfl (by rfl) (by rfl) ?_; simp only [Act.put, List.setIfInBounds_toArray, List.set_cons_zero, List.set_cons_succ])
       | (refine ext_assign rfl rfl (by rfl) (by rfl) ?_; simp only [Act.put, List.setIfInBounds_toArray, List.set_cons_zero, List.set_cons_succ])
       | (refine ext_pick_t rfl rfl (by rfl) (by rfl) (by rfl) ?_; simp only [Act.put, List.setIfInBounds_toArray, List.set_cons_zero, List.set_cons_succ])
       | (refine ext_pick_f rfl rfl (by rfl) (by rfl) (by rfl) ?_; simp only [Act.put, List.setIfInBounds_toArray, List.set_cons_zero, List.set_cons_succ])
       | (apply ext_take rfl (by rfl)
          · intro w' hS
            have hSc := hS.cells
            (try simp only [World.size_drew, World.cell?_drew] at hSc)
            go_simp
            (try simp (disch := omega) only [i64_id, u64_id, ↓IntWalk.iteOmega, Int.tdiv_eq_ediv_of_nonneg, Int.tmod_eq_emod_of_nonneg])
            try rfl
          simp only [Act.put, List.setIfInBounds_toArray, List.set_cons_zero, List.set_cons_succ])
       | (refine ext_pass rfl (by rfl) ?_; simp only [Act.put, List.setIfInBounds_toArray, List.set_cons_zero, List.set_cons_succ]))
      refine ext_nil ?_
      go_wp2_with fail
      go_ret
      exact ⟨rfl, HX2.out.trans HX9.out⟩
end Go.Proofs.Ythjcdikpomlpmaa
