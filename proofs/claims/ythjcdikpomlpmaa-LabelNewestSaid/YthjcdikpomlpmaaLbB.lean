/-
  Chapter 30 (label): Areas of both packages.
-/
import Derived.Test.YthjcdikpomlpmaaLbA
namespace Go.Proofs.Ythjcdikpomlpmaa
open Go.RowKit
set_option linter.unusedVariables false

/-- the areas' first sectors, and the error -/
def areaV (c : Cfg) (gen : BitVec 64) : Value :=
  if cfgB c then .tuple #[.int .i64 (un gen % 2 * 6), .int .i64 (12 + un gen % 2 * c.a), .int .i64 (12 + 2 * c.a), .int .i64 0] else .tuple #[.int .i64 0, .int .i64 0, .int .i64 0, .int .i64 1]
theorem cfg_area {c : Cfg} (h : cfgB c = true) : 1 ≤ c.a ∧ c.a ≤ 16384 ∧ 1 ≤ c.g ∧ 12 + 2 * c.a + c.g ≤ c.r ∧ c.r ≤ 16384 := by
  unfold cfgB validB at h
  simp only [Bool.and_eq_true, decide_eq_true_eq] at h
  obtain ⟨⟨_, h1⟩, h2⟩ := h
  omega
def AreaEnd (W : World) (v : Value) (e : Ending) (w' : World) : Prop := e = .returned v ∧ Below W.heap.size W w'
set_option maxRecDepth 100000 in
set_option maxHeartbeats 2000000 in
theorem areas_any (c : Cfg) (gen : BitVec 64) (w : World) : Calls Try.prog 13 #[cfgV c, encU gen] w (AreaEnd w (areaV c gen)) := by
  have HC := Lib.hid (config_any c)
  have hub := un_bound gen
  have hub2 : 0 ≤ un gen := by unfold un; exact Int.natCast_nonneg _
  obtain ⟨odd, ho⟩ : ∃ odd, un gen % 2 = odd := ⟨_, rfl⟩
  have HA : Hid (areaV c gen = if cfgB c then .tuple #[.int .i64 (odd * 6), .int .i64 (12 + odd * c.a), .int .i64 (12 + 2 * c.a), .int .i64 0] else .tuple #[.int .i64 0, .int .i64 0, .int .i64 0, .int .i64 1]) := by show _ = _; unfold areaV; rw [ho]
  rw [HA.out]
  have HB := Lib.hid (cfg_area (c := c))
  have hrm : (un gen).tmod 2 = odd := by rw [Int.tmod_eq_emod_of_nonneg hub2]; exact ho
  have hodd : odd = 0 ∨ odd = 1 := by omega
  generalize cfgB c = X at *
  obtain ⟨d, ww, t, s, r, b, k, cc, o, a, g⟩ := c
  cases X with
  | false =>
    go_enter Try.func13, Try.ntmps13
    go_wp2_with fail
    go_at_call 15
    refine (HC.out _).mono ?_
    rintro e w2 ⟨rfl, hb2⟩
    have hx2 : Ext w w2 := (Ext.alloc _ _).trans hb2
    clear hb2
    go_wp2_with fail
    refine bodyPost_ret (v := .tuple #[.int .i64 0, .int .i64 0, .int .i64 0, .int .i64 1]) ?_ rfl ⟨rfl, hx2⟩
    simp only [results, Try.results13]
    go_simp
  | true =>
    obtain ⟨h1, h2, h3, h4, h5⟩ := HB.out rfl
    simp only at h1 h2 h3 h4 h5
    rcases hodd with rfl | rfl
    all_goals
      rw [if_pos rfl]
      go_enter Try.func13, Try.ntmps13
      go_wp2_with fail
      go_at_call 15
      refine (HC.out _).mono ?_
      rintro e w2 ⟨rfl, hb2⟩
      have hx2 : Ext w w2 := (Ext.alloc _ _).trans hb2
      have HBX := (BoxAt.new w #[.int .i64 d, .int .i64 ww, .int .i64 t, .int .i64 s, .int .i64 r, .int .i64 b, .int .i64 k, .int .i64 cc, .int .i64 o, .int .i64 a, .int .i64 g] 26).ext hb2
      have hc9 := HBX.cell 9 (v := .int .i64 a) rfl
      have hlt := HBX.lt
      have hw1 : IntKind.i64.wrap (2 * a) = 2 * a := i64_id _ ⟨by omega, by omega⟩
      have hw2 : IntKind.i64.wrap (12 + 2 * a) = 12 + 2 * a := i64_id _ ⟨by omega, by omega⟩
      have hw3 : IntKind.i64.wrap (12 + a) = 12 + a := i64_id _ ⟨by omega, by omega⟩
      have hw4 : IntKind.i64.wrap a = a := i64_id _ ⟨by omega, by omega⟩
      clear hb2
      go_wp2_with fail
      refine wp_region_ext [(0, true), (1, true), (2, true), (3, true), (4, true), (5, true), (6, true), (7, true), (8, true), (9, true), (10, true), (11, true), (12, true), (13, true), (14, true)] (by kernel_rfl) (by kernel_rfl) ?_
      iterate 15 (first
       | (refine ext_move rfl rfl (by rfl) (by rfl) ?_; simp only [Act.put, List.setIfInBounds_toArray, List.set_cons_zero, List.set_cons_succ])
       | (refine ext_assign rfl rfl (by rfl) (by rfl) ?_; simp only [Act.put, List.setIfInBounds_toArray, List.set_cons_zero, List.set_cons_succ])
       | (refine ext_pick_t rfl rfl (by rfl) (by rfl) (by rfl) ?_; simp only [Act.put, List.setIfInBounds_toArray, List.set_cons_zero, List.set_cons_succ])
       | (refine ext_pick_f rfl rfl (by rfl) (by rfl) (by rfl) ?_; simp only [Act.put, List.setIfInBounds_toArray, List.set_cons_zero, List.set_cons_succ])
       | (apply ext_take rfl (by rfl)
          · intro w' hS
            have hSc := hS.cells
            (try simp only [World.size_drew, World.cell?_drew] at hSc)
            go_simp
            (try simp (disch := omega) only [i64_id, u64_id, ↓IntWalk.iteOmega, Int.tdiv_eq_ediv_of_nonneg, Int.tmod_eq_emod_of_nonneg])
            try rfl
          simp only [Act.put, List.setIfInBounds_toArray, List.set_cons_zero, List.set_cons_succ])
       | (refine ext_pass rfl (by rfl) ?_; simp only [Act.put, List.setIfInBounds_toArray, List.set_cons_zero, List.set_cons_succ]))
      refine ext_nil ?_
      go_wp2_with fail
      refine bodyPost_ret ?_ rfl ⟨rfl, hx2.trans (Ext.drew _)⟩
      simp only [results, Try.results13]
      go_simp
set_option maxRecDepth 100000 in
set_option maxHeartbeats 2000000 in
theorem rareas_any (c : Cfg) (gen : BitVec 64) (w : World) : Calls Try.prog 14 #[cfgV c, encU gen] w (AreaEnd w (areaV c gen)) := by
  have HC := Lib.hid (rconfig_any c)
  have hub := un_bound gen
  have hub2 : 0 ≤ un gen := by unfold un; exact Int.natCast_nonneg _
  obtain ⟨odd, ho⟩ : ∃ odd, un gen % 2 = odd := ⟨_, rfl⟩
  have HA : Hid (areaV c gen = if cfgB c then .tuple #[.int .i64 (odd * 6), .int .i64 (12 + odd * c.a), .int .i64 (12 + 2 * c.a), .int .i64 0] else .tuple #[.int .i64 0, .int .i64 0, .int .i64 0, .int .i64 1]) := by show _ = _; unfold areaV; rw [ho]
  rw [HA.out]
  have HB := Lib.hid (cfg_area (c := c))
  have hrm : (un gen).tmod 2 = odd := by rw [Int.tmod_eq_emod_of_nonneg hub2]; exact ho
  have hodd : odd = 0 ∨ odd = 1 := by omega
  generalize cfgB c = X at *
  obtain ⟨d, ww, t, s, r, b, k, cc, o, a, g⟩ := c
  cases X with
  | false =>
    go_enter Try.func14, Try.ntmps14
    go_wp2_with fail
    go_at_call 16
    refine (HC.out _).mono ?_
    rintro e w2 ⟨rfl, hb2⟩
    have hx2 : Ext w w2 := (Ext.alloc _ _).trans hb2
    clear hb2
    go_wp2_with fail
    refine bodyPost_ret (v := .tuple #[.int .i64 0, .int .i64 0, .int .i64 0, .int .i64 1]) ?_ rfl ⟨rfl, hx2⟩
    simp only [results, Try.results14]
    go_simp
  | true =>
    obtain ⟨h1, h2, h3, h4, h5⟩ := HB.out rfl
    simp only at h1 h2 h3 h4 h5
    rcases hodd with rfl | rfl
    all_goals
      rw [if_pos rfl]
      go_enter Try.func14, Try.ntmps14
      go_wp2_with fail
      go_at_call 16
      refine (HC.out _).mono ?_
      rintro e w2 ⟨rfl, hb2⟩
      have hx2 : Ext w w2 := (Ext.alloc _ _).trans hb2
      have HBX := (BoxAt.new w #[.int .i64 d, .int .i64 ww, .int .i64 t, .int .i64 s, .int .i64 r, .int .i64 b, .int .i64 k, .int .i64 cc, .int .i64 o, .int .i64 a, .int .i64 g] 26).ext hb2
      have hc9 := HBX.cell 9 (v := .int .i64 a) rfl
      have hlt := HBX.lt
      have hw1 : IntKind.i64.wrap (2 * a) = 2 * a := i64_id _ ⟨by omega, by omega⟩
      have hw2 : IntKind.i64.wrap (12 + 2 * a) = 12 + 2 * a := i64_id _ ⟨by omega, by omega⟩
      have hw3 : IntKind.i64.wrap (12 + a) = 12 + a := i64_id _ ⟨by omega, by omega⟩
      have hw4 : IntKind.i64.wrap a = a := i64_id _ ⟨by omega, by omega⟩
      clear hb2
      go_wp2_with fail
      refine wp_region_ext [(0, true), (1, true), (2, true), (3, true), (4, true), (5, true), (6, true), (7, true), (8, true), (9, true), (10, true), (11, true), (12, true), (13, true), (14, true)] (by kernel_rfl) (by kernel_rfl) ?_
      iterate 15 (first
       | (refine ext_move rfl rfl (by rfl) (by rfl) ?_; simp only [Act.put, List.setIfInBounds_toArray, List.set_cons_zero, List.set_cons_succ])
       | (refine ext_assign rfl rfl (by rfl) (by rfl) ?_; simp only [Act.put, List.setIfInBounds_toArray, List.set_cons_zero, List.set_cons_succ])
       | (refine ext_pick_t rfl rfl (by rfl) (by rfl) (by rfl) ?_; simp only [Act.put, List.setIfInBounds_toArray, List.set_cons_zero, List.set_cons_succ])
       | (refine ext_pick_f rfl rfl (by rfl) (by rfl) (by rfl) ?_; simp only [Act.put, List.setIfInBounds_toArray, List.set_cons_zero, List.set_cons_succ])
       | (apply ext_take rfl (by rfl)
          · intro w' hS
            have hSc := hS.cells
            (try simp only [World.size_drew, World.cell?_drew] at hSc)
            go_simp
            (try simp (disch := omega) only [i64_id, u64_id, ↓IntWalk.iteOmega, Int.tdiv_eq_ediv_of_nonneg, Int.tmod_eq_emod_of_nonneg])
            try rfl
          simp only [Act.put, List.setIfInBounds_toArray, List.set_cons_zero, List.set_cons_succ])
       | (refine ext_pass rfl (by rfl) ?_; simp only [Act.put, List.setIfInBounds_toArray, List.set_cons_zero, List.set_cons_succ]))
      refine ext_nil ?_
      go_wp2_with fail
      refine bodyPost_ret ?_ rfl ⟨rfl, hx2.trans (Ext.drew _)⟩
      simp only [results, Try.results14]
      go_simp
end Go.Proofs.Ythjcdikpomlpmaa
