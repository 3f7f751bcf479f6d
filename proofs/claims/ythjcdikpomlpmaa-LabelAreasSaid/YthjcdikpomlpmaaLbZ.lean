/-
  Chapter 30 (label): the walk of LabelAreas.
-/
import Derived.Test.YthjcdikpomlpmaaLbW
namespace Go.Proofs.Ythjcdikpomlpmaa
open Go.ChangeShapes Go.WideShapes Go.ChangeAt Go.RowKit
set_option linter.unusedVariables false

/-- the starts and the sizes of the areas, of a generation and the next one -/
def startsL (c : Cfg) (o : Int) : List Int := [o * 6, (1 - o) * 6, 12 + o * c.a, 12 + (1 - o) * c.a, 12 + 2 * c.a]
def sizesL (c : Cfg) : List Int := [6, 6, c.a, c.a, c.g]
theorem startsL_ok {c : Cfg} {o : Int} (h : cfgB c = true) (ho : o = 0 ∨ o = 1) : ∀ i, i < 5 → 0 ≤ (startsL c o).getD i 0 ∧ (startsL c o).getD i 0 + (sizesL c).getD i 0 ≤ c.r ∧ (startsL c o).getD i 0 ≤ 100000 ∧ 0 ≤ (sizesL c).getD i 0 ∧ (sizesL c).getD i 0 ≤ 100000 := by
  have := cfg_area h
  intro i hi
  rcases ho with rfl | rfl
  all_goals
    match i, hi with
    | 0, _ => simp [startsL, sizesL]; omega
    | 1, _ => simp [startsL, sizesL]; omega
    | 2, _ => simp [startsL, sizesL]; omega
    | 3, _ => simp [startsL, sizesL]; omega
    | 4, _ => simp [startsL, sizesL]; omega
theorem startsL_apart {c : Cfg} {o : Int} (h : cfgB c = true) (ho : o = 0 ∨ o = 1) : ∀ i, i < 5 → ∀ k, k < i → ¬ ((startsL c o).getD i 0 < (startsL c o).getD k 0 + (sizesL c).getD k 0 ∧ (startsL c o).getD k 0 < (startsL c o).getD i 0 + (sizesL c).getD i 0) := by
  have := cfg_area h
  intro i hi k hk
  rcases ho with rfl | rfl
  all_goals
    match i, hi, k, hk with
    | 1, _, 0, _ => simp [startsL, sizesL]; try omega
    | 2, _, 0, _ => simp [startsL, sizesL]; try omega
    | 2, _, 1, _ => simp [startsL, sizesL]; try omega
    | 3, _, 0, _ => simp [startsL, sizesL]; try omega
    | 3, _, 1, _ => simp [startsL, sizesL]; try omega
    | 3, _, 2, _ => simp [startsL, sizesL]; try omega
    | 4, _, 0, _ => simp [startsL, sizesL]; try omega
    | 4, _, 1, _ => simp [startsL, sizesL]; try omega
    | 4, _, 2, _ => simp [startsL, sizesL]; try omega
    | 4, _, 3, _ => simp [startsL, sizesL]; try omega
theorem five_at (l : List Int) (h : l.length = 5) (i : Nat) (hi : i < 5) : (#[.int .i64 (l.getD 0 0), .int .i64 (l.getD 1 0), .int .i64 (l.getD 2 0), .int .i64 (l.getD 3 0), .int .i64 (l.getD 4 0)] : Array Value)[i]? = some (.int .i64 (l.getD i 0)) := by
  match i, hi with
  | 0, _ => rfl
  | 1, _ => rfl
  | 2, _ => rfl
  | 3, _ => rfl
  | 4, _ => rfl
set_option maxRecDepth 100000 in
set_option maxHeartbeats 4000000 in
theorem labelAreas_walk (c : Cfg) (gen : BitVec 64) (w : World) :
    Calls Try.prog 4 #[cfgV c, encU gen] w fun e w' => e = .returned (.bool true) ∧ Below w.heap.size w w' := by
  have hgn : IntKind.u64.wrap (un gen + 1) = un (gen + 1#64) := by
    unfold un
    simp only [IntKind.wrap, IntKind.bits, IntKind.signed]
    simp [BitVec.toNat_add]
  have hpar : un (gen + 1#64) % 2 = 1 - un gen % 2 := by
    unfold un
    rw [BitVec.toNat_add]
    have : (1#64).toNat = 1 := rfl
    have := gen.isLt
    omega
  have ho : un gen % 2 = 0 ∨ un gen % 2 = 1 := by have := un_bound gen; omega
  have HA := Lib.hid (areas_any c gen)
  have HRA := Lib.hid (rareas_any c gen)
  have HNA := Lib.hid (areas_any c (gen + 1#64))
  have HB1 : Hid (BoxAt (w.alloc (.cells (cfgA c).toArray 26)) w.heap.size (cfgA c).toArray 26) := BoxAt.new _ _ _
  have HX1 : Hid (Ext w (w.alloc (.cells (cfgA c).toArray 26))) := Ext.alloc _ _
  unfold areaV at HA HRA HNA
  go_enter Try.func4, Try.ntmps4
  go_upto_region 1 with fail
  obtain ⟨w1, hw1⟩ : ∃ w1, w.alloc (.cells (cfgA c).toArray 26) = w1 := ⟨_, rfl⟩
  rw [hw1] at HB1 HX1
  refine Eq.mp (congrArg _ hw1.symm) ?_
  clear hw1
  go_wp2_with fail
  go_at_call 10
  refine (awake_any _).mono ?_
  rintro e w2 ⟨rfl, hx2⟩
  have HX2 : Hid (Ext w w2) := HX1.out.trans hx2
  have HB2 := Lib.hid (HB1.out.ext hx2)
  clear hx2 HB1 HX1
  go_wp2_with (refine wpList_loadR 26 _ rfl (by rfl) rfl (cfg_load HB2.out) ?_)
  go_at_call 13
  refine (HA.out _).mono ?_
  rintro e w3 ⟨rfl, hx3⟩
  have HX3 : Hid (Ext w w3) := HX2.out.trans hx3
  have HB3 := Lib.hid (HB2.out.ext hx3)
  clear hx3
  cases hc : cfgB c with
  | false =>
    rw [hc] at HRA
    simp only [Bool.false_eq_true, if_false] at HRA ⊢
    go_wp2_with (refine wpList_loadR 26 _ rfl (by rfl) rfl (cfg_load HB3.out) ?_)
    go_at_call 14
    refine (HRA.out _).mono ?_
    rintro e w4 ⟨rfl, hx4⟩
    have HX4 : Hid (Ext w w4) := HX3.out.trans hx4
    clear hx4
    go_wp2_with fail
    go_ret
    exact ⟨rfl, HX4.out⟩
  | true =>
    rw [hc] at HRA HNA
    rw [hpar] at HNA
    have HOK := Lib.hid (startsL_ok hc ho)
    have HAP := Lib.hid (startsL_apart hc ho)
    have hS5 : (startsL c (un gen % 2)).length = 5 := rfl
    have hZ5 : (sizesL c).length = 5 := rfl
    have HZ : Hid ((sizesL c).getD 0 0 = 6 ∧ (sizesL c).getD 1 0 = 6 ∧ (sizesL c).getD 2 0 = c.a ∧ (sizesL c).getD 3 0 = c.a ∧ (sizesL c).getD 4 0 = c.g) := ⟨rfl, rfl, rfl, rfl, rfl⟩
    simp only [if_true] at HRA HNA ⊢
    rw [show un gen % 2 * 6 = (startsL c (un gen % 2)).getD 0 0 from rfl, show 12 + un gen % 2 * c.a = (startsL c (un gen % 2)).getD 2 0 from rfl, show 12 + 2 * c.a = (startsL c (un gen % 2)).getD 4 0 from rfl] at HRA ⊢
    rw [show (1 - un gen % 2) * 6 = (startsL c (un gen % 2)).getD 1 0 from rfl, show 12 + (1 - un gen % 2) * c.a = (startsL c (un gen % 2)).getD 3 0 from rfl, show 12 + 2 * c.a = (startsL c (un gen % 2)).getD 4 0 from rfl] at HNA
    generalize startsL c (un gen % 2) = S at *
    generalize sizesL c = Z at *
    have HS : Hid (∀ i, i < 5 → (#[.int .i64 (S.getD 0 0), .int .i64 (S.getD 1 0), .int .i64 (S.getD 2 0), .int .i64 (S.getD 3 0), .int .i64 (S.getD 4 0)] : Array Value)[i]? = some (.int .i64 (S.getD i 0))) := fun i hi => five_at S hS5 i hi
    have HZZ : Hid (∀ i, i < 5 → (#[.int .i64 6, .int .i64 6, .int .i64 c.a, .int .i64 c.a, .int .i64 c.g] : Array Value)[i]? = some (.int .i64 (Z.getD i 0))) := fun i hi => by
      have := five_at Z hZ5 i hi
      obtain ⟨z0, z1, z2, z3, z4⟩ := HZ.out
      rw [z0, z1, z2, z3, z4] at this
      exact this
    obtain ⟨s0, hs0⟩ : ∃ s, S.getD 0 0 = s := ⟨_, rfl⟩
    obtain ⟨s1, hs1⟩ : ∃ s, S.getD 1 0 = s := ⟨_, rfl⟩
    obtain ⟨s2, hs2⟩ : ∃ s, S.getD 2 0 = s := ⟨_, rfl⟩
    obtain ⟨s3, hs3⟩ : ∃ s, S.getD 3 0 = s := ⟨_, rfl⟩
    obtain ⟨s4, hs4⟩ : ∃ s, S.getD 4 0 = s := ⟨_, rfl⟩
    rw [hs0, hs1, hs2, hs3, hs4] at HS
    rw [hs0, hs2, hs4] at HRA ⊢
    rw [hs1, hs3, hs4] at HNA
    clear hs0 hs1 hs2 hs3 hs4 hS5 hZ5 hpar ho hc HZ
    go_wp2_with (refine wpList_loadR 26 _ rfl (by rfl) rfl (cfg_load HB3.out) ?_)
    go_at_call 14
    refine (HRA.out _).mono ?_
    rintro e w4 ⟨rfl, hx4⟩
    have HX4 : Hid (Ext w w4) := HX3.out.trans hx4
    have HB4 := Lib.hid (HB3.out.ext hx4)
    clear hx4
    go_wp2_with (refine wpList_loadR 26 _ rfl (by rfl) rfl (cfg_load HB4.out) ?_)
    go_at_call 13
    refine (HNA.out _).mono ?_
    rintro e w5 ⟨rfl, hx5⟩
    have HX5 : Hid (Ext w w5) := HX4.out.trans hx5
    have HB5 := Lib.hid (HB4.out.ext hx5)
    have c9 := HB5.out.cell 9 (v := .int .i64 c.a) rfl
    have c10 := HB5.out.cell 10 (v := .int .i64 c.g) rfl
    have hgl := HB5.out.lt
    clear hx5 HB2 HB3 HB4 HX2 HX3 HX4 HA HRA HNA hgn
    have HD1 : Hid (BoxAt ((w5.alloc (.cells #[.int .i64 s0, .int .i64 s1, .int .i64 s2, .int .i64 s3, .int .i64 s4] 39)).alloc (.cells #[.int .i64 6, .int .i64 6, .int .i64 c.a, .int .i64 c.a, .int .i64 c.g] 39)) w5.heap.size #[.int .i64 s0, .int .i64 s1, .int .i64 s2, .int .i64 s3, .int .i64 s4] 39) := (BoxAt.new _ _ _).ext (Ext.alloc _ _)
    have HD2 : Hid (BoxAt ((w5.alloc (.cells #[.int .i64 s0, .int .i64 s1, .int .i64 s2, .int .i64 s3, .int .i64 s4] 39)).alloc (.cells #[.int .i64 6, .int .i64 6, .int .i64 c.a, .int .i64 c.a, .int .i64 c.g] 39)) (w5.heap.size + 1) #[.int .i64 6, .int .i64 6, .int .i64 c.a, .int .i64 c.a, .int .i64 c.g] 39) := box_new2 _ _ _ _
    have HX6 : Hid (Ext w5 ((w5.alloc (.cells #[.int .i64 s0, .int .i64 s1, .int .i64 s2, .int .i64 s3, .int .i64 s4] 39)).alloc (.cells #[.int .i64 6, .int .i64 6, .int .i64 c.a, .int .i64 c.a, .int .i64 c.g] 39))) := (Ext.alloc _ _).trans (Ext.alloc _ _)
    go_wp2_with fail
    generalize (w5.alloc (.cells #[.int .i64 s0, .int .i64 s1, .int .i64 s2, .int .i64 s3, .int .i64 s4] 39)).alloc (.cells #[.int .i64 6, .int .i64 6, .int .i64 c.a, .int .i64 c.a, .int .i64 c.g] 39) = w6 at *
    have HB6 := Lib.hid (HB5.out.ext HX6.out)
    have HXW := Lib.hid (HX5.out.trans HX6.out)
    clear c9 c10 hgl HB5 HX6 HX5
    go_loopw [88] (fun it wr => ∃ i : Nat, i ≤ 5 ∧ it = .int .i64 i ∧ Hid (Ext w6 wr)) (fun it _ => 5 - (intOf it).toNat)
    case atStart => exact ⟨0, by decide, rfl, Lib.hid (Ext.refl _)⟩
    case round =>
      obtain ⟨i, hi, rfl, HX⟩ := hrel
      by_cases hlt : i < 5
      · have hin : (i : Int) < 5 := by omega
        have hi0 : (0 : Int) ≤ (i : Int) := by omega
        obtain ⟨f1, f2, f3, f4, f5⟩ := HOK.out i hlt
        have HAPi := Lib.hid (HAP.out i hlt)
        have HSi := Lib.hid (HS.out i hlt)
        have HZi := Lib.hid (HZZ.out i hlt)
        have d1 := (HD1.out.ext HX.out).cell i HSi.out
        have d2 := (HD2.out.ext HX.out).cell i HZi.out
        have d3 := (HB6.out.ext HX.out).cell 4 (v := .int .i64 c.r) rfl
        have l1 := (HD1.out.ext HX.out).lt
        have l2 := (HD2.out.ext HX.out).lt
        have l3 := (HB6.out.ext HX.out).lt
        obtain ⟨si, hsi⟩ : ∃ s, S.getD i 0 = s := ⟨_, rfl⟩
        obtain ⟨zi, hzi⟩ : ∃ s, Z.getD i 0 = s := ⟨_, rfl⟩
        rw [hsi] at HAPi HSi d1 f1 f2 f3
        rw [hzi] at HAPi HZi d2 f2 f4 f5
        have n1 : decide (si < 0) = false := by rw [decide_eq_false_iff_not]; omega
        have n2 : decide (c.r < si + zi) = false := by rw [decide_eq_false_iff_not]; omega
        clear hsi hzi
        go_wp2_with fail
        refine wp_region_ext [(0, true), (1, true), (2, true), (3, true), (4, true), (5, true), (6, true), (7, true), (8, true), (9, true), (10, true), (11, true), (12, true), (13, true), (14, true), (15, true), (16, true)] (by kernel_rfl) (by kernel_rfl) ?_
        iterate 17 (first
         | (refine ext_move rfl rfl (by rfl) (by rfl) ?_; simp only [Act.put, List.setIfInBounds_toArray, List.set_cons_zero, List.set_cons_succ])
         | (refine ext_assign rfl rfl (by rfl) (by rfl) ?_; simp only [Act.put, List.setIfInBounds_toArray, List.set_cons_zero, List.set_cons_succ])
         | (refine ext_pick_t rfl rfl (by rfl) (by rfl) (by rfl) ?_; simp only [Act.put, List.setIfInBounds_toArray, List.set_cons_zero, List.set_cons_succ])
         | (refine ext_pick_f rfl rfl (by rfl) (by rfl) (by rfl) ?_; simp only [Act.put, List.setIfInBounds_toArray, List.set_cons_zero, List.set_cons_succ])
         | (apply ext_take rfl (by rfl)
            · intro w' hS
              have hSc := hS.cells
              (try simp only [World.size_drew, World.cell?_drew] at hSc)
              go_simp
              (try simp (disch := omega) only [i64_id, u64_id, ↓IntWalk.iteOmega, Int.tdiv_eq_ediv_of_nonneg, Int.tmod_eq_emod_of_nonneg])
              try rfl
            simp only [Act.put, List.setIfInBounds_toArray, List.set_cons_zero, List.set_cons_succ])
         | (refine ext_pass rfl (by rfl) ?_; simp only [Act.put, List.setIfInBounds_toArray, List.set_cons_zero, List.set_cons_succ]))
        refine ext_nil ?_
        have HXd := Lib.hid (HX.out.trans (Ext.drew _))
        clear d1 d2 d3 l1 l2 l3 n1 n2
        generalize wr.drew = wo at *
        go_wp2_with fail
        go_loopw [109] (fun kt wr => ∃ k : Nat, k ≤ i ∧ kt = .int .i64 k ∧ Hid (Ext w6 wr)) (fun kt _ => i - (intOf kt).toNat)
        case atStart => exact ⟨0, Nat.zero_le _, rfl, HXd⟩
        case round =>
          obtain ⟨k, hk, rfl, HXk⟩ := hrel
          by_cases hki : k < i
          · have hkI : (k : Int) < (i : Int) := by omega
            have hk5 : (k : Int) < 5 := by omega
            have hk0 : (0 : Int) ≤ (k : Int) := by omega
            obtain ⟨g1, g2, g3, g4, g5⟩ := HOK.out k (by omega)
            have hap := HAPi.out k hki
            have HSk := Lib.hid (HS.out k (by omega))
            have HZk := Lib.hid (HZZ.out k (by omega))
            have d1 := (HD1.out.ext HXk.out).cell i HSi.out
            have d2 := (HD2.out.ext HXk.out).cell i HZi.out
            have d3 := (HD1.out.ext HXk.out).cell k HSk.out
            have d4 := (HD2.out.ext HXk.out).cell k HZk.out
            have l1 := (HD1.out.ext HXk.out).lt
            have l2 := (HD2.out.ext HXk.out).lt
            obtain ⟨sk, hsk⟩ : ∃ s, S.getD k 0 = s := ⟨_, rfl⟩
            obtain ⟨zk, hzk⟩ : ∃ s, Z.getD k 0 = s := ⟨_, rfl⟩
            rw [hsk] at hap HSk d3 g1 g2 g3
            rw [hzk] at hap HZk d4 g2 g4 g5
            clear hsk hzk
            by_cases hlt2 : si < sk + zk
            · have n1 : decide (si < sk + zk) = true := by rw [decide_eq_true_iff]; exact hlt2
              have n2 : decide (sk < si + zi) = false := by rw [decide_eq_false_iff_not]; exact fun e => hap ⟨hlt2, e⟩
              clear hap hlt2
              go_wp2_with fail
              refine wp_region_ext [(0, true), (1, true), (2, true), (3, true), (4, true), (5, true), (6, true), (7, true), (8, true), (9, true), (10, true), (11, true), (12, true), (13, true), (14, true), (15, true), (16, true), (17, true), (18, true), (19, true), (20, true), (21, true), (22, true), (23, true)] (by kernel_rfl) (by kernel_rfl) ?_
              iterate 24 (first
               | (refine ext_move rfl rfl (by rfl) (by rfl) ?_; simp only [Act.put, List.setIfInBounds_toArray, List.set_cons_zero, List.set_cons_succ])
               | (refine ext_assign rfl rfl (by rfl) (by rfl) ?_; simp only [Act.put, List.setIfInBounds_toArray, List.set_cons_zero, List.set_cons_succ])
               | (refine ext_pick_t rfl rfl (by rfl) (by rfl) (by rfl) ?_; simp only [Act.put, List.setIfInBounds_toArray, List.set_cons_zero, List.set_cons_succ])
               | (refine ext_pick_f rfl rfl (by rfl) (by rfl) (by rfl) ?_; simp only [Act.put, List.setIfInBounds_toArray, List.set_cons_zero, List.set_cons_succ])
               | (apply ext_take rfl (by rfl)
                  · intro w' hS
                    have hSc := hS.cells
                    (try simp only [World.size_drew, World.cell?_drew] at hSc)
                    go_simp
                    (try simp (disch := omega) only [i64_id, u64_id, ↓IntWalk.iteOmega, Int.tdiv_eq_ediv_of_nonneg, Int.tmod_eq_emod_of_nonneg])
                    try rfl
                  simp only [Act.put, List.setIfInBounds_toArray, List.set_cons_zero, List.set_cons_succ])
               | (refine ext_pass rfl (by rfl) ?_; simp only [Act.put, List.setIfInBounds_toArray, List.set_cons_zero, List.set_cons_succ]))
              refine ext_nil ?_
              go_wp2_with fail
              go_roundw
              case rel => exact ⟨k + 1, by omega, by go_num, HXk.out.trans (Ext.drew _)⟩
              case measure => simp [intOf]; omega
            · have n1 : decide (si < sk + zk) = false := by rw [decide_eq_false_iff_not]; exact hlt2
              clear hap hlt2
              go_wp2_with fail
              refine wp_region_ext [(0, true), (1, true), (2, true), (3, true), (4, true), (5, true), (6, true), (7, true), (8, true), (9, true), (10, true), (11, true), (12, true), (13, true), (14, true), (15, true), (16, true), (17, true), (18, true), (19, true), (20, true), (21, true), (22, true), (23, true)] (by kernel_rfl) (by kernel_rfl) ?_
              iterate 24 (first
               | (refine ext_move rfl rfl (by rfl) (by rfl) ?_; simp only [Act.put, List.setIfInBounds_toArray, List.set_cons_zero, List.set_cons_succ])
               | (refine ext_assign rfl rfl (by rfl) (by rfl) ?_; simp only [Act.put, List.setIfInBounds_toArray, List.set_cons_zero, List.set_cons_succ])
               | (refine ext_pick_t rfl rfl (by rfl) (by rfl) (by rfl) ?_; simp only [Act.put, List.setIfInBounds_toArray, List.set_cons_zero, List.set_cons_succ])
               | (refine ext_pick_f rfl rfl (by rfl) (by rfl) (by rfl) ?_; simp only [Act.put, List.setIfInBounds_toArray, List.set_cons_zero, List.set_cons_succ])
               | (apply ext_take rfl (by rfl)
                  · intro w' hS
                    have hSc := hS.cells
                    (try simp only [World.size_drew, World.cell?_drew] at hSc)
                    go_simp
                    (try simp (disch := omega) only [i64_id, u64_id, ↓IntWalk.iteOmega, Int.tdiv_eq_ediv_of_nonneg, Int.tmod_eq_emod_of_nonneg])
                    try rfl
                  simp only [Act.put, List.setIfInBounds_toArray, List.set_cons_zero, List.set_cons_succ])
               | (refine ext_pass rfl (by rfl) ?_; simp only [Act.put, List.setIfInBounds_toArray, List.set_cons_zero, List.set_cons_succ]))
              refine ext_nil ?_
              go_wp2_with fail
              go_roundw
              case rel => exact ⟨k + 1, by omega, by go_num, HXk.out.trans (Ext.drew _)⟩
              case measure => simp [intOf]; omega
          · have hki2 : k = i := by omega
            subst hki2
            have hin2 : ¬ ((k : Int) < (k : Int)) := by omega
            go_wp2_with fail
            go_roundw
            case rel => exact ⟨k + 1, by omega, by go_num, HXk⟩
            case measure => simp [intOf]; omega
      · have hin : i = 5 := by omega
        subst hin
        go_wp2_with fail
        go_ret
        exact ⟨rfl, HXW.out.trans HX.out⟩
end Go.Proofs.Ythjcdikpomlpmaa
