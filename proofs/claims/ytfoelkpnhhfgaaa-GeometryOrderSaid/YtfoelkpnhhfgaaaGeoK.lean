/-
  Chapter 10 (geometry): the walk of GeometryOrder.
-/
import Derived.Test.YtfoelkpnhhfgaaaGeoG
namespace Go.Proofs.Ytfoelkpnhhfgaaa
open Go.ChangeShapes Go.WideShapes Go.ChangeAt Go.RowKit
set_option linter.unusedVariables false

theorem loc_shadow {r b t s o a : Int} (hv : validB r b t s o = true) (hin : inB r b t s o a = true) (m : Int) (hm : 0 ≤ m) (hmt : (loc r b t s o a).track + m < t) :
    loc r b t s o (a + m * s) = ⟨(loc r b t s o a).band, (loc r b t s o a).track + m, (loc r b t s o a).pos, 0⟩ := by
  have hb := bounds hv
  have hp := prod_bounds hv
  obtain ⟨h1, h2, h3, h4, h5, h6, h7⟩ := loc_back hv hin
  have hin' : inB r b t s o (a + m * s) = true := by
    simp only [inB, decide_eq_true_eq]
    have hj : r ≤ a ∧ a < r + b * (t * s) := by simpa only [inB, decide_eq_true_eq] using hin
    have h0 := Int.mul_nonneg hm (show 0 ≤ s by omega)
    refine ⟨by omega, ?_⟩
    generalize loc r b t s o a = L at *
    have e1 : (L.band + 1) * t ≤ b * t := Int.mul_le_mul_of_nonneg_right (by omega) (by omega)
    rw [Int.add_mul, Int.one_mul] at e1
    have e2 : (L.band * t + L.track + m + 1) * s ≤ b * t * s := Int.mul_le_mul_of_nonneg_right (by omega) (by omega)
    rw [Int.mul_assoc b t s, Int.add_mul (L.band * t + L.track + m), Int.add_mul (L.band * t + L.track), Int.one_mul] at e2
    omega
  rw [loc_in hv hin] at hmt ⊢
  rw [loc_in hv hin']
  have hs : s ≠ 0 := by omega
  have q1 : (a + m * s - r) = (a - r) + m * s := by omega
  have q2 : (a + m * s - r) / s = (a - r) / s + m := by rw [q1, Int.add_mul_ediv_right _ _ hs]
  have q3 : (a + m * s - r) % s = (a - r) % s := by rw [q1]; simp
  rw [q2, q3]
  have h3' : 0 ≤ (a - r) / s % t := Int.emod_nonneg _ (by omega)
  have h8 : (a - r) / s % t + t * ((a - r) / s / t) = (a - r) / s := Int.emod_add_mul_ediv _ _
  have := (Int.ediv_emod_unique (a := (a - r) / s + m) (b := t) (q := (a - r) / s / t) (r := (a - r) / s % t + m) (by omega)).2 ⟨by omega, by omega, hmt⟩
  rw [this.1, this.2]

set_option maxHeartbeats 1000000 in
theorem geometryOrder_walk (r b t s o a : Int) (w : World) :
    Calls Try.prog 5 #[geoV r b t s o, .int .i64 a] w fun e w' => e = .returned (.bool true) ∧ Below w.heap.size w w' := by
  by_cases he : (loc r b t s o a).err = 0
  · have hv : validB r b t s o = true := by
      rcases h : validB r b t s o with _ | _
      · rw [loc_no h] at he; exact absurd he (by decide)
      · rfl
    have hin : inB r b t s o a = true := by
      rcases h : inB r b t s o a with _ | _
      · rw [loc_out hv h] at he; exact absurd he (by decide)
      · rfl
    have HV := Lib.hid hv
    have hb := bounds hv
    have hp := prod_bounds hv
    have hj : r ≤ a ∧ a < r + b * (t * s) := by simpa only [inB, decide_eq_true_eq] using hin
    have HL : Hid (∀ m : Int, 0 ≤ m → (loc r b t s o a).track + m < t → loc r b t s o (a + m * s) = ⟨(loc r b t s o a).band, (loc r b t s o a).track + m, (loc r b t s o a).pos, 0⟩) := loc_shadow hv hin
    have HS : Hid (shw r b t s o a = shwN s a (min o.toNat (t - 1 - (loc r b t s o a).track).toNat)) := by
      show _ = _; unfold shw shwC; rw [if_pos he]
    have htr := loc_back hv hin
    clear hv hin
    generalize hlo : loc r b t s o a = L at *
    have HLO := Lib.hid hlo
    clear hlo
    obtain ⟨x, y, z, e⟩ := L
    simp only at he
    subst he
    simp only at HL HS htr
    obtain ⟨hl1, hl2, hl3, hl4, hl5, hl6, _⟩ := htr
    generalize hC : min o.toNat (t - 1 - y).toNat = C at *
    have hcC : (C : Int) = min o (t - 1 - y) := by omega
    have hcC2 : (C : Int) ≤ o ∧ (C : Int) ≤ t - 1 - y := by omega
    have HC := Lib.hid hcC
    clear hC hcC
    go_enter Try.func5, Try.ntmps5
    go_wp2_with fail
    have hz : w.heap.size < (w.alloc (.cells #[.int .i64 r, .int .i64 b, .int .i64 t, .int .i64 s, .int .i64 o] 23)).heap.size := by simp
    generalize hW : w.alloc (.cells #[.int .i64 r, .int .i64 b, .int .i64 t, .int .i64 s, .int .i64 o] 23) = W at *
    have c0 : W.cell? ⟨w.heap.size, 0, none⟩ = some (.int .i64 r) := by rw [← hW]; simp
    have c1 : W.cell? ⟨w.heap.size, 1, none⟩ = some (.int .i64 b) := by rw [← hW]; simp
    have c2 : W.cell? ⟨w.heap.size, 2, none⟩ = some (.int .i64 t) := by rw [← hW]; simp
    have c3 : W.cell? ⟨w.heap.size, 3, none⟩ = some (.int .i64 s) := by rw [← hW]; simp
    have c4 : W.cell? ⟨w.heap.size, 4, none⟩ = some (.int .i64 o) := by rw [← hW]; simp
    have hxW : Ext w W := by rw [← hW]; exact Ext.alloc _ _
    clear hW
    have hx0 := Ext.refl W
    go_wp2_with (first
      | (go_at_call 18; refine (shadow_any _ _ _ _ _ _ _).mono ?_; rintro e w1 ⟨v1, rfl, hs1, hb1⟩; rw [HS.out] at hs1; obtain ⟨ad, cap, rfl, hs1⟩ := hs1; have HS1 := Lib.hid hs1; clear hs1; rw [shwN_length]; have hx1 : Ext W w1 := hx0.trans hb1; have hc1 := hx1.cells; have hz1 := Nat.lt_of_lt_of_le hz hx1.below.size)
      | (go_at_call 10; refine (awake_any _).mono ?_; rintro e w2 ⟨rfl, hb2⟩; have hx2 : Ext W w2 := hx1.trans hb2; have hc2 := hx2.cells; have hz2 := Nat.lt_of_lt_of_le hz hx2.below.size)
      | (go_at_call 12; refine (rvalid_yes _ _ _ _ _ HV.out _).mono ?_; rintro e w3 ⟨rfl, hb3⟩; have hx3 : Ext W w3 := hx2.trans hb3; have hc3 := hx3.cells; have hz3 := Nat.lt_of_lt_of_le hz hx3.below.size)
      | ((go_at_call 20; refine (rlocate_any _ _ _ _ _ _ _).mono ?_; rintro e w4 ⟨rfl, hb4⟩; have hx4 : Ext W w4 := hx3.trans hb4; have hc4 := hx4.cells; have hz4 := Nat.lt_of_lt_of_le hz hx4.below.size); rw [HLO.out]))
    have hx14 := ((Ext.refl w1).trans hb2 |>.trans hb3).trans hb4
    go_loopw [10, 11, 12, 13, 14] (fun i _ _ _ _ wr => ∃ n : Nat, n ≤ C ∧ i = .int .i64 n ∧ Ext w4 wr) (fun i _ _ _ _ _ => C - (intOf i).toNat)
    case atStart => exact ⟨0, Nat.zero_le _, rfl, Ext.refl _⟩
    case round =>
      obtain ⟨n, hn, rfl, hx⟩ := hrel
      have hx5 := hx4.trans hx
      have hx15 := hx14.trans hx
      have hc5 := hx5.cells
      have hz5 := Nat.lt_of_lt_of_le hz hx5.below.size
      by_cases hlt : n < C
      · rcases HS1.out with ⟨ha, _⟩ | ⟨b1, o1, rfl, hb11, ha⟩
        · have := congrArg List.length ha; rw [shwN_length] at this; simp at this; omega
        have g1 : wr.cell? ⟨b1, o1 + n, none⟩ = some (.int .i64 (a + ((n : Int) + 1) * s)) := by
          rw [hx15.cell _ _ hb11, ha n (by rw [shwN_length]; exact hlt)]
          simp [shwN]
        have i1 : (n : Int) < (C : Int) := by omega
        have z1 : b1 < wr.heap.size := Nat.lt_of_lt_of_le hb11 hx15.below.size
        have HM := Lib.hid (HL.out ((n : Int) + 1) (by omega) (by omega))
        clear ha
        go_wp2
        have hxd := hx5.trans (Ext.drew wr)
        refine wp_region_ext [(0, true), (1, true), (2, true), (3, true), (4, true), (5, false), (6, true), (7, true), (8, true), (9, true), (10, true), (11, true), (12, true), (13, true), (14, true)] (by kernel_rfl) (by kernel_rfl) ?_
        iterate 5 (first
         | (refine ext_move rfl rfl (by rfl) (by rfl) ?_; simp only [Act.put, List.setIfInBounds_toArray, List.set_cons_zero, List.set_cons_succ])
         | (refine ext_assign rfl rfl (by rfl) (by rfl) ?_; simp only [Act.put, List.setIfInBounds_toArray, List.set_cons_zero, List.set_cons_succ])
         | (refine ext_pick_t rfl rfl (by rfl) (by rfl) (by rfl) ?_; simp only [Act.put, List.setIfInBounds_toArray, List.set_cons_zero, List.set_cons_succ])
         | (refine ext_pick_f rfl rfl (by rfl) (by rfl) (by rfl) ?_; simp only [Act.put, List.setIfInBounds_toArray, List.set_cons_zero, List.set_cons_succ])
         | (apply ext_take rfl (by rfl)
            · intro w' hS
              have hSc := hS.cells
              (try simp only [World.size_drew, World.cell?_drew] at hSc)
              go_simp
              (try simp (disch := omega) only [i64_id, ↓IntWalk.iteOmega, Int.tdiv_eq_ediv_of_nonneg, Int.tmod_eq_emod_of_nonneg])
              try rfl
            simp only [Act.put, List.setIfInBounds_toArray, List.set_cons_zero, List.set_cons_succ])
         | (refine ext_pass rfl (by rfl) ?_; simp only [Act.put, List.setIfInBounds_toArray, List.set_cons_zero, List.set_cons_succ]))
        refine ext_do rfl (by rfl) (fun K hK => ?_)
        go_simp
        go_at_call 20
        refine (rlocate_any _ _ _ _ _ _ _).mono ?_
        rintro e w6 ⟨rfl, hb6⟩
        rw [HM.out]
        have hx6 : Ext W w6 := hxd.trans hb6
        have hc6 := hx6.cells
        have hz6 := Nat.lt_of_lt_of_le hz hx6.below.size
        refine hK _ _ (by first | exact hb6 | exact (Ext.drew _).trans hb6) ?_
        clear hK K
        (try simp only [Act.put, List.setIfInBounds_toArray, List.set_cons_zero, List.set_cons_succ])
        iterate 9 (first
         | (refine ext_move rfl rfl (by rfl) (by rfl) ?_; simp only [Act.put, List.setIfInBounds_toArray, List.set_cons_zero, List.set_cons_succ])
         | (refine ext_assign rfl rfl (by rfl) (by rfl) ?_; simp only [Act.put, List.setIfInBounds_toArray, List.set_cons_zero, List.set_cons_succ])
         | (refine ext_pick_t rfl rfl (by rfl) (by rfl) (by rfl) ?_; simp only [Act.put, List.setIfInBounds_toArray, List.set_cons_zero, List.set_cons_succ])
         | (refine ext_pick_f rfl rfl (by rfl) (by rfl) (by rfl) ?_; simp only [Act.put, List.setIfInBounds_toArray, List.set_cons_zero, List.set_cons_succ])
         | (apply ext_take rfl (by rfl)
            · intro w' hS
              have hSc := hS.cells
              (try simp only [World.size_drew, World.cell?_drew] at hSc)
              go_simp
              (try simp (disch := omega) only [i64_id, ↓IntWalk.iteOmega, Int.tdiv_eq_ediv_of_nonneg, Int.tmod_eq_emod_of_nonneg])
              try rfl
            simp only [Act.put, List.setIfInBounds_toArray, List.set_cons_zero, List.set_cons_succ])
         | (refine ext_pass rfl (by rfl) ?_; simp only [Act.put, List.setIfInBounds_toArray, List.set_cons_zero, List.set_cons_succ]))
        refine ext_nil ?_
        have e1 : y + ((n : Int) + 1) = y + 1 + n := by omega
        rw [e1]
        go_wp2
        go_roundw
        case rel => exact ⟨n + 1, by omega, by go_num, hx.trans ((Ext.drew _).trans hb6)⟩
        case measure => simp [intOf]; omega
      · have : n = C := by omega
        subst this
        go_wp2
        all_goals go_ret
        all_goals exact ⟨ret_bool (by have := HC.out; simp only [beq_iff_eq]; omega), hxW.trans hx5⟩
  · have HS : Hid (shw r b t s o a = []) := by
      show _ = _; unfold shw shwC; rw [if_neg he]; rfl
    rcases hv : validB r b t s o with _ | _
    · have HV := Lib.hid hv; clear hv
      go_enter Try.func5, Try.ntmps5
      go_wp2_with fail
      have hz : w.heap.size < (w.alloc (.cells #[.int .i64 r, .int .i64 b, .int .i64 t, .int .i64 s, .int .i64 o] 23)).heap.size := by simp
      generalize hW : w.alloc (.cells #[.int .i64 r, .int .i64 b, .int .i64 t, .int .i64 s, .int .i64 o] 23) = W at *
      have c0 : W.cell? ⟨w.heap.size, 0, none⟩ = some (.int .i64 r) := by rw [← hW]; simp
      have c1 : W.cell? ⟨w.heap.size, 1, none⟩ = some (.int .i64 b) := by rw [← hW]; simp
      have c2 : W.cell? ⟨w.heap.size, 2, none⟩ = some (.int .i64 t) := by rw [← hW]; simp
      have c3 : W.cell? ⟨w.heap.size, 3, none⟩ = some (.int .i64 s) := by rw [← hW]; simp
      have c4 : W.cell? ⟨w.heap.size, 4, none⟩ = some (.int .i64 o) := by rw [← hW]; simp
      have hxW : Ext w W := by rw [← hW]; exact Ext.alloc _ _
      clear hW
      have hx0 := Ext.refl W
      have tok := True.intro
      go_wp2_with (first
        | (go_at_call 18; refine (shadow_any _ _ _ _ _ _ _).mono ?_; rintro e w1 ⟨v1, rfl, hs1, hb1⟩; rw [HS.out] at hs1; obtain ⟨ad, cap, rfl, hs1⟩ := hs1; clear hs1; rw [List.length_nil]; have hx1 : Ext W w1 := hx0.trans hb1; have hc1 := hx1.cells; have hz1 := Nat.lt_of_lt_of_le hz hx1.below.size)
        | (have _t := tok; (go_at_call 10; refine (awake_any _).mono ?_; rintro e w2 ⟨rfl, hb2⟩; have hx2 : Ext W w2 := hx1.trans hb2; have hc2 := hx2.cells; have hz2 := Nat.lt_of_lt_of_le hz hx2.below.size); clear tok _t)
        | (go_at_call 12; refine (rvalid_no _ _ _ _ _ HV.out _).mono ?_; rintro e w3 ⟨rfl, hb3⟩; have hx3 : Ext W w3 := hx2.trans hb3; have hc3 := hx3.cells; have hz3 := Nat.lt_of_lt_of_le hz hx3.below.size)
        | (go_at_call 10; refine (awake_any _).mono ?_; rintro e w4 ⟨rfl, hb4⟩; have hx4 : Ext W w4 := hx3.trans hb4; have hc4 := hx4.cells; have hz4 := Nat.lt_of_lt_of_le hz hx4.below.size))
      go_ret
      exact ⟨rfl, hxW.trans hx4⟩
    · have HV := Lib.hid hv
      generalize hlo : loc r b t s o a = L at *
      have HLO := Lib.hid hlo
      have hef : (L.err == 0) = false := by rw [beq_eq_false_iff_ne]; exact he
      have hef2 : (L.err != 0) = true := by rw [bne_iff_ne]; exact he
      clear hlo he hv
      go_enter Try.func5, Try.ntmps5
      go_wp2_with fail
      have hz : w.heap.size < (w.alloc (.cells #[.int .i64 r, .int .i64 b, .int .i64 t, .int .i64 s, .int .i64 o] 23)).heap.size := by simp
      generalize hW : w.alloc (.cells #[.int .i64 r, .int .i64 b, .int .i64 t, .int .i64 s, .int .i64 o] 23) = W at *
      have c0 : W.cell? ⟨w.heap.size, 0, none⟩ = some (.int .i64 r) := by rw [← hW]; simp
      have c1 : W.cell? ⟨w.heap.size, 1, none⟩ = some (.int .i64 b) := by rw [← hW]; simp
      have c2 : W.cell? ⟨w.heap.size, 2, none⟩ = some (.int .i64 t) := by rw [← hW]; simp
      have c3 : W.cell? ⟨w.heap.size, 3, none⟩ = some (.int .i64 s) := by rw [← hW]; simp
      have c4 : W.cell? ⟨w.heap.size, 4, none⟩ = some (.int .i64 o) := by rw [← hW]; simp
      have hxW : Ext w W := by rw [← hW]; exact Ext.alloc _ _
      clear hW
      have hx0 := Ext.refl W
      go_wp2_with (first
        | (go_at_call 18; refine (shadow_any _ _ _ _ _ _ _).mono ?_; rintro e w1 ⟨v1, rfl, hs1, hb1⟩; rw [HS.out] at hs1; obtain ⟨ad, cap, rfl, hs1⟩ := hs1; clear hs1; rw [List.length_nil]; have hx1 : Ext W w1 := hx0.trans hb1; have hc1 := hx1.cells; have hz1 := Nat.lt_of_lt_of_le hz hx1.below.size)
        | (go_at_call 10; refine (awake_any _).mono ?_; rintro e w2 ⟨rfl, hb2⟩; have hx2 : Ext W w2 := hx1.trans hb2; have hc2 := hx2.cells; have hz2 := Nat.lt_of_lt_of_le hz hx2.below.size)
        | (go_at_call 12; refine (rvalid_yes _ _ _ _ _ HV.out _).mono ?_; rintro e w3 ⟨rfl, hb3⟩; have hx3 : Ext W w3 := hx2.trans hb3; have hc3 := hx3.cells; have hz3 := Nat.lt_of_lt_of_le hz hx3.below.size)
        | ((go_at_call 20; refine (rlocate_any _ _ _ _ _ _ _).mono ?_; rintro e w4 ⟨rfl, hb4⟩; have hx4 : Ext W w4 := hx3.trans hb4; have hc4 := hx4.cells; have hz4 := Nat.lt_of_lt_of_le hz hx4.below.size); rw [HLO.out]))
      go_ret
      exact ⟨rfl, hxW.trans hx4⟩
end Go.Proofs.Ytfoelkpnhhfgaaa
