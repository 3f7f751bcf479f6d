/-
  Chapter 10 (geometry): the walk of GeometryInverse.
-/
import Derived.Test.YtfoelkpnhhfgaaaGeoI
namespace Go.Proofs.Ytfoelkpnhhfgaaa
open Go.ChangeShapes Go.WideShapes Go.ChangeAt Go.RowKit
set_option linter.unusedVariables false

set_option maxHeartbeats 1000000 in
theorem geometryInverse_walk (r b t s o a : Int) (w : World) :
    Calls Try.prog 9 #[geoV r b t s o, .int .i64 a] w fun e w' => e = .returned (.bool true) ∧ Below w.heap.size w w' := by
  rcases hv : validB r b t s o with _ | _
  · have HV := Lib.hid hv; clear hv
    go_enter Try.func9, Try.ntmps9
    go_wp2_with fail
    have hz : w.heap.size < (w.alloc (.cells #[.int .i64 r, .int .i64 b, .int .i64 t, .int .i64 s, .int .i64 o] 23)).heap.size := by simp
    generalize hW : w.alloc (.cells #[.int .i64 r, .int .i64 b, .int .i64 t, .int .i64 s, .int .i64 o] 23) = W at *
    have c0 : W.cell? ⟨w.heap.size, 0, none⟩ = some (.int .i64 r) := by rw [← hW]; simp
    have c1 : W.cell? ⟨w.heap.size, 1, none⟩ = some (.int .i64 b) := by rw [← hW]; simp
    have c2 : W.cell? ⟨w.heap.size, 2, none⟩ = some (.int .i64 t) := by rw [← hW]; simp
    have c3 : W.cell? ⟨w.heap.size, 3, none⟩ = some (.int .i64 s) := by rw [← hW]; simp
    have c4 : W.cell? ⟨w.heap.size, 4, none⟩ = some (.int .i64 o) := by rw [← hW]; simp
    have hxW : Ext w W := by rw [← hW]; exact Ext.alloc _ _
    clear hW
    have hx0 := Ext.refl W
    have tok := True.intro
    go_wp2_with (first
      | (have _t := tok; (go_at_call 10; refine (awake_any _).mono ?_; rintro e w1 ⟨rfl, hb1⟩; have hx1 : Ext W w1 := hx0.trans hb1; have hc1 := hx1.cells; have hz1 := Nat.lt_of_lt_of_le hz hx1.below.size); clear tok _t)
      | (go_at_call 12; refine (rvalid_no _ _ _ _ _ HV.out _).mono ?_; rintro e w2 ⟨rfl, hb2⟩; have hx2 : Ext W w2 := hx1.trans hb2; have hc2 := hx2.cells; have hz2 := Nat.lt_of_lt_of_le hz hx2.below.size)
      | (go_at_call 10; refine (awake_any _).mono ?_; rintro e w3 ⟨rfl, hb3⟩; have hx3 : Ext W w3 := hx2.trans hb3; have hc3 := hx3.cells; have hz3 := Nat.lt_of_lt_of_le hz hx3.below.size))
    go_ret
    exact ⟨rfl, hxW.trans hx3⟩
  · have HV := Lib.hid hv
    have hp := prod_bounds hv; have hb := bounds hv
    by_cases h0 : a < 0
    · clear hv
      go_enter Try.func9, Try.ntmps9
      go_wp2_with fail
      have hz : w.heap.size < (w.alloc (.cells #[.int .i64 r, .int .i64 b, .int .i64 t, .int .i64 s, .int .i64 o] 23)).heap.size := by simp
      generalize hW : w.alloc (.cells #[.int .i64 r, .int .i64 b, .int .i64 t, .int .i64 s, .int .i64 o] 23) = W at *
      have c0 : W.cell? ⟨w.heap.size, 0, none⟩ = some (.int .i64 r) := by rw [← hW]; simp
      have c1 : W.cell? ⟨w.heap.size, 1, none⟩ = some (.int .i64 b) := by rw [← hW]; simp
      have c2 : W.cell? ⟨w.heap.size, 2, none⟩ = some (.int .i64 t) := by rw [← hW]; simp
      have c3 : W.cell? ⟨w.heap.size, 3, none⟩ = some (.int .i64 s) := by rw [← hW]; simp
      have c4 : W.cell? ⟨w.heap.size, 4, none⟩ = some (.int .i64 o) := by rw [← hW]; simp
      have hxW : Ext w W := by rw [← hW]; exact Ext.alloc _ _
      clear hW
      have hx0 := Ext.refl W
      have tok := True.intro
      go_wp2_with (first
        | (have _t := tok; (go_at_call 10; refine (awake_any _).mono ?_; rintro e w1 ⟨rfl, hb1⟩; have hx1 : Ext W w1 := hx0.trans hb1; have hc1 := hx1.cells; have hz1 := Nat.lt_of_lt_of_le hz hx1.below.size); clear tok _t)
        | (go_at_call 12; refine (rvalid_yes _ _ _ _ _ HV.out _).mono ?_; rintro e w2 ⟨rfl, hb2⟩; have hx2 : Ext W w2 := hx1.trans hb2; have hc2 := hx2.cells; have hz2 := Nat.lt_of_lt_of_le hz hx2.below.size)
        | (go_at_call 10; refine (awake_any _).mono ?_; rintro e w3 ⟨rfl, hb3⟩; have hx3 : Ext W w3 := hx2.trans hb3; have hc3 := hx3.cells; have hz3 := Nat.lt_of_lt_of_le hz hx3.below.size))
      go_ret
      exact ⟨rfl, hxW.trans hx3⟩
    · by_cases h1 : r + b * (t * s) ≤ a
      · clear hv
        go_enter Try.func9, Try.ntmps9
        go_wp2_with fail
        have hz : w.heap.size < (w.alloc (.cells #[.int .i64 r, .int .i64 b, .int .i64 t, .int .i64 s, .int .i64 o] 23)).heap.size := by simp
        generalize hW : w.alloc (.cells #[.int .i64 r, .int .i64 b, .int .i64 t, .int .i64 s, .int .i64 o] 23) = W at *
        have c0 : W.cell? ⟨w.heap.size, 0, none⟩ = some (.int .i64 r) := by rw [← hW]; simp
        have c1 : W.cell? ⟨w.heap.size, 1, none⟩ = some (.int .i64 b) := by rw [← hW]; simp
        have c2 : W.cell? ⟨w.heap.size, 2, none⟩ = some (.int .i64 t) := by rw [← hW]; simp
        have c3 : W.cell? ⟨w.heap.size, 3, none⟩ = some (.int .i64 s) := by rw [← hW]; simp
        have c4 : W.cell? ⟨w.heap.size, 4, none⟩ = some (.int .i64 o) := by rw [← hW]; simp
        have hxW : Ext w W := by rw [← hW]; exact Ext.alloc _ _
        clear hW
        have hx0 := Ext.refl W
        have tok := True.intro
        go_wp2_with (first
          | (have _t := tok; (go_at_call 10; refine (awake_any _).mono ?_; rintro e w1 ⟨rfl, hb1⟩; have hx1 : Ext W w1 := hx0.trans hb1; have hc1 := hx1.cells; have hz1 := Nat.lt_of_lt_of_le hz hx1.below.size); clear tok _t)
          | (go_at_call 12; refine (rvalid_yes _ _ _ _ _ HV.out _).mono ?_; rintro e w2 ⟨rfl, hb2⟩; have hx2 : Ext W w2 := hx1.trans hb2; have hc2 := hx2.cells; have hz2 := Nat.lt_of_lt_of_le hz hx2.below.size)
          | (go_at_call 14; refine (rsize_any_yes _ _ _ _ _ HV.out _).mono ?_; rintro e w3 ⟨rfl, hb3⟩; have hx3 : Ext W w3 := hx2.trans hb3; have hc3 := hx3.cells; have hz3 := Nat.lt_of_lt_of_le hz hx3.below.size)
          | (go_at_call 10; refine (awake_any _).mono ?_; rintro e w4 ⟨rfl, hb4⟩; have hx4 : Ext W w4 := hx3.trans hb4; have hc4 := hx4.cells; have hz4 := Nat.lt_of_lt_of_le hz hx4.below.size))
        go_ret
        exact ⟨rfl, hxW.trans hx4⟩
      · by_cases hr : a < r
        · have hin : inB r b t s o a = false := by simp only [inB, decide_eq_false_iff_not]; omega
          have HL := Lib.hid (loc_out hv hin)
          have hrn : rnd r b t s o a = true := by rw [rnd_yes hv]; simp only [decide_eq_true_eq]; omega
          have HR := Lib.hid hrn
          clear hv hin hrn
          go_enter Try.func9, Try.ntmps9
          go_wp2_with fail
          have hz : w.heap.size < (w.alloc (.cells #[.int .i64 r, .int .i64 b, .int .i64 t, .int .i64 s, .int .i64 o] 23)).heap.size := by simp
          generalize hW : w.alloc (.cells #[.int .i64 r, .int .i64 b, .int .i64 t, .int .i64 s, .int .i64 o] 23) = W at *
          have c0 : W.cell? ⟨w.heap.size, 0, none⟩ = some (.int .i64 r) := by rw [← hW]; simp
          have c1 : W.cell? ⟨w.heap.size, 1, none⟩ = some (.int .i64 b) := by rw [← hW]; simp
          have c2 : W.cell? ⟨w.heap.size, 2, none⟩ = some (.int .i64 t) := by rw [← hW]; simp
          have c3 : W.cell? ⟨w.heap.size, 3, none⟩ = some (.int .i64 s) := by rw [← hW]; simp
          have c4 : W.cell? ⟨w.heap.size, 4, none⟩ = some (.int .i64 o) := by rw [← hW]; simp
          have hxW : Ext w W := by rw [← hW]; exact Ext.alloc _ _
          clear hW
          have hx0 := Ext.refl W
          go_wp2_with (first
            | (go_at_call 10; refine (awake_any _).mono ?_; rintro e w1 ⟨rfl, hb1⟩; have hx1 : Ext W w1 := hx0.trans hb1; have hc1 := hx1.cells; have hz1 := Nat.lt_of_lt_of_le hz hx1.below.size)
            | (go_at_call 12; refine (rvalid_yes _ _ _ _ _ HV.out _).mono ?_; rintro e w2 ⟨rfl, hb2⟩; have hx2 : Ext W w2 := hx1.trans hb2; have hc2 := hx2.cells; have hz2 := Nat.lt_of_lt_of_le hz hx2.below.size)
            | (go_at_call 14; refine (rsize_any_yes _ _ _ _ _ HV.out _).mono ?_; rintro e w3 ⟨rfl, hb3⟩; have hx3 : Ext W w3 := hx2.trans hb3; have hc3 := hx3.cells; have hz3 := Nat.lt_of_lt_of_le hz hx3.below.size)
            | ((go_at_call 21; refine (locate_any _ _ _ _ _ _ _).mono ?_; rintro e w4 ⟨rfl, hb4⟩; have hx4 : Ext W w4 := hx3.trans hb4; have hc4 := hx4.cells; have hz4 := Nat.lt_of_lt_of_le hz hx4.below.size); rw [HL.out])
            | ((go_at_call 22; refine (random_any _ _ _ _ _ _ _).mono ?_; rintro e w5 ⟨rfl, hb5⟩; have hx5 : Ext W w5 := hx4.trans hb5; have hc5 := hx5.cells; have hz5 := Nat.lt_of_lt_of_le hz hx5.below.size); rw [HR.out]))
          go_ret
          exact ⟨rfl, hxW.trans hx5⟩
        · have hin : inB r b t s o a = true := by simp only [inB, decide_eq_true_eq]; omega
          have hl := loc_back hv hin
          have hle : (loc r b t s o a).err = 0 := by rw [loc_in hv hin]
          have hrn : rnd r b t s o a = false := by rw [rnd_yes hv]; simp only [decide_eq_false_iff_not]; omega
          have HR := Lib.hid hrn
          have HA : Hid (adr r b t s o (loc r b t s o a).band (loc r b t s o a).track (loc r b t s o a).pos = ⟨a, 0⟩) := by
            have := adr_shadow hv hin 0 (by omega) (by omega)
            rw [Int.add_zero, Int.zero_mul, Int.add_zero] at this
            exact this
          have HE := Lib.hid hle
          clear hv hin hrn hle
          generalize hlo : loc r b t s o a = L at *
          have HLO := Lib.hid hlo
          clear hlo
          obtain ⟨x, y, z, e⟩ := L
          have he : e = 0 := HE.out
          subst he
          clear HE
          simp only at hl HA
          obtain ⟨hl1, hl2, hl3, hl4, hl5, hl6, _⟩ := hl
          go_enter Try.func9, Try.ntmps9
          go_wp2_with fail
          have hz : w.heap.size < (w.alloc (.cells #[.int .i64 r, .int .i64 b, .int .i64 t, .int .i64 s, .int .i64 o] 23)).heap.size := by simp
          generalize hW : w.alloc (.cells #[.int .i64 r, .int .i64 b, .int .i64 t, .int .i64 s, .int .i64 o] 23) = W at *
          have c0 : W.cell? ⟨w.heap.size, 0, none⟩ = some (.int .i64 r) := by rw [← hW]; simp
          have c1 : W.cell? ⟨w.heap.size, 1, none⟩ = some (.int .i64 b) := by rw [← hW]; simp
          have c2 : W.cell? ⟨w.heap.size, 2, none⟩ = some (.int .i64 t) := by rw [← hW]; simp
          have c3 : W.cell? ⟨w.heap.size, 3, none⟩ = some (.int .i64 s) := by rw [← hW]; simp
          have c4 : W.cell? ⟨w.heap.size, 4, none⟩ = some (.int .i64 o) := by rw [← hW]; simp
          have hxW : Ext w W := by rw [← hW]; exact Ext.alloc _ _
          clear hW
          have hx0 := Ext.refl W
          go_wp2_with (first
            | (go_at_call 10; refine (awake_any _).mono ?_; rintro e w1 ⟨rfl, hb1⟩; have hx1 : Ext W w1 := hx0.trans hb1; have hc1 := hx1.cells; have hz1 := Nat.lt_of_lt_of_le hz hx1.below.size)
            | (go_at_call 12; refine (rvalid_yes _ _ _ _ _ HV.out _).mono ?_; rintro e w2 ⟨rfl, hb2⟩; have hx2 : Ext W w2 := hx1.trans hb2; have hc2 := hx2.cells; have hz2 := Nat.lt_of_lt_of_le hz hx2.below.size)
            | (go_at_call 14; refine (rsize_any_yes _ _ _ _ _ HV.out _).mono ?_; rintro e w3 ⟨rfl, hb3⟩; have hx3 : Ext W w3 := hx2.trans hb3; have hc3 := hx3.cells; have hz3 := Nat.lt_of_lt_of_le hz hx3.below.size)
            | ((go_at_call 21; refine (locate_any _ _ _ _ _ _ _).mono ?_; rintro e w4 ⟨rfl, hb4⟩; have hx4 : Ext W w4 := hx3.trans hb4; have hc4 := hx4.cells; have hz4 := Nat.lt_of_lt_of_le hz hx4.below.size); rw [HLO.out])
            | ((go_at_call 22; refine (random_any _ _ _ _ _ _ _).mono ?_; rintro e w5 ⟨rfl, hb5⟩; have hx5 : Ext W w5 := hx4.trans hb5; have hc5 := hx5.cells; have hz5 := Nat.lt_of_lt_of_le hz hx5.below.size); rw [HR.out])
            | ((go_at_call 24; refine (address_any _ _ _ _ _ _ _ _ _).mono ?_; rintro e w6 ⟨rfl, hb6⟩; have hx6 : Ext W w6 := hx5.trans hb6; have hc6 := hx6.cells; have hz6 := Nat.lt_of_lt_of_le hz hx6.below.size); rw [HA.out]))
          go_ret
          exact ⟨rfl, hxW.trans hx6⟩
end Go.Proofs.Ytfoelkpnhhfgaaa
