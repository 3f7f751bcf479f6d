/-
  Chapter 9 (codec): the walk of CodecOrder.
-/
import Derived.Test.YtbegghodjfllnaaK9E
namespace Go.Proofs.Ytbegghodjfllnaa
open Go.RowKit
set_option linter.unusedVariables false

theorem order_nat (m n : Nat) : decide ((uv m).take (min (uv m).length (uv n).length) = (uv n).take (min (uv m).length (uv n).length)) = ((m : Int) == (n : Int)) := by
  rw [Bool.eq_iff_iff, decide_eq_true_eq, beq_iff_eq, prefix_iff]; omega
theorem order_int (a b : Int) : decide ((uv (zz a)).take (min (uv (zz a)).length (uv (zz b)).length) = (uv (zz b)).take (min (uv (zz a)).length (uv (zz b)).length)) = (a == b) := by
  rw [Bool.eq_iff_iff, decide_eq_true_eq, beq_iff_eq, prefix_iff]
  exact ⟨zz_inj, fun h => by rw [h]⟩

set_option maxHeartbeats 1000000 in
theorem codecOrder_walk (m n : Nat) (a b : Int) (w : World) (hm : m < 18446744073709551616) (hn : n < 18446744073709551616) (ha : -9223372036854775808 ≤ a ∧ a ≤ 9223372036854775807) (hb : -9223372036854775808 ≤ b ∧ b ≤ 9223372036854775807) :
    Calls Try.prog 3 #[.int .u64 m, .int .u64 n, .agg #[.int .i64 a, .int .i64 b]] w fun e w' => e = .returned (.bool true) ∧ Below w.heap.size w w' := by
  have HM := Lib.hid hm
  have HNN := Lib.hid hn
  have HA := Lib.hid ha
  have HB := Lib.hid hb
  have HP := Lib.hid (order_nat m n)
  have HQ := Lib.hid (order_int a b)
  have l1 := (uv_len m hm).2
  have l2 := (uv_len n hn).2
  have l3 := (uv_len (zz a) (zz_lt ha.1 ha.2)).2
  have l4 := (uv_len (zz b) (zz_lt hb.1 hb.2)).2
  go_enter Try.func3, Try.ntmps3
  go_wp2_with fail
  have hz : w.heap.size < (w.alloc (.cells #[.int .i64 a, .int .i64 b] 23)).heap.size := by simp
  generalize hW : w.alloc (.cells #[.int .i64 a, .int .i64 b] 23) = W at *
  have c0 : W.cell? ⟨w.heap.size, 0, none⟩ = some (.int .i64 a) := by rw [← hW]; simp
  have c1 : W.cell? ⟨w.heap.size, 1, none⟩ = some (.int .i64 b) := by rw [← hW]; simp
  have hxW : Ext w W := by rw [← hW]; exact Ext.alloc _ _
  clear hW
  have hx0 := Ext.refl W
  go_wp2_with (first
    | (go_at_call 10; refine (awake_any _).mono ?_; rintro e w1 ⟨rfl, hb1⟩; have hx1 : Ext W w1 := hx0.trans hb1; have hc1 := hx1.cells; have hz1 := Nat.lt_of_lt_of_le hz hx1.below.size)
    | (go_at_call 11; (with_reducible refine (appendUint_any _ [] m _ (by simp) HM.out SliceAt.nil).mono ?_); rintro e w2 ⟨v2, rfl, hown2, hb2⟩; rw [List.nil_append] at hown2; have HS2 := Lib.hid (OwnB.slice hown2); clear hown2; have hx2 : Ext W w2 := hx1.trans hb2; have hc2 := hx2.cells; have hz2 := Nat.lt_of_lt_of_le hz hx2.below.size)
    | (go_at_call 11; (with_reducible refine (appendUint_any _ [] n _ (by simp) HNN.out SliceAt.nil).mono ?_); rintro e w3 ⟨v3, rfl, hown3, hb3⟩; rw [List.nil_append] at hown3; have HS3 := Lib.hid (OwnB.slice hown3); clear hown3; have hx3 : Ext W w3 := hx2.trans hb3; have hc3 := hx3.cells; have hz3 := Nat.lt_of_lt_of_le hz hx3.below.size))
  have hxd := hx3.trans (Ext.drew w3)
  have hcd := hxd.cells
  refine wp_region_ext [(0, true), (1, true), (3, true), (4, true), (2, false), (5, false), (6, true), (7, true)] (by kernel_rfl) (by kernel_rfl) ?_
  iterate 4 (first
   | (refine ext_move rfl rfl (by rfl) (by rfl) ?_; simp only [Act.put, List.setIfInBounds_toArray, List.set_cons_zero, List.set_cons_succ])
   | (refine ext_assign rfl rfl (by rfl) (by rfl) ?_; simp only [Act.put, List.setIfInBounds_toArray, List.set_cons_zero, List.set_cons_succ])
   | (refine ext_pick_t rfl rfl (by rfl) (by rfl) (by rfl) ?_; simp only [Act.put, List.setIfInBounds_toArray, List.set_cons_zero, List.set_cons_succ])
   | (refine ext_pick_f rfl rfl (by rfl) (by rfl) (by rfl) ?_; simp only [Act.put, List.setIfInBounds_toArray, List.set_cons_zero, List.set_cons_succ])
   | (apply ext_take rfl (by rfl)
      · intro w' hS
        have hSc := hS.cells
        (try simp only [World.size_drew, World.cell?_drew] at hSc)
        go_simp
        (try simp (disch := omega) only [i64_id, ↓IntWalk.iteOmega, Int.tdiv_eq_ediv_of_nonneg, Int.tmod_eq_emod_of_nonneg])
        try rfl
      simp only [Act.put, List.setIfInBounds_toArray, List.set_cons_zero, List.set_cons_succ])
   | (refine ext_pass rfl (by rfl) ?_; simp only [Act.put, List.setIfInBounds_toArray, List.set_cons_zero, List.set_cons_succ]))
  (refine ext_do rfl (by rfl) (fun K hK => ?_)
   go_simp
   go_at_call 12
   refine (appendInt_any _ [] a _ (by simp) HA.out.1 HA.out.2 SliceAt.nil).mono ?_
   rintro e w4 ⟨v4, rfl, hown4, hb4⟩
   rw [List.nil_append] at hown4
   have HS4 := Lib.hid (OwnB.slice hown4)
   clear hown4
   have hx4 : Ext W w4 := hxd.trans hb4
   have hb4' : Ext w3 w4 := (Ext.drew _).trans hb4
   refine hK _ _ (by first | exact hb4 | exact (Ext.drew _).trans hb4) ?_
   clear hK K
   (try simp only [Act.put, List.setIfInBounds_toArray, List.set_cons_zero, List.set_cons_succ]))
  (refine ext_do rfl (by rfl) (fun K hK => ?_)
   go_simp
   go_at_call 12
   refine (appendInt_any _ [] b _ (by simp) HB.out.1 HB.out.2 SliceAt.nil).mono ?_
   rintro e w5 ⟨v5, rfl, hown5, hb5⟩
   rw [List.nil_append] at hown5
   have HS5 := Lib.hid (OwnB.slice hown5)
   clear hown5
   have hx5 : Ext W w5 := hx4.trans hb5
   have hc5 := hx5.cells
   have hz5 := Nat.lt_of_lt_of_le hz hx5.below.size
   refine hK _ _ hb5 ?_
   clear hK K
   (try simp only [Act.put, List.setIfInBounds_toArray, List.set_cons_zero, List.set_cons_succ]))
  iterate 2 (first
   | (refine ext_move rfl rfl (by rfl) (by rfl) ?_; simp only [Act.put, List.setIfInBounds_toArray, List.set_cons_zero, List.set_cons_succ])
   | (refine ext_assign rfl rfl (by rfl) (by rfl) ?_; simp only [Act.put, List.setIfInBounds_toArray, List.set_cons_zero, List.set_cons_succ])
   | (refine ext_pick_t rfl rfl (by rfl) (by rfl) (by rfl) ?_; simp only [Act.put, List.setIfInBounds_toArray, List.set_cons_zero, List.set_cons_succ])
   | (refine ext_pick_f rfl rfl (by rfl) (by rfl) (by rfl) ?_; simp only [Act.put, List.setIfInBounds_toArray, List.set_cons_zero, List.set_cons_succ])
   | (apply ext_take rfl (by rfl)
      · intro w' hS
        have hSc := hS.cells
        (try simp only [World.size_drew, World.cell?_drew] at hSc)
        go_simp
        (try simp (disch := omega) only [i64_id, ↓IntWalk.iteOmega, Int.tdiv_eq_ediv_of_nonneg, Int.tmod_eq_emod_of_nonneg])
        try rfl
      simp only [Act.put, List.setIfInBounds_toArray, List.set_cons_zero, List.set_cons_succ])
   | (refine ext_pass rfl (by rfl) ?_; simp only [Act.put, List.setIfInBounds_toArray, List.set_cons_zero, List.set_cons_succ]))
  refine ext_nil ?_
  go_wp2
  have T2 := Lib.hid ((((HS2.out.ext hb3).ext hb4').ext hb5).ext (Ext.drew _))
  have T3 := Lib.hid (((HS3.out.ext hb4').ext hb5).ext (Ext.drew _))
  have T4 := Lib.hid ((HS4.out.ext hb5).ext (Ext.drew _))
  have T5 := Lib.hid (HS5.out.ext (Ext.drew _))
  have hxe := hx5.trans (Ext.drew w5)
  have hce := hxe.cells
  refine wp_region_ext [(0, true), (1, true), (3, true), (4, true), (5, true), (2, false), (6, true), (7, true), (8, true), (9, true), (11, true), (12, true), (13, true), (14, true), (15, true), (10, false), (16, true), (17, true), (18, true)] (by kernel_rfl) (by kernel_rfl) ?_
  iterate 5 (first
   | (refine ext_move rfl rfl (by rfl) (by rfl) ?_; simp only [Act.put, List.setIfInBounds_toArray, List.set_cons_zero, List.set_cons_succ])
   | (refine ext_assign rfl rfl (by rfl) (by rfl) ?_; simp only [Act.put, List.setIfInBounds_toArray, List.set_cons_zero, List.set_cons_succ])
   | (refine ext_pick_t rfl rfl (by rfl) (by rfl) (by rfl) ?_; simp only [Act.put, List.setIfInBounds_toArray, List.set_cons_zero, List.set_cons_succ])
   | (refine ext_pick_f rfl rfl (by rfl) (by rfl) (by rfl) ?_; simp only [Act.put, List.setIfInBounds_toArray, List.set_cons_zero, List.set_cons_succ])
   | (apply ext_take rfl (by rfl)
      · intro w' hS
        have hSc := hS.cells
        (try simp only [World.size_drew, World.cell?_drew] at hSc)
        go_simp
        (try simp (disch := omega) only [i64_id, ↓IntWalk.iteOmega, Int.tdiv_eq_ediv_of_nonneg, Int.tmod_eq_emod_of_nonneg])
        try rfl
      simp only [Act.put, List.setIfInBounds_toArray, List.set_cons_zero, List.set_cons_succ])
   | (refine ext_pass rfl (by rfl) ?_; simp only [Act.put, List.setIfInBounds_toArray, List.set_cons_zero, List.set_cons_succ]))
  (refine ext_do rfl (by rfl) (fun K hK => ?_)
   go_simp
   go_at_call 13
   refine (prefix_any _ _ _ _ _ (by unfold maxLen; omega) (by unfold maxLen; omega) T2.out T3.out).mono ?_
   rintro e w6 ⟨rfl, hb6⟩
   rw [HP.out]
   have hx6 : Ext W w6 := hxe.trans hb6
   have hc6 := hx6.cells
   have hz6 := Nat.lt_of_lt_of_le hz hx6.below.size
   refine hK _ _ (by first | exact hb6 | exact (Ext.drew _).trans hb6) ?_
   clear hK K
   (try simp only [Act.put, List.setIfInBounds_toArray, List.set_cons_zero, List.set_cons_succ]))
  iterate 9 (first
   | (refine ext_move rfl rfl (by rfl) (by rfl) ?_; simp only [Act.put, List.setIfInBounds_toArray, List.set_cons_zero, List.set_cons_succ])
   | (refine ext_assign rfl rfl (by rfl) (by rfl) ?_; simp only [Act.put, List.setIfInBounds_toArray, List.set_cons_zero, List.set_cons_succ])
   | (refine ext_pick_t rfl rfl (by rfl) (by rfl) (by rfl) ?_; simp only [Act.put, List.setIfInBounds_toArray, List.set_cons_zero, List.set_cons_succ])
   | (refine ext_pick_f rfl rfl (by rfl) (by rfl) (by rfl) ?_; simp only [Act.put, List.setIfInBounds_toArray, List.set_cons_zero, List.set_cons_succ])
   | (apply ext_take rfl (by rfl)
      · intro w' hS
        have hSc := hS.cells
        (try simp only [World.size_drew, World.cell?_drew] at hSc)
        go_simp
        (try simp (disch := omega) only [i64_id, ↓IntWalk.iteOmega, Int.tdiv_eq_ediv_of_nonneg, Int.tmod_eq_emod_of_nonneg])
        try rfl
      simp only [Act.put, List.setIfInBounds_toArray, List.set_cons_zero, List.set_cons_succ])
   | (refine ext_pass rfl (by rfl) ?_; simp only [Act.put, List.setIfInBounds_toArray, List.set_cons_zero, List.set_cons_succ]))
  (refine ext_do rfl (by rfl) (fun K hK => ?_)
   go_simp
   go_at_call 13
   refine (prefix_any _ _ _ _ _ (by unfold maxLen; omega) (by unfold maxLen; omega) (T4.out.ext hb6) (T5.out.ext hb6)).mono ?_
   rintro e w7 ⟨rfl, hb7⟩
   rw [HQ.out]
   have hx7 : Ext W w7 := hx6.trans hb7
   refine hK _ _ hb7 ?_
   clear hK K
   (try simp only [Act.put, List.setIfInBounds_toArray, List.set_cons_zero, List.set_cons_succ]))
  iterate 3 (first
   | (refine ext_move rfl rfl (by rfl) (by rfl) ?_; simp only [Act.put, List.setIfInBounds_toArray, List.set_cons_zero, List.set_cons_succ])
   | (refine ext_assign rfl rfl (by rfl) (by rfl) ?_; simp only [Act.put, List.setIfInBounds_toArray, List.set_cons_zero, List.set_cons_succ])
   | (refine ext_pick_t rfl rfl (by rfl) (by rfl) (by rfl) ?_; simp only [Act.put, List.setIfInBounds_toArray, List.set_cons_zero, List.set_cons_succ])
   | (refine ext_pick_f rfl rfl (by rfl) (by rfl) (by rfl) ?_; simp only [Act.put, List.setIfInBounds_toArray, List.set_cons_zero, List.set_cons_succ])
   | (apply ext_take rfl (by rfl)
      · intro w' hS
        have hSc := hS.cells
        (try simp only [World.size_drew, World.cell?_drew] at hSc)
        go_simp
        (try simp (disch := omega) only [i64_id, ↓IntWalk.iteOmega, Int.tdiv_eq_ediv_of_nonneg, Int.tmod_eq_emod_of_nonneg])
        try rfl
      simp only [Act.put, List.setIfInBounds_toArray, List.set_cons_zero, List.set_cons_succ])
   | (refine ext_pass rfl (by rfl) ?_; simp only [Act.put, List.setIfInBounds_toArray, List.set_cons_zero, List.set_cons_succ]))
  refine ext_nil ?_
  go_wp2
  go_ret
  exact ⟨rfl, hxW.trans hx7⟩
end Go.Proofs.Ytbegghodjfllnaa
