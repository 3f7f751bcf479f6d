/-
  Chapter 9 (codec): the walk of CodecUnique.
-/
import Derived.Test.YtbegghodjfllnaaK9P
import Derived.Test.YtbegghodjfllnaaK9E
import Derived.Test.YtbegghodjfllnaaEq
namespace Go.Proofs.Ytbegghodjfllnaa
open Go.RowKit
set_option linter.unusedVariables false
attribute [local go_sem] eq_strE ne_strE eqB_self

theorem rdI_none {l : List (BitVec 8)} (h : rd false l = none) : rdI false l = none := by unfold rdI; rw [h]; rfl
theorem rdB_none {l : List (BitVec 8)} (h : rd false l = none) : rdB false l = none := by unfold rdB; rw [h]
theorem rdI_some {l r : List (BitVec 8)} {x : BitVec 64} (h : rd false l = some (x, r)) : rdI false l = some (unz x, r) := by unfold rdI; rw [h]; rfl
theorem rdB_yes {l r : List (BitVec 8)} {x : BitVec 64} (h : rd false l = some (x, r)) (hc : x.toNat ≤ r.length) : rdB false l = some (r.take x.toNat, r.drop x.toNat) := by
  unfold rdB; rw [h]; simp only [if_pos hc]
theorem rdB_no {l r : List (BitVec 8)} {x : BitVec 64} (h : rd false l = some (x, r)) (hc : ¬ x.toNat ≤ r.length) : rdB false l = none := by
  unfold rdB; rw [h]; simp only [if_neg hc]

set_option maxHeartbeats 2000000 in
theorem codecUnique_none (v : Value) (l : List (BitVec 8)) (w : World) (hl60 : (l.length : Int) ≤ 60) (h : SliceAt encB w v l) (hrd : rd false l = none) :
    Calls Try.prog 5 #[v] w fun e w' => e = .returned (.bool true) ∧ Below w.heap.size w w' := by
  have HN := Lib.hid hrd
  clear hrd
  have HA := Lib.hid h
  obtain ⟨ad, cap, rfl, hca, _⟩ := h
  have hcl : (l.length : Int) ≤ (cap : Int) := by omega
  have hln : l.length ≤ 60 := by omega
  clear hca
  go_enter Try.func5, Try.ntmps5
  go_wp2_with fail
  go_at_call 10
  refine (awake_any _).mono ?_
  rintro e w1 ⟨rfl, hb1⟩
  go_wp2_with fail
  go_at_call 20
  refine (new_any _ l _ (by omega) (HA.out.ext hb1)).mono ?_
  rintro e w2 ⟨b1, rfl, hn1, hr1, hb2⟩
  have hx2 : Ext w w2 := Ext.trans hb1 hb2
  have hl1 := hr1.lt
  have HR1 := Lib.hid hr1
  clear hr1
  go_wp2_with fail
  go_at_call 20
  refine (new_any _ l _ (by omega) (HA.out.ext hx2)).mono ?_
  rintro e w3 ⟨b2, rfl, hn2, hr2, hb3⟩
  have hx3 : Ext w w3 := hx2.trans hb3
  have hl2 := hr2.lt
  have HR2 := Lib.hid hr2
  clear hr2
  go_wp2_with fail
  go_at_call 20
  refine (new_any _ l _ (by omega) (HA.out.ext hx3)).mono ?_
  rintro e w4 ⟨b3, rfl, hn3, hr3, hb4⟩
  have hx4 : Ext w w4 := hx3.trans hb4
  have hl3 := hr3.lt
  have HR3 := Lib.hid hr3
  have HU4 := Lib.hid ((HR1.out.ext hb3).ext hb4)
  have HI4 := Lib.hid (HR2.out.ext hb4)
  have HA4 := Lib.hid (HA.out.ext hx4)
  have hne12 : b2 ≠ b1 := by omega
  have hne13 : b3 ≠ b1 := by omega
  have hne23 : b3 ≠ b2 := by omega
  have hbw1 : w.heap.size ≤ b1 := by have := Ext.size hb1; omega
  have hbw2 : w.heap.size ≤ b2 := by omega
  have hbw3 : w.heap.size ≤ b3 := by omega
  clear hr3
  go_wp2_with fail
  go_at_call 21
  refine (uint_any _ _ l false (by omega) HU4.out).mono ?_
  intro e w5 hp
  rw [HN.out] at hp
  obtain ⟨rfl, hu5, hg5⟩ := hp
  have HI5 := Lib.hid (HI4.out.turn HU4.out.nb hg5 hne12)
  have HS5 := Lib.hid (HR3.out.turn HU4.out.nb hg5 hne13)
  have HX5 := Lib.hid (Below.grown hx4 hg5 hx4.size (fun k hk => by cases hk; exact hbw1))
  clear hu5 hg5
  go_wp2_with fail
  go_at_call 22
  refine (int_any _ _ l false (by omega) HI5.out).mono ?_
  intro e w6 hp
  rw [rdI_none HN.out] at hp
  obtain ⟨rfl, hi6, hg6⟩ := hp
  have HS6 := Lib.hid (HS5.out.turn HI5.out.nb hg6 hne23)
  have HX6 := Lib.hid (Below.grown HX5.out hg6 (Ext.size HX5.out) (fun k hk => by cases hk; exact hbw2))
  clear hi6 hg6
  go_wp2_with fail
  go_at_call 23
  refine (bytes_any _ _ l false (by omega) HS6.out).mono ?_
  intro e W hp
  rw [rdB_none HN.out] at hp
  obtain ⟨rfl, hs7, hg7⟩ := hp
  have HX7 := Lib.hid (Below.grown HX6.out hg7 (Ext.size HX6.out) (fun k hk => by cases hk; exact hbw3))
  clear hs7 hg7
  go_wp2_with fail
  refine wp_region_ext [(0, true), (1, true), (2, true), (3, true), (6, true), (7, true), (8, true), (9, true), (4, false), (5, true), (10, false), (11, true), (12, true), (13, true), (14, true), (15, true), (16, true), (17, true), (18, true), (19, true), (20, true), (23, true), (24, true), (25, true), (26, true), (21, false), (22, true), (27, false), (28, true), (29, true), (30, true), (31, true), (32, true), (33, true)] (by kernel_rfl) (by kernel_rfl) ?_
  iterate 8 (first
   | (refine ext_move rfl rfl (by rfl) (by rfl) ?_; simp only [Act.put, List.setIfInBounds_toArray, List.set_cons_zero, List.set_cons_succ])
   | (refine ext_assign rfl rfl (by rfl) (by rfl) ?_; simp only [Act.put, List.setIfInBounds_toArray, List.set_cons_zero, List.set_cons_succ])
   | (refine ext_pick_t rfl rfl (by rfl) (by rfl) (by rfl) ?_; simp only [Act.put, List.setIfInBounds_toArray, List.set_cons_zero, List.set_cons_succ])
   | (refine ext_pick_f rfl rfl (by rfl) (by rfl) (by rfl) ?_; simp only [Act.put, List.setIfInBounds_toArray, List.set_cons_zero, List.set_cons_succ])
   | (apply ext_take rfl (by rfl)
      · intro w' hS
        have hSc := hS.cells
        (try simp only [World.size_drew, World.cell?_drew] at hSc)
        go_simp
        (try simp (disch := omega) only [i64_id, u64_id, ↓IntWalk.iteOmega, Int.tdiv_eq_ediv_of_nonneg, Int.tmod_eq_emod_of_nonneg])
        try rfl
      simp only [Act.put, List.setIfInBounds_toArray, List.set_cons_zero, List.set_cons_succ])
   | (refine ext_pass rfl (by rfl) ?_; simp only [Act.put, List.setIfInBounds_toArray, List.set_cons_zero, List.set_cons_succ]))
  (refine ext_passE rfl (by rfl) (by first | (with_reducible exact Ext.refl _) | (with_reducible exact Ext.drew _)) ?_; simp only [Act.put, List.setIfInBounds_toArray, List.set_cons_zero, List.set_cons_succ])
  (first
   | (refine ext_move rfl rfl (by rfl) (by rfl) ?_; simp only [Act.put, List.setIfInBounds_toArray, List.set_cons_zero, List.set_cons_succ])
   | (refine ext_assign rfl rfl (by rfl) (by rfl) ?_; simp only [Act.put, List.setIfInBounds_toArray, List.set_cons_zero, List.set_cons_succ])
   | (refine ext_pick_t rfl rfl (by rfl) (by rfl) (by rfl) ?_; simp only [Act.put, List.setIfInBounds_toArray, List.set_cons_zero, List.set_cons_succ])
   | (refine ext_pick_f rfl rfl (by rfl) (by rfl) (by rfl) ?_; simp only [Act.put, List.setIfInBounds_toArray, List.set_cons_zero, List.set_cons_succ])
   | (apply ext_take rfl (by rfl)
      · intro w' hS
        have hSc := hS.cells
        (try simp only [World.size_drew, World.cell?_drew] at hSc)
        go_simp
        (try simp (disch := omega) only [i64_id, u64_id, ↓IntWalk.iteOmega, Int.tdiv_eq_ediv_of_nonneg, Int.tmod_eq_emod_of_nonneg])
        try rfl
      simp only [Act.put, List.setIfInBounds_toArray, List.set_cons_zero, List.set_cons_succ])
   | (refine ext_pass rfl (by rfl) ?_; simp only [Act.put, List.setIfInBounds_toArray, List.set_cons_zero, List.set_cons_succ]))
  (refine ext_passE rfl (by rfl) (by first | (with_reducible exact Ext.refl _) | (with_reducible exact Ext.drew _)) ?_; simp only [Act.put, List.setIfInBounds_toArray, List.set_cons_zero, List.set_cons_succ])
  iterate 2 (first
   | (refine ext_move rfl rfl (by rfl) (by rfl) ?_; simp only [Act.put, List.setIfInBounds_toArray, List.set_cons_zero, List.set_cons_succ])
   | (refine ext_assign rfl rfl (by rfl) (by rfl) ?_; simp only [Act.put, List.setIfInBounds_toArray, List.set_cons_zero, List.set_cons_succ])
   | (refine ext_pick_t rfl rfl (by rfl) (by rfl) (by rfl) ?_; simp only [Act.put, List.setIfInBounds_toArray, List.set_cons_zero, List.set_cons_succ])
   | (refine ext_pick_f rfl rfl (by rfl) (by rfl) (by rfl) ?_; simp only [Act.put, List.setIfInBounds_toArray, List.set_cons_zero, List.set_cons_succ])
   | (apply ext_take rfl (by rfl)
      · intro w' hS
        have hSc := hS.cells
        (try simp only [World.size_drew, World.cell?_drew] at hSc)
        go_simp
        (try simp (disch := omega) only [i64_id, u64_id, ↓IntWalk.iteOmega, Int.tdiv_eq_ediv_of_nonneg, Int.tmod_eq_emod_of_nonneg])
        try rfl
      simp only [Act.put, List.setIfInBounds_toArray, List.set_cons_zero, List.set_cons_succ])
   | (refine ext_pass rfl (by rfl) ?_; simp only [Act.put, List.setIfInBounds_toArray, List.set_cons_zero, List.set_cons_succ]))
  (first
   | (refine ext_move rfl rfl (by rfl) (by rfl) ?_; simp only [Act.put, List.setIfInBounds_toArray, List.set_cons_zero, List.set_cons_succ])
   | (refine ext_assign rfl rfl (by rfl) (by rfl) ?_; simp only [Act.put, List.setIfInBounds_toArray, List.set_cons_zero, List.set_cons_succ])
   | (refine ext_pick_t rfl rfl (by rfl) (by rfl) (by rfl) ?_; simp only [Act.put, List.setIfInBounds_toArray, List.set_cons_zero, List.set_cons_succ])
   | (refine ext_pick_f rfl rfl (by rfl) (by rfl) (by rfl) ?_; simp only [Act.put, List.setIfInBounds_toArray, List.set_cons_zero, List.set_cons_succ])
   | (apply ext_take rfl (by rfl)
      · intro w' hS
        have hSc := hS.cells
        (try simp only [World.size_drew, World.cell?_drew] at hSc)
        go_simp
        (try simp (disch := omega) only [i64_id, u64_id, ↓IntWalk.iteOmega, Int.tdiv_eq_ediv_of_nonneg, Int.tmod_eq_emod_of_nonneg])
        try rfl
      simp only [Act.put, List.setIfInBounds_toArray, List.set_cons_zero, List.set_cons_succ])
   | (refine ext_pass rfl (by rfl) ?_; simp only [Act.put, List.setIfInBounds_toArray, List.set_cons_zero, List.set_cons_succ]))
  iterate 11 (first
   | (refine ext_move rfl rfl (by rfl) (by rfl) ?_; simp only [Act.put, List.setIfInBounds_toArray, List.set_cons_zero, List.set_cons_succ])
   | (refine ext_assign rfl rfl (by rfl) (by rfl) ?_; simp only [Act.put, List.setIfInBounds_toArray, List.set_cons_zero, List.set_cons_succ])
   | (refine ext_pick_t rfl rfl (by rfl) (by rfl) (by rfl) ?_; simp only [Act.put, List.setIfInBounds_toArray, List.set_cons_zero, List.set_cons_succ])
   | (refine ext_pick_f rfl rfl (by rfl) (by rfl) (by rfl) ?_; simp only [Act.put, List.setIfInBounds_toArray, List.set_cons_zero, List.set_cons_succ])
   | (apply ext_take rfl (by rfl)
      · intro w' hS
        have hSc := hS.cells
        (try simp only [World.size_drew, World.cell?_drew] at hSc)
        go_simp
        (try simp (disch := omega) only [i64_id, u64_id, ↓IntWalk.iteOmega, Int.tdiv_eq_ediv_of_nonneg, Int.tmod_eq_emod_of_nonneg])
        try rfl
      simp only [Act.put, List.setIfInBounds_toArray, List.set_cons_zero, List.set_cons_succ])
   | (refine ext_pass rfl (by rfl) ?_; simp only [Act.put, List.setIfInBounds_toArray, List.set_cons_zero, List.set_cons_succ]))
  (refine ext_passE rfl (by rfl) (by first | (with_reducible exact Ext.refl _) | (with_reducible exact Ext.drew _)) ?_; simp only [Act.put, List.setIfInBounds_toArray, List.set_cons_zero, List.set_cons_succ])
  (first
   | (refine ext_move rfl rfl (by rfl) (by rfl) ?_; simp only [Act.put, List.setIfInBounds_toArray, List.set_cons_zero, List.set_cons_succ])
   | (refine ext_assign rfl rfl (by rfl) (by rfl) ?_; simp only [Act.put, List.setIfInBounds_toArray, List.set_cons_zero, List.set_cons_succ])
   | (refine ext_pick_t rfl rfl (by rfl) (by rfl) (by rfl) ?_; simp only [Act.put, List.setIfInBounds_toArray, List.set_cons_zero, List.set_cons_succ])
   | (refine ext_pick_f rfl rfl (by rfl) (by rfl) (by rfl) ?_; simp only [Act.put, List.setIfInBounds_toArray, List.set_cons_zero, List.set_cons_succ])
   | (apply ext_take rfl (by rfl)
      · intro w' hS
        have hSc := hS.cells
        (try simp only [World.size_drew, World.cell?_drew] at hSc)
        go_simp
        (try simp (disch := omega) only [i64_id, u64_id, ↓IntWalk.iteOmega, Int.tdiv_eq_ediv_of_nonneg, Int.tmod_eq_emod_of_nonneg])
        try rfl
      simp only [Act.put, List.setIfInBounds_toArray, List.set_cons_zero, List.set_cons_succ])
   | (refine ext_pass rfl (by rfl) ?_; simp only [Act.put, List.setIfInBounds_toArray, List.set_cons_zero, List.set_cons_succ]))
  (refine ext_passE rfl (by rfl) (by first | (with_reducible exact Ext.refl _) | (with_reducible exact Ext.drew _)) ?_; simp only [Act.put, List.setIfInBounds_toArray, List.set_cons_zero, List.set_cons_succ])
  iterate 2 (first
   | (refine ext_move rfl rfl (by rfl) (by rfl) ?_; simp only [Act.put, List.setIfInBounds_toArray, List.set_cons_zero, List.set_cons_succ])
   | (refine ext_assign rfl rfl (by rfl) (by rfl) ?_; simp only [Act.put, List.setIfInBounds_toArray, List.set_cons_zero, List.set_cons_succ])
   | (refine ext_pick_t rfl rfl (by rfl) (by rfl) (by rfl) ?_; simp only [Act.put, List.setIfInBounds_toArray, List.set_cons_zero, List.set_cons_succ])
   | (refine ext_pick_f rfl rfl (by rfl) (by rfl) (by rfl) ?_; simp only [Act.put, List.setIfInBounds_toArray, List.set_cons_zero, List.set_cons_succ])
   | (apply ext_take rfl (by rfl)
      · intro w' hS
        have hSc := hS.cells
        (try simp only [World.size_drew, World.cell?_drew] at hSc)
        go_simp
        (try simp (disch := omega) only [i64_id, u64_id, ↓IntWalk.iteOmega, Int.tdiv_eq_ediv_of_nonneg, Int.tmod_eq_emod_of_nonneg])
        try rfl
      simp only [Act.put, List.setIfInBounds_toArray, List.set_cons_zero, List.set_cons_succ])
   | (refine ext_pass rfl (by rfl) ?_; simp only [Act.put, List.setIfInBounds_toArray, List.set_cons_zero, List.set_cons_succ]))
  (first
   | (refine ext_move rfl rfl (by rfl) (by rfl) ?_; simp only [Act.put, List.setIfInBounds_toArray, List.set_cons_zero, List.set_cons_succ])
   | (refine ext_assign rfl rfl (by rfl) (by rfl) ?_; simp only [Act.put, List.setIfInBounds_toArray, List.set_cons_zero, List.set_cons_succ])
   | (refine ext_pick_t rfl rfl (by rfl) (by rfl) (by rfl) ?_; simp only [Act.put, List.setIfInBounds_toArray, List.set_cons_zero, List.set_cons_succ])
   | (refine ext_pick_f rfl rfl (by rfl) (by rfl) (by rfl) ?_; simp only [Act.put, List.setIfInBounds_toArray, List.set_cons_zero, List.set_cons_succ])
   | (apply ext_take rfl (by rfl)
      · intro w' hS
        have hSc := hS.cells
        (try simp only [World.size_drew, World.cell?_drew] at hSc)
        go_simp
        (try simp (disch := omega) only [i64_id, u64_id, ↓IntWalk.iteOmega, Int.tdiv_eq_ediv_of_nonneg, Int.tmod_eq_emod_of_nonneg])
        try rfl
      simp only [Act.put, List.setIfInBounds_toArray, List.set_cons_zero, List.set_cons_succ])
   | (refine ext_pass rfl (by rfl) ?_; simp only [Act.put, List.setIfInBounds_toArray, List.set_cons_zero, List.set_cons_succ]))
  iterate 3 (first
   | (refine ext_move rfl rfl (by rfl) (by rfl) ?_; simp only [Act.put, List.setIfInBounds_toArray, List.set_cons_zero, List.set_cons_succ])
   | (refine ext_assign rfl rfl (by rfl) (by rfl) ?_; simp only [Act.put, List.setIfInBounds_toArray, List.set_cons_zero, List.set_cons_succ])
   | (refine ext_pick_t rfl rfl (by rfl) (by rfl) (by rfl) ?_; simp only [Act.put, List.setIfInBounds_toArray, List.set_cons_zero, List.set_cons_succ])
   | (refine ext_pick_f rfl rfl (by rfl) (by rfl) (by rfl) ?_; simp only [Act.put, List.setIfInBounds_toArray, List.set_cons_zero, List.set_cons_succ])
   | (apply ext_take rfl (by rfl)
      · intro w' hS
        have hSc := hS.cells
        (try simp only [World.size_drew, World.cell?_drew] at hSc)
        go_simp
        (try simp (disch := omega) only [i64_id, u64_id, ↓IntWalk.iteOmega, Int.tdiv_eq_ediv_of_nonneg, Int.tmod_eq_emod_of_nonneg])
        try rfl
      simp only [Act.put, List.setIfInBounds_toArray, List.set_cons_zero, List.set_cons_succ])
   | (refine ext_pass rfl (by rfl) ?_; simp only [Act.put, List.setIfInBounds_toArray, List.set_cons_zero, List.set_cons_succ]))
  refine ext_nil ?_
  go_wp2_with fail
  refine wp_region_ext [(0, true), (1, true), (2, true), (3, true), (6, true), (7, true), (8, true), (9, true), (4, false), (5, true), (10, false), (11, true), (12, true), (13, true), (14, true), (15, true), (16, true)] (by kernel_rfl) (by kernel_rfl) ?_
  iterate 8 (first
   | (refine ext_move rfl rfl (by rfl) (by rfl) ?_; simp only [Act.put, List.setIfInBounds_toArray, List.set_cons_zero, List.set_cons_succ])
   | (refine ext_assign rfl rfl (by rfl) (by rfl) ?_; simp only [Act.put, List.setIfInBounds_toArray, List.set_cons_zero, List.set_cons_succ])
   | (refine ext_pick_t rfl rfl (by rfl) (by rfl) (by rfl) ?_; simp only [Act.put, List.setIfInBounds_toArray, List.set_cons_zero, List.set_cons_succ])
   | (refine ext_pick_f rfl rfl (by rfl) (by rfl) (by rfl) ?_; simp only [Act.put, List.setIfInBounds_toArray, List.set_cons_zero, List.set_cons_succ])
   | (apply ext_take rfl (by rfl)
      · intro w' hS
        have hSc := hS.cells
        (try simp only [World.size_drew, World.cell?_drew] at hSc)
        go_simp
        (try simp (disch := omega) only [i64_id, u64_id, ↓IntWalk.iteOmega, Int.tdiv_eq_ediv_of_nonneg, Int.tmod_eq_emod_of_nonneg])
        try rfl
      simp only [Act.put, List.setIfInBounds_toArray, List.set_cons_zero, List.set_cons_succ])
   | (refine ext_pass rfl (by rfl) ?_; simp only [Act.put, List.setIfInBounds_toArray, List.set_cons_zero, List.set_cons_succ]))
  (refine ext_passE rfl (by rfl) (by first | (with_reducible exact Ext.refl _) | (with_reducible exact Ext.drew _)) ?_; simp only [Act.put, List.setIfInBounds_toArray, List.set_cons_zero, List.set_cons_succ])
  (first
   | (refine ext_move rfl rfl (by rfl) (by rfl) ?_; simp only [Act.put, List.setIfInBounds_toArray, List.set_cons_zero, List.set_cons_succ])
   | (refine ext_assign rfl rfl (by rfl) (by rfl) ?_; simp only [Act.put, List.setIfInBounds_toArray, List.set_cons_zero, List.set_cons_succ])
   | (refine ext_pick_t rfl rfl (by rfl) (by rfl) (by rfl) ?_; simp only [Act.put, List.setIfInBounds_toArray, List.set_cons_zero, List.set_cons_succ])
   | (refine ext_pick_f rfl rfl (by rfl) (by rfl) (by rfl) ?_; simp only [Act.put, List.setIfInBounds_toArray, List.set_cons_zero, List.set_cons_succ])
   | (apply ext_take rfl (by rfl)
      · intro w' hS
        have hSc := hS.cells
        (try simp only [World.size_drew, World.cell?_drew] at hSc)
        go_simp
        (try simp (disch := omega) only [i64_id, u64_id, ↓IntWalk.iteOmega, Int.tdiv_eq_ediv_of_nonneg, Int.tmod_eq_emod_of_nonneg])
        try rfl
      simp only [Act.put, List.setIfInBounds_toArray, List.set_cons_zero, List.set_cons_succ])
   | (refine ext_pass rfl (by rfl) ?_; simp only [Act.put, List.setIfInBounds_toArray, List.set_cons_zero, List.set_cons_succ]))
  (refine ext_passE rfl (by rfl) (by first | (with_reducible exact Ext.refl _) | (with_reducible exact Ext.drew _)) ?_; simp only [Act.put, List.setIfInBounds_toArray, List.set_cons_zero, List.set_cons_succ])
  iterate 2 (first
   | (refine ext_move rfl rfl (by rfl) (by rfl) ?_; simp only [Act.put, List.setIfInBounds_toArray, List.set_cons_zero, List.set_cons_succ])
   | (refine ext_assign rfl rfl (by rfl) (by rfl) ?_; simp only [Act.put, List.setIfInBounds_toArray, List.set_cons_zero, List.set_cons_succ])
   | (refine ext_pick_t rfl rfl (by rfl) (by rfl) (by rfl) ?_; simp only [Act.put, List.setIfInBounds_toArray, List.set_cons_zero, List.set_cons_succ])
   | (refine ext_pick_f rfl rfl (by rfl) (by rfl) (by rfl) ?_; simp only [Act.put, List.setIfInBounds_toArray, List.set_cons_zero, List.set_cons_succ])
   | (apply ext_take rfl (by rfl)
      · intro w' hS
        have hSc := hS.cells
        (try simp only [World.size_drew, World.cell?_drew] at hSc)
        go_simp
        (try simp (disch := omega) only [i64_id, u64_id, ↓IntWalk.iteOmega, Int.tdiv_eq_ediv_of_nonneg, Int.tmod_eq_emod_of_nonneg])
        try rfl
      simp only [Act.put, List.setIfInBounds_toArray, List.set_cons_zero, List.set_cons_succ])
   | (refine ext_pass rfl (by rfl) ?_; simp only [Act.put, List.setIfInBounds_toArray, List.set_cons_zero, List.set_cons_succ]))
  (first
   | (refine ext_move rfl rfl (by rfl) (by rfl) ?_; simp only [Act.put, List.setIfInBounds_toArray, List.set_cons_zero, List.set_cons_succ])
   | (refine ext_assign rfl rfl (by rfl) (by rfl) ?_; simp only [Act.put, List.setIfInBounds_toArray, List.set_cons_zero, List.set_cons_succ])
   | (refine ext_pick_t rfl rfl (by rfl) (by rfl) (by rfl) ?_; simp only [Act.put, List.setIfInBounds_toArray, List.set_cons_zero, List.set_cons_succ])
   | (refine ext_pick_f rfl rfl (by rfl) (by rfl) (by rfl) ?_; simp only [Act.put, List.setIfInBounds_toArray, List.set_cons_zero, List.set_cons_succ])
   | (apply ext_take rfl (by rfl)
      · intro w' hS
        have hSc := hS.cells
        (try simp only [World.size_drew, World.cell?_drew] at hSc)
        go_simp
        (try simp (disch := omega) only [i64_id, u64_id, ↓IntWalk.iteOmega, Int.tdiv_eq_ediv_of_nonneg, Int.tmod_eq_emod_of_nonneg])
        try rfl
      simp only [Act.put, List.setIfInBounds_toArray, List.set_cons_zero, List.set_cons_succ])
   | (refine ext_pass rfl (by rfl) ?_; simp only [Act.put, List.setIfInBounds_toArray, List.set_cons_zero, List.set_cons_succ]))
  iterate 3 (first
   | (refine ext_move rfl rfl (by rfl) (by rfl) ?_; simp only [Act.put, List.setIfInBounds_toArray, List.set_cons_zero, List.set_cons_succ])
   | (refine ext_assign rfl rfl (by rfl) (by rfl) ?_; simp only [Act.put, List.setIfInBounds_toArray, List.set_cons_zero, List.set_cons_succ])
   | (refine ext_pick_t rfl rfl (by rfl) (by rfl) (by rfl) ?_; simp only [Act.put, List.setIfInBounds_toArray, List.set_cons_zero, List.set_cons_succ])
   | (refine ext_pick_f rfl rfl (by rfl) (by rfl) (by rfl) ?_; simp only [Act.put, List.setIfInBounds_toArray, List.set_cons_zero, List.set_cons_succ])
   | (apply ext_take rfl (by rfl)
      · intro w' hS
        have hSc := hS.cells
        (try simp only [World.size_drew, World.cell?_drew] at hSc)
        go_simp
        (try simp (disch := omega) only [i64_id, u64_id, ↓IntWalk.iteOmega, Int.tdiv_eq_ediv_of_nonneg, Int.tmod_eq_emod_of_nonneg])
        try rfl
      simp only [Act.put, List.setIfInBounds_toArray, List.set_cons_zero, List.set_cons_succ])
   | (refine ext_pass rfl (by rfl) ?_; simp only [Act.put, List.setIfInBounds_toArray, List.set_cons_zero, List.set_cons_succ]))
  refine ext_nil ?_
  go_wp2_with fail
  go_ret
  exact ⟨rfl, Ext.trans HX7.out ((Ext.drew _).trans (Ext.drew _))⟩

set_option maxHeartbeats 4000000 in
theorem codecUnique_yes (v : Value) (l : List (BitVec 8)) (w : World) (hl60 : (l.length : Int) ≤ 60) (h : SliceAt encB w v l) (x : BitVec 64) (r : List (BitVec 8)) (hrd : rd false l = some (x, r)) (hc : x.toNat ≤ r.length) :
    Calls Try.prog 5 #[v] w fun e w' => e = .returned (.bool true) ∧ Below w.heap.size w w' := by
  have HC := Lib.hid hc
  clear hc
  have HA := Lib.hid h
  obtain ⟨ad, cap, rfl, hca, _⟩ := h
  have hcl : (l.length : Int) ≤ (cap : Int) := by omega
  have hln : l.length ≤ 60 := by omega
  clear hca
  obtain ⟨n, hn⟩ : ∃ n, x.toNat = n := ⟨_, rfl⟩
  have hxn : encU x = .int .u64 (n : Int) := by show Value.int .u64 (un x) = _; unfold un; rw [hn]
  have hinv := rd_inv hrd
  have hzz := zz_unz x
  have hzb := unz_bound x
  have hn64 : n < 18446744073709551616 := by have := x.isLt; omega
  rw [hn] at hinv hzz
  have hk : l.length = (uv n).length + r.length := by rw [hinv, List.length_append]
  have htk : l.take (uv n).length = uv n := by rw [hinv]; simp
  have hsub : (l.length : Int) - (r.length : Int) = (((uv n).length : Nat) : Int) := by omega
  have hkc : (((uv n).length : Nat) : Int) ≤ (cap : Int) := by omega
  have HN := Lib.hid hrd
  have HTK := Lib.hid htk
  have HZZ : Hid (uv (zz (unz x)) = uv n) := by show _ = _; rw [hzz]
  have HZB := Lib.hid hzb
  have HN64 := Lib.hid hn64
  have HXN := Lib.hid hxn
  have HNN := Lib.hid hn
  have HINV := Lib.hid hinv
  have HKL : Hid ((uv n).length ≤ l.length) := Lib.hid (by omega)
  have hrl : r.length ≤ 60 := by omega
  clear hrd htk hzz hzb hinv hn hxn hk
  have hc : n ≤ r.length := by have := HC.out; rw [HNN.out] at this; exact this
  go_enter Try.func5, Try.ntmps5
  go_wp2_with fail
  go_at_call 10
  refine (awake_any _).mono ?_
  rintro e w1 ⟨rfl, hb1⟩
  go_wp2_with fail
  go_at_call 20
  refine (new_any _ l _ (by omega) (HA.out.ext hb1)).mono ?_
  rintro e w2 ⟨b1, rfl, hn1, hr1, hb2⟩
  have hx2 : Ext w w2 := Ext.trans hb1 hb2
  have hl1 := hr1.lt
  have HR1 := Lib.hid hr1
  clear hr1
  go_wp2_with fail
  go_at_call 20
  refine (new_any _ l _ (by omega) (HA.out.ext hx2)).mono ?_
  rintro e w3 ⟨b2, rfl, hn2, hr2, hb3⟩
  have hx3 : Ext w w3 := hx2.trans hb3
  have hl2 := hr2.lt
  have HR2 := Lib.hid hr2
  clear hr2
  go_wp2_with fail
  go_at_call 20
  refine (new_any _ l _ (by omega) (HA.out.ext hx3)).mono ?_
  rintro e w4 ⟨b3, rfl, hn3, hr3, hb4⟩
  have hx4 : Ext w w4 := hx3.trans hb4
  have hl3 := hr3.lt
  have HR3 := Lib.hid hr3
  have HU4 := Lib.hid ((HR1.out.ext hb3).ext hb4)
  have HI4 := Lib.hid (HR2.out.ext hb4)
  have HA4 := Lib.hid (HA.out.ext hx4)
  have hne12 : b2 ≠ b1 := by omega
  have hne13 : b3 ≠ b1 := by omega
  have hne23 : b3 ≠ b2 := by omega
  have hbw1 : w.heap.size ≤ b1 := by have := Ext.size hb1; omega
  have hbw2 : w.heap.size ≤ b2 := by omega
  have hbw3 : w.heap.size ≤ b3 := by omega
  clear hr3
  go_wp2_with fail
  go_at_call 21
  refine (uint_any _ _ l false (by omega) HU4.out).mono ?_
  intro e w5 hp
  rw [HN.out] at hp
  obtain ⟨rfl, hu5, hg5⟩ := hp
  rw [HXN.out]
  have HU5 := Lib.hid hu5
  have HG5 := Lib.hid hg5
  have HI5 := Lib.hid (HI4.out.turn HU4.out.nb hg5 hne12)
  have HS5 := Lib.hid (HR3.out.turn HU4.out.nb hg5 hne13)
  have HX5 := Lib.hid (Below.grown hx4 hg5 hx4.size (fun k hk => by cases hk; exact hbw1))
  clear hu5 hg5
  go_wp2_with fail
  go_at_call 22
  refine (int_any _ _ l false (by omega) HI5.out).mono ?_
  intro e w6 hp
  rw [rdI_some HN.out] at hp
  obtain ⟨vi, rfl, hvi, hi6, hg6⟩ := hp
  have hvi : vi = .int .i64 (unz x) := hvi
  subst hvi
  have HI6 := Lib.hid hi6
  have HG6 := Lib.hid hg6
  have HU6 := Lib.hid (HU5.out.turn HI5.out.nb hg6 (Ne.symm hne12))
  have HS6 := Lib.hid (HS5.out.turn HI5.out.nb hg6 hne23)
  have HX6 := Lib.hid (Below.grown HX5.out hg6 (Ext.size HX5.out) (fun k hk => by cases hk; exact hbw2))
  clear hi6 hg6
  go_wp2_with fail
  go_at_call 23
  refine (bytes_any _ _ l false (by omega) HS6.out).mono ?_
  intro e W hp
  rw [rdB_yes HN.out HC.out, HNN.out] at hp
  obtain ⟨vb, rfl, hvb, hs7, hg7⟩ := hp
  have HVB : Hid (SliceAt encB W vb (r.take n)) := hvb
  have HS7 := Lib.hid hs7
  have HG7 := Lib.hid hg7
  have HU7 := Lib.hid (HU6.out.turn HS6.out.nb hg7 (Ne.symm hne13))
  have HI7 := Lib.hid (HI6.out.turn HS6.out.nb hg7 (Ne.symm hne23))
  have HX7 := Lib.hid (Below.grown HX6.out hg7 (Ext.size HX6.out) (fun k hk => by cases hk; exact hbw3))
  have htn : Hid ((r.take n).length = n) := by show _ = _; rw [List.length_take]; omega
  have hk2 : Hid (l.length - (r.drop n).length = (uv n).length + n) := by
    show _ = _; have h1 := congrArg List.length HINV.out; rw [List.length_append] at h1; rw [List.length_drop]; omega
  have hsub2 : (l.length : Int) - ((r.drop n).length : Int) = (((uv n).length + n : Nat) : Int) := by
    have h1 := congrArg List.length HINV.out; rw [List.length_append] at h1; rw [List.length_drop]; omega
  have hkc2 : (((uv n).length + n : Nat) : Int) ≤ (cap : Int) := by
    have h1 := congrArg List.length HINV.out; rw [List.length_append] at h1; omega
  have hrd60 : (r.drop n).length ≤ 60 := by rw [List.length_drop]; omega
  have HK2 : Hid ((uv n).length + n ≤ l.length) := Lib.hid (by have h1 := congrArg List.length HINV.out; rw [List.length_append] at h1; omega)
  have HTK2 : Hid (l.take ((uv n).length + n) = [] ++ uv (r.take n).length ++ r.take n) := by
    show _ = _; rw [htn.out, List.nil_append]; conv => lhs; rw [HINV.out]
    rw [List.take_length_add_append]
  generalize r.take n = y at *
  generalize hq : (r.drop n).length = q at *
  generalize hq2 : (uv n).length + n = q2 at *
  have HQ := Lib.hid hq
  clear hvb hq hq2
  clear hs7 hg7
  go_wp2_with fail
  have hz : b1 < W.heap.size := by have := HU7.out.lt; omega
  have hxd := Ext.drew W
  have HA7 := Lib.hid (((HA4.out.turn HU4.out.nb HG5.out).turn HI5.out.nb HG6.out).turn HS6.out.nb HG7.out)
  have HT := Lib.hid (HA7.out.take (uv n).length HKL.out)
  rw [HTK.out] at HT
  refine wp_region_ext [(0, true), (1, true), (2, true), (3, true), (6, true), (7, true), (8, true), (9, true), (4, false), (5, true), (10, false), (11, true), (12, true), (13, true), (14, true), (15, true), (16, true), (17, true), (18, true), (19, true), (20, true), (23, true), (24, true), (25, true), (26, true), (21, false), (22, true), (27, false), (28, true), (29, true), (30, true), (31, true), (32, true), (33, true)] (by kernel_rfl) (by kernel_rfl) ?_
  iterate 8 (first
   | (refine ext_move rfl rfl (by rfl) (by rfl) ?_; simp only [Act.put, List.setIfInBounds_toArray, List.set_cons_zero, List.set_cons_succ])
   | (refine ext_assign rfl rfl (by rfl) (by rfl) ?_; simp only [Act.put, List.setIfInBounds_toArray, List.set_cons_zero, List.set_cons_succ])
   | (refine ext_pick_t rfl rfl (by rfl) (by rfl) (by rfl) ?_; simp only [Act.put, List.setIfInBounds_toArray, List.set_cons_zero, List.set_cons_succ])
   | (refine ext_pick_f rfl rfl (by rfl) (by rfl) (by rfl) ?_; simp only [Act.put, List.setIfInBounds_toArray, List.set_cons_zero, List.set_cons_succ])
   | (apply ext_take rfl (by rfl)
      · intro w' hS
        have hSc := hS.cells
        (try simp only [World.size_drew, World.cell?_drew] at hSc)
        go_simp
        (try simp (disch := omega) only [i64_id, u64_id, ↓IntWalk.iteOmega, Int.tdiv_eq_ediv_of_nonneg, Int.tmod_eq_emod_of_nonneg])
        try rfl
      simp only [Act.put, List.setIfInBounds_toArray, List.set_cons_zero, List.set_cons_succ])
   | (refine ext_pass rfl (by rfl) ?_; simp only [Act.put, List.setIfInBounds_toArray, List.set_cons_zero, List.set_cons_succ]))
  (refine ext_do rfl (by rfl) (fun K hK => ?_)
   go_simp
   go_at_call 11
   refine (appendUint_any _ [] n _ (by simp) HN64.out SliceAt.nil).mono ?_
   rintro e w8 ⟨v8, rfl, ho8, hb8⟩
   have hx8 : Ext W w8 := hxd.trans hb8
   have hc8 := hx8.cells
   have hs8 := hx8.size
   have hq8 := Below.size hb8
   have hlt8 := Nat.lt_of_lt_of_le hz hs8
   have HO8 : Hid (SliceAt encB w8 v8 (uv n)) := (by have h := OwnB.slice ho8; rw [List.nil_append] at h; exact h); clear ho8
   refine hK _ _ (by first | exact hb8 | exact (Ext.drew _).trans hb8) ?_
   clear hK K
   (try simp only [Act.put, List.setIfInBounds_toArray, List.set_cons_zero, List.set_cons_succ]))
  (apply ext_take rfl (by rfl)
   · intro w' hS
     have hcv := run_str (P := Try.prog) Try.underlying25 Try.underlying5 Try.underlying9 w' _ _ (SliceAt.ext HO8.out hS)
     go_simp
     try rfl
   simp only [Act.put, List.setIfInBounds_toArray, List.set_cons_zero, List.set_cons_succ])
  (refine ext_do rfl (by rfl) (fun K hK => ?_)
   go_simp
   go_at_call 24
   refine (left_any _ _ r false (by omega) (HU7.out.ext hx8)).mono ?_
   rintro e w' ⟨rfl, rfl⟩
   refine hK _ _ (by first | (with_reducible exact Ext.refl _) | (with_reducible exact Ext.drew _)) ?_
   clear hK K
   (try simp only [Act.put, List.setIfInBounds_toArray, List.set_cons_zero, List.set_cons_succ]))
  iterate 2 (first
   | (refine ext_move rfl rfl (by rfl) (by rfl) ?_; simp only [Act.put, List.setIfInBounds_toArray, List.set_cons_zero, List.set_cons_succ])
   | (refine ext_assign rfl rfl (by rfl) (by rfl) ?_; simp only [Act.put, List.setIfInBounds_toArray, List.set_cons_zero, List.set_cons_succ])
   | (refine ext_pick_t rfl rfl (by rfl) (by rfl) (by rfl) ?_; simp only [Act.put, List.setIfInBounds_toArray, List.set_cons_zero, List.set_cons_succ])
   | (refine ext_pick_f rfl rfl (by rfl) (by rfl) (by rfl) ?_; simp only [Act.put, List.setIfInBounds_toArray, List.set_cons_zero, List.set_cons_succ])
   | (apply ext_take rfl (by rfl)
      · intro w' hS
        have hSc := hS.cells
        (try simp only [World.size_drew, World.cell?_drew] at hSc)
        go_simp
        (try simp (disch := omega) only [i64_id, u64_id, ↓IntWalk.iteOmega, Int.tdiv_eq_ediv_of_nonneg, Int.tmod_eq_emod_of_nonneg])
        try rfl
      simp only [Act.put, List.setIfInBounds_toArray, List.set_cons_zero, List.set_cons_succ])
   | (refine ext_pass rfl (by rfl) ?_; simp only [Act.put, List.setIfInBounds_toArray, List.set_cons_zero, List.set_cons_succ]))
  (apply ext_take rfl (by rfl)
   · intro w' hS
     have hcv := run_str (P := Try.prog) Try.underlying25 Try.underlying5 Try.underlying9 w' _ _ (SliceAt.ext (HT.out.ext hx8) hS)
     go_simp
     try rfl
   simp only [Act.put, List.setIfInBounds_toArray, List.set_cons_zero, List.set_cons_succ])
  iterate 11 (first
   | (refine ext_move rfl rfl (by rfl) (by rfl) ?_; simp only [Act.put, List.setIfInBounds_toArray, List.set_cons_zero, List.set_cons_succ])
   | (refine ext_assign rfl rfl (by rfl) (by rfl) ?_; simp only [Act.put, List.setIfInBounds_toArray, List.set_cons_zero, List.set_cons_succ])
   | (refine ext_pick_t rfl rfl (by rfl) (by rfl) (by rfl) ?_; simp only [Act.put, List.setIfInBounds_toArray, List.set_cons_zero, List.set_cons_succ])
   | (refine ext_pick_f rfl rfl (by rfl) (by rfl) (by rfl) ?_; simp only [Act.put, List.setIfInBounds_toArray, List.set_cons_zero, List.set_cons_succ])
   | (apply ext_take rfl (by rfl)
      · intro w' hS
        have hSc := hS.cells
        (try simp only [World.size_drew, World.cell?_drew] at hSc)
        go_simp
        (try simp (disch := omega) only [i64_id, u64_id, ↓IntWalk.iteOmega, Int.tdiv_eq_ediv_of_nonneg, Int.tmod_eq_emod_of_nonneg])
        try rfl
      simp only [Act.put, List.setIfInBounds_toArray, List.set_cons_zero, List.set_cons_succ])
   | (refine ext_pass rfl (by rfl) ?_; simp only [Act.put, List.setIfInBounds_toArray, List.set_cons_zero, List.set_cons_succ]))
  (refine ext_do rfl (by rfl) (fun K hK => ?_)
   go_simp
   go_at_call 12
   refine (appendInt_any _ [] (unz x) _ (by simp) HZB.out.1 HZB.out.2 SliceAt.nil).mono ?_
   rintro e w9 ⟨v9, rfl, ho9, hb9⟩
   have hx9 : Ext W w9 := hx8.trans hb9
   have hc9 := hx9.cells
   have hs9 := hx9.size
   have hq9 := Below.size hb9
   have hlt9 := Nat.lt_of_lt_of_le hz hs9
   have HO9 : Hid (SliceAt encB w9 v9 (uv n)) := (by have h := OwnB.slice ho9; rw [List.nil_append, HZZ.out] at h; exact h); clear ho9
   refine hK _ _ (by first | exact hb9 | exact (Ext.drew _).trans hb9) ?_
   clear hK K
   (try simp only [Act.put, List.setIfInBounds_toArray, List.set_cons_zero, List.set_cons_succ]))
  (apply ext_take rfl (by rfl)
   · intro w' hS
     have hcv := run_str (P := Try.prog) Try.underlying25 Try.underlying5 Try.underlying9 w' _ _ (SliceAt.ext HO9.out hS)
     go_simp
     try rfl
   simp only [Act.put, List.setIfInBounds_toArray, List.set_cons_zero, List.set_cons_succ])
  (refine ext_do rfl (by rfl) (fun K hK => ?_)
   go_simp
   go_at_call 24
   refine (left_any _ _ r false (by omega) (HI7.out.ext hx9)).mono ?_
   rintro e w' ⟨rfl, rfl⟩
   refine hK _ _ (by first | (with_reducible exact Ext.refl _) | (with_reducible exact Ext.drew _)) ?_
   clear hK K
   (try simp only [Act.put, List.setIfInBounds_toArray, List.set_cons_zero, List.set_cons_succ]))
  iterate 2 (first
   | (refine ext_move rfl rfl (by rfl) (by rfl) ?_; simp only [Act.put, List.setIfInBounds_toArray, List.set_cons_zero, List.set_cons_succ])
   | (refine ext_assign rfl rfl (by rfl) (by rfl) ?_; simp only [Act.put, List.setIfInBounds_toArray, List.set_cons_zero, List.set_cons_succ])
   | (refine ext_pick_t rfl rfl (by rfl) (by rfl) (by rfl) ?_; simp only [Act.put, List.setIfInBounds_toArray, List.set_cons_zero, List.set_cons_succ])
   | (refine ext_pick_f rfl rfl (by rfl) (by rfl) (by rfl) ?_; simp only [Act.put, List.setIfInBounds_toArray, List.set_cons_zero, List.set_cons_succ])
   | (apply ext_take rfl (by rfl)
      · intro w' hS
        have hSc := hS.cells
        (try simp only [World.size_drew, World.cell?_drew] at hSc)
        go_simp
        (try simp (disch := omega) only [i64_id, u64_id, ↓IntWalk.iteOmega, Int.tdiv_eq_ediv_of_nonneg, Int.tmod_eq_emod_of_nonneg])
        try rfl
      simp only [Act.put, List.setIfInBounds_toArray, List.set_cons_zero, List.set_cons_succ])
   | (refine ext_pass rfl (by rfl) ?_; simp only [Act.put, List.setIfInBounds_toArray, List.set_cons_zero, List.set_cons_succ]))
  (apply ext_take rfl (by rfl)
   · intro w' hS
     have hcv := run_str (P := Try.prog) Try.underlying25 Try.underlying5 Try.underlying9 w' _ _ (SliceAt.ext (HT.out.ext hx9) hS)
     go_simp
     try rfl
   simp only [Act.put, List.setIfInBounds_toArray, List.set_cons_zero, List.set_cons_succ])
  iterate 3 (first
   | (refine ext_move rfl rfl (by rfl) (by rfl) ?_; simp only [Act.put, List.setIfInBounds_toArray, List.set_cons_zero, List.set_cons_succ])
   | (refine ext_assign rfl rfl (by rfl) (by rfl) ?_; simp only [Act.put, List.setIfInBounds_toArray, List.set_cons_zero, List.set_cons_succ])
   | (refine ext_pick_t rfl rfl (by rfl) (by rfl) (by rfl) ?_; simp only [Act.put, List.setIfInBounds_toArray, List.set_cons_zero, List.set_cons_succ])
   | (refine ext_pick_f rfl rfl (by rfl) (by rfl) (by rfl) ?_; simp only [Act.put, List.setIfInBounds_toArray, List.set_cons_zero, List.set_cons_succ])
   | (apply ext_take rfl (by rfl)
      · intro w' hS
        have hSc := hS.cells
        (try simp only [World.size_drew, World.cell?_drew] at hSc)
        go_simp
        (try simp (disch := omega) only [i64_id, u64_id, ↓IntWalk.iteOmega, Int.tdiv_eq_ediv_of_nonneg, Int.tmod_eq_emod_of_nonneg])
        try rfl
      simp only [Act.put, List.setIfInBounds_toArray, List.set_cons_zero, List.set_cons_succ])
   | (refine ext_pass rfl (by rfl) ?_; simp only [Act.put, List.setIfInBounds_toArray, List.set_cons_zero, List.set_cons_succ]))
  refine ext_nil ?_
  go_wp2_with fail
  have hxe := hx9.trans (Ext.drew w9)
  have HLF : Hid (∀ w', Ext W w' → Calls Try.prog 24 #[.pointer (some ⟨b3, 0, none⟩)] w' fun e w'' => e = .returned (.int .i64 q) ∧ w' = w'') := fun w' hx => by
    have h := left_any _ _ (r.drop n) false (by rw [HQ.out]; omega) (HS7.out.ext hx); rw [HQ.out] at h; exact h
  have HTT : Hid (SliceAt encB W (.slice ad q2 cap) ([] ++ uv y.length ++ y)) := by
    have h := HA7.out.take q2 HK2.out; rw [HTK2.out] at h; exact h
  have hzv : ∃ adv capv, vb = .slice adv y.length capv := by obtain ⟨a1, c1, rfl, _⟩ := HVB.out; exact ⟨a1, c1, rfl⟩
  obtain ⟨adv, capv, rfl⟩ := hzv
  refine wp_region_ext [(0, true), (1, true), (2, true), (3, true), (6, true), (7, true), (8, true), (9, true), (4, false), (5, true), (10, false), (11, true), (12, true), (13, true), (14, true), (15, true), (16, true)] (by kernel_rfl) (by kernel_rfl) ?_
  iterate 8 (first
   | (refine ext_move rfl rfl (by rfl) (by rfl) ?_; simp only [Act.put, List.setIfInBounds_toArray, List.set_cons_zero, List.set_cons_succ])
   | (refine ext_assign rfl rfl (by rfl) (by rfl) ?_; simp only [Act.put, List.setIfInBounds_toArray, List.set_cons_zero, List.set_cons_succ])
   | (refine ext_pick_t rfl rfl (by rfl) (by rfl) (by rfl) ?_; simp only [Act.put, List.setIfInBounds_toArray, List.set_cons_zero, List.set_cons_succ])
   | (refine ext_pick_f rfl rfl (by rfl) (by rfl) (by rfl) ?_; simp only [Act.put, List.setIfInBounds_toArray, List.set_cons_zero, List.set_cons_succ])
   | (apply ext_take rfl (by rfl)
      · intro w' hS
        have hSc := hS.cells
        (try simp only [World.size_drew, World.cell?_drew] at hSc)
        go_simp
        (try simp (disch := omega) only [i64_id, u64_id, ↓IntWalk.iteOmega, Int.tdiv_eq_ediv_of_nonneg, Int.tmod_eq_emod_of_nonneg])
        try rfl
      simp only [Act.put, List.setIfInBounds_toArray, List.set_cons_zero, List.set_cons_succ])
   | (refine ext_pass rfl (by rfl) ?_; simp only [Act.put, List.setIfInBounds_toArray, List.set_cons_zero, List.set_cons_succ]))
  (refine ext_do rfl (by rfl) (fun K hK => ?_)
   go_simp
   go_at_call 16
   refine (appendBytes_any _ _ [] y _ (by simp) (by rw [htn.out]; omega) SliceAt.nil (HVB.out.ext hxe)).mono ?_
   rintro e w10 ⟨v10, rfl, ho10, hb10⟩
   have hx10 : Ext W w10 := hxe.trans hb10
   have hc10 := hx10.cells
   have hs10 := hx10.size
   have hq10 := Below.size hb10
   have hlt10 := Nat.lt_of_lt_of_le hz hs10
   have HO10 := Lib.hid ho10; clear ho10
   refine hK _ _ (by first | exact hb10 | exact (Ext.drew _).trans hb10) ?_
   clear hK K
   (try simp only [Act.put, List.setIfInBounds_toArray, List.set_cons_zero, List.set_cons_succ]))
  (apply ext_take rfl (by rfl)
   · intro w' hS
     have hcv := run_str (P := Try.prog) Try.underlying25 Try.underlying5 Try.underlying9 w' _ _ (SliceAt.ext (OwnB.slice HO10.out) hS)
     go_simp
     try rfl
   simp only [Act.put, List.setIfInBounds_toArray, List.set_cons_zero, List.set_cons_succ])
  (refine ext_do rfl (by rfl) (fun K hK => ?_)
   go_simp
   go_at_call 24
   refine (HLF.out _ hx10).mono ?_
   rintro e w' ⟨rfl, rfl⟩
   refine hK _ _ (by first | (with_reducible exact Ext.refl _) | (with_reducible exact Ext.drew _)) ?_
   clear hK K
   (try simp only [Act.put, List.setIfInBounds_toArray, List.set_cons_zero, List.set_cons_succ]))
  iterate 2 (first
   | (refine ext_move rfl rfl (by rfl) (by rfl) ?_; simp only [Act.put, List.setIfInBounds_toArray, List.set_cons_zero, List.set_cons_succ])
   | (refine ext_assign rfl rfl (by rfl) (by rfl) ?_; simp only [Act.put, List.setIfInBounds_toArray, List.set_cons_zero, List.set_cons_succ])
   | (refine ext_pick_t rfl rfl (by rfl) (by rfl) (by rfl) ?_; simp only [Act.put, List.setIfInBounds_toArray, List.set_cons_zero, List.set_cons_succ])
   | (refine ext_pick_f rfl rfl (by rfl) (by rfl) (by rfl) ?_; simp only [Act.put, List.setIfInBounds_toArray, List.set_cons_zero, List.set_cons_succ])
   | (apply ext_take rfl (by rfl)
      · intro w' hS
        have hSc := hS.cells
        (try simp only [World.size_drew, World.cell?_drew] at hSc)
        go_simp
        (try simp (disch := omega) only [i64_id, u64_id, ↓IntWalk.iteOmega, Int.tdiv_eq_ediv_of_nonneg, Int.tmod_eq_emod_of_nonneg])
        try rfl
      simp only [Act.put, List.setIfInBounds_toArray, List.set_cons_zero, List.set_cons_succ])
   | (refine ext_pass rfl (by rfl) ?_; simp only [Act.put, List.setIfInBounds_toArray, List.set_cons_zero, List.set_cons_succ]))
  (apply ext_take rfl (by rfl)
   · intro w' hS
     have hcv := run_str (P := Try.prog) Try.underlying25 Try.underlying5 Try.underlying9 w' _ _ (SliceAt.ext (HTT.out.ext hx10) hS)
     go_simp
     try rfl
   simp only [Act.put, List.setIfInBounds_toArray, List.set_cons_zero, List.set_cons_succ])
  iterate 3 (first
   | (refine ext_move rfl rfl (by rfl) (by rfl) ?_; simp only [Act.put, List.setIfInBounds_toArray, List.set_cons_zero, List.set_cons_succ])
   | (refine ext_assign rfl rfl (by rfl) (by rfl) ?_; simp only [Act.put, List.setIfInBounds_toArray, List.set_cons_zero, List.set_cons_succ])
   | (refine ext_pick_t rfl rfl (by rfl) (by rfl) (by rfl) ?_; simp only [Act.put, List.setIfInBounds_toArray, List.set_cons_zero, List.set_cons_succ])
   | (refine ext_pick_f rfl rfl (by rfl) (by rfl) (by rfl) ?_; simp only [Act.put, List.setIfInBounds_toArray, List.set_cons_zero, List.set_cons_succ])
   | (apply ext_take rfl (by rfl)
      · intro w' hS
        have hSc := hS.cells
        (try simp only [World.size_drew, World.cell?_drew] at hSc)
        go_simp
        (try simp (disch := omega) only [i64_id, u64_id, ↓IntWalk.iteOmega, Int.tdiv_eq_ediv_of_nonneg, Int.tmod_eq_emod_of_nonneg])
        try rfl
      simp only [Act.put, List.setIfInBounds_toArray, List.set_cons_zero, List.set_cons_succ])
   | (refine ext_pass rfl (by rfl) ?_; simp only [Act.put, List.setIfInBounds_toArray, List.set_cons_zero, List.set_cons_succ]))
  refine ext_nil ?_
  go_wp2_with fail
  go_ret
  exact ⟨rfl, Ext.trans HX7.out hx10⟩

set_option maxHeartbeats 4000000 in
theorem codecUnique_no (v : Value) (l : List (BitVec 8)) (w : World) (hl60 : (l.length : Int) ≤ 60) (h : SliceAt encB w v l) (x : BitVec 64) (r : List (BitVec 8)) (hrd : rd false l = some (x, r)) (hc : ¬ x.toNat ≤ r.length) :
    Calls Try.prog 5 #[v] w fun e w' => e = .returned (.bool true) ∧ Below w.heap.size w w' := by
  have HC := Lib.hid hc
  clear hc
  have HA := Lib.hid h
  obtain ⟨ad, cap, rfl, hca, _⟩ := h
  have hcl : (l.length : Int) ≤ (cap : Int) := by omega
  have hln : l.length ≤ 60 := by omega
  clear hca
  obtain ⟨n, hn⟩ : ∃ n, x.toNat = n := ⟨_, rfl⟩
  have hxn : encU x = .int .u64 (n : Int) := by show Value.int .u64 (un x) = _; unfold un; rw [hn]
  have hinv := rd_inv hrd
  have hzz := zz_unz x
  have hzb := unz_bound x
  have hn64 : n < 18446744073709551616 := by have := x.isLt; omega
  rw [hn] at hinv hzz
  have hk : l.length = (uv n).length + r.length := by rw [hinv, List.length_append]
  have htk : l.take (uv n).length = uv n := by rw [hinv]; simp
  have hsub : (l.length : Int) - (r.length : Int) = (((uv n).length : Nat) : Int) := by omega
  have hkc : (((uv n).length : Nat) : Int) ≤ (cap : Int) := by omega
  have HN := Lib.hid hrd
  have HTK := Lib.hid htk
  have HZZ : Hid (uv (zz (unz x)) = uv n) := by show _ = _; rw [hzz]
  have HZB := Lib.hid hzb
  have HN64 := Lib.hid hn64
  have HXN := Lib.hid hxn
  have HNN := Lib.hid hn
  have HINV := Lib.hid hinv
  have HKL : Hid ((uv n).length ≤ l.length) := Lib.hid (by omega)
  have hrl : r.length ≤ 60 := by omega
  clear hrd htk hzz hzb hinv hn hxn hk
  go_enter Try.func5, Try.ntmps5
  go_wp2_with fail
  go_at_call 10
  refine (awake_any _).mono ?_
  rintro e w1 ⟨rfl, hb1⟩
  go_wp2_with fail
  go_at_call 20
  refine (new_any _ l _ (by omega) (HA.out.ext hb1)).mono ?_
  rintro e w2 ⟨b1, rfl, hn1, hr1, hb2⟩
  have hx2 : Ext w w2 := Ext.trans hb1 hb2
  have hl1 := hr1.lt
  have HR1 := Lib.hid hr1
  clear hr1
  go_wp2_with fail
  go_at_call 20
  refine (new_any _ l _ (by omega) (HA.out.ext hx2)).mono ?_
  rintro e w3 ⟨b2, rfl, hn2, hr2, hb3⟩
  have hx3 : Ext w w3 := hx2.trans hb3
  have hl2 := hr2.lt
  have HR2 := Lib.hid hr2
  clear hr2
  go_wp2_with fail
  go_at_call 20
  refine (new_any _ l _ (by omega) (HA.out.ext hx3)).mono ?_
  rintro e w4 ⟨b3, rfl, hn3, hr3, hb4⟩
  have hx4 : Ext w w4 := hx3.trans hb4
  have hl3 := hr3.lt
  have HR3 := Lib.hid hr3
  have HU4 := Lib.hid ((HR1.out.ext hb3).ext hb4)
  have HI4 := Lib.hid (HR2.out.ext hb4)
  have HA4 := Lib.hid (HA.out.ext hx4)
  have hne12 : b2 ≠ b1 := by omega
  have hne13 : b3 ≠ b1 := by omega
  have hne23 : b3 ≠ b2 := by omega
  have hbw1 : w.heap.size ≤ b1 := by have := Ext.size hb1; omega
  have hbw2 : w.heap.size ≤ b2 := by omega
  have hbw3 : w.heap.size ≤ b3 := by omega
  clear hr3
  go_wp2_with fail
  go_at_call 21
  refine (uint_any _ _ l false (by omega) HU4.out).mono ?_
  intro e w5 hp
  rw [HN.out] at hp
  obtain ⟨rfl, hu5, hg5⟩ := hp
  rw [HXN.out]
  have HU5 := Lib.hid hu5
  have HG5 := Lib.hid hg5
  have HI5 := Lib.hid (HI4.out.turn HU4.out.nb hg5 hne12)
  have HS5 := Lib.hid (HR3.out.turn HU4.out.nb hg5 hne13)
  have HX5 := Lib.hid (Below.grown hx4 hg5 hx4.size (fun k hk => by cases hk; exact hbw1))
  clear hu5 hg5
  go_wp2_with fail
  go_at_call 22
  refine (int_any _ _ l false (by omega) HI5.out).mono ?_
  intro e w6 hp
  rw [rdI_some HN.out] at hp
  obtain ⟨vi, rfl, hvi, hi6, hg6⟩ := hp
  have hvi : vi = .int .i64 (unz x) := hvi
  subst hvi
  have HI6 := Lib.hid hi6
  have HG6 := Lib.hid hg6
  have HU6 := Lib.hid (HU5.out.turn HI5.out.nb hg6 (Ne.symm hne12))
  have HS6 := Lib.hid (HS5.out.turn HI5.out.nb hg6 hne23)
  have HX6 := Lib.hid (Below.grown HX5.out hg6 (Ext.size HX5.out) (fun k hk => by cases hk; exact hbw2))
  clear hi6 hg6
  go_wp2_with fail
  go_at_call 23
  refine (bytes_any _ _ l false (by omega) HS6.out).mono ?_
  intro e W hp
  rw [rdB_no HN.out HC.out] at hp
  obtain ⟨rfl, hs7, hg7⟩ := hp
  have HS7 := Lib.hid hs7
  have HG7 := Lib.hid hg7
  have HU7 := Lib.hid (HU6.out.turn HS6.out.nb hg7 (Ne.symm hne13))
  have HI7 := Lib.hid (HI6.out.turn HS6.out.nb hg7 (Ne.symm hne23))
  have HX7 := Lib.hid (Below.grown HX6.out hg7 (Ext.size HX6.out) (fun k hk => by cases hk; exact hbw3))
  clear hs7 hg7
  go_wp2_with fail
  have hz : b1 < W.heap.size := by have := HU7.out.lt; omega
  have hxd := Ext.drew W
  have HA7 := Lib.hid (((HA4.out.turn HU4.out.nb HG5.out).turn HI5.out.nb HG6.out).turn HS6.out.nb HG7.out)
  have HT := Lib.hid (HA7.out.take (uv n).length HKL.out)
  rw [HTK.out] at HT
  refine wp_region_ext [(0, true), (1, true), (2, true), (3, true), (6, true), (7, true), (8, true), (9, true), (4, false), (5, true), (10, false), (11, true), (12, true), (13, true), (14, true), (15, true), (16, true), (17, true), (18, true), (19, true), (20, true), (23, true), (24, true), (25, true), (26, true), (21, false), (22, true), (27, false), (28, true), (29, true), (30, true), (31, true), (32, true), (33, true)] (by kernel_rfl) (by kernel_rfl) ?_
  iterate 8 (first
   | (refine ext_move rfl rfl (by rfl) (by rfl) ?_; simp only [Act.put, List.setIfInBounds_toArray, List.set_cons_zero, List.set_cons_succ])
   | (refine ext_assign rfl rfl (by rfl) (by rfl) ?_; simp only [Act.put, List.setIfInBounds_toArray, List.set_cons_zero, List.set_cons_succ])
   | (refine ext_pick_t rfl rfl (by rfl) (by rfl) (by rfl) ?_; simp only [Act.put, List.setIfInBounds_toArray, List.set_cons_zero, List.set_cons_succ])
   | (refine ext_pick_f rfl rfl (by rfl) (by rfl) (by rfl) ?_; simp only [Act.put, List.setIfInBounds_toArray, List.set_cons_zero, List.set_cons_succ])
   | (apply ext_take rfl (by rfl)
      · intro w' hS
        have hSc := hS.cells
        (try simp only [World.size_drew, World.cell?_drew] at hSc)
        go_simp
        (try simp (disch := omega) only [i64_id, u64_id, ↓IntWalk.iteOmega, Int.tdiv_eq_ediv_of_nonneg, Int.tmod_eq_emod_of_nonneg])
        try rfl
      simp only [Act.put, List.setIfInBounds_toArray, List.set_cons_zero, List.set_cons_succ])
   | (refine ext_pass rfl (by rfl) ?_; simp only [Act.put, List.setIfInBounds_toArray, List.set_cons_zero, List.set_cons_succ]))
  (refine ext_do rfl (by rfl) (fun K hK => ?_)
   go_simp
   go_at_call 11
   refine (appendUint_any _ [] n _ (by simp) HN64.out SliceAt.nil).mono ?_
   rintro e w8 ⟨v8, rfl, ho8, hb8⟩
   have hx8 : Ext W w8 := hxd.trans hb8
   have hc8 := hx8.cells
   have hs8 := hx8.size
   have hq8 := Below.size hb8
   have hlt8 := Nat.lt_of_lt_of_le hz hs8
   have HO8 : Hid (SliceAt encB w8 v8 (uv n)) := (by have h := OwnB.slice ho8; rw [List.nil_append] at h; exact h); clear ho8
   refine hK _ _ (by first | exact hb8 | exact (Ext.drew _).trans hb8) ?_
   clear hK K
   (try simp only [Act.put, List.setIfInBounds_toArray, List.set_cons_zero, List.set_cons_succ]))
  (apply ext_take rfl (by rfl)
   · intro w' hS
     have hcv := run_str (P := Try.prog) Try.underlying25 Try.underlying5 Try.underlying9 w' _ _ (SliceAt.ext HO8.out hS)
     go_simp
     try rfl
   simp only [Act.put, List.setIfInBounds_toArray, List.set_cons_zero, List.set_cons_succ])
  (refine ext_do rfl (by rfl) (fun K hK => ?_)
   go_simp
   go_at_call 24
   refine (left_any _ _ r false (by omega) (HU7.out.ext hx8)).mono ?_
   rintro e w' ⟨rfl, rfl⟩
   refine hK _ _ (by first | (with_reducible exact Ext.refl _) | (with_reducible exact Ext.drew _)) ?_
   clear hK K
   (try simp only [Act.put, List.setIfInBounds_toArray, List.set_cons_zero, List.set_cons_succ]))
  iterate 2 (first
   | (refine ext_move rfl rfl (by rfl) (by rfl) ?_; simp only [Act.put, List.setIfInBounds_toArray, List.set_cons_zero, List.set_cons_succ])
   | (refine ext_assign rfl rfl (by rfl) (by rfl) ?_; simp only [Act.put, List.setIfInBounds_toArray, List.set_cons_zero, List.set_cons_succ])
   | (refine ext_pick_t rfl rfl (by rfl) (by rfl) (by rfl) ?_; simp only [Act.put, List.setIfInBounds_toArray, List.set_cons_zero, List.set_cons_succ])
   | (refine ext_pick_f rfl rfl (by rfl) (by rfl) (by rfl) ?_; simp only [Act.put, List.setIfInBounds_toArray, List.set_cons_zero, List.set_cons_succ])
   | (apply ext_take rfl (by rfl)
      · intro w' hS
        have hSc := hS.cells
        (try simp only [World.size_drew, World.cell?_drew] at hSc)
        go_simp
        (try simp (disch := omega) only [i64_id, u64_id, ↓IntWalk.iteOmega, Int.tdiv_eq_ediv_of_nonneg, Int.tmod_eq_emod_of_nonneg])
        try rfl
      simp only [Act.put, List.setIfInBounds_toArray, List.set_cons_zero, List.set_cons_succ])
   | (refine ext_pass rfl (by rfl) ?_; simp only [Act.put, List.setIfInBounds_toArray, List.set_cons_zero, List.set_cons_succ]))
  (apply ext_take rfl (by rfl)
   · intro w' hS
     have hcv := run_str (P := Try.prog) Try.underlying25 Try.underlying5 Try.underlying9 w' _ _ (SliceAt.ext (HT.out.ext hx8) hS)
     go_simp
     try rfl
   simp only [Act.put, List.setIfInBounds_toArray, List.set_cons_zero, List.set_cons_succ])
  iterate 11 (first
   | (refine ext_move rfl rfl (by rfl) (by rfl) ?_; simp only [Act.put, List.setIfInBounds_toArray, List.set_cons_zero, List.set_cons_succ])
   | (refine ext_assign rfl rfl (by rfl) (by rfl) ?_; simp only [Act.put, List.setIfInBounds_toArray, List.set_cons_zero, List.set_cons_succ])
   | (refine ext_pick_t rfl rfl (by rfl) (by rfl) (by rfl) ?_; simp only [Act.put, List.setIfInBounds_toArray, List.set_cons_zero, List.set_cons_succ])
   | (refine ext_pick_f rfl rfl (by rfl) (by rfl) (by rfl) ?_; simp only [Act.put, List.setIfInBounds_toArray, List.set_cons_zero, List.set_cons_succ])
   | (apply ext_take rfl (by rfl)
      · intro w' hS
        have hSc := hS.cells
        (try simp only [World.size_drew, World.cell?_drew] at hSc)
        go_simp
        (try simp (disch := omega) only [i64_id, u64_id, ↓IntWalk.iteOmega, Int.tdiv_eq_ediv_of_nonneg, Int.tmod_eq_emod_of_nonneg])
        try rfl
      simp only [Act.put, List.setIfInBounds_toArray, List.set_cons_zero, List.set_cons_succ])
   | (refine ext_pass rfl (by rfl) ?_; simp only [Act.put, List.setIfInBounds_toArray, List.set_cons_zero, List.set_cons_succ]))
  (refine ext_do rfl (by rfl) (fun K hK => ?_)
   go_simp
   go_at_call 12
   refine (appendInt_any _ [] (unz x) _ (by simp) HZB.out.1 HZB.out.2 SliceAt.nil).mono ?_
   rintro e w9 ⟨v9, rfl, ho9, hb9⟩
   have hx9 : Ext W w9 := hx8.trans hb9
   have hc9 := hx9.cells
   have hs9 := hx9.size
   have hq9 := Below.size hb9
   have hlt9 := Nat.lt_of_lt_of_le hz hs9
   have HO9 : Hid (SliceAt encB w9 v9 (uv n)) := (by have h := OwnB.slice ho9; rw [List.nil_append, HZZ.out] at h; exact h); clear ho9
   refine hK _ _ (by first | exact hb9 | exact (Ext.drew _).trans hb9) ?_
   clear hK K
   (try simp only [Act.put, List.setIfInBounds_toArray, List.set_cons_zero, List.set_cons_succ]))
  (apply ext_take rfl (by rfl)
   · intro w' hS
     have hcv := run_str (P := Try.prog) Try.underlying25 Try.underlying5 Try.underlying9 w' _ _ (SliceAt.ext HO9.out hS)
     go_simp
     try rfl
   simp only [Act.put, List.setIfInBounds_toArray, List.set_cons_zero, List.set_cons_succ])
  (refine ext_do rfl (by rfl) (fun K hK => ?_)
   go_simp
   go_at_call 24
   refine (left_any _ _ r false (by omega) (HI7.out.ext hx9)).mono ?_
   rintro e w' ⟨rfl, rfl⟩
   refine hK _ _ (by first | (with_reducible exact Ext.refl _) | (with_reducible exact Ext.drew _)) ?_
   clear hK K
   (try simp only [Act.put, List.setIfInBounds_toArray, List.set_cons_zero, List.set_cons_succ]))
  iterate 2 (first
   | (refine ext_move rfl rfl (by rfl) (by rfl) ?_; simp only [Act.put, List.setIfInBounds_toArray, List.set_cons_zero, List.set_cons_succ])
   | (refine ext_assign rfl rfl (by rfl) (by rfl) ?_; simp only [Act.put, List.setIfInBounds_toArray, List.set_cons_zero, List.set_cons_succ])
   | (refine ext_pick_t rfl rfl (by rfl) (by rfl) (by rfl) ?_; simp only [Act.put, List.setIfInBounds_toArray, List.set_cons_zero, List.set_cons_succ])
   | (refine ext_pick_f rfl rfl (by rfl) (by rfl) (by rfl) ?_; simp only [Act.put, List.setIfInBounds_toArray, List.set_cons_zero, List.set_cons_succ])
   | (apply ext_take rfl (by rfl)
      · intro w' hS
        have hSc := hS.cells
        (try simp only [World.size_drew, World.cell?_drew] at hSc)
        go_simp
        (try simp (disch := omega) only [i64_id, u64_id, ↓IntWalk.iteOmega, Int.tdiv_eq_ediv_of_nonneg, Int.tmod_eq_emod_of_nonneg])
        try rfl
      simp only [Act.put, List.setIfInBounds_toArray, List.set_cons_zero, List.set_cons_succ])
   | (refine ext_pass rfl (by rfl) ?_; simp only [Act.put, List.setIfInBounds_toArray, List.set_cons_zero, List.set_cons_succ]))
  (apply ext_take rfl (by rfl)
   · intro w' hS
     have hcv := run_str (P := Try.prog) Try.underlying25 Try.underlying5 Try.underlying9 w' _ _ (SliceAt.ext (HT.out.ext hx9) hS)
     go_simp
     try rfl
   simp only [Act.put, List.setIfInBounds_toArray, List.set_cons_zero, List.set_cons_succ])
  iterate 3 (first
   | (refine ext_move rfl rfl (by rfl) (by rfl) ?_; simp only [Act.put, List.setIfInBounds_toArray, List.set_cons_zero, List.set_cons_succ])
   | (refine ext_assign rfl rfl (by rfl) (by rfl) ?_; simp only [Act.put, List.setIfInBounds_toArray, List.set_cons_zero, List.set_cons_succ])
   | (refine ext_pick_t rfl rfl (by rfl) (by rfl) (by rfl) ?_; simp only [Act.put, List.setIfInBounds_toArray, List.set_cons_zero, List.set_cons_succ])
   | (refine ext_pick_f rfl rfl (by rfl) (by rfl) (by rfl) ?_; simp only [Act.put, List.setIfInBounds_toArray, List.set_cons_zero, List.set_cons_succ])
   | (apply ext_take rfl (by rfl)
      · intro w' hS
        have hSc := hS.cells
        (try simp only [World.size_drew, World.cell?_drew] at hSc)
        go_simp
        (try simp (disch := omega) only [i64_id, u64_id, ↓IntWalk.iteOmega, Int.tdiv_eq_ediv_of_nonneg, Int.tmod_eq_emod_of_nonneg])
        try rfl
      simp only [Act.put, List.setIfInBounds_toArray, List.set_cons_zero, List.set_cons_succ])
   | (refine ext_pass rfl (by rfl) ?_; simp only [Act.put, List.setIfInBounds_toArray, List.set_cons_zero, List.set_cons_succ]))
  refine ext_nil ?_
  go_wp2_with fail
  refine wp_region_ext [(0, true), (1, true), (2, true), (3, true), (6, true), (7, true), (8, true), (9, true), (4, false), (5, true), (10, false), (11, true), (12, true), (13, true), (14, true), (15, true), (16, true)] (by kernel_rfl) (by kernel_rfl) ?_
  iterate 8 (first
   | (refine ext_move rfl rfl (by rfl) (by rfl) ?_; simp only [Act.put, List.setIfInBounds_toArray, List.set_cons_zero, List.set_cons_succ])
   | (refine ext_assign rfl rfl (by rfl) (by rfl) ?_; simp only [Act.put, List.setIfInBounds_toArray, List.set_cons_zero, List.set_cons_succ])
   | (refine ext_pick_t rfl rfl (by rfl) (by rfl) (by rfl) ?_; simp only [Act.put, List.setIfInBounds_toArray, List.set_cons_zero, List.set_cons_succ])
   | (refine ext_pick_f rfl rfl (by rfl) (by rfl) (by rfl) ?_; simp only [Act.put, List.setIfInBounds_toArray, List.set_cons_zero, List.set_cons_succ])
   | (apply ext_take rfl (by rfl)
      · intro w' hS
        have hSc := hS.cells
        (try simp only [World.size_drew, World.cell?_drew] at hSc)
        go_simp
        (try simp (disch := omega) only [i64_id, u64_id, ↓IntWalk.iteOmega, Int.tdiv_eq_ediv_of_nonneg, Int.tmod_eq_emod_of_nonneg])
        try rfl
      simp only [Act.put, List.setIfInBounds_toArray, List.set_cons_zero, List.set_cons_succ])
   | (refine ext_pass rfl (by rfl) ?_; simp only [Act.put, List.setIfInBounds_toArray, List.set_cons_zero, List.set_cons_succ]))
  (refine ext_passE rfl (by rfl) (by first | (with_reducible exact Ext.refl _) | (with_reducible exact Ext.drew _)) ?_; simp only [Act.put, List.setIfInBounds_toArray, List.set_cons_zero, List.set_cons_succ])
  (first
   | (refine ext_move rfl rfl (by rfl) (by rfl) ?_; simp only [Act.put, List.setIfInBounds_toArray, List.set_cons_zero, List.set_cons_succ])
   | (refine ext_assign rfl rfl (by rfl) (by rfl) ?_; simp only [Act.put, List.setIfInBounds_toArray, List.set_cons_zero, List.set_cons_succ])
   | (refine ext_pick_t rfl rfl (by rfl) (by rfl) (by rfl) ?_; simp only [Act.put, List.setIfInBounds_toArray, List.set_cons_zero, List.set_cons_succ])
   | (refine ext_pick_f rfl rfl (by rfl) (by rfl) (by rfl) ?_; simp only [Act.put, List.setIfInBounds_toArray, List.set_cons_zero, List.set_cons_succ])
   | (apply ext_take rfl (by rfl)
      · intro w' hS
        have hSc := hS.cells
        (try simp only [World.size_drew, World.cell?_drew] at hSc)
        go_simp
        (try simp (disch := omega) only [i64_id, u64_id, ↓IntWalk.iteOmega, Int.tdiv_eq_ediv_of_nonneg, Int.tmod_eq_emod_of_nonneg])
        try rfl
      simp only [Act.put, List.setIfInBounds_toArray, List.set_cons_zero, List.set_cons_succ])
   | (refine ext_pass rfl (by rfl) ?_; simp only [Act.put, List.setIfInBounds_toArray, List.set_cons_zero, List.set_cons_succ]))
  (refine ext_passE rfl (by rfl) (by first | (with_reducible exact Ext.refl _) | (with_reducible exact Ext.drew _)) ?_; simp only [Act.put, List.setIfInBounds_toArray, List.set_cons_zero, List.set_cons_succ])
  iterate 2 (first
   | (refine ext_move rfl rfl (by rfl) (by rfl) ?_; simp only [Act.put, List.setIfInBounds_toArray, List.set_cons_zero, List.set_cons_succ])
   | (refine ext_assign rfl rfl (by rfl) (by rfl) ?_; simp only [Act.put, List.setIfInBounds_toArray, List.set_cons_zero, List.set_cons_succ])
   | (refine ext_pick_t rfl rfl (by rfl) (by rfl) (by rfl) ?_; simp only [Act.put, List.setIfInBounds_toArray, List.set_cons_zero, List.set_cons_succ])
   | (refine ext_pick_f rfl rfl (by rfl) (by rfl) (by rfl) ?_; simp only [Act.put, List.setIfInBounds_toArray, List.set_cons_zero, List.set_cons_succ])
   | (apply ext_take rfl (by rfl)
      · intro w' hS
        have hSc := hS.cells
        (try simp only [World.size_drew, World.cell?_drew] at hSc)
        go_simp
        (try simp (disch := omega) only [i64_id, u64_id, ↓IntWalk.iteOmega, Int.tdiv_eq_ediv_of_nonneg, Int.tmod_eq_emod_of_nonneg])
        try rfl
      simp only [Act.put, List.setIfInBounds_toArray, List.set_cons_zero, List.set_cons_succ])
   | (refine ext_pass rfl (by rfl) ?_; simp only [Act.put, List.setIfInBounds_toArray, List.set_cons_zero, List.set_cons_succ]))
  (first
   | (refine ext_move rfl rfl (by rfl) (by rfl) ?_; simp only [Act.put, List.setIfInBounds_toArray, List.set_cons_zero, List.set_cons_succ])
   | (refine ext_assign rfl rfl (by rfl) (by rfl) ?_; simp only [Act.put, List.setIfInBounds_toArray, List.set_cons_zero, List.set_cons_succ])
   | (refine ext_pick_t rfl rfl (by rfl) (by rfl) (by rfl) ?_; simp only [Act.put, List.setIfInBounds_toArray, List.set_cons_zero, List.set_cons_succ])
   | (refine ext_pick_f rfl rfl (by rfl) (by rfl) (by rfl) ?_; simp only [Act.put, List.setIfInBounds_toArray, List.set_cons_zero, List.set_cons_succ])
   | (apply ext_take rfl (by rfl)
      · intro w' hS
        have hSc := hS.cells
        (try simp only [World.size_drew, World.cell?_drew] at hSc)
        go_simp
        (try simp (disch := omega) only [i64_id, u64_id, ↓IntWalk.iteOmega, Int.tdiv_eq_ediv_of_nonneg, Int.tmod_eq_emod_of_nonneg])
        try rfl
      simp only [Act.put, List.setIfInBounds_toArray, List.set_cons_zero, List.set_cons_succ])
   | (refine ext_pass rfl (by rfl) ?_; simp only [Act.put, List.setIfInBounds_toArray, List.set_cons_zero, List.set_cons_succ]))
  iterate 3 (first
   | (refine ext_move rfl rfl (by rfl) (by rfl) ?_; simp only [Act.put, List.setIfInBounds_toArray, List.set_cons_zero, List.set_cons_succ])
   | (refine ext_assign rfl rfl (by rfl) (by rfl) ?_; simp only [Act.put, List.setIfInBounds_toArray, List.set_cons_zero, List.set_cons_succ])
   | (refine ext_pick_t rfl rfl (by rfl) (by rfl) (by rfl) ?_; simp only [Act.put, List.setIfInBounds_toArray, List.set_cons_zero, List.set_cons_succ])
   | (refine ext_pick_f rfl rfl (by rfl) (by rfl) (by rfl) ?_; simp only [Act.put, List.setIfInBounds_toArray, List.set_cons_zero, List.set_cons_succ])
   | (apply ext_take rfl (by rfl)
      · intro w' hS
        have hSc := hS.cells
        (try simp only [World.size_drew, World.cell?_drew] at hSc)
        go_simp
        (try simp (disch := omega) only [i64_id, u64_id, ↓IntWalk.iteOmega, Int.tdiv_eq_ediv_of_nonneg, Int.tmod_eq_emod_of_nonneg])
        try rfl
      simp only [Act.put, List.setIfInBounds_toArray, List.set_cons_zero, List.set_cons_succ])
   | (refine ext_pass rfl (by rfl) ?_; simp only [Act.put, List.setIfInBounds_toArray, List.set_cons_zero, List.set_cons_succ]))
  refine ext_nil ?_
  go_wp2_with fail
  go_ret
  exact ⟨rfl, Ext.trans HX7.out (hx9.trans (Ext.drew _))⟩

theorem codecUnique_walk (v : Value) (l : List (BitVec 8)) (w : World) (hl : l.length ≤ maxLen) (h : SliceAt encB w v l) :
    Calls Try.prog 5 #[v] w fun e w' => e = .returned (.bool true) ∧ Below w.heap.size w w' := by
  by_cases h60 : 60 < l.length
  · have HA := Lib.hid h
    unfold maxLen at hl
    obtain ⟨ad, cap, rfl, hca, _⟩ := h
    have h60 : (60 : Int) < (l.length : Int) := by omega
    go_enter Try.func5, Try.ntmps5
    go_wp2_with fail
    go_at_call 10
    refine (awake_any _).mono ?_
    rintro e w1 ⟨rfl, hb1⟩
    go_wp2_with fail
    go_ret
    exact ⟨rfl, hb1⟩
  have hl60 : (l.length : Int) ≤ 60 := by omega
  cases hrd : rd false l with
  | none => exact codecUnique_none v l w hl60 h hrd
  | some p =>
    obtain ⟨x, r⟩ := p
    by_cases hc : x.toNat ≤ r.length
    · exact codecUnique_yes v l w hl60 h x r hrd hc
    · exact codecUnique_no v l w hl60 h x r hrd hc
end Go.Proofs.Ytbegghodjfllnaa
