/-
  Chapter 8 (crc64): the walk of Crc64Short.
-/
import Derived.Test.YtmleonpecodimaaC8E
import Derived.Test.YtmleonpecodimaaStr
namespace Go.Proofs.Ytmleonpecodimaa
open Go.ChangeShapes Go.WideShapes Go.ChangeAt Go.RowKit
set_option linter.unusedVariables false
attribute [local go_sem] xor_un and_un and_one_un xor_poly_un half_un or_un not_un unsigned64 wrap_ub xor_ub eq_strB

theorem rem9 (n : Nat) (hn : n ≤ 255) : IntKind.u8.wrap (Int.tmod (n : Int) 9) = ((n % 9 : Nat) : Int) := by
  have h : Int.tmod (n : Int) 9 = ((n % 9 : Nat) : Int) := rfl
  rw [h]
  simp only [IntKind.wrap, IntKind.bits, IntKind.signed]; simp; omega

/-- two short strings of one length have one sum exactly if they are equal -/
theorem short_law (la lb : List (BitVec 8)) (h : la.length = lb.length) (hl : la.length ≤ 8) : ((un (Crc.sum la) == un (Crc.sum lb)) == decide (la = lb)) = true := by
  rw [eq_un]
  by_cases e : la = lb
  · subst e; simp
  · have : Crc.sum la ≠ Crc.sum lb := fun h2 => e (Crc.sum_inj_short h hl h2)
    simp [e, this]

set_option maxHeartbeats 1000000 in
theorem crc64Short_walk (a0 a1 a2 a3 a4 a5 a6 a7 b0 b1 b2 b3 b4 b5 b6 b7 : BitVec 8) (n : Nat) (hn : n ≤ 255) (w : World) :
    Calls Try.prog 9 #[.agg #[encB a0, encB a1, encB a2, encB a3, encB a4, encB a5, encB a6, encB a7], .agg #[encB b0, encB b1, encB b2, encB b3, encB b4, encB b5, encB b6, encB b7], .int .u8 n] w fun e w' => e = .returned (.bool true) ∧ Below w.heap.size w w' := by
  have s1 := (SliceAt.lit (enc := encB) w [a0, a1, a2, a3, a4, a5, a6, a7] 34 (0, 0) #[encB a0, encB a1, encB a2, encB a3, encB a4, encB a5, encB a6, encB a7] rfl).ext (Ext.alloc _ (.cells #[encB b0, encB b1, encB b2, encB b3, encB b4, encB b5, encB b6, encB b7] 34))
  have s2 := SliceAt.lit (enc := encB) (w.alloc (.cells #[encB a0, encB a1, encB a2, encB a3, encB a4, encB a5, encB a6, encB a7] 34)) [b0, b1, b2, b3, b4, b5, b6, b7] 34 (0, 0) #[encB b0, encB b1, encB b2, encB b3, encB b4, encB b5, encB b6, encB b7] rfl
  have hx : Ext w ((w.alloc (.cells #[encB a0, encB a1, encB a2, encB a3, encB a4, encB a5, encB a6, encB a7] 34)).alloc (.cells #[encB b0, encB b1, encB b2, encB b3, encB b4, encB b5, encB b6, encB b7] 34)) := Ext.trans (Ext.alloc _ _) (Ext.alloc _ _)
  have hz : (w.alloc (.cells #[encB a0, encB a1, encB a2, encB a3, encB a4, encB a5, encB a6, encB a7] 34)).heap.size = w.heap.size + 1 := by simp
  rw [hz] at s2
  clear hz
  have HX := Lib.hid hx
  have HA := Lib.hid s1
  have HB := Lib.hid s2
  have HR := Lib.hid (rem9 n hn)
  have hm : n % 9 ≤ 8 := by omega
  clear hx s1 s2
  go_enter Try.func9, Try.ntmps9
  go_wp2_with fail
  generalize hla : [a0, a1, a2, a3, a4, a5, a6, a7] = la at *
  generalize hlb : [b0, b1, b2, b3, b4, b5, b6, b7] = lb at *
  have hna : la.length = 8 := by rw [← hla]; rfl
  have hnb : lb.length = 8 := by rw [← hlb]; rfl
  generalize (w.alloc (.cells #[encB a0, encB a1, encB a2, encB a3, encB a4, encB a5, encB a6, encB a7] 34)).alloc (.cells #[encB b0, encB b1, encB b2, encB b3, encB b4, encB b5, encB b6, encB b7] 34) = W at *
  clear hla hlb
  rw [hna] at HA
  rw [hnb] at HB
  go_wp2_with (go_at_call 11; refine (awake_any _).mono ?_; rintro e w1 ⟨rfl, hb1⟩)
  have HA1 := Lib.hid ((HA.out.ext hb1).take (n % 9) hm)
  have HB1 := Lib.hid ((HB.out.ext hb1).take (n % 9) hm)
  have hx0 := Ext.refl w1
  refine wp_region_ext [(0, true), (1, true), (2, true), (3, true), (4, true), (5, true), (6, true), (7, true)] (by kernel_rfl) (by kernel_rfl) ?_
  iterate 1 (first
   | (refine ext_move rfl rfl (by rfl) (by rfl) ?_; simp only [Act.put, List.setIfInBounds_toArray, List.set_cons_zero, List.set_cons_succ])
   | (refine ext_assign rfl rfl (by rfl) (by rfl) ?_; simp only [Act.put, List.setIfInBounds_toArray, List.set_cons_zero, List.set_cons_succ])
   | (refine ext_pick_t rfl rfl (by rfl) (by rfl) (by rfl) ?_; simp only [Act.put, List.setIfInBounds_toArray, List.set_cons_zero, List.set_cons_succ])
   | (refine ext_pick_f rfl rfl (by rfl) (by rfl) (by rfl) ?_; simp only [Act.put, List.setIfInBounds_toArray, List.set_cons_zero, List.set_cons_succ])
   | (apply ext_take rfl (by rfl)
      · intro w' hS
        have hSc := hS.cells
        (try simp only [World.size_drew, World.cell?_drew] at hSc)
        go_simp
        (try simp (disch := omega) only [i64_id, ↓IntWalk.iteOmega, Int.tdiv_eq_ediv_of_nonneg, Int.tmod_eq_emod_of_nonneg])
        try rfl
      simp only [Act.put, List.setIfInBounds_toArray, List.set_cons_zero, List.set_cons_succ])
   | (refine ext_pass rfl (by rfl) ?_; simp only [Act.put, List.setIfInBounds_toArray, List.set_cons_zero, List.set_cons_succ]))
  iterate 1 (first
   | (refine ext_move rfl rfl (by rfl) (by rfl) ?_; simp only [Act.put, List.setIfInBounds_toArray, List.set_cons_zero, List.set_cons_succ])
   | (refine ext_assign rfl rfl (by rfl) (by rfl) ?_; simp only [Act.put, List.setIfInBounds_toArray, List.set_cons_zero, List.set_cons_succ])
   | (refine ext_pick_t rfl rfl (by rfl) (by rfl) (by rfl) ?_; simp only [Act.put, List.setIfInBounds_toArray, List.set_cons_zero, List.set_cons_succ])
   | (refine ext_pick_f rfl rfl (by rfl) (by rfl) (by rfl) ?_; simp only [Act.put, List.setIfInBounds_toArray, List.set_cons_zero, List.set_cons_succ])
   | (apply ext_take rfl (by rfl)
      · intro w' hS
        have hSc := hS.cells
        (try simp only [World.size_drew, World.cell?_drew] at hSc)
        go_simp
        (try simp (disch := omega) only [i64_id, ↓IntWalk.iteOmega, Int.tdiv_eq_ediv_of_nonneg, Int.tmod_eq_emod_of_nonneg])
        try rfl
      simp only [Act.put, List.setIfInBounds_toArray, List.set_cons_zero, List.set_cons_succ])
   | (refine ext_pass rfl (by rfl) ?_; simp only [Act.put, List.setIfInBounds_toArray, List.set_cons_zero, List.set_cons_succ]))
  rw [show ((n : Int) % 9) = ((n % 9 : Nat) : Int) from rfl]
  have hm1 : ((n % 9 : Nat) : Int) ≤ 8 := by omega
  have hm2 : (0 : Int) ≤ ((n % 9 : Nat) : Int) := by omega
  generalize hnm : n % 9 = m at *
  iterate 3 (first
   | (refine ext_move rfl rfl (by rfl) (by rfl) ?_; simp only [Act.put, List.setIfInBounds_toArray, List.set_cons_zero, List.set_cons_succ])
   | (refine ext_assign rfl rfl (by rfl) (by rfl) ?_; simp only [Act.put, List.setIfInBounds_toArray, List.set_cons_zero, List.set_cons_succ])
   | (refine ext_pick_t rfl rfl (by rfl) (by rfl) (by rfl) ?_; simp only [Act.put, List.setIfInBounds_toArray, List.set_cons_zero, List.set_cons_succ])
   | (refine ext_pick_f rfl rfl (by rfl) (by rfl) (by rfl) ?_; simp only [Act.put, List.setIfInBounds_toArray, List.set_cons_zero, List.set_cons_succ])
   | (apply ext_take rfl (by rfl)
      · intro w' hS
        have hSc := hS.cells
        (try simp only [World.size_drew, World.cell?_drew] at hSc)
        go_simp
        (try simp (disch := omega) only [i64_id, ↓IntWalk.iteOmega, Int.tdiv_eq_ediv_of_nonneg, Int.tmod_eq_emod_of_nonneg])
        try rfl
      simp only [Act.put, List.setIfInBounds_toArray, List.set_cons_zero, List.set_cons_succ])
   | (refine ext_pass rfl (by rfl) ?_; simp only [Act.put, List.setIfInBounds_toArray, List.set_cons_zero, List.set_cons_succ]))
  rw [show ((n : Int) % 9) = ((n % 9 : Nat) : Int) from rfl, hnm]
  iterate 3 (first
   | (refine ext_move rfl rfl (by rfl) (by rfl) ?_; simp only [Act.put, List.setIfInBounds_toArray, List.set_cons_zero, List.set_cons_succ])
   | (refine ext_assign rfl rfl (by rfl) (by rfl) ?_; simp only [Act.put, List.setIfInBounds_toArray, List.set_cons_zero, List.set_cons_succ])
   | (refine ext_pick_t rfl rfl (by rfl) (by rfl) (by rfl) ?_; simp only [Act.put, List.setIfInBounds_toArray, List.set_cons_zero, List.set_cons_succ])
   | (refine ext_pick_f rfl rfl (by rfl) (by rfl) (by rfl) ?_; simp only [Act.put, List.setIfInBounds_toArray, List.set_cons_zero, List.set_cons_succ])
   | (apply ext_take rfl (by rfl)
      · intro w' hS
        have hSc := hS.cells
        (try simp only [World.size_drew, World.cell?_drew] at hSc)
        go_simp
        (try simp (disch := omega) only [i64_id, ↓IntWalk.iteOmega, Int.tdiv_eq_ediv_of_nonneg, Int.tmod_eq_emod_of_nonneg])
        try rfl
      simp only [Act.put, List.setIfInBounds_toArray, List.set_cons_zero, List.set_cons_succ])
   | (refine ext_pass rfl (by rfl) ?_; simp only [Act.put, List.setIfInBounds_toArray, List.set_cons_zero, List.set_cons_succ]))
  refine ext_nil ?_
  go_wp2
  have hx0 := Ext.refl w1.drew
  have HA2 := Lib.hid (HA1.out.ext (Ext.drew _))
  have HB2 := Lib.hid (HB1.out.ext (Ext.drew _))
  refine wp_region_ext [(0, true), (2, true), (5, true), (6, true), (7, true), (8, true), (9, true), (1, false), (3, false), (4, true), (10, true), (11, true)] (by kernel_rfl) (by kernel_rfl) ?_
  iterate 3 (first
   | (refine ext_move rfl rfl (by rfl) (by rfl) ?_; simp only [Act.put, List.setIfInBounds_toArray, List.set_cons_zero, List.set_cons_succ])
   | (refine ext_assign rfl rfl (by rfl) (by rfl) ?_; simp only [Act.put, List.setIfInBounds_toArray, List.set_cons_zero, List.set_cons_succ])
   | (refine ext_pick_t rfl rfl (by rfl) (by rfl) (by rfl) ?_; simp only [Act.put, List.setIfInBounds_toArray, List.set_cons_zero, List.set_cons_succ])
   | (refine ext_pick_f rfl rfl (by rfl) (by rfl) (by rfl) ?_; simp only [Act.put, List.setIfInBounds_toArray, List.set_cons_zero, List.set_cons_succ])
   | (apply ext_take rfl (by rfl)
      · intro w' hS
        have hSc := hS.cells
        (try simp only [World.size_drew, World.cell?_drew] at hSc)
        go_simp
        (try simp (disch := omega) only [i64_id, ↓IntWalk.iteOmega, Int.tdiv_eq_ediv_of_nonneg, Int.tmod_eq_emod_of_nonneg])
        try rfl
      simp only [Act.put, List.setIfInBounds_toArray, List.set_cons_zero, List.set_cons_succ])
   | (refine ext_pass rfl (by rfl) ?_; simp only [Act.put, List.setIfInBounds_toArray, List.set_cons_zero, List.set_cons_succ]))
  (apply ext_take rfl (by rfl)
   · intro w' hS
     have hcv := run_str (P := Try.prog) Try.underlying22 Try.underlying5 Try.underlying9 w' _ _ (HA1.out.ext ((Ext.drew _).trans hS))
     go_simp
     try rfl
   simp only [Act.put, List.setIfInBounds_toArray, List.set_cons_zero, List.set_cons_succ])
  iterate 1 (first
   | (refine ext_move rfl rfl (by rfl) (by rfl) ?_; simp only [Act.put, List.setIfInBounds_toArray, List.set_cons_zero, List.set_cons_succ])
   | (refine ext_assign rfl rfl (by rfl) (by rfl) ?_; simp only [Act.put, List.setIfInBounds_toArray, List.set_cons_zero, List.set_cons_succ])
   | (refine ext_pick_t rfl rfl (by rfl) (by rfl) (by rfl) ?_; simp only [Act.put, List.setIfInBounds_toArray, List.set_cons_zero, List.set_cons_succ])
   | (refine ext_pick_f rfl rfl (by rfl) (by rfl) (by rfl) ?_; simp only [Act.put, List.setIfInBounds_toArray, List.set_cons_zero, List.set_cons_succ])
   | (apply ext_take rfl (by rfl)
      · intro w' hS
        have hSc := hS.cells
        (try simp only [World.size_drew, World.cell?_drew] at hSc)
        go_simp
        (try simp (disch := omega) only [i64_id, ↓IntWalk.iteOmega, Int.tdiv_eq_ediv_of_nonneg, Int.tmod_eq_emod_of_nonneg])
        try rfl
      simp only [Act.put, List.setIfInBounds_toArray, List.set_cons_zero, List.set_cons_succ])
   | (refine ext_pass rfl (by rfl) ?_; simp only [Act.put, List.setIfInBounds_toArray, List.set_cons_zero, List.set_cons_succ]))
  (apply ext_take rfl (by rfl)
   · intro w' hS
     have hcv := run_str (P := Try.prog) Try.underlying22 Try.underlying5 Try.underlying9 w' _ _ (HB1.out.ext ((Ext.drew _).trans hS))
     go_simp
     try rfl
   simp only [Act.put, List.setIfInBounds_toArray, List.set_cons_zero, List.set_cons_succ])
  iterate 1 (first
   | (refine ext_move rfl rfl (by rfl) (by rfl) ?_; simp only [Act.put, List.setIfInBounds_toArray, List.set_cons_zero, List.set_cons_succ])
   | (refine ext_assign rfl rfl (by rfl) (by rfl) ?_; simp only [Act.put, List.setIfInBounds_toArray, List.set_cons_zero, List.set_cons_succ])
   | (refine ext_pick_t rfl rfl (by rfl) (by rfl) (by rfl) ?_; simp only [Act.put, List.setIfInBounds_toArray, List.set_cons_zero, List.set_cons_succ])
   | (refine ext_pick_f rfl rfl (by rfl) (by rfl) (by rfl) ?_; simp only [Act.put, List.setIfInBounds_toArray, List.set_cons_zero, List.set_cons_succ])
   | (apply ext_take rfl (by rfl)
      · intro w' hS
        have hSc := hS.cells
        (try simp only [World.size_drew, World.cell?_drew] at hSc)
        go_simp
        (try simp (disch := omega) only [i64_id, ↓IntWalk.iteOmega, Int.tdiv_eq_ediv_of_nonneg, Int.tmod_eq_emod_of_nonneg])
        try rfl
      simp only [Act.put, List.setIfInBounds_toArray, List.set_cons_zero, List.set_cons_succ])
   | (refine ext_pass rfl (by rfl) ?_; simp only [Act.put, List.setIfInBounds_toArray, List.set_cons_zero, List.set_cons_succ]))
  (refine ext_do rfl (by rfl) (fun K hK => ?_)
   go_simp
   go_at_call 12
   refine (sum_any _ _ _ (by rw [List.length_take]; unfold maxLen; omega) (HA2.out.ext (Ext.drew _))).mono ?_
   rintro e w3 ⟨rfl, rfl⟩
   refine hK _ _ (by first | exact Ext.drew _ | exact Ext.refl _) ?_
   clear hK K
   (try simp only [Act.put, List.setIfInBounds_toArray, List.set_cons_zero, List.set_cons_succ]))
  (refine ext_do rfl (by rfl) (fun K hK => ?_)
   go_simp
   go_at_call 12
   refine (sum_any _ _ _ (by rw [List.length_take]; unfold maxLen; omega) (HB2.out.ext (Ext.drew _))).mono ?_
   rintro e w3 ⟨rfl, rfl⟩
   refine hK _ _ (by first | exact Ext.drew _ | exact Ext.refl _) ?_
   clear hK K
   (try simp only [Act.put, List.setIfInBounds_toArray, List.set_cons_zero, List.set_cons_succ]))
  iterate 3 (first
   | (refine ext_move rfl rfl (by rfl) (by rfl) ?_; simp only [Act.put, List.setIfInBounds_toArray, List.set_cons_zero, List.set_cons_succ])
   | (refine ext_assign rfl rfl (by rfl) (by rfl) ?_; simp only [Act.put, List.setIfInBounds_toArray, List.set_cons_zero, List.set_cons_succ])
   | (refine ext_pick_t rfl rfl (by rfl) (by rfl) (by rfl) ?_; simp only [Act.put, List.setIfInBounds_toArray, List.set_cons_zero, List.set_cons_succ])
   | (refine ext_pick_f rfl rfl (by rfl) (by rfl) (by rfl) ?_; simp only [Act.put, List.setIfInBounds_toArray, List.set_cons_zero, List.set_cons_succ])
   | (apply ext_take rfl (by rfl)
      · intro w' hS
        have hSc := hS.cells
        (try simp only [World.size_drew, World.cell?_drew] at hSc)
        go_simp
        (try simp (disch := omega) only [i64_id, ↓IntWalk.iteOmega, Int.tdiv_eq_ediv_of_nonneg, Int.tmod_eq_emod_of_nonneg])
        try rfl
      simp only [Act.put, List.setIfInBounds_toArray, List.set_cons_zero, List.set_cons_succ])
   | (refine ext_pass rfl (by rfl) ?_; simp only [Act.put, List.setIfInBounds_toArray, List.set_cons_zero, List.set_cons_succ]))
  refine ext_nil ?_
  go_wp2
  go_ret
  exact ⟨ret_bool (short_law _ _ (by simp; omega) (by simp; omega)), Ext.trans (Ext.trans HX.out hb1) (Ext.trans (Ext.drew _) (Ext.drew _))⟩
end Go.Proofs.Ytmleonpecodimaa
