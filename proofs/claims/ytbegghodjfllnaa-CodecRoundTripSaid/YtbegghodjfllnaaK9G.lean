/-
  Chapter 9 (codec): AppendBytes of the reference; AppendBlock.
-/
import Derived.Test.YtbegghodjfllnaaK9E
namespace Go.Proofs.Ytbegghodjfllnaa
open Go.RowKit
set_option linter.unusedVariables false

theorem rappendBytes_any (v vx : Value) (l lx : List (BitVec 8)) (w : World) (hl : l.length ≤ 50000) (hlx : lx.length ≤ 50000) (h : SliceAt encB w v l) (hx : SliceAt encB w vx lx) :
    Calls Try.prog 17 #[v, vx] w fun e w' => ∃ v', e = .returned v' ∧ OwnB w' w.heap.size v' (l ++ uv lx.length ++ lx) ∧ Below w.heap.size w w' := by
  obtain ⟨i0, hi, hz0, hz1, hz2⟩ := info_parts infoB
  have HA := Lib.hid h
  have HX := Lib.hid hx
  have hul := (uv_len lx.length (by omega)).2
  obtain ⟨adx, capx, rfl, _, _⟩ := hx
  clear h
  go_enter Try.func17, Try.ntmps17
  go_wp2_with (first
    | (go_at_call 14; refine (rappendUint_any _ l _ _ hl (by omega) HA.out).mono ?_; rintro e w1 ⟨v1, rfl, hown1, hb1⟩; have HO := Lib.hid hown1; clear hown1)
    | (at_builtin; refine wpList_append_slice (enc := encB) (fun _ => rfl) rfl (.tmp 9) (.tmp 10) 25 rfl w.heap.size 5 i0 (.int .u8 0) 1 Try.underlying25 hi hz0 hz1 hz2 rfl _ _ _ rfl HO.out _ lx rfl (HX.out.ext hb1) (by unfold maxLen; rw [List.length_append]; omega) (by rw [List.length_append]; omega) hb1.size ?_; intro v2 w2 hown2 hgrow2; have hx2 : Below w.heap.size w w2 := Below.grown hb1 hgrow2 hb1.size (fun k hk => (World.ownsRow.lt HO.out k hk).1); have HO2 := Lib.hid hown2; clear hown2 hgrow2))
  go_ret
  refine ⟨_, rfl, ?_, hx2⟩
  have h2 := HO2.out
  show World.ownsRow _ _ _ _ _ _ _
  rw [List.length_append, List.map_append]
  exact h2


theorem owns_mono {w : World} {b b' : Nat} {e : TypeId} {sz : Nat} {v : Value} {n : Nat} {xs : List Value} (h : w.ownsRow b e sz v n xs) (hb : b' ≤ b) : w.ownsRow b' e sz v n xs :=
  ⟨h.1, h.2.imp id (fun ⟨g, cap, cur, hv, hg, r⟩ => ⟨g, cap, cur, hv, Nat.le_trans hb hg, r⟩)⟩

set_option maxHeartbeats 400000 in
theorem appendBlock_any (v : Value) (l lx : List (BitVec 8)) (w : World) (hl : l.length ≤ 50000) (hlx : lx.length = 8) (h : SliceAt encB w v l) :
    Calls Try.prog 18 #[v, .agg (lx.map encB).toArray] w fun e w' => ∃ v', e = .returned v' ∧ OwnB w' w.heap.size v' (l ++ lx) ∧ Below w.heap.size w w' := by
  obtain ⟨i0, hi, hz0, hz1, hz2⟩ := info_parts infoB
  have HA := Lib.hid h
  have HX := Lib.hid (SliceAt.lit (enc := encB) w lx 31 (0, 0) _ rfl)
  rw [hlx] at HX
  clear h
  go_enter Try.func18, Try.ntmps18
  go_wp2_with fail
  have hxW : Ext w (w.alloc (.cells (lx.map encB).toArray 31)) := Ext.alloc _ _
  generalize w.alloc (.cells (lx.map encB).toArray 31) = W at *
  have HA1 := Lib.hid (HA.out.ext hxW)
  have hsz : w.heap.size ≤ W.heap.size := hxW.below.size
  refine wp_region_bel (w.heap.size) (w) (hxW) [(0, true), (2, true), (1, false), (3, false), (4, true)] (by kernel_rfl) (by kernel_rfl) ?_
  iterate 2 (first
   | (refine bel_move rfl rfl (by rfl) (by rfl) ?_; simp only [Act.put, List.setIfInBounds_toArray, List.set_cons_zero, List.set_cons_succ])
   | (apply bel_take rfl (by rfl)
      · intro w' hS
        have hSc := below_cellsB hS
        go_simp
        (try simp (disch := omega) only [i64_id, ↓IntWalk.iteOmega, Int.tdiv_eq_ediv_of_nonneg, Int.tmod_eq_emod_of_nonneg])
        try rfl
      simp only [Act.put, List.setIfInBounds_toArray, List.set_cons_zero, List.set_cons_succ])
   | (refine bel_pass rfl (by rfl) ?_; simp only [Act.put, List.setIfInBounds_toArray, List.set_cons_zero, List.set_cons_succ]))
  (refine bel_do rfl (by rfl) (fun K hK => ?_)
   go_simp
   go_at_call 32
   refine (clone_any _ l _ (by omega) (HA1.out.ext (Ext.drew _))).mono ?_
   rintro e w1 ⟨v1, rfl, hown1, hb1⟩
   have HO := Lib.hid hown1
   have hx1 : Ext W w1 := (Ext.drew _).trans hb1
   have HX1 := Lib.hid (HX.out.ext hx1)
   refine hK _ _ (hxW.trans hx1) ?_
   clear hK K hown1
   (try simp only [Act.put, List.setIfInBounds_toArray, List.set_cons_zero, List.set_cons_succ]))
  (refine bel_do rfl (by rfl) (fun K hK => ?_)
   refine wp_of_list rfl ?_
   refine wpList_append_slice (enc := encB) (fun _ => rfl) rfl (.tmp 6) (.tmp 7) 25 rfl W.drew.heap.size 5 i0 (.int .u8 0) 1 Try.underlying25 hi hz0 hz1 hz2 rfl _ _ _ rfl HO.out _ lx rfl HX1.out (by unfold maxLen; omega) (by omega) hb1.size ?_
   intro v2 w2 hown2 hgrow2
   have hx2 : Below W.drew.heap.size W.drew w2 := Below.grown hb1 hgrow2 hb1.size (fun k hk => (World.ownsRow.lt HO.out k hk).1)
   have hx3 : Ext W w2 := (Ext.drew _).trans hx2
   have HO2 := Lib.hid hown2
   refine hK _ _ (hxW.trans hx3) ?_
   clear hK K hown2 hgrow2
   (try simp only [Act.put, List.setIfInBounds_toArray, List.set_cons_zero, List.set_cons_succ]))
  iterate 1 (first
   | (refine bel_move rfl rfl (by rfl) (by rfl) ?_; simp only [Act.put, List.setIfInBounds_toArray, List.set_cons_zero, List.set_cons_succ])
   | (apply bel_take rfl (by rfl)
      · intro w' hS
        have hSc := below_cellsB hS
        go_simp
        (try simp (disch := omega) only [i64_id, ↓IntWalk.iteOmega, Int.tdiv_eq_ediv_of_nonneg, Int.tmod_eq_emod_of_nonneg])
        try rfl
      simp only [Act.put, List.setIfInBounds_toArray, List.set_cons_zero, List.set_cons_succ])
   | (refine bel_pass rfl (by rfl) ?_; simp only [Act.put, List.setIfInBounds_toArray, List.set_cons_zero, List.set_cons_succ]))
  refine bel_nil ?_
  go_wp2
  go_ret
  refine ⟨_, rfl, ?_, hxW.trans hx3⟩
  have h2 := HO2.out
  show World.ownsRow _ _ _ _ _ _ _
  rw [List.length_append, List.map_append]
  exact owns_mono h2 (by simpa using hsz)

set_option maxHeartbeats 400000 in
theorem rappendBlock_any (v : Value) (l lx : List (BitVec 8)) (w : World) (hl : l.length ≤ 50000) (hlx : lx.length = 8) (h : SliceAt encB w v l) :
    Calls Try.prog 19 #[v, .agg (lx.map encB).toArray] w fun e w' => ∃ v', e = .returned v' ∧ OwnB w' w.heap.size v' (l ++ lx) ∧ Below w.heap.size w w' := by
  obtain ⟨i0, hi, hz0, hz1, hz2⟩ := info_parts infoB
  have HA := Lib.hid h
  have HX := Lib.hid (SliceAt.lit (enc := encB) w lx 31 (0, 0) _ rfl)
  rw [hlx] at HX
  clear h
  go_enter Try.func19, Try.ntmps19
  go_wp2_with fail
  have hxW : Ext w (w.alloc (.cells (lx.map encB).toArray 31)) := Ext.alloc _ _
  generalize w.alloc (.cells (lx.map encB).toArray 31) = W at *
  have HA1 := Lib.hid (HA.out.ext hxW)
  have hsz : w.heap.size ≤ W.heap.size := hxW.below.size
  refine wp_region_bel (w.heap.size) (w) (hxW) [(1, true), (3, true), (0, false), (2, false), (4, false), (5, true)] (by kernel_rfl) (by kernel_rfl) ?_
  iterate 2 (first
   | (refine bel_move rfl rfl (by rfl) (by rfl) ?_; simp only [Act.put, List.setIfInBounds_toArray, List.set_cons_zero, List.set_cons_succ])
   | (apply bel_take rfl (by rfl)
      · intro w' hS
        have hSc := below_cellsB hS
        go_simp
        (try simp (disch := omega) only [i64_id, ↓IntWalk.iteOmega, Int.tdiv_eq_ediv_of_nonneg, Int.tmod_eq_emod_of_nonneg])
        try rfl
      simp only [Act.put, List.setIfInBounds_toArray, List.set_cons_zero, List.set_cons_succ])
   | (refine bel_pass rfl (by rfl) ?_; simp only [Act.put, List.setIfInBounds_toArray, List.set_cons_zero, List.set_cons_succ]))
  (refine bel_do rfl (by rfl) (fun K hK => ?_)
   go_simp
   refine hK _ _ ((hxW.trans (Ext.drew W)).trans (Ext.alloc _ _)) ?_
   clear hK K
   (try simp only [Act.put, List.setIfInBounds_toArray, List.set_cons_zero, List.set_cons_succ]))
  have hx0 : Ext W.drew (W.drew.alloc (.cells #[] 5)) := Ext.alloc _ _
  have HA2 := Lib.hid (HA1.out.ext ((Ext.drew W).trans hx0))
  (refine bel_do rfl (by rfl) (fun K hK => ?_)
   refine wp_of_list rfl ?_
   refine wpList_append_slice (enc := encB) (fun _ => rfl) rfl (.tmp 5) (.tmp 6) 25 rfl W.drew.heap.size 5 i0 (.int .u8 0) 1 Try.underlying25 hi hz0 hz1 hz2 rfl _ 0 [] rfl (World.ownsRow_lit W.drew #[] 0 (Nat.le_refl _) (by decide) rfl) _ l rfl HA2.out (by unfold maxLen; omega) (by omega) (by simp) ?_
   intro v1 w1 hown1 hgrow1
   simp only [Nat.zero_add, List.nil_append] at hown1
   have hb1 : Ext W.drew w1 := ((Below.refl _ _).alloc (Nat.le_refl _) _).grown hgrow1 (by simp) (fun k hk => (by cases hk; simp))
   have HO := Lib.hid hown1
   have hx1 : Ext W w1 := (Ext.drew _).trans hb1
   have HX1 := Lib.hid (HX.out.ext hx1)
   refine hK _ _ (hxW.trans hx1) ?_
   clear hK K hown1 hgrow1
   (try simp only [Act.put, List.setIfInBounds_toArray, List.set_cons_zero, List.set_cons_succ]))
  (refine bel_do rfl (by rfl) (fun K hK => ?_)
   refine wp_of_list rfl ?_
   refine wpList_append_slice (enc := encB) (fun _ => rfl) rfl (.tmp 7) (.tmp 8) 25 rfl W.drew.heap.size 5 i0 (.int .u8 0) 1 Try.underlying25 hi hz0 hz1 hz2 rfl _ _ _ rfl HO.out _ lx rfl HX1.out (by unfold maxLen; omega) (by omega) hb1.below.size ?_
   intro v2 w2 hown2 hgrow2
   have hx2 : Below W.drew.heap.size W.drew w2 := Below.grown hb1 hgrow2 hb1.below.size (fun k hk => (World.ownsRow.lt HO.out k hk).1)
   have hx3 : Ext W w2 := (Ext.drew _).trans hx2
   have HO2 := Lib.hid hown2
   refine hK _ _ (hxW.trans hx3) ?_
   clear hK K hown2 hgrow2
   (try simp only [Act.put, List.setIfInBounds_toArray, List.set_cons_zero, List.set_cons_succ]))
  iterate 1 (first
   | (refine bel_move rfl rfl (by rfl) (by rfl) ?_; simp only [Act.put, List.setIfInBounds_toArray, List.set_cons_zero, List.set_cons_succ])
   | (apply bel_take rfl (by rfl)
      · intro w' hS
        have hSc := below_cellsB hS
        go_simp
        (try simp (disch := omega) only [i64_id, ↓IntWalk.iteOmega, Int.tdiv_eq_ediv_of_nonneg, Int.tmod_eq_emod_of_nonneg])
        try rfl
      simp only [Act.put, List.setIfInBounds_toArray, List.set_cons_zero, List.set_cons_succ])
   | (refine bel_pass rfl (by rfl) ?_; simp only [Act.put, List.setIfInBounds_toArray, List.set_cons_zero, List.set_cons_succ]))
  refine bel_nil ?_
  go_wp2
  go_ret
  refine ⟨_, rfl, ?_, hxW.trans hx3⟩
  have h2 := HO2.out
  show World.ownsRow _ _ _ _ _ _ _
  rw [List.length_append, List.map_append]
  exact owns_mono h2 (by simpa using hsz)
end Go.Proofs.Ytbegghodjfllnaa
