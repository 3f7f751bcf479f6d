/-
  Chapter 25 (piecesum): Sum of the reference.
-/
import Derived.Test.YtinnikbjphkkiaaPsA
namespace Go.Proofs.Ytinnikbjphkkiaa
open Go.RowKit
set_option linter.unusedVariables false

set_option maxHeartbeats 800000 in
theorem rpsum_any (gr pc : Int) (v : BitVec 64) (x0 x1 x2 x3 x4 x5 x6 x7 : BitVec 8) (w : World) (hgr : -9223372036854775808 ≤ gr ∧ gr ≤ 9223372036854775807) (hpc : -9223372036854775808 ≤ pc ∧ pc ≤ 9223372036854775807) :
    Calls Try.prog 12 #[.int .i64 gr, .int .i64 pc, encU v, .agg #[encB x0, encB x1, encB x2, encB x3, encB x4, encB x5, encB x6, encB x7]] w fun e w' => e = .returned (encU (psum gr pc v [x0, x1, x2, x3, x4, x5, x6, x7])) ∧ Below w.heap.size w w' := by
  obtain ⟨i0, hi, hz0, hz1, hz2⟩ := info_parts infoB
  have hw1 := wrap_ofInt gr
  have hw2 := wrap_ofInt pc
  have HX := Lib.hid (SliceAt.lit (enc := encB) w [x0, x1, x2, x3, x4, x5, x6, x7] 24 (0, 0) #[encB x0, encB x1, encB x2, encB x3, encB x4, encB x5, encB x6, encB x7] rfl)
  go_enter Try.func12, Try.ntmps12
  go_wp2_with fail
  have hxW : Ext w (w.alloc (.cells #[encB x0, encB x1, encB x2, encB x3, encB x4, encB x5, encB x6, encB x7] 24)) := Ext.alloc _ _
  generalize w.alloc (.cells #[encB x0, encB x1, encB x2, encB x3, encB x4, encB x5, encB x6, encB x7] 24) = W at *
  go_at_call 28
  refine (rput_any _ [] (BitVec.ofInt 64 gr) 4 _ (by simp) (by omega) SliceAt.nil).mono ?_
  rintro e w1 ⟨v1, rfl, ho1, hb1⟩
  have HO1 := Lib.hid ho1
  clear ho1
  go_wp2_with fail
  go_at_call 28
  refine (rput_any _ ([] ++ le (4 : Int).toNat (BitVec.ofInt 64 gr)) (BitVec.ofInt 64 pc) 4 _ (by simp [le_length]) (by omega) (OwnB.slice HO1.out)).mono ?_
  rintro e w2 ⟨v2, rfl, ho2, hb2⟩
  have HO2 : Hid (SliceAt encB w2 v2 (le 4 (BitVec.ofInt 64 gr) ++ le 4 (BitVec.ofInt 64 pc))) := OwnB.slice ho2
  have hx2 : Ext W w2 := Ext.trans hb1 hb2
  have HX2 := Lib.hid (HX.out.ext hx2)
  clear ho2
  go_wp2_with fail
  refine wp_region_bel (w2.heap.size) (w2) ((Below.refl _ _)) [(0, true), (1, true), (3, true), (2, false), (4, false), (5, false), (6, true)] (by kernel_rfl) (by kernel_rfl) ?_
  iterate 3 (first
   | (refine bel_move rfl rfl (by rfl) (by rfl) ?_; simp only [Act.put, List.setIfInBounds_toArray, List.set_cons_zero, List.set_cons_succ])
   | (apply bel_take rfl (by rfl)
      · intro w' hS
        have hSc := below_cellsB hS
        go_simp
        (try simp (disch := omega) only [i64_id, u64_id, ↓IntWalk.iteOmega, Int.tdiv_eq_ediv_of_nonneg, Int.tmod_eq_emod_of_nonneg])
        try rfl
      simp only [Act.put, List.setIfInBounds_toArray, List.set_cons_zero, List.set_cons_succ])
   | (refine bel_pass rfl (by rfl) ?_; simp only [Act.put, List.setIfInBounds_toArray, List.set_cons_zero, List.set_cons_succ]))
  (refine bel_do rfl (by rfl) (fun K hK => ?_)
   go_simp
   go_at_call 28
   refine (rput_any _ (le 4 (BitVec.ofInt 64 gr) ++ le 4 (BitVec.ofInt 64 pc)) v 8 _ (by simp [le_length]) (by omega) (HO2.out.ext (Ext.drew _))).mono ?_
   rintro e w3 ⟨v3, rfl, ho3, hb3⟩
   have HO3 := Lib.hid ho3
   have hx3 : Ext w2 w3 := (Ext.drew _).trans hb3
   have HX3 := Lib.hid (HX2.out.ext hx3)
   refine hK _ _ hx3 ?_
   clear hK K ho3
   (try simp only [Act.put, List.setIfInBounds_toArray, List.set_cons_zero, List.set_cons_succ]))
  (refine bel_do rfl (by rfl) (fun K hK => ?_)
   refine wp_of_list rfl ?_
   refine wpList_append_slice (enc := encB) (fun _ => rfl) rfl _ _ 54 rfl w2.drew.heap.size 5 i0 (.int .u8 0) 1 Try.underlying54 hi hz0 hz1 hz2 rfl _ _ _ rfl HO3.out _ [x0, x1, x2, x3, x4, x5, x6, x7] rfl HX3.out (by unfold maxLen; simp [le_length]) (by simp [le_length]) hb3.size ?_
   intro v4 w4 ho4 hg4
   have hx4 : Below w2.drew.heap.size w2.drew w4 := Below.grown hb3 hg4 hb3.size (fun k hk => (World.ownsRow.lt HO3.out k hk).1)
   have HO4 : Hid (SliceAt encB w4 v4 (le 4 (BitVec.ofInt 64 gr) ++ le 4 (BitVec.ofInt 64 pc) ++ le 8 v ++ [x0, x1, x2, x3, x4, x5, x6, x7])) := OwnB.slice (OwnB.mk ho4)
   have hx5 : Ext w2 w4 := (Ext.drew _).trans hx4
   refine hK _ _ hx5 ?_
   clear hK K ho4 hg4
   (try simp only [Act.put, List.setIfInBounds_toArray, List.set_cons_zero, List.set_cons_succ]))
  (refine bel_do rfl (by rfl) (fun K hK => ?_)
   go_simp
   go_at_call 29
   refine (rsum_as (psum gr pc v [x0, x1, x2, x3, x4, x5, x6, x7]) _ _ _ rfl (by unfold maxLen; simp [le_length]) HO4.out).mono ?_
   rintro e w5 ⟨rfl, rfl⟩
   refine hK _ _ hx5 ?_
   clear hK K
   (try simp only [Act.put, List.setIfInBounds_toArray, List.set_cons_zero, List.set_cons_succ]))
  iterate 1 (first
   | (refine bel_move rfl rfl (by rfl) (by rfl) ?_; simp only [Act.put, List.setIfInBounds_toArray, List.set_cons_zero, List.set_cons_succ])
   | (apply bel_take rfl (by rfl)
      · intro w' hS
        have hSc := below_cellsB hS
        go_simp
        (try simp (disch := omega) only [i64_id, u64_id, ↓IntWalk.iteOmega, Int.tdiv_eq_ediv_of_nonneg, Int.tmod_eq_emod_of_nonneg])
        try rfl
      simp only [Act.put, List.setIfInBounds_toArray, List.set_cons_zero, List.set_cons_succ])
   | (refine bel_pass rfl (by rfl) ?_; simp only [Act.put, List.setIfInBounds_toArray, List.set_cons_zero, List.set_cons_succ]))
  refine bel_nil ?_
  go_wp2_with fail
  go_ret
  exact ⟨rfl, hxW.trans (hx2.trans hx5)⟩
end Go.Proofs.Ytinnikbjphkkiaa
