/-
  Chapter 9 (codec): AppendBytes, the law's own functions prefix and awake.
-/
import Derived.Test.YtbegghodjfllnaaK9D
namespace Go.Proofs.Ytbegghodjfllnaa
open Go.RowKit
set_option linter.unusedVariables false
attribute [local go_sem] eq_strB

theorem appendBytes_any (v vx : Value) (l lx : List (BitVec 8)) (w : World) (hl : l.length ≤ 50000) (hlx : lx.length ≤ 50000) (h : SliceAt encB w v l) (hx : SliceAt encB w vx lx) :
    Calls Try.prog 16 #[v, vx] w fun e w' => ∃ v', e = .returned v' ∧ OwnB w' w.heap.size v' (l ++ uv lx.length ++ lx) ∧ Below w.heap.size w w' := by
  obtain ⟨i0, hi, hz0, hz1, hz2⟩ := info_parts infoB
  have HA := Lib.hid h
  have HX := Lib.hid hx
  have hul := (uv_len lx.length (by omega)).2
  obtain ⟨adx, capx, rfl, _, _⟩ := hx
  clear h
  go_enter Try.func16, Try.ntmps16
  go_wp2_with (first
    | (go_at_call 11; refine (appendUint_any _ l _ _ hl (by omega) HA.out).mono ?_; rintro e w1 ⟨v1, rfl, hown1, hb1⟩; have HO := Lib.hid hown1; clear hown1)
    | (at_builtin; refine wpList_append_slice (enc := encB) (fun _ => rfl) rfl (.tmp 9) (.tmp 10) 25 rfl w.heap.size 5 i0 (.int .u8 0) 1 Try.underlying25 hi hz0 hz1 hz2 rfl _ _ _ rfl HO.out _ lx rfl (HX.out.ext hb1) (by unfold maxLen; rw [List.length_append]; omega) (by rw [List.length_append]; omega) hb1.size ?_; intro v2 w2 hown2 hgrow2; have hx2 : Below w.heap.size w w2 := Below.grown hb1 hgrow2 hb1.size (fun k hk => (World.ownsRow.lt HO.out k hk).1); have HO2 := Lib.hid hown2; clear hown2 hgrow2))
  go_ret
  refine ⟨_, rfl, ?_, hx2⟩
  have h2 := HO2.out
  show World.ownsRow _ _ _ _ _ _ _
  rw [List.length_append, List.map_append]
  exact h2

theorem run_min2 {P : Program} (w : World) (ts : Array TypeId) (t : TypeId) (a b : Nat) :
    (Builtin.min_ ts t #[.int .i64 (a : Int), .int .i64 (b : Int)]).run P w = .ok (.int .i64 (min a b : Nat)) w := by
  have e : (if (b : Int) < (a : Int) then (b : Int) else (a : Int)) = ((min a b : Nat) : Int) := by split <;> omega
  have : (Builtin.min_ ts t #[.int .i64 (a : Int), .int .i64 (b : Int)]).run P w = .ok (.int .i64 (if (b : Int) < (a : Int) then (b : Int) else (a : Int))) w := rfl
  rw [this, e]

theorem prefix_any (va vb : Value) (la lb : List (BitVec 8)) (w : World) (hla : la.length ≤ maxLen) (hlb : lb.length ≤ maxLen) (ha : SliceAt encB w va la) (hb : SliceAt encB w vb lb) :
    Calls Try.prog 13 #[va, vb] w fun e w' => e = .returned (.bool (decide (la.take (min la.length lb.length) = lb.take (min la.length lb.length)))) ∧ Below w.heap.size w w' := by
  have HA0 := Lib.hid ha
  have HB0 := Lib.hid hb
  obtain ⟨ada, capa, rfl, hca, _⟩ := ha
  obtain ⟨adb, capb, rfl, hcb, _⟩ := hb
  unfold maxLen at hla hlb
  generalize hk : min la.length lb.length = k
  have hk1 : k ≤ la.length := by omega
  have hk2 : k ≤ lb.length := by omega
  have hMin := fun (w : World) (ts : Array TypeId) (t : TypeId) => hk ▸ run_min2 (P := Try.prog) w ts t la.length lb.length
  have HTA := Lib.hid (HA0.out.take k hk1)
  have HTB := Lib.hid (HB0.out.take k hk2)
  have hi1 : (k : Int) ≤ (la.length : Int) := by omega
  have hi2 : (k : Int) ≤ (lb.length : Int) := by omega
  clear hk
  go_enter Try.func13, Try.ntmps13
  go_wp2
  have hx0 := Ext.refl w
  refine wp_region_ext [(0, true), (1, true), (2, true), (3, true), (4, true), (5, true), (6, true), (7, true), (8, true), (9, true)] (by kernel_rfl) (by kernel_rfl) ?_
  iterate 3 (first
   | (refine ext_move rfl rfl (by rfl) (by rfl) ?_; simp only [Act.put, List.setIfInBounds_toArray, List.set_cons_zero, List.set_cons_succ])
   | (refine ext_assign rfl rfl (by rfl) (by rfl) ?_; simp only [Act.put, List.setIfInBounds_toArray, List.set_cons_zero, List.set_cons_succ])
   | (refine ext_pick_t rfl rfl (by rfl) (by rfl) (by rfl) ?_; simp only [Act.put, List.setIfInBounds_toArray, List.set_cons_zero, List.set_cons_succ])
   | (refine ext_pick_f rfl rfl (by rfl) (by rfl) (by rfl) ?_; simp only [Act.put, List.setIfInBounds_toArray, List.set_cons_zero, List.set_cons_succ])
   | (apply ext_take rfl (by rfl)
      · intro w' hS
        have hSc := hS.cells
        (try simp only [World.size_drew, World.cell?_drew] at hSc)
        go_simp
        (try simp (disch := omega) only [i64_id, u64_id, ↓IntWalk.iteOmega, Int.tdiv_eq_ediv_of_nonneg, Int.tmod_eq_emod_of_nonneg])
        try rfl
      simp only [Act.put, List.setIfInBounds_toArray, List.set_cons_zero, List.set_cons_succ])
   | (refine ext_pass rfl (by rfl) ?_; simp only [Act.put, List.setIfInBounds_toArray, List.set_cons_zero, List.set_cons_succ]))
  (apply ext_take rfl (by rfl)
   · intro w' hS
     have hcv := run_str (P := Try.prog) Try.underlying25 Try.underlying5 Try.underlying9 w' _ _ (HTA.out.ext hS)
     go_simp
     try rfl
   simp only [Act.put, List.setIfInBounds_toArray, List.set_cons_zero, List.set_cons_succ])
  iterate 3 (first
   | (refine ext_move rfl rfl (by rfl) (by rfl) ?_; simp only [Act.put, List.setIfInBounds_toArray, List.set_cons_zero, List.set_cons_succ])
   | (refine ext_assign rfl rfl (by rfl) (by rfl) ?_; simp only [Act.put, List.setIfInBounds_toArray, List.set_cons_zero, List.set_cons_succ])
   | (refine ext_pick_t rfl rfl (by rfl) (by rfl) (by rfl) ?_; simp only [Act.put, List.setIfInBounds_toArray, List.set_cons_zero, List.set_cons_succ])
   | (refine ext_pick_f rfl rfl (by rfl) (by rfl) (by rfl) ?_; simp only [Act.put, List.setIfInBounds_toArray, List.set_cons_zero, List.set_cons_succ])
   | (apply ext_take rfl (by rfl)
      · intro w' hS
        have hSc := hS.cells
        (try simp only [World.size_drew, World.cell?_drew] at hSc)
        go_simp
        (try simp (disch := omega) only [i64_id, u64_id, ↓IntWalk.iteOmega, Int.tdiv_eq_ediv_of_nonneg, Int.tmod_eq_emod_of_nonneg])
        try rfl
      simp only [Act.put, List.setIfInBounds_toArray, List.set_cons_zero, List.set_cons_succ])
   | (refine ext_pass rfl (by rfl) ?_; simp only [Act.put, List.setIfInBounds_toArray, List.set_cons_zero, List.set_cons_succ]))
  (apply ext_take rfl (by rfl)
   · intro w' hS
     have hcv := run_str (P := Try.prog) Try.underlying25 Try.underlying5 Try.underlying9 w' _ _ (HTB.out.ext hS)
     go_simp
     try rfl
   simp only [Act.put, List.setIfInBounds_toArray, List.set_cons_zero, List.set_cons_succ])
  iterate 2 (first
   | (refine ext_move rfl rfl (by rfl) (by rfl) ?_; simp only [Act.put, List.setIfInBounds_toArray, List.set_cons_zero, List.set_cons_succ])
   | (refine ext_assign rfl rfl (by rfl) (by rfl) ?_; simp only [Act.put, List.setIfInBounds_toArray, List.set_cons_zero, List.set_cons_succ])
   | (refine ext_pick_t rfl rfl (by rfl) (by rfl) (by rfl) ?_; simp only [Act.put, List.setIfInBounds_toArray, List.set_cons_zero, List.set_cons_succ])
   | (refine ext_pick_f rfl rfl (by rfl) (by rfl) (by rfl) ?_; simp only [Act.put, List.setIfInBounds_toArray, List.set_cons_zero, List.set_cons_succ])
   | (apply ext_take rfl (by rfl)
      · intro w' hS
        have hSc := hS.cells
        (try simp only [World.size_drew, World.cell?_drew] at hSc)
        go_simp
        (try simp (disch := omega) only [i64_id, u64_id, ↓IntWalk.iteOmega, Int.tdiv_eq_ediv_of_nonneg, Int.tmod_eq_emod_of_nonneg])
        try rfl
      simp only [Act.put, List.setIfInBounds_toArray, List.set_cons_zero, List.set_cons_succ])
   | (refine ext_pass rfl (by rfl) ?_; simp only [Act.put, List.setIfInBounds_toArray, List.set_cons_zero, List.set_cons_succ]))
  refine ext_nil ?_
  go_wp2
  go_ret
  exact ⟨rfl, Ext.drew _⟩

theorem rd_128 : rd false [128#8, 0#8] = none := by decide +kernel
theorem uv_300 : uv 300 = [172#8, 2#8] := by rw [uv_high (by decide), uv_low (by decide)] <;> rfl
theorem uv_1 : uv (zz (-1)) = [1#8] := by rw [show zz (-1) = 1 by decide, uv_low (by decide)] <;> rfl
theorem uv_2 : uv 2 = [2#8] := by rw [uv_low (by decide)] <;> rfl

set_option maxHeartbeats 800000 in
theorem awake_any (w : World) :
    Calls Try.prog 10 #[] w fun e w' => e = .returned (.bool true) ∧ Below w.heap.size w w' := by
  have HL := Lib.hid (SliceAt.lit (enc := encB) w [128#8, 0#8] 5 (0, 0) #[.int .u8 128, .int .u8 0] rfl)
  go_enter Try.func10, Try.ntmps10
  go_wp2_with (first
    | (go_at_call 20; refine (new_any _ [128#8, 0#8] _ (by decide) HL.out).mono ?_; rintro e w1 ⟨b1, rfl, hb1, hr1, hx1⟩; have HR1 := Lib.hid hr1; clear hr1)
    | (go_at_call 21; refine (uint_any _ _ _ _ (by decide) HR1.out).mono ?_; rintro e w2 hu; rw [rd_128] at hu; obtain ⟨rfl, hr2, hg2⟩ := hu; have HG2 := Lib.hid hg2; clear hr2 hg2)
    | (go_at_call 11; refine (appendUint_any _ [] 300 _ (by decide) (by decide) SliceAt.nil).mono ?_; rintro e w3 ⟨v3, rfl, hown3, hb3⟩; rw [uv_300, List.nil_append] at hown3; have HO3 := Lib.hid hown3; clear hown3)
    | (go_at_call 12; refine (appendInt_any _ [172#8, 2#8] (-1) _ (by decide) (by decide) (by decide) (OwnB.slice HO3.out)).mono ?_; rintro e w4 ⟨v4, rfl, hown4, hb4⟩; rw [uv_1] at hown4; have HO4 := Lib.hid hown4; clear hown4)
    | (go_at_call 16; refine (appendBytes_any _ _ ([172#8, 2#8] ++ [1#8]) [7#8, 8#8] _ (by decide) (by decide) ((OwnB.slice HO4.out).ext (Ext.alloc _ _)) (SliceAt.lit w4 [7#8, 8#8] _ _ _ rfl)).mono ?_; rintro e w5 ⟨v5, rfl, hown5, hb5⟩; rw [show ([7#8, 8#8] : List (BitVec 8)).length = 2 from rfl, uv_2] at hown5; have hcv5 := run_str (P := Try.prog) Try.underlying25 Try.underlying5 Try.underlying9 w5 _ _ (OwnB.slice hown5); have hcv6 : (convert 25 9 (.slice (some ⟨w5.heap.size, 0, none⟩) 6 6)).run Try.prog (w5.alloc (.cells #[.int .u8 172, .int .u8 2, .int .u8 1, .int .u8 2, .int .u8 7, .int .u8 8] 5)) = _ := run_str (P := Try.prog) Try.underlying25 Try.underlying5 Try.underlying9 _ _ _ (SliceAt.lit (enc := encB) w5 [172#8, 2#8, 1#8, 2#8, 7#8, 8#8] 5 (0, 0) #[.int .u8 172, .int .u8 2, .int .u8 1, .int .u8 2, .int .u8 7, .int .u8 8] rfl); clear hown5))
  go_ret
  have e1 : Ext w w1 := Ext.trans (Ext.alloc _ _) hx1
  have e2 : Ext w w2 := Below.grown e1 HG2.out e1.below.size (fun k hk => by cases hk; simp at hb1; omega)
  have e5 : Ext w w5 := Ext.trans (Ext.trans (Ext.trans e2 hb3) hb4) (Ext.trans (Ext.alloc _ _) hb5)
  exact ⟨ret_bool (by decide), Ext.trans e5 (Ext.alloc _ _)⟩
end Go.Proofs.Ytbegghodjfllnaa
