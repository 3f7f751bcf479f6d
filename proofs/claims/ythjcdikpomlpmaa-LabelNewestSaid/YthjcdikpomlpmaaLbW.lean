/-
  Chapter 30 (label): the example of the document; the walk of LabelEncode.
-/
import Derived.Test.YthjcdikpomlpmaaLbV
import Derived.Test.YthjcdikpomlpmaaLbB
namespace Go.Proofs.Ythjcdikpomlpmaa
open Go.ChangeShapes Go.WideShapes Go.ChangeAt Go.RowKit
set_option linter.unusedVariables false

def cX : Cfg := ⟨5, 5, 1, 0, 60, 4, 2, 3, 1, 10, 20⟩
def lX : Lab := ⟨0#64, 0, 1#64, 0#64, cX, 0, 0#64, 0#64⟩
def xX : List Bool := [false, false, false, false, false]
theorem okX : encN' lX xX = 0 := by decide +kernel
theorem lenX : (encR lX xX).length = 1 := by decide +kernel
theorem SliceAt.bools_made (w : World) (n : Nat) (t : TypeId) : SliceAt Value.bool (w.alloc (.cells (madeCells #[.bool false] n) t)) (.slice (some ⟨w.heap.size, 0, none⟩) n n) (List.replicate n false) := by
  obtain ⟨c, h, hs, hc⟩ := World.rowIs_made w (.bool false) n t
  refine ⟨_, n, by simp, by simp, .inr ⟨_, 0, rfl, (Array.getElem?_eq_some_iff.1 h).1, fun i hi => ?_⟩⟩
  have hi' : i < n := by simpa using hi
  rw [Nat.zero_add]
  unfold World.cell?
  simp only [h, Option.isSome_none, Bool.false_eq_true, if_false]
  rw [hc i hi']; simp
theorem infoBo : (Try.prog.info? 4).map (fun i => (i.zero, i.size, i.bytes)) = some (some (.bool false), 1, 1) := by kernel_rfl
theorem cfg_load {w : World} {g : Nat} {c : Cfg} {t : TypeId} (h : BoxAt w g (cfgA c).toArray t) : (Instr.loadAt 26 (.pointer (some ⟨g, 0, none⟩))).run Try.prog w = .ok (cfgV c) w :=
  run_loadAt_mid w g 0 _ (cfgA c) _ (fun j v hv => by rw [Nat.zero_add]; exact h.cell j (by simpa using hv)) Try.underlying26 rfl info_cfg
theorem area4 : areaV cX 4#64 = .tuple #[.int .i64 0, .int .i64 12, .int .i64 32, .int .i64 0] := by
  unfold areaV
  rw [if_pos (by decide +kernel)]
  rfl
theorem area5 : areaV cX 5#64 = .tuple #[.int .i64 6, .int .i64 22, .int .i64 32, .int .i64 0] := by
  unfold areaV
  rw [if_pos (by decide +kernel)]
  rfl
set_option maxRecDepth 100000 in
set_option maxHeartbeats 4000000 in
theorem awake_any (w : World) : Calls Try.prog 10 #[] w fun e w' => e = .returned (.bool true) ∧ Below w.heap.size w w' := by
  have HA4 : Hid (∀ w : World, Calls Try.prog 13 #[.agg #[.int .i64 5, .int .i64 5, .int .i64 1, .int .i64 0, .int .i64 60, .int .i64 4, .int .i64 2, .int .i64 3, .int .i64 1, .int .i64 10, .int .i64 20], .int .u64 4] w (AreaEnd w (.tuple #[.int .i64 0, .int .i64 12, .int .i64 32, .int .i64 0]))) := fun w => by have := areas_any cX 4#64 w; rw [area4] at this; exact this
  have HA5 : Hid (∀ w : World, Calls Try.prog 13 #[.agg #[.int .i64 5, .int .i64 5, .int .i64 1, .int .i64 0, .int .i64 60, .int .i64 4, .int .i64 2, .int .i64 3, .int .i64 1, .int .i64 10, .int .i64 20], .int .u64 5] w (AreaEnd w (.tuple #[.int .i64 6, .int .i64 22, .int .i64 32, .int .i64 0]))) := fun w => by have := areas_any cX 5#64 w; rw [area5] at this; exact this
  have HEN : Hid (∀ (w : World) (dv : Value), SliceAt Value.bool w dv xX → Calls Try.prog 11 #[labV lX dv] w (EncEnd w lX xX)) := fun w dv h => encode_any lX dv xX w (by decide) h
  have HB1 : Hid (BoxAt (w.alloc (.cells #[.int .i64 5, .int .i64 5, .int .i64 1, .int .i64 0, .int .i64 60, .int .i64 4, .int .i64 2, .int .i64 3, .int .i64 1, .int .i64 10, .int .i64 20] 26)) w.heap.size (cfgA cX).toArray 26) := BoxAt.new _ _ _
  have HX1 : Hid (Ext w (w.alloc (.cells #[.int .i64 5, .int .i64 5, .int .i64 1, .int .i64 0, .int .i64 60, .int .i64 4, .int .i64 2, .int .i64 3, .int .i64 1, .int .i64 10, .int .i64 20] 26))) := Ext.alloc _ _
  have hmk : ∀ w : World, (Instr.makeSlice 27 (.int .i64 5) (.int .i64 5)).run Try.prog w = .ok (.slice (some ⟨w.heap.size, 0, none⟩) 5 5) (w.alloc (.cells (madeCells #[.bool false] 5) 4)) :=
    run_make_row' 27 4 (.bool false) 1 Try.underlying27 infoBo rfl .i64 .i64 5 (by omega) (by first | omega | (unfold maxLen; omega))
  go_enter Try.func10, Try.ntmps10
  go_upto_region 2 with fail
  generalize w.alloc (.cells #[.int .i64 5, .int .i64 5, .int .i64 1, .int .i64 0, .int .i64 60, .int .i64 4, .int .i64 2, .int .i64 3, .int .i64 1, .int .i64 10, .int .i64 20] 26) = w1 at *
  go_wp2_with (refine wpList_loadR 26 _ rfl (by rfl) rfl (cfg_load HB1.out) ?_)
  go_at_call 13
  refine (HA4.out _).mono ?_
  rintro e w2 ⟨rfl, hx2⟩
  have HX2 : Hid (Ext w1 w2) := hx2
  have HB2 := Lib.hid (HB1.out.ext hx2)
  clear hx2
  go_wp2_with (refine wpList_loadR 26 _ rfl (by rfl) rfl (cfg_load HB2.out) ?_)
  go_at_call 13
  refine (HA5.out _).mono ?_
  rintro e w3 ⟨rfl, hx3⟩
  have HX3 : Hid (Ext w1 w3) := Ext.trans HX2.out hx3
  have HB3 := Lib.hid (HB2.out.ext hx3)
  clear hx3
  go_wp2_with fail
  refine wp_region_ext [(0, true), (1, false), (2, true), (3, false), (4, true), (5, true), (6, true), (7, true), (8, true)] (by kernel_rfl) (by kernel_rfl) ?_
  (refine ext_load 26 rfl (by rfl) rfl (by rfl) (fun w' hS => cfg_load (HB3.out.ext hS)) ?_; simp only [Act.put, List.setIfInBounds_toArray, List.set_cons_zero, List.set_cons_succ])
  refine ext_do rfl (by rfl) (fun K hK => ?_)
  go_simp
  have hx4 : Ext w3 (w3.alloc (.cells (madeCells #[.bool false] 5) 4)).drew := (Ext.alloc _ _).trans (Ext.drew _)
  have hd4 : SliceAt Value.bool (w3.alloc (.cells (madeCells #[.bool false] 5) 4)).drew (.slice (some ⟨w3.heap.size, 0, none⟩) 5 5) xX := (SliceAt.bools_made w3 5 4).ext (Ext.drew _)
  generalize (w3.alloc (.cells (madeCells #[.bool false] 5) 4)).drew = w4 at *
  refine hK _ _ hx4 ?_
  clear hK K
  (try simp only [Act.put, List.setIfInBounds_toArray, List.set_cons_zero, List.set_cons_succ])
  (first
   | (refine ext_move rfl rfl (by rfl) (by rfl) ?_; simp only [Act.put, List.setIfInBounds_toArray, List.set_cons_zero, List.set_cons_succ])
   | (refine ext_assign rfl rfl (by rfl) (by rfl) ?_; simp only [Act.put, List.setIfInBounds_toArray, List.set_cons_zero, List.set_cons_succ])
   | (refine ext_pick_t rfl rfl (by rfl) (by rfl) (by rfl) ?_; simp only [Act.put, List.setIfInBounds_toArray, List.set_cons_zero, List.set_cons_succ])
   | (refine ext_pick_f rfl rfl (by rfl) (by rfl) (by rfl) ?_; simp only [Act.put, List.setIfInBounds_toArray, List.set_cons_zero, List.set_cons_succ])
   | (apply ext_take rfl (by rfl)
      · intro w' hS
        have hSc := hS.cells
        (try simp only [World.size_drew, World.cell?_drew] at hSc)
        go_simp
        (try simp (disch := omega) only [i64_id, u64_id, ↓IntWalk.iteOmega, Int.tdiv_eq_ediv_of_nonneg, Int.tmod_eq_emod_of_nonneg])
        try rfl
      simp only [Act.put, List.setIfInBounds_toArray, List.set_cons_zero, List.set_cons_succ])
   | (refine ext_pass rfl (by rfl) ?_; simp only [Act.put, List.setIfInBounds_toArray, List.set_cons_zero, List.set_cons_succ]))
  refine ext_do rfl (by rfl) (fun K hK => ?_)
  go_simp
  go_at_call 11
  refine (HEN.out _ _ hd4).mono ?_
  rintro e w5 ⟨v5, rfl, ho5, hx5⟩
  obtain ⟨a5, c5, rfl⟩ := ho5.shape
  rw [okX, lenX]
  have HX5 : Hid (Ext w w5) := HX1.out.trans (HX3.out.trans (Ext.trans hx4 hx5))
  refine hK _ _ hx5 ?_
  clear hK K ho5 hx5 hx4 hd4
  (try simp only [Act.put, List.setIfInBounds_toArray, List.set_cons_zero, List.set_cons_succ])
  iterate 5 (first
   | (refine ext_move rfl rfl (by rfl) (by rfl) ?_; simp only [Act.put, List.setIfInBounds_toArray, List.set_cons_zero, List.set_cons_succ])
   | (refine ext_assign rfl rfl (by rfl) (by rfl) ?_; simp only [Act.put, List.setIfInBounds_toArray, List.set_cons_zero, List.set_cons_succ])
   | (refine ext_pick_t rfl rfl (by rfl) (by rfl) (by rfl) ?_; simp only [Act.put, List.setIfInBounds_toArray, List.set_cons_zero, List.set_cons_succ])
   | (refine ext_pick_f rfl rfl (by rfl) (by rfl) (by rfl) ?_; simp only [Act.put, List.setIfInBounds_toArray, List.set_cons_zero, List.set_cons_succ])
   | (apply ext_take rfl (by rfl)
      · intro w' hS
        have hSc := hS.cells
        (try simp only [World.size_drew, World.cell?_drew] at hSc)
        go_simp
        (try simp (disch := omega) only [i64_id, u64_id, ↓IntWalk.iteOmega, Int.tdiv_eq_ediv_of_nonneg, Int.tmod_eq_emod_of_nonneg])
        try rfl
      simp only [Act.put, List.setIfInBounds_toArray, List.set_cons_zero, List.set_cons_succ])
   | (refine ext_pass rfl (by rfl) ?_; simp only [Act.put, List.setIfInBounds_toArray, List.set_cons_zero, List.set_cons_succ]))
  refine ext_nil ?_
  go_wp2_with fail
  go_ret
  exact ⟨rfl, HX5.out⟩
end Go.Proofs.Ythjcdikpomlpmaa
