/-
  Chapter 31 (election): the law's helper label.
-/
import Derived.Test.YtpmbbeflgifgaaaElU
namespace Go.Proofs.Ytpmbbeflgifgaaa
open Go.RowKit
set_option linter.unusedVariables false

theorem SliceAt.bools_made (w : World) (n : Nat) (t : TypeId) : SliceAt Value.bool (w.alloc (.cells (madeCells #[.bool false] n) t)) (.slice (some ⟨w.heap.size, 0, none⟩) n n) (List.replicate n false) := by
  obtain ⟨c, h, hs, hc⟩ := World.rowIs_made w (.bool false) n t
  refine ⟨_, n, by simp, by simp, .inr ⟨_, 0, rfl, (Array.getElem?_eq_some_iff.1 h).1, fun i hi => ?_⟩⟩
  have hi' : i < n := by simpa using hi
  rw [Nat.zero_add]
  unfold World.cell?
  simp only [h, Option.isSome_none, Bool.false_eq_true, if_false]
  rw [hc i hi']; simp
abbrev cfgA (c : Cfg) : Array Value := #[.int .i64 c.d, .int .i64 c.w, .int .i64 c.t, .int .i64 c.s, .int .i64 c.r, .int .i64 c.b, .int .i64 c.k, .int .i64 c.c, .int .i64 c.o, .int .i64 c.a, .int .i64 c.g]
theorem cfg_load {w : World} {g : Nat} {c : Cfg} {t : TypeId} (h : BoxAt w g (cfgA c) t) : (Instr.loadAt 30 (.pointer (some ⟨g, 0, none⟩))).run Try.prog w = .ok (cfgV c) w :=
  run_loadAt_mid w g 0 _ (cfgA c).toList _ (fun j v hv => by rw [Nat.zero_add]; exact h.cell j (by simpa using hv)) Try.underlying30 rfl info_cfg
abbrev zeroX : Array Value := labA ld0.1 (.slice none 0 0)
def LabelEnd (w : World) (l : Lab) (e : Ending) (w' : World) : Prop := ∃ dv, e = .returned (labV l dv) ∧ SliceAt Value.bool w' dv (List.replicate 5 false) ∧ Ext w w'
set_option maxRecDepth 100000 in
set_option maxHeartbeats 2000000 in
theorem label_any (d : Int) (n : Nat) (m : Int) (w : World) (h : n = 6 ∧ m = 6 ∨ n = 7 ∧ m = 7 ∨ n = 8 ∧ m = 8) :
    Calls Try.prog 21 #[.int .i64 d, .int .u64 m] w (LabelEnd w (labX d n)) := by
  have hmk : ∀ w : World, (Instr.makeSlice 23 (.int .i64 5) (.int .i64 5)).run Try.prog w = .ok (.slice (some ⟨w.heap.size, 0, none⟩) 5 5) (w.alloc (.cells (madeCells #[.bool false] 5) 4)) :=
    run_make_row' 23 4 (.bool false) 1 Try.underlying23 infoBo rfl .i64 .i64 5 (by omega) (by first | omega | (unfold maxLen; omega))
  have HB1 : Hid (BoxAt ((w.alloc (.cells zeroX 32)).alloc (.cells (cfgA cfgX) 30)) w.heap.size zeroX 32) := (BoxAt.new _ _ _).ext (Ext.alloc _ _)
  have HB2 : Hid (BoxAt ((w.alloc (.cells zeroX 32)).alloc (.cells (cfgA cfgX) 30)) (w.heap.size + 1) (cfgA cfgX) 30) := by
    have := BoxAt.new (w.alloc (.cells zeroX 32)) (cfgA cfgX) 30
    simp only [World.size_alloc] at this
    exact this
  have HE2 : Hid (Ext w ((w.alloc (.cells zeroX 32)).alloc (.cells (cfgA cfgX) 30))) := (Ext.alloc _ _).trans (Ext.alloc _ _)
  rcases h with ⟨rfl, rfl⟩ | ⟨rfl, rfl⟩ | ⟨rfl, rfl⟩
  all_goals
    go_enter Try.func21, Try.ntmps21
    go_upto_region 2 with fail
    obtain ⟨w3, hw3⟩ : ∃ x, (w.alloc (.cells zeroX 32)).alloc (.cells (cfgA cfgX) 30) = x := ⟨_, rfl⟩
    rw [hw3] at HB1 HB2 HE2
    refine Eq.mp (congrArg _ hw3.symm) ?_
    clear hw3
    refine wp_region_ext [(0, true), (1, true), (2, true), (3, true), (4, true), (5, false), (6, true), (7, false)] (by kernel_rfl) (by kernel_rfl) ?_
    iterate 4 (first
     | (refine ext_move rfl rfl (by rfl) (by rfl) ?_; simp only [Act.put, List.setIfInBounds_toArray, List.set_cons_zero, List.set_cons_succ])
     | (refine ext_assign rfl rfl (by rfl) (by rfl) ?_; simp only [Act.put, List.setIfInBounds_toArray, List.set_cons_zero, List.set_cons_succ])
     | (refine ext_pick_t rfl rfl (by rfl) (by rfl) (by rfl) ?_; simp only [Act.put, List.setIfInBounds_toArray, List.set_cons_zero, List.set_cons_succ])
     | (refine ext_pick_f rfl rfl (by rfl) (by rfl) (by rfl) ?_; simp only [Act.put, List.setIfInBounds_toArray, List.set_cons_zero, List.set_cons_succ])
     | (apply ext_take rfl (by rfl)
        · intro w' hS
          have hSc := hS.cells
          (try simp only [World.size_drew, World.cell?_drew] at hSc)
          go_simp
          (try simp (disch := omega) only [i64_id, u64_id, ↓IntWalk.iteOmega, Int.tdiv_eq_ediv_of_nonneg, Int.tmod_eq_emod_of_nonneg])
          try rfl
        simp only [Act.put, List.setIfInBounds_toArray, List.set_cons_zero, List.set_cons_succ])
     | (refine ext_pass rfl (by rfl) ?_; simp only [Act.put, List.setIfInBounds_toArray, List.set_cons_zero, List.set_cons_succ]))
    (refine ext_load 30 rfl (by rfl) rfl (by rfl) (fun w' hS => cfg_load (HB2.out.ext hS)) ?_; simp only [Act.put, List.setIfInBounds_toArray, List.set_cons_zero, List.set_cons_succ])
    refine ext_do rfl (by rfl) (fun K hK => ?_)
    go_simp
    have hx4 : Ext w3 (w3.alloc (.cells (madeCells #[.bool false] 5) 4)).drew := (Ext.alloc _ _).trans (Ext.drew _)
    have hd4 : SliceAt Value.bool (w3.alloc (.cells (madeCells #[.bool false] 5) 4)).drew (.slice (some ⟨w3.heap.size, 0, none⟩) 5 5) (List.replicate 5 false) := (SliceAt.bools_made w3 5 4).ext (Ext.drew _)
    generalize (w3.alloc (.cells (madeCells #[.bool false] 5) 4)).drew = w4 at *
    refine hK _ _ hx4 ?_
    clear hK K
    (try simp only [Act.put, List.setIfInBounds_toArray, List.set_cons_zero, List.set_cons_succ])
    (first
     | (refine ext_move rfl rfl (by rfl) (by rfl) ?_; simp only [Act.put, List.setIfInBounds_toArray, List.set_cons_zero, List.set_cons_succ])
     | (refine ext_assign rfl rfl (by rfl) (by rfl) ?_; simp only [Act.put, List.setIfInBounds_toArray, List.set_cons_zero, List.set_cons_succ])
     | (refine ext_pick_t rfl rfl (by rfl) (by rfl) (by rfl) ?_; simp only [Act.put, List.setIfInBounds_toArray, List.set_cons_zero, List.set_cons_succ])
     | (refine ext_pick_f rfl rfl (by rfl) (by rfl) (by rfl) ?_; simp only [Act.put, List.setIfInBounds_toArray, List.set_cons_zero, List.set_cons_succ])
     | (apply ext_take rfl (by rfl)
        · intro w' hS
          have hSc := hS.cells
          (try simp only [World.size_drew, World.cell?_drew] at hSc)
          go_simp
          (try simp (disch := omega) only [i64_id, u64_id, ↓IntWalk.iteOmega, Int.tdiv_eq_ediv_of_nonneg, Int.tmod_eq_emod_of_nonneg])
          try rfl
        simp only [Act.put, List.setIfInBounds_toArray, List.set_cons_zero, List.set_cons_succ])
     | (refine ext_pass rfl (by rfl) ?_; simp only [Act.put, List.setIfInBounds_toArray, List.set_cons_zero, List.set_cons_succ]))
    have hb4 := HB1.out.ext hx4
    have hx04 : Ext w w4 := HE2.out.trans hx4
    have hg4 : w.heap.size ≠ w3.heap.size := by have := HB1.out.lt; omega
    refine ext_last rfl (by rfl) (by kernel_rfl) (fun K hK => ?_)
    refine wp_of_list rfl ?_
    first
      | (refine wpList_store_agg (w0 := w) (cells := labA (labX d 6) (.slice (some ⟨w3.heap.size, 0, none⟩) 5 5)) 32 _ _ rfl (by rfl) rfl rfl hb4 rfl info_lab (labA_one rfl) hx04 (Nat.le_refl _) ?_)
      | (refine wpList_store_agg (w0 := w) (cells := labA (labX d 7) (.slice (some ⟨w3.heap.size, 0, none⟩) 5 5)) 32 _ _ rfl (by rfl) rfl rfl hb4 rfl info_lab (labA_one rfl) hx04 (Nat.le_refl _) ?_)
      | (refine wpList_store_agg (w0 := w) (cells := labA (labX d 8) (.slice (some ⟨w3.heap.size, 0, none⟩) 5 5)) 32 _ _ rfl (by rfl) rfl rfl hb4 rfl info_lab (labA_one rfl) hx04 (Nat.le_refl _) ?_)
    intro w5 hx5 hb5 ho5
    have hd5 : SliceAt Value.bool w5 (.slice (some ⟨w3.heap.size, 0, none⟩) 5 5) (List.replicate 5 false) := by
      obtain ⟨a, c, e1, e2, h⟩ := hd4
      refine ⟨a, c, e1, e2, h.imp id ?_⟩
      rintro ⟨b, o, e3, e4, h3⟩
      have hbq : b = w3.heap.size := by
        rw [e3] at e1
        injection e1 with e1 _ _
        injection e1 with e1
        injection e1 with e1 _ _
        exact e1.symm
      refine ⟨b, o, e3, ?_, fun i hi => ?_⟩
      · have := hx5.size
        have h5 := ho5 b (by rw [hbq]; exact Ne.symm hg4)
        rcases Nat.lt_or_ge b w5.heap.size with h' | h'
        · exact h'
        · rw [Array.getElem?_eq_none h', Array.getElem?_eq_getElem e4] at h5; cases h5
      · rw [← h3 i hi]
        unfold World.cell?
        rw [ho5 b (by rw [hbq]; exact Ne.symm hg4)]
    refine hK _ _ ?_
    clear hK K
    (try simp only [Act.put, List.setIfInBounds_toArray, List.set_cons_zero, List.set_cons_succ])
    go_wp2_with fail
    refine bodyPost_ret (results_cell_row rfl _ _ w.heap.size _ _ _ _ rfl hb5 Try.underlying32 rfl info_lab) rfl ⟨_, rfl, hd5, hx5⟩
end Go.Proofs.Ytpmbbeflgifgaaa
