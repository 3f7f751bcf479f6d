/-
  Chapter 29 (replica): awake.
-/
import Derived.Test.YtknpdoepjihceaaRpO
namespace Go.Proofs.Ytknpdoepjihceaa
open Go.RowKit
set_option linter.unusedVariables false
attribute [local go_sem] eq_strB

def blob40 : List (BitVec 8) := (List.replicate 40 0#8).set 35 9#8
def sa0 : List (BitVec 8) := secL 3#64 blob40 0
def sa1 : List (BitVec 8) := secL 3#64 blob40 1
theorem blob40_len : blob40.length = 40 := rfl
theorem chunks40 : chunksL 3#64 blob40 = [sa0, sa1] := rfl
theorem sa0_len : sa0.length = 57 := by unfold sa0 secL; rw [sectorL_len]; rfl
theorem sa1_len : sa1.length = 33 := by unfold sa1 secL; rw [sectorL_len]; rfl
theorem gat2 {s0 s1 : List (BitVec 8)} (h0 : s0 = secL 3#64 blob40 0) (h1 : s1 = secL 3#64 blob40 1) : gatL [[[], s1], [s0, []]] 3#64 = some blob40 := by
  have hn : numL blob40.length = 2 := rfl
  refine restore (by decide) ?_ ?_
  · intro c hc i hu
    rw [hn]
    simp only [List.mem_cons, List.not_mem_nil, or_false] at hc
    rcases hc with rfl | rfl
    · rcases i with _ | _ | j
      · rw [show ([[], s1] : List (List (BitVec 8))).getD 0 [] = [] from rfl, usB_nil] at hu; cases hu
      · exact ⟨by omega, h1⟩
      · rw [show ([[], s1] : List (List (BitVec 8))).getD (j + 1 + 1) [] = [] from rfl, usB_nil] at hu; cases hu
    · rcases i with _ | _ | j
      · exact ⟨by omega, h0⟩
      · rw [show ([s0, []] : List (List (BitVec 8))).getD (0 + 1) [] = [] from rfl, usB_nil] at hu; cases hu
      · rw [show ([s0, []] : List (List (BitVec 8))).getD (j + 1 + 1) [] = [] from rfl, usB_nil] at hu; cases hu
  · intro i hi
    rw [hn] at hi
    rcases i with _ | _ | j
    · exact ⟨[s0, []], by simp, h0⟩
    · exact ⟨[[], s1], by simp, h1⟩
    · omega
theorem gat40 : gatL [[[], sa1], [sa0, []]] 3#64 = some blob40 := gat2 rfl rfl
/-- forty zeros in a block -/
def z40 : Array Value := ((List.replicate 40 0#8).map encB).toArray
theorem mk40 : ∀ w : World, (Instr.makeSlice 22 (.int .i64 40) (.int .i64 40)).run Try.prog w = .ok (.slice (some ⟨w.heap.size, 0, none⟩) 40 40) (w.alloc (.cells z40 5)) := fun _ => by kernel_rfl

theorem BoxAt.slice2 {w : World} {q : Nat} {a b : Value} {t : TypeId} (h : BoxAt w q #[a, b] t) : SliceAt id w (.slice (some ⟨q, 0, none⟩) 2 2) [a, b] := by
  refine ⟨_, 2, rfl, Nat.le_refl _, .inr ⟨q, 0, rfl, h.lt, fun i hi => ?_⟩⟩
  rw [Nat.zero_add]
  rcases i with _ | _ | j
  · exact h.cell 0 rfl
  · exact h.cell 1 rfl
  · simp at hi; omega
theorem SliceR.two {α : Type} {p : Pat α} {w : World} {q : Nat} {a b : Value} {t : TypeId} {l0 l1 : List α} (h : BoxAt w q #[a, b] t) (h0 : SliceR p w a l0) (h1 : SliceR p w b l1) (m0 : l0.length ≤ maxLen) (m1 : l1.length ≤ maxLen) :
    SliceR (Pat.slice p) w (.slice (some ⟨q, 0, none⟩) 2 2) [l0, l1] := by
  refine SliceR.rows h.slice2 rfl fun i a1 a2 => ?_
  rcases i with _ | _ | j
  · exact ⟨h0, m0⟩
  · exact ⟨h1, m1⟩
  · simp at a1; omega
def awPosts (l0 l1 : Value) : Nat → List Value → Value → World → Prop := fun k u v w =>
  if k = 3 then ∃ q, v = .slice (some ⟨q, 0, none⟩) 2 2 ∧ BoxAt w q #[.slice none 0 0, l1] 22
  else ∃ q, v = .slice (some ⟨q, 0, none⟩) 2 2 ∧ BoxAt w q #[l0, .slice none 0 0] 22

theorem awake_any (w : World) : Calls Try.prog 8 #[] w fun e w' => e = .returned (.bool true) ∧ Below w.heap.size w w' := by
  have hmk := mk40
  have HO0 : Hid (OwnG encB 5 (w.alloc (.cells (z40.setIfInBounds 35 (.int .u8 9)) 5)) w.heap.size (.slice (some ⟨w.heap.size, 0, none⟩) 40 40) blob40) := OwnG.lit w blob40 5 w.heap.size (Nat.le_refl _) (by decide) _ rfl
  have HXA : Hid (Ext w (w.alloc (.cells (z40.setIfInBounds 35 (.int .u8 9)) 5))) := Ext.alloc _ _
  go_enter Try.func8, Try.ntmps8
  go_wp2_with fail
  go_at_call 9
  refine (chunks_any 3#64 _ blob40 _ (by decide) HO0.out.slice).mono ?_
  rintro e w1 ⟨v1, rfl, ho1, hb1⟩
  rw [chunks40] at ho1
  obtain ⟨vs, h1, h2, h3⟩ := ho1
  obtain ⟨u0, u1, rfl⟩ : ∃ a b, vs = [a, b] := by
    match vs, h2 with
    | [a, b], _ => exact ⟨a, b, rfl⟩
  have r0 := h3 0 (by simp) (by simp)
  have r1 := h3 1 (by simp) (by simp)
  simp only [List.getElem_cons_zero, List.getElem_cons_succ] at r0 r1
  obtain ⟨g, cg, hv1, hg1, hg2⟩ := h1.form (by simp)
  obtain ⟨a0, c0, rfl⟩ := r0.shape
  obtain ⟨a1, c1, rfl⟩ := r1.shape
  have hl0 := sa0_len
  have hl1 := sa1_len
  have HL0 := Lib.hid hl0
  have HL1 := Lib.hid hl1
  rw [hl0] at r0 h1 hv1
  rw [hl1] at r1 h1 hv1
  simp only [List.length_cons, List.length_nil, Nat.zero_add, Nat.reduceAdd] at hv1
  subst hv1
  have hc0 : w1.cell? ⟨g, 0, none⟩ = some (.slice a0 57 c0) := h1.at rfl (k := 0) (by simp)
  have hc1 : w1.cell? ⟨g, 1, none⟩ = some (.slice a1 33 c1) := h1.at rfl (k := 1) (by simp)
  have HR0 := Lib.hid r0
  have HR1 := Lib.hid r1
  have HX1 : Hid (Ext w w1) := HXA.out.trans hb1
  have HBL : Hid (SliceAt encB w1 (.slice (some ⟨w.heap.size, 0, none⟩) 40 40) blob40) := HO0.out.slice.ext hb1
  clear h1 h2 h3 r0 r1 hb1 hl0 hl1
  go_wp2_with fail
  have HG := Lib.hid gat40
  refine wp_region_par [(0, true), (1, true), (2, true), (4, true), (5, true), (6, true)] [(3, 39), (7, 43)] [] [] [(8, false), (9, false), (10, true), (11, true), (12, true), (13, true), (14, true)] (by kernel_rfl) (by kernel_rfl) ?_
  iterate 6 (first
   | (refine extK_move rfl rfl (by rfl) (by rfl) ?_; simp only [Act.put, List.setIfInBounds_toArray, List.set_cons_zero, List.set_cons_succ])
   | (refine extK_assign rfl rfl (by rfl) (by rfl) ?_; simp only [Act.put, List.setIfInBounds_toArray, List.set_cons_zero, List.set_cons_succ])
   | (refine extK_pick_t rfl rfl (by rfl) (by rfl) (by rfl) ?_; simp only [Act.put, List.setIfInBounds_toArray, List.set_cons_zero, List.set_cons_succ])
   | (refine extK_pick_f rfl rfl (by rfl) (by rfl) (by rfl) ?_; simp only [Act.put, List.setIfInBounds_toArray, List.set_cons_zero, List.set_cons_succ])
   | (apply extK_take rfl (by rfl)
      · intro w' hS
        have hSc := hS.cells
        (try simp only [World.size_drew, World.cell?_drew] at hSc)
        go_simp
        (try simp (disch := omega) only [i64_id, u64_id, ↓IntWalk.iteOmega, Int.tdiv_eq_ediv_of_nonneg, Int.tmod_eq_emod_of_nonneg])
        try rfl
      simp only [Act.put, List.setIfInBounds_toArray, List.set_cons_zero, List.set_cons_succ])
   | (refine extK_pass rfl (by rfl) ?_; simp only [Act.put, List.setIfInBounds_toArray, List.set_cons_zero, List.set_cons_succ]))
  refine extK_nil ?_
  refine ⟨awPosts (.slice a0 57 c0) (.slice a1 33 c1), ?_, ?_, ?_⟩
  · exact ⟨fun _ _ _ _ e ⟨q, h1, h2⟩ => ⟨q, h1, h2.ext e⟩, fun _ _ _ _ e ⟨q, h1, h2⟩ => ⟨q, h1, h2.ext e⟩, trivial⟩
  · refine ⟨fun vals x hx hp => ⟨_, rfl, by rfl, fun K hK => ?_⟩, fun vals x hx hp => ⟨_, rfl, by rfl, fun K hK => ?_⟩, trivial⟩
    all_goals replace hx := (Ext.drew w1).trans hx
    all_goals simp only [laidT, Act.put, List.setIfInBounds_toArray, List.set_cons_zero, List.set_cons_succ] at hK ⊢
    · go_simp
      exact hK _ _ (Ext.alloc _ _) ⟨_, rfl, BoxAt.new _ _ _⟩ (fun h => absurd h (by decide))
    · go_simp
      exact hK _ _ (Ext.alloc _ _) ⟨_, rfl, BoxAt.new _ _ _⟩ (fun h => absurd h (by decide))
  · intro vals w2 hx2 hp _ _
    replace hx2 := (Ext.drew w1).trans hx2
    obtain ⟨q3, e3, b3⟩ : ∃ q, vals 3 = .slice (some ⟨q, 0, none⟩) 2 2 ∧ BoxAt w2 q #[.slice none 0 0, .slice a1 33 c1] 22 := hp.1
    obtain ⟨q7, e7, b7⟩ : ∃ q, vals 7 = .slice (some ⟨q, 0, none⟩) 2 2 ∧ BoxAt w2 q #[.slice a0 57 c0, .slice none 0 0] 22 := hp.2.1
    simp only [laidT, Act.put, List.setIfInBounds_toArray, List.set_cons_zero, List.set_cons_succ]
    simp only [e3, e7]
    have HX2 := Lib.hid hx2
    have HB3 := Lib.hid b3
    have HB7 := Lib.hid b7
    clear hp e3 e7 hx2 b3 b7
    have HSR : Hid (SliceR (Pat.slice (Pat.slice Pat.u8)) (w2.alloc (.cells #[.slice (some ⟨q3, 0, none⟩) 2 2, .slice (some ⟨q7, 0, none⟩) 2 2] 25)) (.slice (some ⟨w2.heap.size, 0, none⟩) 2 2) [[[], sa1], [sa0, []]]) := by
      have ex : Ext w2 (w2.alloc (.cells #[.slice (some ⟨q3, 0, none⟩) 2 2, .slice (some ⟨q7, 0, none⟩) 2 2] 25)) := Ext.alloc _ _
      have x0 : SliceR Pat.u8 (w2.alloc (.cells #[.slice (some ⟨q3, 0, none⟩) 2 2, .slice (some ⟨q7, 0, none⟩) 2 2] 25)) (.slice a0 57 c0) sa0 := (HR0.out.slice.ext (HX2.out.trans ex)).toR fun _ _ => trivial
      have x1 : SliceR Pat.u8 (w2.alloc (.cells #[.slice (some ⟨q3, 0, none⟩) 2 2, .slice (some ⟨q7, 0, none⟩) 2 2] 25)) (.slice a1 33 c1) sa1 := (HR1.out.slice.ext (HX2.out.trans ex)).toR fun _ _ => trivial
      have m0 : sa0.length ≤ maxLen := by rw [HL0.out]; decide
      have m1 : sa1.length ≤ maxLen := by rw [HL1.out]; decide
      have mn : ([] : List (BitVec 8)).length ≤ maxLen := by decide
      exact SliceR.two (BoxAt.new _ _ _) (SliceR.two (HB3.out.ext ex) SliceR.nil x1 mn m1) (SliceR.two (HB7.out.ext ex) x0 SliceR.nil m0 mn) (by decide) (by decide)
    have HEX : Hid (Ext w2 (w2.alloc (.cells #[.slice (some ⟨q3, 0, none⟩) 2 2, .slice (some ⟨q7, 0, none⟩) 2 2] 25))) := Ext.alloc _ _
    (refine ext_do rfl (by rfl) (fun K hK => ?_)
     go_simp
     refine hK _ _ (by first | exact Ext.alloc _ _ | exact (Ext.drew _).trans (Ext.alloc _ _)) ?_
     clear hK K
     (try simp only [Act.put, List.setIfInBounds_toArray, List.set_cons_zero, List.set_cons_succ]))
    generalize w2.alloc (.cells #[.slice (some ⟨q3, 0, none⟩) 2 2, .slice (some ⟨q7, 0, none⟩) 2 2] 25) = w3 at *
    generalize w2.heap.size = q8 at *
    have hA : ∀ c ∈ ([[[], sa1], [sa0, []]] : List (List (List (BitVec 8)))), c.length ≤ 100000 := by
      intro c hc
      simp only [List.mem_cons, List.not_mem_nil, or_false] at hc
      rcases hc with rfl | rfl <;> (simp only [List.length_cons, List.length_nil]; omega)
    have hB : ∀ c ∈ ([[[], sa1], [sa0, []]] : List (List (List (BitVec 8)))), ∀ l ∈ c, l.length ≤ 100000 := by
      intro c hc l hl
      simp only [List.mem_cons, List.not_mem_nil, or_false] at hc
      rcases hc with rfl | rfl <;> (simp only [List.mem_cons, List.not_mem_nil, or_false] at hl; rcases hl with rfl | rfl <;> first | (rw [HL0.out]; omega) | (rw [HL1.out]; omega) | (simp only [List.length_nil]; omega))
    have HA := Lib.hid hA
    have HB := Lib.hid hB
    clear hA hB
    (refine ext_do rfl (by rfl) (fun K hK => ?_)
     go_simp
     go_at_call 13
     refine (gather_any _ [[[], sa1], [sa0, []]] 3#64 _ (by simp) HA.out HB.out HSR.out).mono ?_
     rintro e w4 ⟨v4, rfl, ho4, hb4⟩
     rw [HG.out] at ho4 ⊢
     have HO4 : Hid (SliceAt encB w4 v4 blob40) := ho4.slice
     have HX4 : Hid (Ext w3 w4) := hb4
     refine hK _ _ (by first | exact hb4 | exact (Ext.drew _).trans hb4) ?_
     clear hK K ho4 hb4
     (try simp only [Act.put, List.setIfInBounds_toArray, List.set_cons_zero, List.set_cons_succ]))
    iterate 5 (first
     | (refine ext_move rfl rfl (by rfl) (by rfl) ?_; simp only [Act.put, List.setIfInBounds_toArray, List.set_cons_zero, List.set_cons_succ])
     | (refine ext_assign rfl rfl (by rfl) (by rfl) ?_; simp only [Act.put, List.setIfInBounds_toArray, List.set_cons_zero, List.set_cons_succ])
     | (refine ext_pick_t rfl rfl (by rfl) (by rfl) (by rfl) ?_; simp only [Act.put, List.setIfInBounds_toArray, List.set_cons_zero, List.set_cons_succ])
     | (refine ext_pick_f rfl rfl (by rfl) (by rfl) (by rfl) ?_; simp only [Act.put, List.setIfInBounds_toArray, List.set_cons_zero, List.set_cons_succ])
     | (apply ext_take rfl (by rfl)
        · intro w' hS
          have hSc := hS.cells
          (try simp only [World.size_drew, World.cell?_drew] at hSc)
          go_simp
          (try simp (disch := omega) only [i64_id, u64_id, ↓IntWalk.iteOmega, Int.tdiv_eq_ediv_of_nonneg, Int.tmod_eq_emod_of_nonneg])
          try rfl
        simp only [Act.put, List.setIfInBounds_toArray, List.set_cons_zero, List.set_cons_succ])
     | (refine ext_pass rfl (by rfl) ?_; simp only [Act.put, List.setIfInBounds_toArray, List.set_cons_zero, List.set_cons_succ]))
    refine ext_nil ?_
    have HBL4 : Hid (SliceAt encB w4 (.slice (some ⟨w.heap.size, 0, none⟩) 40 40) blob40) := HBL.out.ext (HX2.out.trans (HEX.out.trans HX4.out))
    have k1 := run_str (P := Try.prog) Try.underlying22 Try.underlying5 Try.underlying9 w4 _ _ HO4.out
    have k2 := run_str (P := Try.prog) Try.underlying22 Try.underlying5 Try.underlying9 w4 _ _ HBL4.out
    have hbb : decide (blob40 = blob40) = true := by simp
    generalize blob40 = bl at *
    go_wp2_with fail
    go_ret
    exact ⟨rfl, HX1.out.trans (HX2.out.trans (HEX.out.trans HX4.out))⟩
end Go.Proofs.Ytknpdoepjihceaa
