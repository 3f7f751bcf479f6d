/-
  Chapter 25 (piecesum): leaves compared: Same of the reference.
-/
import Derived.Test.YtinnikbjphkkiaaPsD
namespace Go.Proofs.Ytinnikbjphkkiaa
open Go.RowKit
set_option linter.unusedVariables false
attribute [local go_sem] eq_un

def sameB (l1 l2 l3 l4 : List (BitVec 64)) : Bool := eqL l1 l3 && eqL l2 l4
theorem sameB_no1 {l1 l2 l3 l4 : List (BitVec 64)} (h : eqL l1 l3 = false) : sameB l1 l2 l3 l4 = false := by simp [sameB, h]
theorem sameB_no2 {l1 l2 l3 l4 : List (BitVec 64)} (h : eqL l2 l4 = false) : sameB l1 l2 l3 l4 = false := by simp [sameB, h]
theorem sameB_yes {l1 l2 l3 l4 : List (BitVec 64)} (h : eqL l1 l3 = true) (h2 : eqL l2 l4 = true) : sameB l1 l2 l3 l4 = true := by simp [sameB, h, h2]

set_option maxHeartbeats 1000000 in
theorem same_any (v1 v2 v3 v4 : Value) (l1 l2 l3 l4 : List (BitVec 64)) (w : World) (hl1 : l1.length ≤ 100000) (hl2 : l2.length ≤ 100000) (hl3 : l3.length ≤ 100000) (hl4 : l4.length ≤ 100000) (h1 : SliceAt encU w v1 l1) (h2 : SliceAt encU w v2 l2) (h3 : SliceAt encU w v3 l3) (h4 : SliceAt encU w v4 l4) :
    Calls Try.prog 13 #[.agg #[v1, v2], .agg #[v3, v4]] w fun e w' => e = .returned (.bool (sameB l1 l2 l3 l4)) ∧ Below w.heap.size w w' := by
  have H1 := Lib.hid h1
  have H2 := Lib.hid h2
  have H3 := Lib.hid h3
  have H4 := Lib.hid h4
  obtain ⟨ad1, cap1, rfl, _, _⟩ := h1
  obtain ⟨ad2, cap2, rfl, _, _⟩ := h2
  obtain ⟨ad3, cap3, rfl, _, _⟩ := h3
  obtain ⟨ad4, cap4, rfl, _, _⟩ := h4
  by_cases hlen : l1.length ≠ l3.length
  · have HF := Lib.hid (sameB_no1 (l2 := l2) (l4 := l4) (eqL_len hlen))
    have hq : (l1.length == l3.length) = false := by rw [beq_eq_false_iff_ne]; exact hlen
    have hq2 : ((l1.length : Int) != (l3.length : Int)) = true := by rw [bne_iff_ne]; omega
    have hq3 : (l1.length != l3.length) = true := by rw [bne_iff_ne]; exact hlen
    clear hlen
    go_enter Try.func13, Try.ntmps13
    go_wp2_with fail
    have hxW : Ext w ((w.alloc (.cells #[.slice ad1 l1.length cap1, .slice ad2 l2.length cap2] 32)).alloc (.cells #[.slice ad3 l3.length cap3, .slice ad4 l4.length cap4] 32)) := Ext.trans (Ext.alloc _ _) (Ext.alloc _ _)
    have hz : w.heap.size + 1 < ((w.alloc (.cells #[.slice ad1 l1.length cap1, .slice ad2 l2.length cap2] 32)).alloc (.cells #[.slice ad3 l3.length cap3, .slice ad4 l4.length cap4] 32)).heap.size := by simp
    generalize hW : (w.alloc (.cells #[.slice ad1 l1.length cap1, .slice ad2 l2.length cap2] 32)).alloc (.cells #[.slice ad3 l3.length cap3, .slice ad4 l4.length cap4] 32) = W at *
    have c0 : W.cell? ⟨w.heap.size, 0, none⟩ = some (.slice ad1 l1.length cap1) := by rw [← hW]; simp
    have c1 : W.cell? ⟨w.heap.size, 1, none⟩ = some (.slice ad2 l2.length cap2) := by rw [← hW]; simp
    have c2 : W.cell? ⟨w.heap.size + 1, 0, none⟩ = some (.slice ad3 l3.length cap3) := by rw [← hW]; simp
    have c3 : W.cell? ⟨w.heap.size + 1, 1, none⟩ = some (.slice ad4 l4.length cap4) := by rw [← hW]; simp
    have hz0 : w.heap.size < W.heap.size := by omega
    clear hW
    go_wp2_with fail
    go_ret
    exact ⟨ret_bool HF.out.symm, hxW⟩
  have hlen : l1.length = l3.length := by omega
  have HL1 := Lib.hid hlen
  have hq : (l1.length == l3.length) = true := by rw [beq_iff_eq]; exact hlen
  have hq2 : ((l1.length : Int) != (l3.length : Int)) = false := by rw [bne_eq_false_iff_eq]; omega
  have hq3 : (l1.length != l3.length) = false := by rw [bne_eq_false_iff_eq]; exact hlen
  clear hlen
  by_cases hlen : l2.length ≠ l4.length
  · have HF := Lib.hid (sameB_no2 (l1 := l1) (l3 := l3) (eqL_len hlen))
    have hp : (l2.length == l4.length) = false := by rw [beq_eq_false_iff_ne]; exact hlen
    have hp2 : ((l2.length : Int) != (l4.length : Int)) = true := by rw [bne_iff_ne]; omega
    have hp3 : (l2.length != l4.length) = true := by rw [bne_iff_ne]; exact hlen
    clear hlen
    go_enter Try.func13, Try.ntmps13
    go_wp2_with fail
    have hxW : Ext w ((w.alloc (.cells #[.slice ad1 l1.length cap1, .slice ad2 l2.length cap2] 32)).alloc (.cells #[.slice ad3 l3.length cap3, .slice ad4 l4.length cap4] 32)) := Ext.trans (Ext.alloc _ _) (Ext.alloc _ _)
    have hz : w.heap.size + 1 < ((w.alloc (.cells #[.slice ad1 l1.length cap1, .slice ad2 l2.length cap2] 32)).alloc (.cells #[.slice ad3 l3.length cap3, .slice ad4 l4.length cap4] 32)).heap.size := by simp
    generalize hW : (w.alloc (.cells #[.slice ad1 l1.length cap1, .slice ad2 l2.length cap2] 32)).alloc (.cells #[.slice ad3 l3.length cap3, .slice ad4 l4.length cap4] 32) = W at *
    have c0 : W.cell? ⟨w.heap.size, 0, none⟩ = some (.slice ad1 l1.length cap1) := by rw [← hW]; simp
    have c1 : W.cell? ⟨w.heap.size, 1, none⟩ = some (.slice ad2 l2.length cap2) := by rw [← hW]; simp
    have c2 : W.cell? ⟨w.heap.size + 1, 0, none⟩ = some (.slice ad3 l3.length cap3) := by rw [← hW]; simp
    have c3 : W.cell? ⟨w.heap.size + 1, 1, none⟩ = some (.slice ad4 l4.length cap4) := by rw [← hW]; simp
    have hz0 : w.heap.size < W.heap.size := by omega
    clear hW
    go_wp2_with fail
    go_ret
    exact ⟨ret_bool HF.out.symm, hxW⟩
  have hlen : l2.length = l4.length := by omega
  have HL2 := Lib.hid hlen
  have hp : (l2.length == l4.length) = true := by rw [beq_iff_eq]; exact hlen
  have hp2 : ((l2.length : Int) != (l4.length : Int)) = false := by rw [bne_eq_false_iff_eq]; omega
  have hp3 : (l2.length != l4.length) = false := by rw [bne_eq_false_iff_eq]; exact hlen
  clear hlen
  go_enter Try.func13, Try.ntmps13
  go_wp2_with fail
  have hxW : Ext w ((w.alloc (.cells #[.slice ad1 l1.length cap1, .slice ad2 l2.length cap2] 32)).alloc (.cells #[.slice ad3 l3.length cap3, .slice ad4 l4.length cap4] 32)) := Ext.trans (Ext.alloc _ _) (Ext.alloc _ _)
  have hz : w.heap.size + 1 < ((w.alloc (.cells #[.slice ad1 l1.length cap1, .slice ad2 l2.length cap2] 32)).alloc (.cells #[.slice ad3 l3.length cap3, .slice ad4 l4.length cap4] 32)).heap.size := by simp
  generalize hW : (w.alloc (.cells #[.slice ad1 l1.length cap1, .slice ad2 l2.length cap2] 32)).alloc (.cells #[.slice ad3 l3.length cap3, .slice ad4 l4.length cap4] 32) = W at *
  have c0 : W.cell? ⟨w.heap.size, 0, none⟩ = some (.slice ad1 l1.length cap1) := by rw [← hW]; simp
  have c1 : W.cell? ⟨w.heap.size, 1, none⟩ = some (.slice ad2 l2.length cap2) := by rw [← hW]; simp
  have c2 : W.cell? ⟨w.heap.size + 1, 0, none⟩ = some (.slice ad3 l3.length cap3) := by rw [← hW]; simp
  have c3 : W.cell? ⟨w.heap.size + 1, 1, none⟩ = some (.slice ad4 l4.length cap4) := by rw [← hW]; simp
  have hz0 : w.heap.size < W.heap.size := by omega
  clear hW
  go_wp2_with fail
  have HXX := Lib.hid (Ext.refl W)
  go_loopw [5] (fun i wr => ∃ k : Nat, k ≤ l1.length ∧ i = .int .i64 k ∧ l1.take k = l3.take k ∧ Ext W wr) (fun i _ => l1.length - (intOf i).toNat)
  case atStart => exact ⟨0, by omega, rfl, rfl, HXX.out⟩
  case round =>
    clear HXX
    obtain ⟨k, hk, rfl, ht, hx⟩ := hrel
    have HT := Lib.hid ht
    have HX := Lib.hid hx
    have hxc := hx.cells
    have hxs := hx.size
    have hm0 : w.heap.size < wr.heap.size := by omega
    have hm1 : w.heap.size + 1 < wr.heap.size := by omega
    clear ht
    by_cases hlt : k < l1.length
    · have hlt2 : k < l3.length := by have := HL1.out; omega
      obtain ⟨b1, o1, had1, hb1, e1⟩ := H1.out.get k hlt
      obtain ⟨b2, o2, had2, hb2, e2⟩ := H3.out.get k hlt2
      subst had1
      subst had2
      have f1 := ((hxW.trans hx).cell b1 _ hb1).trans e1
      have f2 := ((hxW.trans hx).cell b2 _ hb2).trans e2
      have hbr1 : b1 < wr.heap.size := by have := (hxW.trans hx).size; omega
      have hbr2 : b2 < wr.heap.size := by have := (hxW.trans hx).size; omega
      have HNX : Hid (l1[k] = l3[k] → l1.take (k + 1) = l3.take (k + 1)) := Lib.hid (take_next hlt hlt2 HT.out)
      have HNO : Hid (l1[k] ≠ l3[k] → eqL l1 l3 = false) := Lib.hid (eqL_at hlt hlt2)
      generalize l1[k] = x at *
      generalize l3[k] = y at *
      clear e1 e2
      by_cases hxy : x = y
      · have HXY := Lib.hid hxy
        have hn : (un x != un y) = false := by rw [hxy]; simp
        have hn1 : decide (x = y) = true := by simpa using hxy
        clear hxy
        go_wp2_with fail
        refine wp_region_ext [(0, true), (1, true), (2, true), (3, true), (4, true), (5, true), (6, true), (7, true), (8, true), (9, true), (10, true)] (by kernel_rfl) (by kernel_rfl) ?_
        iterate 11 (first
         | (refine ext_move rfl rfl (by rfl) (by rfl) ?_; simp only [Act.put, List.setIfInBounds_toArray, List.set_cons_zero, List.set_cons_succ])
         | (refine ext_assign rfl rfl (by rfl) (by rfl) ?_; simp only [Act.put, List.setIfInBounds_toArray, List.set_cons_zero, List.set_cons_succ])
         | (refine ext_pick_t rfl rfl (by rfl) (by rfl) (by rfl) ?_; simp only [Act.put, List.setIfInBounds_toArray, List.set_cons_zero, List.set_cons_succ])
         | (refine ext_pick_f rfl rfl (by rfl) (by rfl) (by rfl) ?_; simp only [Act.put, List.setIfInBounds_toArray, List.set_cons_zero, List.set_cons_succ])
         | (apply ext_take rfl (by rfl)
            · intro w' hS
              have hSc := hS.cells
              (try simp only [World.size_drew, World.cell?_drew] at hSc)
              go_simp
              (try simp (disch := omega) only [i64_id, u64_id, ↓IntWalk.iteOmega, Int.tdiv_eq_ediv_of_nonneg, Int.tmod_eq_emod_of_nonneg])
              try rfl
            simp only [Act.put, List.setIfInBounds_toArray, List.set_cons_zero, List.set_cons_succ])
         | (refine ext_pass rfl (by rfl) ?_; simp only [Act.put, List.setIfInBounds_toArray, List.set_cons_zero, List.set_cons_succ]))
        refine ext_nil ?_
        go_wp2_with fail
        go_roundw
        case rel => exact ⟨k + 1, by omega, by go_num, HNX.out HXY.out, HX.out.trans (Ext.drew _)⟩
        case measure => simp [intOf]; omega
      · have HXY := Lib.hid hxy
        have hn : (un x != un y) = true := by rw [bne_iff_ne]; exact fun e => hxy (un_inj e)
        have hn1 : decide (x = y) = false := by simpa using hxy
        clear hxy
        go_wp2_with fail
        refine wp_region_ext [(0, true), (1, true), (2, true), (3, true), (4, true), (5, true), (6, true), (7, true), (8, true), (9, true), (10, true)] (by kernel_rfl) (by kernel_rfl) ?_
        iterate 11 (first
         | (refine ext_move rfl rfl (by rfl) (by rfl) ?_; simp only [Act.put, List.setIfInBounds_toArray, List.set_cons_zero, List.set_cons_succ])
         | (refine ext_assign rfl rfl (by rfl) (by rfl) ?_; simp only [Act.put, List.setIfInBounds_toArray, List.set_cons_zero, List.set_cons_succ])
         | (refine ext_pick_t rfl rfl (by rfl) (by rfl) (by rfl) ?_; simp only [Act.put, List.setIfInBounds_toArray, List.set_cons_zero, List.set_cons_succ])
         | (refine ext_pick_f rfl rfl (by rfl) (by rfl) (by rfl) ?_; simp only [Act.put, List.setIfInBounds_toArray, List.set_cons_zero, List.set_cons_succ])
         | (apply ext_take rfl (by rfl)
            · intro w' hS
              have hSc := hS.cells
              (try simp only [World.size_drew, World.cell?_drew] at hSc)
              go_simp
              (try simp (disch := omega) only [i64_id, u64_id, ↓IntWalk.iteOmega, Int.tdiv_eq_ediv_of_nonneg, Int.tmod_eq_emod_of_nonneg])
              try rfl
            simp only [Act.put, List.setIfInBounds_toArray, List.set_cons_zero, List.set_cons_succ])
         | (refine ext_pass rfl (by rfl) ?_; simp only [Act.put, List.setIfInBounds_toArray, List.set_cons_zero, List.set_cons_succ]))
        refine ext_nil ?_
        go_wp2_with fail
        go_ret
        exact ⟨ret_bool (sameB_no1 (HNO.out HXY.out)).symm, hxW.trans (HX.out.trans (Ext.drew _))⟩
    · have hkl : k = l1.length := by omega
      have HD1 : Hid (eqL l1 l3 = true) := eqL_all HL1.out (by rw [← hkl]; exact HT.out)
      clear hkl
      go_wp2_with fail
      have HXX := Lib.hid hx
      clear hxc hxs hm0 hm1 hx HX HT hk hlt
      go_loopw [6] (fun i wr => ∃ k : Nat, k ≤ l2.length ∧ i = .int .i64 k ∧ l2.take k = l4.take k ∧ Ext W wr) (fun i _ => l2.length - (intOf i).toNat)
      case atStart => exact ⟨0, by omega, rfl, rfl, HXX.out⟩
      case round =>
        clear HXX
        obtain ⟨k, hk, rfl, ht, hx⟩ := hrel
        have HT := Lib.hid ht
        have HX := Lib.hid hx
        have hxc := hx.cells
        have hxs := hx.size
        have hm0 : w.heap.size < wr.heap.size := by omega
        have hm1 : w.heap.size + 1 < wr.heap.size := by omega
        clear ht
        by_cases hlt : k < l2.length
        · have hlt2 : k < l4.length := by have := HL2.out; omega
          obtain ⟨b1, o1, had1, hb1, e1⟩ := H2.out.get k hlt
          obtain ⟨b2, o2, had2, hb2, e2⟩ := H4.out.get k hlt2
          subst had1
          subst had2
          have f1 := ((hxW.trans hx).cell b1 _ hb1).trans e1
          have f2 := ((hxW.trans hx).cell b2 _ hb2).trans e2
          have hbr1 : b1 < wr.heap.size := by have := (hxW.trans hx).size; omega
          have hbr2 : b2 < wr.heap.size := by have := (hxW.trans hx).size; omega
          have HNX : Hid (l2[k] = l4[k] → l2.take (k + 1) = l4.take (k + 1)) := Lib.hid (take_next hlt hlt2 HT.out)
          have HNO : Hid (l2[k] ≠ l4[k] → eqL l2 l4 = false) := Lib.hid (eqL_at hlt hlt2)
          generalize l2[k] = x at *
          generalize l4[k] = y at *
          clear e1 e2
          by_cases hxy : x = y
          · have HXY := Lib.hid hxy
            have hn : (un x != un y) = false := by rw [hxy]; simp
            have hn1 : decide (x = y) = true := by simpa using hxy
            clear hxy
            go_wp2_with fail
            refine wp_region_ext [(0, true), (1, true), (2, true), (3, true), (4, true), (5, true), (6, true), (7, true), (8, true), (9, true), (10, true)] (by kernel_rfl) (by kernel_rfl) ?_
            iterate 11 (first
             | (refine ext_move rfl rfl (by rfl) (by rfl) ?_; simp only [Act.put, List.setIfInBounds_toArray, List.set_cons_zero, List.set_cons_succ])
             | (refine ext_assign rfl rfl (by rfl) (by rfl) ?_; simp only [Act.put, List.setIfInBounds_toArray, List.set_cons_zero, List.set_cons_succ])
             | (refine ext_pick_t rfl rfl (by rfl) (by rfl) (by rfl) ?_; simp only [Act.put, List.setIfInBounds_toArray, List.set_cons_zero, List.set_cons_succ])
             | (refine ext_pick_f rfl rfl (by rfl) (by rfl) (by rfl) ?_; simp only [Act.put, List.setIfInBounds_toArray, List.set_cons_zero, List.set_cons_succ])
             | (apply ext_take rfl (by rfl)
                · intro w' hS
                  have hSc := hS.cells
                  (try simp only [World.size_drew, World.cell?_drew] at hSc)
                  go_simp
                  (try simp (disch := omega) only [i64_id, u64_id, ↓IntWalk.iteOmega, Int.tdiv_eq_ediv_of_nonneg, Int.tmod_eq_emod_of_nonneg])
                  try rfl
                simp only [Act.put, List.setIfInBounds_toArray, List.set_cons_zero, List.set_cons_succ])
             | (refine ext_pass rfl (by rfl) ?_; simp only [Act.put, List.setIfInBounds_toArray, List.set_cons_zero, List.set_cons_succ]))
            refine ext_nil ?_
            go_wp2_with fail
            go_roundw
            case rel => exact ⟨k + 1, by omega, by go_num, HNX.out HXY.out, HX.out.trans (Ext.drew _)⟩
            case measure => simp [intOf]; omega
          · have HXY := Lib.hid hxy
            have hn : (un x != un y) = true := by rw [bne_iff_ne]; exact fun e => hxy (un_inj e)
            have hn1 : decide (x = y) = false := by simpa using hxy
            clear hxy
            go_wp2_with fail
            refine wp_region_ext [(0, true), (1, true), (2, true), (3, true), (4, true), (5, true), (6, true), (7, true), (8, true), (9, true), (10, true)] (by kernel_rfl) (by kernel_rfl) ?_
            iterate 11 (first
             | (refine ext_move rfl rfl (by rfl) (by rfl) ?_; simp only [Act.put, List.setIfInBounds_toArray, List.set_cons_zero, List.set_cons_succ])
             | (refine ext_assign rfl rfl (by rfl) (by rfl) ?_; simp only [Act.put, List.setIfInBounds_toArray, List.set_cons_zero, List.set_cons_succ])
             | (refine ext_pick_t rfl rfl (by rfl) (by rfl) (by rfl) ?_; simp only [Act.put, List.setIfInBounds_toArray, List.set_cons_zero, List.set_cons_succ])
             | (refine ext_pick_f rfl rfl (by rfl) (by rfl) (by rfl) ?_; simp only [Act.put, List.setIfInBounds_toArray, List.set_cons_zero, List.set_cons_succ])
             | (apply ext_take rfl (by rfl)
                · intro w' hS
                  have hSc := hS.cells
                  (try simp only [World.size_drew, World.cell?_drew] at hSc)
                  go_simp
                  (try simp (disch := omega) only [i64_id, u64_id, ↓IntWalk.iteOmega, Int.tdiv_eq_ediv_of_nonneg, Int.tmod_eq_emod_of_nonneg])
                  try rfl
                simp only [Act.put, List.setIfInBounds_toArray, List.set_cons_zero, List.set_cons_succ])
             | (refine ext_pass rfl (by rfl) ?_; simp only [Act.put, List.setIfInBounds_toArray, List.set_cons_zero, List.set_cons_succ]))
            refine ext_nil ?_
            go_wp2_with fail
            go_ret
            exact ⟨ret_bool (sameB_no2 (HNO.out HXY.out)).symm, hxW.trans (HX.out.trans (Ext.drew _))⟩
        · have hkl : k = l2.length := by omega
          have HD2 : Hid (eqL l2 l4 = true) := eqL_all HL2.out (by rw [← hkl]; exact HT.out)
          clear hkl
          go_wp2_with fail
          go_ret
          exact ⟨ret_bool (sameB_yes HD1.out HD2.out).symm, hxW.trans HX.out⟩
end Go.Proofs.Ytinnikbjphkkiaa
