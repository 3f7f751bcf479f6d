/-
  Chapter 26 (sumtree): has, way with Leaf's visitor, Leaf, Root, Len.
-/
import Derived.Test.YtdhlikjdcnfkpaaStC
namespace Go.Proofs.Ytdhlikjdcnfkpaa
open Go.RowKit
set_option linter.unusedVariables false

theorem hgt_small {n : Nat} (h : n ≤ 100000) : hgt n ≤ 9 := hgt_le (k := 9) (by omega)
theorem has_any (n : Nat) (P : Nat → Nat → Nat) (i : Int) (w : World) (hn : n ≤ 100000) :
    Calls Try.prog 26 #[treeV n P, .int .i64 i] w fun e w' => e = .returned (.bool (decide (0 ≤ i ∧ i < n))) ∧ Below w.heap.size w w' := by
  have hX : Ext w (w.alloc (.cells #[.int .i64 n, .int .i64 (hgt n), topP n P] 29)) := Ext.alloc _ _
  have HX := Lib.hid hX
  clear hX
  unfold treeV
  by_cases h0 : 0 ≤ i
  · have hd0 : decide (0 ≤ i) = true := decide_eq_true h0
    have HE : Hid (decide (0 ≤ i ∧ i < n) = decide (i < n)) := by show _ = _; simp [h0]
    go_enter Try.func26, Try.ntmps26
    go_wp2_with fail
    go_ret
    rw [HE.out]
    exact ⟨rfl, HX.out⟩
  · have hd0 : decide (0 ≤ i) = false := decide_eq_false h0
    have HE : Hid (decide (0 ≤ i ∧ i < n) = false) := by show _ = _; simp [h0]
    go_enter Try.func26, Try.ntmps26
    go_wp2_with fail
    go_ret
    refine ⟨?_, HX.out⟩
    first | rfl | (rw [HE.out]; rfl)
theorem len_any (n : Nat) (P : Nat → Nat → Nat) (w : World) :
    Calls Try.prog 25 #[treeV n P] w fun e w' => e = .returned (.int .i64 n) ∧ Below w.heap.size w w' := by
  have hX : Ext w (w.alloc (.cells #[.int .i64 n, .int .i64 (hgt n), topP n P] 29)) := Ext.alloc _ _
  have HX := Lib.hid hX
  clear hX
  unfold treeV
  go_enter Try.func25, Try.ntmps25
  go_wp2_with fail
  go_ret
  exact ⟨rfl, HX.out⟩
theorem root_tree (l : List (BitVec 64)) (P : Nat → Nat → Nat) (w : World) (hl : l.length ≤ 100000) (h : TreeAt w l P) :
    Calls Try.prog 18 #[treeV l.length P] w fun e w' => e = .returned (encU (rootL l)) ∧ Below w.heap.size w w' := by
  have hX : Ext w (w.alloc (.cells #[.int .i64 l.length, .int .i64 (hgt l.length), topP l.length P] 29)) := Ext.alloc _ _
  have HB : Hid (BoxAt (w.alloc (.cells #[.int .i64 l.length, .int .i64 (hgt l.length), topP l.length P] 29)) w.heap.size #[.int .i64 l.length, .int .i64 (hgt l.length), topP l.length P] 29) := BoxAt.new _ _ _
  have HX := Lib.hid hX
  have HT := Lib.hid h
  clear h hX
  unfold treeV
  by_cases hn : l.length = 0
  · have e1 : topP l.length P = .pointer none := by unfold topP; rw [if_pos hn]
    have HR : Hid (rootL l = topL l.length 0#64) := by
      show _ = _
      have : l = [] := List.eq_nil_of_length_eq_zero hn
      subst this; unfold rootL; rw [show hgt ([] : List (BitVec 64)).length = 0 from hgt_low (by simp)]; rfl
    rw [e1] at HX HB ⊢
    have HL0 := Lib.hid hn
    clear hn e1
    go_enter Try.func18, Try.ntmps18
    go_wp2_with fail
    go_at_call 32
    refine (root_any l.length 0#64 _ (by omega)).mono ?_
    rintro e w2 ⟨rfl, hb2⟩
    have HX2 : Hid (Ext w w2) := HX.out.trans hb2
    clear hb2
    go_wp2_with fail
    go_ret
    exact ⟨by rw [HR.out]; rfl, HX2.out⟩
  · have e1 : topP l.length P = .pointer (some ⟨P (hgt l.length) 0, 0, none⟩) := by unfold topP encP; rw [if_neg hn]
    obtain ⟨hp, hcp, _⟩ := (HT.out _ 0 (Nat.le_refl _) (sz_pos (by omega) _)).1
    rw [e1] at HX HB ⊢
    have hcp2 := (HX.out.cell _ _ hp).trans hcp
    have hp2 := Nat.lt_of_lt_of_le hp HX.out.size
    have hb0 := HB.out.cell 0 (v := .int .i64 l.length) rfl
    have hb2 := HB.out.cell 2 (v := .pointer (some ⟨P (hgt l.length) 0, 0, none⟩)) rfl
    have hbl := HB.out.lt
    obtain ⟨x, hx⟩ : ∃ x, (lvl l (hgt l.length)).getD 0 0#64 = x := ⟨_, rfl⟩
    have HR : Hid (rootL l = topL l.length x) := by show _ = _; unfold rootL; rw [hx]
    rw [hx] at hcp hcp2
    generalize P (hgt l.length) 0 = p at *
    clear hn e1 hx
    go_enter Try.func18, Try.ntmps18
    go_wp2_with fail
    generalize w.alloc (.cells #[.int .i64 l.length, .int .i64 (hgt l.length), .pointer (some ⟨p, 0, none⟩)] 29) = W at *
    have hz : w.heap.size < W.heap.size := hbl
    have hxd := Ext.drew W
    refine wp_region_ext [(0, true), (1, true), (2, true), (3, true), (4, true), (5, true), (6, true), (7, false), (8, true)] (by kernel_rfl) (by kernel_rfl) ?_
    iterate 7 (first
     | (refine ext_move rfl rfl (by rfl) (by rfl) ?_; simp only [Act.put, List.setIfInBounds_toArray, List.set_cons_zero, List.set_cons_succ])
     | (refine ext_assign rfl rfl (by rfl) (by rfl) ?_; simp only [Act.put, List.setIfInBounds_toArray, List.set_cons_zero, List.set_cons_succ])
     | (refine ext_pick_t rfl rfl (by rfl) (by rfl) (by rfl) ?_; simp only [Act.put, List.setIfInBounds_toArray, List.set_cons_zero, List.set_cons_succ])
     | (refine ext_pick_f rfl rfl (by rfl) (by rfl) (by rfl) ?_; simp only [Act.put, List.setIfInBounds_toArray, List.set_cons_zero, List.set_cons_succ])
     | (apply ext_take rfl (by rfl)
        · intro w' hS
          have hSc := hS.cells
          (try simp only [World.size_drew, World.cell?_drew] at hSc)
          go_simp
          (try simp (disch := omega) only [i64_id, u64_id, ↓IntWalk.iteOmega, Int.tdiv_eq_ediv_of_nonneg, Int.tmod_eq_emod_of_nonneg])
          try rfl
        simp only [Act.put, List.setIfInBounds_toArray, List.set_cons_zero, List.set_cons_succ])
     | (refine ext_pass rfl (by rfl) ?_; simp only [Act.put, List.setIfInBounds_toArray, List.set_cons_zero, List.set_cons_succ]))
    (refine ext_do rfl (by rfl) (fun K hK => ?_)
     go_simp
     go_at_call 32
     refine (root_any l.length x _ (by omega)).mono ?_
     rintro e w3 ⟨rfl, hb3⟩
     have hx3 : Ext W w3 := hxd.trans hb3
     have hc3 := hx3.cells
     have hs3 := hx3.size
     have hq3 := Below.size hb3
     have hlt3 := Nat.lt_of_lt_of_le hz hs3
     (try have hlu3 := Nat.lt_of_lt_of_le hz0 hs3)
     (try have hlv3 := Nat.lt_of_lt_of_le hz1 hs3)
     skip
     refine hK _ _ (by first | exact hb3 | exact (Ext.drew _).trans hb3) ?_
     clear hK K
     (try simp only [Act.put, List.setIfInBounds_toArray, List.set_cons_zero, List.set_cons_succ]))
    iterate 1 (first
     | (refine ext_move rfl rfl (by rfl) (by rfl) ?_; simp only [Act.put, List.setIfInBounds_toArray, List.set_cons_zero, List.set_cons_succ])
     | (refine ext_assign rfl rfl (by rfl) (by rfl) ?_; simp only [Act.put, List.setIfInBounds_toArray, List.set_cons_zero, List.set_cons_succ])
     | (refine ext_pick_t rfl rfl (by rfl) (by rfl) (by rfl) ?_; simp only [Act.put, List.setIfInBounds_toArray, List.set_cons_zero, List.set_cons_succ])
     | (refine ext_pick_f rfl rfl (by rfl) (by rfl) (by rfl) ?_; simp only [Act.put, List.setIfInBounds_toArray, List.set_cons_zero, List.set_cons_succ])
     | (apply ext_take rfl (by rfl)
        · intro w' hS
          have hSc := hS.cells
          (try simp only [World.size_drew, World.cell?_drew] at hSc)
          go_simp
          (try simp (disch := omega) only [i64_id, u64_id, ↓IntWalk.iteOmega, Int.tdiv_eq_ediv_of_nonneg, Int.tmod_eq_emod_of_nonneg])
          try rfl
        simp only [Act.put, List.setIfInBounds_toArray, List.set_cons_zero, List.set_cons_succ])
     | (refine ext_pass rfl (by rfl) ?_; simp only [Act.put, List.setIfInBounds_toArray, List.set_cons_zero, List.set_cons_succ]))
    refine ext_nil ?_
    go_wp2_with fail
    go_ret
    exact ⟨by rw [HR.out]; rfl, HX.out.trans hx3⟩
/-- the way's arithmetic -/
theorem way_kid (i k : Nat) : ((i : Int) / (2 : Int) ^ (2 * k)).tmod 4 = ((i / 4 ^ k % 4 : Nat) : Int) := by
  have e : (2 : Int) ^ (2 * k) = ((4 ^ k : Nat) : Int) := by
    rw [Int.pow_mul]; simp
  rw [e, ← Int.natCast_ediv, Int.tmod_eq_emod_of_nonneg (Int.natCast_nonneg _)]
  simp
theorem way_next (i k : Nat) : 4 * (i / 4 ^ (k + 1)) + i / 4 ^ k % 4 = i / 4 ^ k := by rw [up_step]; omega
/-- what the way needs of a node above level 0 -/
theorem way_node {w : World} {l : List (BitVec 64)} {P : Nat → Nat → Nat} {i k : Nat} (h : TreeAt w l P) (hi : i < l.length) (hk : k < hgt l.length) :
    P (k + 1) (i / 4 ^ (k + 1)) < w.heap.size ∧ ∃ b off m c, w.cell? ⟨P (k + 1) (i / 4 ^ (k + 1)), 1, none⟩ = some (.slice (some ⟨b, off, none⟩) m c) ∧ b < w.heap.size ∧ i / 4 ^ k % 4 < m ∧ w.cell? ⟨b, off + i / 4 ^ k % 4, none⟩ = some (.pointer (some ⟨P k (i / 4 ^ k), 0, none⟩)) := by
  obtain ⟨⟨h1, _⟩, v, h3, h4⟩ := h (k + 1) (i / 4 ^ (k + 1)) (by omega) (up_lt hi (k + 1))
  have hk := kid_up (k := k) hi
  obtain ⟨ad, cap, hv, _, hc⟩ := h4
  have hlt : i / 4 ^ k % 4 < (kidsL P l.length k (i / 4 ^ (k + 1))).length := by rw [kidsL_len]; exact hk
  rcases hc with ⟨h5, _⟩ | ⟨b, off, h5, h6, h7⟩
  · rw [h5] at hlt; simp at hlt
  · have h8 := h7 _ hlt
    simp only [kidsL, List.getElem_map, List.getElem_range] at h8
    rw [way_next] at h8
    rw [hv, h5] at h3
    exact ⟨h1, b, off, _, cap, h3, h6, hlt, h8⟩

theorem visit_leaf (p k : Value) (w : World) : Calls Try.prog 44 #[p, k] w fun e w' => e = .returned (.tuple #[]) ∧ w = w' := by
  go_enter Try.func44, Try.ntmps44
  go_wp2_with fail
  go_end0
  exact ⟨rfl, rfl⟩
set_option maxRecDepth 100000 in
set_option maxHeartbeats 4000000 in
theorem way_leaf (l : List (BitVec 64)) (P : Nat → Nat → Nat) (i : Nat) (w : World) (hl : l.length ≤ 100000) (hi : i < l.length) (h : TreeAt w l P) :
    Calls Try.prog 27 #[treeV l.length P, .int .i64 i, .func (.func 44) #[] #[]] w fun e w' => e = .returned (encP (P 0 i)) ∧ Below w.heap.size w w' := by
  have e1 : topP l.length P = .pointer (some ⟨P (hgt l.length) 0, 0, none⟩) := by unfold topP encP; rw [if_neg (by omega)]
  unfold treeV
  rw [e1]
  go_enter Try.func27, Try.ntmps27
  have HT := Lib.hid h
  clear h
  have HXA : Hid (Ext w (w.alloc (.cells #[.int .i64 l.length, .int .i64 (hgt l.length), .pointer (some ⟨P (hgt l.length) 0, 0, none⟩)] 29))) := Ext.alloc _ _
  have hh := hgt_small hl
  go_wp2_with fail
  generalize w.alloc (.cells #[.int .i64 l.length, .int .i64 (hgt l.length), .pointer (some ⟨P (hgt l.length) 0, 0, none⟩)] 29) = wa at *
  go_loopw [7, 8] (fun p x wr => ∃ k : Nat, k ≤ hgt l.length ∧ x = .int .i64 k ∧ p = .pointer (some ⟨P k (i / 4 ^ k), 0, none⟩) ∧ Ext wa wr) (fun _ x _ => (intOf x).toNat)
  case atStart => exact ⟨hgt l.length, Nat.le_refl _, rfl, by rw [up_top hi], Ext.refl _⟩
  case round =>
    obtain ⟨k, hk, rfl, rfl, hx⟩ := hrel
    have HX := Lib.hid hx
    clear hx
    rcases k with _ | k
    · go_wp2_with fail
      go_ret
      exact ⟨by unfold encP; simp, HXA.out.trans HX.out⟩
    · obtain ⟨hp, b, off, m, c, hc1, hb, hkm, hc2⟩ := way_node (HT.out.ext (HXA.out.trans HX.out)) hi (show k < hgt l.length by omega)
      have hwk := way_kid i k
      have hkm2 : ((i / 4 ^ k % 4 : Nat) : Int) < (m : Int) := by omega
      generalize P (k + 1) (i / 4 ^ (k + 1)) = p at *
      generalize hP2 : P k (i / 4 ^ k) = p2 at *
      have HP2 := Lib.hid hP2
      clear hP2
      generalize hkid : i / 4 ^ k % 4 = kid at *
      have hk9 : kid ≤ 3 := by omega
      clear hkid
      go_wp2_with fail
      refine (visit_leaf _ _ _).mono ?_
      rintro e w2 ⟨rfl, rfl⟩
      go_wp2
      go_roundw
      case rel => exact ⟨k, by omega, by go_num, by rw [HP2.out], HX.out⟩
      case measure => simp [intOf]
/-- a sum is read -/
theorem leaf_any (l : List (BitVec 64)) (P : Nat → Nat → Nat) (i : Int) (w : World) (hl : l.length ≤ 100000) (h : TreeAt w l P) :
    Calls Try.prog 36 #[treeV l.length P, .int .i64 i] w fun e w' => e = .returned (if 0 ≤ i ∧ i < l.length then .tuple #[encU (l.getD i.toNat 0#64), .int .i64 0] else .tuple #[.int .u64 0, .int .i64 2]) ∧ Below w.heap.size w w' := by
  have HT := Lib.hid h
  clear h
  have HXA : Hid (Ext w (w.alloc (.cells #[.int .i64 l.length, .int .i64 (hgt l.length), topP l.length P] 29))) := Ext.alloc _ _
  have HBA : Hid (BoxAt (w.alloc (.cells #[.int .i64 l.length, .int .i64 (hgt l.length), topP l.length P] 29)) w.heap.size #[.int .i64 l.length, .int .i64 (hgt l.length), topP l.length P] 29) := BoxAt.new _ _ _
  have HTV : Hid (treeV l.length P = .agg #[.int .i64 l.length, .int .i64 (hgt l.length), topP l.length P]) := rfl
  have hX : (0 ≤ i ∧ i < l.length) ∨ ¬ (0 ≤ i ∧ i < l.length) := Decidable.em _
  rcases hX with hi | hi
  · rw [if_pos hi]
    have hdd : decide (0 ≤ i ∧ i < (l.length : Int)) = true := decide_eq_true hi
    obtain ⟨n, rfl⟩ := Int.eq_ofNat_of_zero_le hi.1
    have hin : n < l.length := by omega
    rw [Int.toNat_natCast]
    have HD := Lib.hid hdd
    obtain ⟨x, hx⟩ : ∃ x, l.getD n 0#64 = x := ⟨_, rfl⟩
    rw [hx]
    have HGX := Lib.hid hx
    clear hi hdd hx
    unfold treeV
    go_enter Try.func36, Try.ntmps36
    go_wp2_with fail
    generalize w.alloc (.cells #[.int .i64 l.length, .int .i64 (hgt l.length), topP l.length P] 29) = wa at *
    go_at_call 26
    refine (has_any l.length P (n : Int) _ hl).mono ?_
    rintro e w1 ⟨rfl, hb1⟩
    rw [HD.out]
    have HX1 : Hid (Ext wa w1) := hb1
    have hc0 := (HBA.out.ext hb1).cell 0 (v := .int .i64 l.length) rfl
    have hc1 := (HBA.out.ext hb1).cell 1 (v := .int .i64 (hgt l.length)) rfl
    have hc2 := (HBA.out.ext hb1).cell 2 (v := topP l.length P) rfl
    have hbl := (HBA.out.ext hb1).lt
    clear hb1
    go_wp2_with fail
    go_at_call 27
    refine (way_leaf l P n _ hl hin (HT.out.ext (HXA.out.trans HX1.out))).mono ?_
    rintro e w2 ⟨rfl, hb2⟩
    have HX2 : Hid (Ext w1 w2) := hb2
    obtain ⟨hp, hcp, _⟩ := ((HT.out.ext (HXA.out.trans (HX1.out.trans hb2))) 0 n (Nat.zero_le _) (by simpa [sz] using hin)).1
    simp only [lvl] at hcp
    rw [HGX.out] at hcp
    unfold encP
    generalize P 0 n = p at *
    clear hb2
    go_wp2_with fail
    go_ret2
    exact ⟨rfl, HXA.out.trans (HX1.out.trans HX2.out)⟩
  · rw [if_neg hi]
    have hdd : decide (0 ≤ i ∧ i < (l.length : Int)) = false := decide_eq_false hi
    have HD := Lib.hid hdd
    clear hi hdd
    unfold treeV
    go_enter Try.func36, Try.ntmps36
    go_wp2_with fail
    generalize w.alloc (.cells #[.int .i64 l.length, .int .i64 (hgt l.length), topP l.length P] 29) = wa at *
    go_at_call 26
    refine (has_any l.length P i _ hl).mono ?_
    rintro e w1 ⟨rfl, hb1⟩
    rw [HD.out]
    have HX1 : Hid (Ext wa w1) := hb1
    clear hb1
    go_wp2_with fail
    go_ret2
    exact ⟨rfl, HXA.out.trans HX1.out⟩
end Go.Proofs.Ytdhlikjdcnfkpaa
