/-
  Chapter 26 (sumtree): the walk of SumtreeSet.
-/
import Derived.Test.YtdhlikjdcnfkpaaStN
namespace Go.Proofs.Ytdhlikjdcnfkpaa
open Go.RowKit
set_option linter.unusedVariables false

set_option maxRecDepth 100000 in
set_option maxHeartbeats 2000000 in
theorem sumtreeSet_walk (vl : Value) (l : List (BitVec 64)) (i : Int) (x : BitVec 64) (w : World) (hi : I64 i) (hm : l.length ≤ maxLen) (h : SliceAt encU w vl l) :
    Calls Try.prog 8 #[vl, .int .i64 i, encU x] w fun e w' => e = .returned (.bool true) ∧ Below w.heap.size w w' := by
  obtain ⟨j0, hj, hj0, hj1, hj2⟩ := info_parts infoU
  obtain ⟨ad, cap, rfl⟩ := h.shape
  have HS := Lib.hid h
  clear h
  unfold maxLen at hm
  go_enter Try.func8, Try.ntmps8
  go_wp2_with fail
  go_at_call 11
  refine (awake_any _).mono ?_
  rintro e w1 ⟨rfl, hb1⟩
  have HX1 : Hid (Ext w w1) := hb1
  clear hb1
  by_cases hl : l.length ≤ 100
  · have hd : decide ((100 : Int) < (l.length : Int)) = false := by rw [decide_eq_false_iff_not]; omega
    go_wp2_with fail
    go_at_call 13
    refine (build_any _ l _ (by omega) (HS.out.ext HX1.out)).mono ?_
    rintro e w2 ⟨P, rfl, ht, hb2⟩
    obtain ⟨ap, hTV⟩ := treeV_ptr l.length P
    have HTV := Lib.hid hTV
    rw [hTV]
    have e3 : Ext w2 (w2.alloc (.cells #[.int .i64 l.length, .int .i64 (hgt l.length), .pointer ap] 29)) := Ext.alloc _ _
    have HX3 : Hid (Ext w (w2.alloc (.cells #[.int .i64 l.length, .int .i64 (hgt l.length), .pointer ap] 29))) := HX1.out.trans (Ext.trans hb2 e3)
    have HB3 : Hid (BoxAt (w2.alloc (.cells #[.int .i64 l.length, .int .i64 (hgt l.length), .pointer ap] 29)) w2.heap.size #[.int .i64 l.length, .int .i64 (hgt l.length), .pointer ap] 29) := BoxAt.new _ _ _
    have HT3 := Lib.hid (ht.ext e3)
    clear ht hb2 hTV e3
    go_wp2_with fail
    generalize w2.alloc (.cells #[.int .i64 l.length, .int .i64 (hgt l.length), .pointer ap] 29) = w3 at *
    generalize w2.heap.size = gT at *
    go_at_call 22
    have hno : (0 ≤ i ∧ i < l.length) ∨ ¬ (0 ≤ i ∧ i < l.length) := Decidable.em _
    rcases hno with hc | hc
    · obtain ⟨k, rfl⟩ := Int.eq_ofNat_of_zero_le hc.1
      have hk : k < l.length := by omega
      have hkl : (k : Int) < (l.length : Int) := by omega
      have hd2 : decide ((k : Int) < 0) = false := by rw [decide_eq_false_iff_not]; omega
      have hd3 : decide ((l.length : Int) ≤ (k : Int)) = false := by rw [decide_eq_false_iff_not]; omega
      have hd4 : decide (l.length ≤ k) = false := by rw [decide_eq_false_iff_not]; omega
      have hse := Set_any l P k x w3 (by omega) hk HT3.out
      rw [HTV.out] at hse
      clear hc
      refine hse.mono ?_
      rintro e w4 ⟨N, rfl, hu, hNf, hb4⟩
      obtain ⟨aq, hTQ⟩ := treeV_ptr l.length (newP P k N)
      have HTQ := Lib.hid hTQ
      rw [hTQ]
      have HX4 : Hid (Ext w3 w4) := hb4
      have e5 : Ext w4 (w4.alloc (.cells #[.int .i64 l.length, .int .i64 (hgt l.length), .pointer aq] 29)) := Ext.alloc _ _
      have HX5 : Hid (Ext w3 (w4.alloc (.cells #[.int .i64 l.length, .int .i64 (hgt l.length), .pointer aq] 29))) := HX4.out.trans e5
      have HU5 := Lib.hid (hu.ext e5)
      have HQ5 : Hid (BoxAt (w4.alloc (.cells #[.int .i64 l.length, .int .i64 (hgt l.length), .pointer aq] 29)) w4.heap.size #[.int .i64 l.length, .int .i64 (hgt l.length), .pointer aq] 29) := BoxAt.new _ _ _
      clear hu hNf hb4 hTQ e5 hse
      go_upto_region 5 with fail
      generalize w4.alloc (.cells #[.int .i64 l.length, .int .i64 (hgt l.length), .pointer aq] 29) = w5 at *
      generalize w4.heap.size = gQ at *
      go_wp2_with (at_builtin; refine Classical.byContradiction (fun hN => ?_))
      refine hN ?_
      clear hN
      have e6 : Ext w5 (w5.alloc (.cells #[] 34)) := Ext.alloc _ _
      refine wpList_append_u64 rfl _ _ 22 rfl 34 j0 8 Try.underlying22 hj hj0 hj1 hj2 w5.heap.size w5.heap.size rfl (BoxAt.new _ _ _) (Nat.le_refl _) e6.size _ l rfl (HS.out.ext ((HX3.out.trans HX5.out).trans e6)) (by unfold maxLen; omega) (by omega) ?_
      intro g c w6 ho6 hx6 hi6 hg6 hgl6
      have HX6 : Hid (Ext w5 w6) := e6.trans hx6
      have hck := ho6.at rfl (k := k) hk
      have hfk := ho6.frees rfl k
      have HO7 : Hid (OwnG encU 34 (w6.setCell ⟨g, k, none⟩ (encU x)) w5.heap.size (.slice (some ⟨g, 0, none⟩) l.length c) (l.set k x)) := ho6.put rfl k x
      have HX7 : Hid (Ext w5 (w6.setCell ⟨g, k, none⟩ (encU x))) := bel_set HX6.out hg6 _ _
      clear e6 ho6 hx6 hi6 hg6
      go_upto_region 9 with fail
      generalize w6.setCell ⟨g, k, none⟩ (encU x) = w7 at *
      have HB7 := Lib.hid (HB3.out.ext (HX5.out.trans HX7.out))
      have HQ7 := Lib.hid (HQ5.out.ext HX7.out)
      have hq0 := HQ7.out.cell 0 (v := .int .i64 l.length) rfl
      have hq1 := HQ7.out.cell 1 (v := .int .i64 (hgt l.length)) rfl
      have hq2 := HQ7.out.cell 2 (v := .pointer aq) rfl
      have hql := HQ7.out.lt
      go_wp2_with fail
      go_at_call 19
      have hst := same_true (.slice (some ⟨g, 0, none⟩) l.length c) (l.set k x) (newP P k N) w7 (by rw [List.length_set]; omega) (HU5.out.ext HX7.out) HO7.out.slice
      rw [List.length_set, HTQ.out] at hst
      refine hst.mono ?_
      rintro e w8 ⟨rfl, hb8⟩
      have HX8 : Hid (Ext w7 w8) := hb8
      have HB8 := Lib.hid (HB7.out.ext hb8)
      have hc0 := HB8.out.cell 0 (v := .int .i64 l.length) rfl
      have hc1 := HB8.out.cell 1 (v := .int .i64 (hgt l.length)) rfl
      have hc2 := HB8.out.cell 2 (v := .pointer ap) rfl
      have hcl := HB8.out.lt
      clear hb8 hst hq0 hq1 hq2 hql
      go_wp2_with fail
      go_at_call 19
      have HX38 : Hid (Ext w3 w8) := HX5.out.trans (HX7.out.trans HX8.out)
      have hst := same_true (.slice ad l.length cap) l P w8 (by omega) (HT3.out.ext HX38.out) (HS.out.ext (HX3.out.trans HX38.out))
      rw [HTV.out] at hst
      refine hst.mono ?_
      rintro e w9 ⟨rfl, hb9⟩
      have HX9 : Hid (Ext w w9) := HX3.out.trans (HX38.out.trans hb9)
      clear hb9 hst
      go_wp2_with fail
      go_ret
      exact ⟨rfl, HX9.out⟩
    · have hse := Set_no l P i x w3 (by omega) hc
      rw [HTV.out] at hse
      have HC := Lib.hid hc
      clear hc
      refine hse.mono ?_
      rintro e w4 ⟨rfl, hb4⟩
      have e5 : Ext w4 (w4.alloc (.cells #[.int .i64 0, .int .i64 0, .pointer none] 29)) := Ext.alloc _ _
      have HX5 : Hid (Ext w3 (w4.alloc (.cells #[.int .i64 0, .int .i64 0, .pointer none] 29))) := Ext.trans hb4 e5
      have HQ5 : Hid (BoxAt (w4.alloc (.cells #[.int .i64 0, .int .i64 0, .pointer none] 29)) w4.heap.size #[.int .i64 0, .int .i64 0, .pointer none] 29) := BoxAt.new _ _ _
      clear hb4 e5 hse
      have hcond : (i < 0 ∧ decide (i < 0) = true) ∨ (¬ i < 0 ∧ decide (i < 0) = false ∧ decide ((l.length : Int) ≤ i) = true) := by
        by_cases h : i < 0
        · exact .inl ⟨h, decide_eq_true h⟩
        · exact .inr ⟨h, decide_eq_false h, by rw [decide_eq_true_eq]; have := HC.out; omega⟩
      rcases hcond with ⟨_, hd2⟩ | ⟨_, hd2, hd3⟩
      all_goals
        go_wp2_with fail
        generalize w4.alloc (.cells #[.int .i64 0, .int .i64 0, .pointer none] 29) = w5 at *
        go_at_call 19
        have hst := same_true (.slice none 0 0) [] (fun _ _ => 0) w5 (by simp) (tree_empty _ _) SliceAt.nil
        rw [show ([] : List (BitVec 64)).length = 0 from rfl, tree_nilV] at hst
        refine hst.mono ?_
        rintro e w6 ⟨rfl, hb6⟩
        have HX6 : Hid (Ext w3 w6) := HX5.out.trans hb6
        have HB6 := Lib.hid (HB3.out.ext HX6.out)
        have hc0 := HB6.out.cell 0 (v := .int .i64 l.length) rfl
        have hc1 := HB6.out.cell 1 (v := .int .i64 (hgt l.length)) rfl
        have hc2 := HB6.out.cell 2 (v := .pointer ap) rfl
        have hcl := HB6.out.lt
        clear hb6 hst
        go_wp2_with fail
        go_at_call 19
        have hst := same_true (.slice ad l.length cap) l P w6 (by omega) (HT3.out.ext HX6.out) (HS.out.ext (HX3.out.trans HX6.out))
        rw [HTV.out] at hst
        refine hst.mono ?_
        rintro e w9 ⟨rfl, hb9⟩
        have HX9 : Hid (Ext w w9) := HX3.out.trans (HX6.out.trans hb9)
        clear hb9 hst
        go_wp2_with fail
        go_ret
        exact ⟨rfl, HX9.out⟩
  · have hd : decide ((100 : Int) < (l.length : Int)) = true := by rw [decide_eq_true_eq]; omega
    go_wp2_with fail
    go_at_call 11
    refine (awake_any _).mono ?_
    rintro e w3 ⟨rfl, hb3⟩
    have HX3 : Hid (Ext w1 w3) := hb3
    clear hb3
    go_wp2_with fail
    go_ret
    exact ⟨rfl, HX1.out.trans HX3.out⟩
end Go.Proofs.Ytdhlikjdcnfkpaa
