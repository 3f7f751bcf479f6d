/-
  Chapter 26 (sumtree): Diff of the reference for all lists; lists compared; the walk of SumtreeDiff.
-/
import Derived.Test.YtdhlikjdcnfkpaaStT
namespace Go.Proofs.Ytdhlikjdcnfkpaa
open Go.RowKit
set_option linter.unusedVariables false

theorem diffL_len (a b : List (BitVec 64)) : (diffL a b).length ≤ a.length := Nat.le_trans (List.length_filter_le _ _) (by simp)
theorem diffO_len {a b : List (BitVec 64)} {n : Nat} (h : a.length ≤ n) : ((diffO a b).getD []).length ≤ n := by
  unfold diffO
  split
  · exact Nat.le_trans (diffL_len a b) h
  · simp
set_option maxRecDepth 100000 in
theorem rdiff_any (va vb : Value) (la lb : List (BitVec 64)) (w : World) (hl : la.length ≤ 100000) (ha : SliceAt encU w va la) (hb : SliceAt encU w vb lb) :
    Calls Try.prog 21 #[va, vb] w (DiffEndO w (diffO la lb)) := by
  by_cases hab : la.length = lb.length
  · have HE : diffO la lb = some (diffL la lb) := if_pos hab
    rw [HE]
    refine (rdiff_in va vb la lb w hl hab ha hb).mono ?_
    rintro e w' ⟨v', rfl, hs, hx⟩
    exact ⟨v', rfl, hs, hx⟩
  · have HE : Hid (diffO la lb = none) := if_neg hab
    obtain ⟨aa, ca, rfl⟩ := ha.shape
    obtain ⟨ab, cb, rfl⟩ := hb.shape
    have hnl : ((la.length : Int) != (lb.length : Int)) = true := by rw [bne_iff_ne]; omega
    have hnl2 : ((la.length : Int) == (lb.length : Int)) = false := by rw [beq_eq_false_iff_ne]; omega
    clear hab ha hb
    go_enter Try.func21, Try.ntmps21
    go_wp2_with fail
    go_ret2
    rw [HE.out]
    exact ⟨_, rfl, SliceAt.nil, Below.refl _ _⟩

set_option maxRecDepth 100000 in
set_option maxHeartbeats 2000000 in
theorem sumtreeDiff_walk (va vb : Value) (la lb : List (BitVec 64)) (w : World) (hma : la.length ≤ maxLen) (hmb : lb.length ≤ maxLen) (ha : SliceAt encU w va la) (hb : SliceAt encU w vb lb) :
    Calls Try.prog 7 #[va, vb] w fun e w' => e = .returned (.bool true) ∧ Below w.heap.size w w' := by
  obtain ⟨aa, ca, rfl⟩ := ha.shape
  obtain ⟨ab, cb, rfl⟩ := hb.shape
  have HA := Lib.hid ha
  have HB := Lib.hid hb
  clear ha hb
  unfold maxLen at hma hmb
  go_enter Try.func7, Try.ntmps7
  go_wp2_with fail
  go_at_call 11
  refine (awake_any _).mono ?_
  rintro e w1 ⟨rfl, hb1⟩
  have HX1 : Hid (Ext w w1) := hb1
  clear hb1
  by_cases hc : la.length ≤ 100 ∧ lb.length ≤ 100
  · obtain ⟨hl, hl2⟩ := hc
    have hd : decide ((100 : Int) < (la.length : Int)) = false := by rw [decide_eq_false_iff_not]; omega
    have hd2 : decide ((100 : Int) < (lb.length : Int)) = false := by rw [decide_eq_false_iff_not]; omega
    go_wp2_with fail
    go_at_call 13
    refine (build_any _ la _ (by omega) (HA.out.ext HX1.out)).mono ?_
    rintro e w2 ⟨P, rfl, ht, hb2⟩
    obtain ⟨ap, hTP⟩ := treeV_ptr la.length P
    have HTP := Lib.hid hTP
    rw [hTP]
    have HX2 : Hid (Ext w w2) := HX1.out.trans hb2
    have HT2 := Lib.hid ht
    clear ht hb2 hTP
    go_wp2_with fail
    go_at_call 13
    refine (build_any _ lb _ (by omega) (HB.out.ext HX2.out)).mono ?_
    rintro e w3 ⟨Q, rfl, ht, hb3⟩
    obtain ⟨aq, hTQ⟩ := treeV_ptr lb.length Q
    have HTQ := Lib.hid hTQ
    rw [hTQ]
    have HX3 : Hid (Ext w w3) := HX2.out.trans hb3
    have HT3 := Lib.hid (HT2.out.ext hb3)
    have HU3 := Lib.hid ht
    clear ht hb3 hTQ HT2
    go_wp2_with fail
    go_at_call 20
    have hdf := Diff_any la lb P Q w3 (by omega) (by omega) HT3.out HU3.out
    rw [HTP.out, HTQ.out] at hdf
    obtain ⟨o, ho⟩ : ∃ o, diffO la lb = o := ⟨_, rfl⟩
    have HOo := Lib.hid ho
    have hol := diffO_len (a := la) (b := lb) hl
    rw [ho] at hdf hol
    refine hdf.mono ?_
    rintro e w4 ⟨v4, rfl, hs4, hb4⟩
    have HX4 : Hid (Ext w w4) := HX3.out.trans hb4
    have HS4 := Lib.hid hs4
    obtain ⟨a4, c4, rfl⟩ := hs4.shape
    obtain ⟨x, hx⟩ : ∃ x : Int, (if o.isSome then (0 : Int) else 1) = x := ⟨_, rfl⟩
    rw [hx]
    have HEx := Lib.hid hx
    clear hdf hb4 hs4 ho hx
    go_wp2_with fail
    go_at_call 21
    have hpr := rdiff_any (.slice aa la.length ca) (.slice ab lb.length cb) la lb w4 (by omega) (HA.out.ext HX4.out) (HB.out.ext HX4.out)
    rw [HOo.out] at hpr
    refine hpr.mono ?_
    rintro e w5 ⟨v5, rfl, hs5, hb5⟩
    rw [HEx.out]
    have HX5 : Hid (Ext w w5) := HX4.out.trans hb5
    have HS5 := Lib.hid hs5
    have HS45 := Lib.hid (HS4.out.ext hb5)
    obtain ⟨a5, c5, rfl⟩ := hs5.shape
    have hxx : (x == x) = true := by simp
    have hxn : (x != x) = false := by simp
    clear hpr hb5 hs5 HS4
    generalize o.getD [] = q at *
    have hqq : ((q.length : Int) != (q.length : Int)) = false := by simp
    go_wp2_with fail
    go_loopw [9] (fun xt wr => ∃ t : Nat, t ≤ q.length ∧ xt = .int .i64 t ∧ Hid (Ext w5 wr)) (fun xt _ => q.length - (intOf xt).toNat)
    case atStart => exact ⟨0, Nat.zero_le _, rfl, Lib.hid (Ext.refl _)⟩
    case round =>
      obtain ⟨t, ht, rfl, HXr⟩ := hrel
      by_cases htm : t < q.length
      · have hin : (t : Int) < (q.length : Int) := by omega
        obtain ⟨b1, o1, rfl, hb1, hc1⟩ := (HS45.out.ext HXr.out).get t htm
        obtain ⟨b2, o2, rfl, hb2, hc2⟩ := (HS5.out.ext HXr.out).get t htm
        unfold encN at hc1 hc2
        have hyy : ((q[t] : Int) != (q[t] : Int)) = false := by simp
        generalize q[t] = y at *
        have HX6 : Hid (Ext w5 wr.drew) := HXr.out.trans (Ext.drew _)
        go_wp2_with fail
        refine wp_region_ext [(0, true), (1, true), (2, true), (3, true), (4, true), (5, true), (6, true), (7, true), (8, true)] (by kernel_rfl) (by kernel_rfl) ?_
        iterate 9 (first
         | (refine ext_move rfl rfl (by rfl) (by rfl) ?_; simp only [Act.put, List.setIfInBounds_toArray, List.set_cons_zero, List.set_cons_succ])
         | (refine ext_assign rfl rfl (by rfl) (by rfl) ?_; simp only [Act.put, List.setIfInBounds_toArray, List.set_cons_zero, List.set_cons_succ])
         | (refine ext_pick_t rfl rfl (by rfl) (by rfl) (by rfl) ?_; simp only [Act.put, List.setIfInBounds_toArray, List.set_cons_zero, List.set_cons_succ])
         | (refine ext_pick_f rfl rfl (by rfl) (by rfl) (by rfl) ?_; simp only [Act.put, List.setIfInBounds_toArray, List.set_cons_zero, List.set_cons_succ])
         | (apply ext_take rfl (by rfl)
            · intro w' hS
              have hSc := hS.cells
              (try simp only [World.size_drew, World.cell?_drew] at hSc)
              go_simp
              (try simp (disch := omega) only [i64_id, u64_id, ↓IntWalk.iteOmega, Int.tdiv_eq_ediv_of_nonneg, Int.tmod_eq_emod_of_nonneg])
              try rfl
            simp only [Act.put, List.setIfInBounds_toArray, List.set_cons_zero, List.set_cons_succ])
         | (refine ext_pass rfl (by rfl) ?_; simp only [Act.put, List.setIfInBounds_toArray, List.set_cons_zero, List.set_cons_succ]))
        refine ext_nil ?_
        go_wp2_with fail
        go_roundw
        case rel => exact ⟨t + 1, by omega, by go_num, HX6⟩
        case measure => simp [intOf]; omega
      · have htm : t = q.length := by omega
        subst htm
        have hin : ¬ ((q.length : Int) < (q.length : Int)) := by omega
        go_wp2_with fail
        go_ret
        exact ⟨rfl, HX5.out.trans HXr.out⟩
  · have hcond : (¬ la.length ≤ 100 ∧ decide ((100 : Int) < (la.length : Int)) = true) ∨ (la.length ≤ 100 ∧ decide ((100 : Int) < (la.length : Int)) = false ∧ decide ((100 : Int) < (lb.length : Int)) = true) := by
      simp only [decide_eq_true_eq, decide_eq_false_iff_not]
      omega
    clear hc
    rcases hcond with ⟨_, hd⟩ | ⟨_, hd, hd2⟩
    all_goals
      go_wp2_with fail
      go_at_call 11
      refine (awake_any _).mono ?_
      rintro e w3 ⟨rfl, hb3⟩
      have HX3 : Hid (Ext w1 w3) := hb3
      clear hb3
      go_wp2_with fail
      go_ret
      exact ⟨rfl, HX1.out.trans HX3.out⟩
end Go.Proofs.Ytdhlikjdcnfkpaa
