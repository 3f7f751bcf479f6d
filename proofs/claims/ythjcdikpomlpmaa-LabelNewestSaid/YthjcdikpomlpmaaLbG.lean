/-
  Chapter 30 (label): Valid of the answer, whole.
-/
import Derived.Test.YthjcdikpomlpmaaLbF
namespace Go.Proofs.Ythjcdikpomlpmaa
open Go.RowKit
set_option linter.unusedVariables false

set_option maxRecDepth 100000 in
set_option maxHeartbeats 4000000 in
theorem rvalid_any (l : Lab) (dv : Value) (ds : List Bool) (w : World) (hl : ds.length ≤ 100000) (h : SliceAt Value.bool w dv ds) :
    Calls Try.prog 18 #[labV l dv] w (CfgEnd w (validL l ds)) := by
  by_cases hhd : (cfgB l.c && labHead l) = true
  · obtain ⟨ad, cap, rfl⟩ := h.shape
    have HS := Lib.hid h
    have hca : cfgB l.c = true := by rw [Bool.and_eq_true] at hhd; exact hhd.1
    have hla : labHead l = true := by rw [Bool.and_eq_true] at hhd; exact hhd.2
    have hcd : 4 ≤ l.c.d ∧ l.c.d ≤ 60 := by unfold cfgB cfgHead at hca; simp only [Bool.and_eq_true, decide_eq_true_eq] at hca; exact ⟨hca.1.1.1, hca.1.1.2.1⟩
    obtain ⟨X, hX⟩ : ∃ X, validL l ds = X := ⟨_, rfl⟩
    have hXe : X = decide ((ds.length : Int) = l.c.d ∧ deadN ds ds.length ≤ 3 ∧ ds.getD l.disk.toNat true = false ∧ 0 ≤ l.blob ∧ l.blob ≤ 1048576) := by rw [← hX]; unfold validL; rw [hhd, Bool.true_and]
    rw [hX]
    have HC := Lib.hid (rconfig_any l.c)
    rw [hca] at HC
    unfold labHead at hla
    rw [decide_eq_true_eq] at hla
    clear hX hhd hca h
    obtain ⟨array, disk, gen, prev, ⟨d, ww, t, s, r, b, k, cc, o, a, g⟩, blob, sum, root⟩ := l
    simp only at hla hXe HC hcd
    obtain ⟨h1, h2, h3, h4, h5⟩ := hla
    obtain ⟨dk, rfl⟩ := Int.eq_ofNat_of_zero_le h1
    have q1 : IntKind.i64.wrap (d - 1) = d - 1 := i64_id _ ⟨by omega, by omega⟩
    have q2 : wrap64 (d - 1) = d - 1 := IntWalk.wrap64_in _ ⟨by omega, by omega⟩
    have e1 : withinB (dk : Int) 0 (d - 1) = true := by unfold withinB; rw [decide_eq_true_eq]; omega
    have e3 : decide (un gen < 1) = false := by rw [decide_eq_false_iff_not]; omega
    have e4 : decide (4294967296 ≤ un gen) = false := by rw [decide_eq_false_iff_not]; omega
    have e5 : decide (un gen ≤ un prev) = false := by rw [decide_eq_false_iff_not]; omega
    rw [Int.toNat_natCast] at hXe
    clear h1 h3 h4 h5 hcd
    obtain ⟨n, hn⟩ : ∃ n, ds.length = n := ⟨_, rfl⟩
    obtain ⟨y, hy⟩ : ∃ y, ds.getD dk true = y := ⟨_, rfl⟩
    have HDL := Lib.hid (deadN_le ds)
    rw [hy] at hXe
    have hXe2 : X = decide ((n : Int) = d ∧ deadN ds n ≤ 3 ∧ y = false ∧ 0 ≤ blob ∧ blob ≤ 1048576) := by rw [hXe, hn]
    clear hXe
    have HNN := Lib.hid hn
    have HYY := Lib.hid hy
    rw [hn] at hl HS ⊢
    have hcond : (((n : Int) == d) = false ∧ X = false) ∨ ((n : Int) = d ∧ ((n : Int) == d) = true ∧ (y = true ∧ X = false ∨ y = false ∧ (withinB blob 0 1048576 = false ∧ X = false ∨ withinB blob 0 1048576 = true ∧ X = decide (deadN ds n ≤ 3)))) := by
      rw [hXe2]
      simp only [decide_eq_true_eq, decide_eq_false_iff_not, beq_iff_eq, beq_eq_false_iff_ne, withinB]
      by_cases q1 : (n : Int) = d
      · right
        refine ⟨q1, q1, ?_⟩
        cases y
        · right
          refine ⟨rfl, ?_⟩
          by_cases q3 : 0 ≤ blob ∧ blob ≤ 1048576
          · exact .inr ⟨q3, by simp [q1, q3]⟩
          · exact .inl ⟨q3, fun h => q3 h.2.2.2⟩
        · exact .inl ⟨rfl, by simp⟩
      · left; exact ⟨q1, by simp [q1]⟩
    clear hXe2 hn hy
    rcases hcond with ⟨k1, rfl⟩ | ⟨k0, k1, ⟨rfl, rfl⟩ | ⟨rfl, ⟨k4, rfl⟩ | ⟨k4, rfl⟩⟩⟩
    · have k1' : ((n : Int) != d) = true := by rw [bne, k1]; rfl
      go_enter Try.func18, Try.ntmps18
      go_wp2_with fail
      go_at_call 16
      refine (HC.out _).mono ?_
      rintro e w2 ⟨rfl, hb2⟩
      have HLB := (LabAt.of_box (BoxAt.new w (labA ⟨array, (dk : Int), gen, prev, ⟨d, ww, t, s, r, b, k, cc, o, a, g⟩, blob, sum, root⟩ (.slice ad n cap)) 29)).ext hb2
      have hx2 : Ext w w2 := (Ext.alloc _ _).trans hb2
      have c1 := HLB.cell0 1 (v := .int .i64 dk) rfl
      have c2 := HLB.cell0 2 (v := encU gen) rfl
      have c3 := HLB.cell0 3 (v := encU prev) rfl
      have c4 := HLB.cell0 4 (v := .int .i64 d) rfl
      have c15 := HLB.cell0 15 (v := .slice ad n cap) rfl
      have hlt := HLB.2
      clear hb2 HLB
      go_wp2_with (go_at_call 36; refine (within_any _ _ _ _).mono ?_; rintro e w' ⟨rfl, rfl⟩)
      go_ret
      exact ⟨rfl, hx2⟩
    all_goals
      obtain ⟨b', off', rfl, hb', hc'⟩ := HS.out.get dk (by rw [HNN.out]; omega)
      rw [← getD_in (d := true) (show dk < ds.length by rw [HNN.out]; omega), HYY.out] at hc'
      have hdkn : (dk : Int) < (n : Int) := by omega
      go_enter Try.func18, Try.ntmps18
      go_wp2_with fail
      go_at_call 16
      refine (HC.out _).mono ?_
      rintro e w2 ⟨rfl, hb2⟩
      have HLB := (LabAt.of_box (BoxAt.new w (labA ⟨array, (dk : Int), gen, prev, ⟨d, ww, t, s, r, b, k, cc, o, a, g⟩, blob, sum, root⟩ (.slice (some ⟨b', off', none⟩) n cap)) 29)).ext hb2
      have hx2 : Ext w w2 := (Ext.alloc _ _).trans hb2
      have hc2 : w2.cell? ⟨b', off' + dk, none⟩ = some (.bool _) := (Below.cell (p := ⟨b', off' + dk, none⟩) hx2 hb').trans hc'
      have HX2 := Lib.hid hx2
      have c1 := HLB.cell0 1 (v := .int .i64 dk) rfl
      have c2 := HLB.cell0 2 (v := encU gen) rfl
      have c3 := HLB.cell0 3 (v := encU prev) rfl
      have c4 := HLB.cell0 4 (v := .int .i64 d) rfl
      have c15 := HLB.cell0 15 (v := .slice (some ⟨b', off', none⟩) n cap) rfl
      have c16 := HLB.cell0 16 (v := .int .i64 blob) rfl
      have hlt := HLB.2
      clear hb2 HLB hx2 hc'
      go_wp2_with (go_at_call 36; refine (within_any _ _ _ _).mono ?_; rintro e w' ⟨rfl, rfl⟩)
    · go_ret
      exact ⟨rfl, HX2.out⟩
    · go_ret
      exact ⟨rfl, HX2.out⟩
    · clear hc2 c1 c2 c3 c4 c16
      go_loop [3, 4] (fun cv iv => ∃ i : Nat, i ≤ n ∧ iv = .int .i64 i ∧ cv = .int .i64 (deadN ds i : Nat)) (fun _ iv => n - (intOf iv).toNat)
      case atStart => exact ⟨0, Nat.zero_le _, rfl, by simp [deadN]⟩
      case round =>
        obtain ⟨i, hi, rfl, rfl⟩ := hrel
        by_cases hlt2 : i < n
        · have hin : (i : Int) < (n : Int) := by omega
          obtain ⟨b2, off2, hbe, hb, hc⟩ := (HS.out.ext HX2.out).get i (by rw [HNN.out]; exact hlt2)
          cases hbe
          have HD := Lib.hid (deadN_succ (l := ds) (n := i) (by rw [HNN.out]; exact hlt2))
          have hd2 := HDL.out i
          generalize ds[i]'(by rw [HNN.out]; exact hlt2) = y at *
          generalize deadN ds i = D at *
          cases y with
          | false =>
            go_wp2_with fail
            go_round
            case rel => exact ⟨i + 1, by omega, by go_num, by rw [HD.out]; simp⟩
            case measure => simp [intOf]; omega
          | true =>
            go_wp2_with fail
            go_round
            case rel => exact ⟨i + 1, by omega, by go_num, by rw [HD.out]; simp⟩
            case measure => simp [intOf]; omega
        · have hin : i = n := by omega
          subst hin
          have hin2 : ¬ ((i : Int) < (i : Int)) := by omega
          go_wp2_with fail
          go_ret
          exact ⟨ret_iff (by simp only [decide_eq_true_eq]; omega), HX2.out⟩
  · obtain ⟨ad, cap, hv⟩ := h.shape
    have hF : (cfgB l.c && labHead l) = false := by simpa using hhd
    have hX : validL l ds = false := by unfold validL; rw [hF, Bool.false_and]
    rw [hX]
    exact rvalid_head l dv ds.length ad cap w hv hF
end Go.Proofs.Ythjcdikpomlpmaa
