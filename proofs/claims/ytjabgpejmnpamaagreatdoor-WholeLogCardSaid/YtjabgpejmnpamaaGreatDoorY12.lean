/-
  Part 12 of the proof.
-/
import Derived.Test.YtjabgpejmnpamaaGreatDoorY09
set_option linter.unusedVariables false
namespace Go.Proofs.YtjabgpejmnpamaaGreatDoor
open Go.RowKit
set_option maxRecDepth 100000 in
set_option maxHeartbeats 4000000 in
theorem valid_any (l : Lab) (dv : Value) (ds : List Bool) (w : World) (hl : ds.length ≤ 100000) (h : SliceAt Value.bool w dv ds) :
    Calls Tryz.prog 30 #[labV l dv] w (CfgEnd w (validL l ds)) := by
  by_cases hhd : (cfgB l.c && labHead l) = true
  · obtain ⟨ad, cap, rfl⟩ := h.shape
    have HS := Lib.hid h
    have hca : cfgB l.c = true := by rw [Bool.and_eq_true] at hhd; exact hhd.1
    have hla : labHead l = true := by rw [Bool.and_eq_true] at hhd; exact hhd.2
    obtain ⟨X, hX⟩ : ∃ X, validL l ds = X := ⟨_, rfl⟩
    have hXe : X = decide ((ds.length : Int) = l.c.d ∧ deadN ds ds.length ≤ 3 ∧ ds.getD l.disk.toNat true = false ∧ 0 ≤ l.blob ∧ l.blob ≤ 1048576) := by rw [← hX]; unfold validL; rw [hhd, Bool.true_and]
    rw [hX]
    have HC := Lib.hid (config_any l.c)
    rw [hca] at HC
    have HDN := Lib.hid fun w' (e : Ext w w') => dead_any l _ ds w' hl (h.ext e)
    unfold labHead at hla
    rw [decide_eq_true_eq] at hla
    clear hX hhd hca h
    obtain ⟨array, disk, gen, prev, ⟨d, ww, t, s, r, b, k, cc, o, a, g⟩, blob, sum, root⟩ := l
    simp only at hla hXe HC
    obtain ⟨h1, h2, h3, h4, h5⟩ := hla
    obtain ⟨dk, rfl⟩ := Int.eq_ofNat_of_zero_le h1
    have e1 : decide ((dk : Int) < 0) = false := by rw [decide_eq_false_iff_not]; omega
    have e2 : decide (d ≤ (dk : Int)) = false := by rw [decide_eq_false_iff_not]; omega
    have e3 : decide (un gen < 1) = false := by rw [decide_eq_false_iff_not]; omega
    have e4 : decide (4294967295 < un gen) = false := by rw [decide_eq_false_iff_not]; omega
    have e5 : decide (un gen ≤ un prev) = false := by rw [decide_eq_false_iff_not]; omega
    rw [Int.toNat_natCast] at hXe
    clear h1 h3 h4 h5
    obtain ⟨n, hn⟩ : ∃ n, ds.length = n := ⟨_, rfl⟩
    obtain ⟨D, hD⟩ : ∃ D, deadN ds ds.length = D := ⟨_, rfl⟩
    have hDn : D ≤ n := by rw [← hD, ← hn]; exact deadN_le _ _
    obtain ⟨y, hy⟩ : ∃ y, ds.getD dk true = y := ⟨_, rfl⟩
    rw [hD] at hXe HDN
    rw [hy, hn] at hXe
    have HNN := Lib.hid hn
    have HYY := Lib.hid hy
    rw [hn] at hl HS HDN ⊢
    have HXE := Lib.hid hXe
    have hcond : (((n : Int) == d) = false ∧ X = false) ∨ ((n : Int) = d ∧ ((n : Int) == d) = true ∧ (decide ((D : Int) ≤ 3) = false ∧ X = false ∨ decide ((D : Int) ≤ 3) = true ∧ (y = true ∧ X = false ∨ y = false ∧ (decide (0 ≤ blob) = false ∧ X = false ∨ decide (0 ≤ blob) = true ∧ decide (blob ≤ 1048576) = X)))) := by
      rw [hXe]
      simp only [decide_eq_true_eq, decide_eq_false_iff_not, beq_iff_eq, beq_eq_false_iff_ne]
      by_cases q1 : (n : Int) = d
      · by_cases q2 : D ≤ 3
        · cases y
          · by_cases q3 : 0 ≤ blob
            · right; exact ⟨q1, q1, .inr ⟨by omega, .inr ⟨rfl, .inr ⟨q3, by simp [q1, q2, q3]⟩⟩⟩⟩
            · right; exact ⟨q1, q1, .inr ⟨by omega, .inr ⟨rfl, .inl ⟨q3, by simp [q3]⟩⟩⟩⟩
          · right; exact ⟨q1, q1, .inr ⟨by omega, .inl ⟨rfl, by simp⟩⟩⟩
        · right; exact ⟨q1, q1, .inl ⟨by omega, by simp [q2]⟩⟩
      · left; exact ⟨q1, by simp [q1]⟩
    clear hXe hn hD hy HXE
    rcases hcond with ⟨k1, rfl⟩ | ⟨k0, k1, ⟨k2, rfl⟩ | ⟨k2, ⟨rfl, rfl⟩ | ⟨rfl, ⟨k4, rfl⟩ | ⟨k4, k5⟩⟩⟩⟩
    all_goals
      go_enter Tryz.func30, Tryz.ntmps30
      go_wp2_with fail
      go_at_call 69
      refine (HC.out _).mono ?_
      rintro e w2 ⟨rfl, hb2⟩
      have HLB := (LabAt.of_box (BoxAt.new w (labA ⟨array, (dk : Int), gen, prev, ⟨d, ww, t, s, r, b, k, cc, o, a, g⟩, blob, sum, root⟩ (.slice ad n cap)) 29)).ext hb2
      have hx2 : Ext w w2 := (Ext.alloc _ _).trans hb2
      have HBB := Lib.hid HLB
      have HX2 := Lib.hid hx2
      have c1 := HLB.cell0 1 (v := .int .i64 dk) rfl
      have c2 := HLB.cell0 2 (v := encU gen) rfl
      have c3 := HLB.cell0 3 (v := encU prev) rfl
      have c4 := HLB.cell0 4 (v := .int .i64 d) rfl
      have c15 := HLB.cell0 15 (v := .slice ad n cap) rfl
      have hlt := HLB.2
      clear hb2 HLB hx2
      go_wp2_with (refine wpList_loadR 29 _ rfl (by rfl) rfl HBB.out.load ?_)
    · go_ret
      exact ⟨rfl, HX2.out⟩
    all_goals
      go_at_call 70
      refine (HDN.out _ HX2.out).mono ?_
      rintro e w3 ⟨rfl, hb3⟩
      have HX3 : Hid (Ext w w3) := HX2.out.trans hb3
      have HLB := HBB.out.ext hb3
      obtain ⟨b', off', rfl, hb', hc'⟩ := (HS.out.ext HX3.out).get dk (by rw [HNN.out]; omega)
      rw [← getD_in (d := true) (show dk < ds.length by rw [HNN.out]; omega), HYY.out] at hc'
      clear c1 c2 c3 c4 c15 hlt
      have hdkn : (dk : Int) < (n : Int) := by omega
      have c1 := HLB.cell0 1 (v := .int .i64 dk) rfl
      have c15 := HLB.cell0 15 (v := .slice (some ⟨b', off', none⟩) n cap) rfl
      have c16 := HLB.cell0 16 (v := .int .i64 blob) rfl
      have hlt := HLB.2
      clear hb3 HLB
      go_wp2_with fail
      go_ret
      exact ⟨by first | rfl | rw [k5], HX3.out⟩
  · obtain ⟨ad, cap, hv⟩ := h.shape
    have hF : (cfgB l.c && labHead l) = false := by simpa using hhd
    have hX : validL l ds = false := by unfold validL; rw [hF, Bool.false_and]
    rw [hX]
    exact valid_head l dv ds.length ad cap w hv hF
end Go.Proofs.YtjabgpejmnpamaaGreatDoor
