/-
  Chapter 30 (label): Valid of the answer.
-/
import Derived.Test.YthjcdikpomlpmaaLbE
namespace Go.Proofs.Ythjcdikpomlpmaa
open Go.RowKit
set_option linter.unusedVariables false

set_option maxRecDepth 100000 in
set_option maxHeartbeats 2000000 in
theorem rvalid_head (l : Lab) (dv : Value) (n : Nat) (ad : Option Addr) (cap : Nat) (w : World) (hv : dv = .slice ad n cap) (hno : (cfgB l.c && labHead l) = false) :
    Calls Try.prog 18 #[labV l dv] w (CfgEnd w false) := by
  subst hv
  have HC := Lib.hid (rconfig_any l.c)
  obtain ⟨X, hX⟩ : ∃ X, cfgB l.c = X := ⟨_, rfl⟩
  have HCD : X = true → 4 ≤ l.c.d ∧ l.c.d ≤ 60 := fun h => by rw [← hX] at h; unfold cfgB cfgHead at h; simp only [Bool.and_eq_true, decide_eq_true_eq] at h; exact ⟨h.1.1.1, h.1.1.2.1⟩
  rw [hX] at HC hno
  have hcond : X = false ∨ X = true ∧ IntKind.i64.wrap (l.c.d - 1) = l.c.d - 1 ∧ wrap64 (l.c.d - 1) = l.c.d - 1 ∧ (withinB l.disk 0 (l.c.d - 1) = false ∨ withinB l.disk 0 (l.c.d - 1) = true ∧ (decide (un l.gen < 1) = true ∨ decide (un l.gen < 1) = false ∧ (decide (4294967296 ≤ un l.gen) = true ∨ decide (4294967296 ≤ un l.gen) = false ∧ decide (un l.gen ≤ un l.prev) = true))) := by
    cases X with
    | false => exact .inl rfl
    | true =>
      right
      obtain ⟨hd1, hd2⟩ := HCD rfl
      rw [Bool.true_and] at hno
      unfold labHead at hno
      rw [decide_eq_false_iff_not] at hno
      refine ⟨rfl, i64_id _ ⟨by omega, by omega⟩, IntWalk.wrap64_in _ ⟨by omega, by omega⟩, ?_⟩
      simp only [withinB, decide_eq_true_eq, decide_eq_false_iff_not]
      omega
  clear hno hX HCD
  obtain ⟨array, disk, gen, prev, ⟨d, ww, t, s, r, b, k, cc, o, a, g⟩, blob, sum, root⟩ := l
  simp only at hcond HC
  rcases hcond with rfl | ⟨rfl, q1, q2, e1 | ⟨e1, e3 | ⟨e3, e4 | ⟨e4, e5⟩⟩⟩⟩
  all_goals
    go_enter Try.func18, Try.ntmps18
    go_wp2_with fail
    go_at_call 16
    refine (HC.out _).mono ?_
    rintro e w2 ⟨rfl, hb2⟩
    have HLB := (LabAt.of_box (BoxAt.new w (labA ⟨array, disk, gen, prev, ⟨d, ww, t, s, r, b, k, cc, o, a, g⟩, blob, sum, root⟩ (.slice ad n cap)) 29)).ext hb2
    have hx2 : Ext w w2 := (Ext.alloc _ _).trans hb2
    have c1 := HLB.cell0 1 (v := .int .i64 disk) rfl
    have c2 := HLB.cell0 2 (v := encU gen) rfl
    have c3 := HLB.cell0 3 (v := encU prev) rfl
    have c4 := HLB.cell0 4 (v := .int .i64 d) rfl
    have hlt := HLB.2
    clear hb2 HLB
    go_wp2_with (go_at_call 36; refine (within_any _ _ _ _).mono ?_; rintro e w' ⟨rfl, rfl⟩)
    go_ret
    exact ⟨rfl, hx2⟩
end Go.Proofs.Ythjcdikpomlpmaa
