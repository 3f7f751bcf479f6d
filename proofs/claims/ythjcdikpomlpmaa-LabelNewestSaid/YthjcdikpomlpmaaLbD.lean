/-
  Chapter 30 (label): Valid.
-/
import Derived.Test.YthjcdikpomlpmaaLbC
namespace Go.Proofs.Ythjcdikpomlpmaa
open Go.RowKit
set_option linter.unusedVariables false

/-- what Valid asks of the numbers ahead of the list -/
def labHead (l : Lab) : Bool := decide (0 ≤ l.disk ∧ l.disk < l.c.d ∧ 1 ≤ un l.gen ∧ un l.gen ≤ 4294967295 ∧ un l.prev < un l.gen)
def validL (l : Lab) (ds : List Bool) : Bool := cfgB l.c && labHead l && decide ((ds.length : Int) = l.c.d ∧ deadN ds ds.length ≤ 3 ∧ ds.getD l.disk.toNat true = false ∧ 0 ≤ l.blob ∧ l.blob ≤ 1048576)

set_option maxRecDepth 100000 in
set_option maxHeartbeats 2000000 in
theorem valid_head (l : Lab) (dv : Value) (n : Nat) (ad : Option Addr) (cap : Nat) (w : World) (hv : dv = .slice ad n cap) (hno : (cfgB l.c && labHead l) = false) :
    Calls Try.prog 17 #[labV l dv] w (CfgEnd w false) := by
  subst hv
  have HC := Lib.hid (config_any l.c)
  obtain ⟨X, hX⟩ : ∃ X, cfgB l.c = X := ⟨_, rfl⟩
  rw [hX] at HC hno
  have hcond : X = false ∨ X = true ∧ (decide (l.disk < 0) = true ∨ decide (l.disk < 0) = false ∧ (decide (l.c.d ≤ l.disk) = true ∨ decide (l.c.d ≤ l.disk) = false ∧ (decide (un l.gen < 1) = true ∨ decide (un l.gen < 1) = false ∧ (decide (4294967295 < un l.gen) = true ∨ decide (4294967295 < un l.gen) = false ∧ decide (un l.gen ≤ un l.prev) = true)))) := by
    cases X with
    | false => exact .inl rfl
    | true =>
      right
      rw [Bool.true_and] at hno
      unfold labHead at hno
      rw [decide_eq_false_iff_not] at hno
      simp only [decide_eq_true_eq, decide_eq_false_iff_not, true_and]
      omega
  clear hno hX
  obtain ⟨array, disk, gen, prev, ⟨d, ww, t, s, r, b, k, cc, o, a, g⟩, blob, sum, root⟩ := l
  simp only at hcond HC
  rcases hcond with rfl | ⟨rfl, e1 | ⟨e1, e2 | ⟨e2, e3 | ⟨e3, e4 | ⟨e4, e5⟩⟩⟩⟩⟩
  all_goals
    go_enter Try.func17, Try.ntmps17
    go_wp2_with fail
    go_at_call 15
    refine (HC.out _).mono ?_
    rintro e w2 ⟨rfl, hb2⟩
    have HBX := (BoxAt.new w (labA ⟨array, disk, gen, prev, ⟨d, ww, t, s, r, b, k, cc, o, a, g⟩, blob, sum, root⟩ (.slice ad n cap)) 29).ext hb2
    have hx2 : Ext w w2 := (Ext.alloc _ _).trans hb2
    have c1 := HBX.cell 1 (v := .int .i64 disk) rfl
    have c2 := HBX.cell 2 (v := encU gen) rfl
    have c3 := HBX.cell 3 (v := encU prev) rfl
    have c4 := HBX.cell 4 (v := .int .i64 d) rfl
    have hlt := HBX.lt
    clear hb2 HBX
    go_wp2_with fail
    go_ret
    exact ⟨rfl, hx2⟩
end Go.Proofs.Ythjcdikpomlpmaa
