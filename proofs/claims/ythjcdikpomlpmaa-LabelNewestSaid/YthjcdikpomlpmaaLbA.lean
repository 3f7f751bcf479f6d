/-
  Chapter 30 (label): configurations: ValidConfig of both packages.
-/
import Derived.Test.YthjcdikpomlpmaaCut
import Derived.Test.YthjcdikpomlpmaaKit
import Derived.WalkSpells
import Derived.WalkLawsBesides
import Derived.Deep.DeepCutAuto
namespace Go.Proofs.Ythjcdikpomlpmaa
open Go.RowKit
set_option linter.unusedVariables false

abbrev geoV (r b t s o : Int) : Value := .agg #[.int .i64 r, .int .i64 b, .int .i64 t, .int .i64 s, .int .i64 o]
def validB (r b t s o : Int) : Bool := decide (0 ≤ r ∧ r ≤ 16384 ∧ 1 ≤ b ∧ b ≤ 64 ∧ 1 ≤ t ∧ t ≤ 16 ∧ 1 ≤ s ∧ s ≤ 64 ∧ 0 ≤ o ∧ o ≤ 3)
def withinB (n lo hi : Int) : Bool := decide (lo ≤ n ∧ n ≤ hi)
theorem gwithin_any (n lo hi : Int) (w : World) :
    Calls Try.prog 56 #[.int .i64 n, .int .i64 lo, .int .i64 hi] w fun e w' => e = .returned (.bool (withinB n lo hi)) ∧ w = w' := by
  go_enter Try.func56, Try.ntmps56
  go_wp2
  all_goals go_ret
  all_goals exact ⟨ret_iff (by simp only [withinB, Bool.and_eq_true, decide_eq_true_eq, Bool.false_eq_true]; constructor <;> intro h <;> first | exact False.elim h | omega), rfl⟩
theorem within_any (n lo hi : Int) (w : World) :
    Calls Try.prog 36 #[.int .i64 n, .int .i64 lo, .int .i64 hi] w fun e w' => e = .returned (.bool (withinB n lo hi)) ∧ w = w' := by
  go_enter Try.func36, Try.ntmps36
  go_wp2
  all_goals go_ret
  all_goals exact ⟨ret_iff (by simp only [withinB, Bool.and_eq_true, decide_eq_true_eq, Bool.false_eq_true]; constructor <;> intro h <;> first | exact False.elim h | omega), rfl⟩
set_option maxHeartbeats 400000 in
theorem gvalid_any (r b t s o : Int) (w : World) :
    Calls Try.prog 35 #[geoV r b t s o] w fun e w' => e = .returned (.bool (validB r b t s o)) ∧ Below w.heap.size w w' := by
  go_enter Try.func35, Try.ntmps35
  go_wp2_with (go_at_call 56; refine (gwithin_any _ _ _ _).mono ?_; rintro e w' ⟨rfl, rfl⟩)
  all_goals go_ret
  all_goals exact ⟨ret_iff (by simp only [withinB, validB, Bool.and_eq_true, decide_eq_true_eq, Bool.false_eq_true] at *; constructor <;> intro h <;> first | exact False.elim h | omega), (Below.refl _ _).alloc (Nat.le_refl _) _⟩
set_option maxHeartbeats 400000 in
theorem rgvalid_any (r b t s o : Int) (w : World) :
    Calls Try.prog 37 #[geoV r b t s o] w fun e w' => e = .returned (.bool (validB r b t s o)) ∧ Below w.heap.size w w' := by
  go_enter Try.func37, Try.ntmps37
  go_wp2
  all_goals go_ret
  all_goals exact ⟨ret_iff (by simp only [validB, Bool.and_eq_true, decide_eq_true_eq, Bool.false_eq_true] at *; constructor <;> intro h <;> first | exact False.elim h | omega), (Below.refl _ _).alloc (Nat.le_refl _) _⟩

/-- a configuration: disks, width, tiles, spare; random, bands, tracks, sectors, overlap; area, log -/
structure Cfg where
  d : Int
  w : Int
  t : Int
  s : Int
  r : Int
  b : Int
  k : Int
  c : Int
  o : Int
  a : Int
  g : Int
def cfgL (c : Cfg) : List Int := [c.d, c.w, c.t, c.s, c.r, c.b, c.k, c.c, c.o, c.a, c.g]
abbrev cfgV (c : Cfg) : Value := .agg #[.int .i64 c.d, .int .i64 c.w, .int .i64 c.t, .int .i64 c.s, .int .i64 c.r, .int .i64 c.b, .int .i64 c.k, .int .i64 c.c, .int .i64 c.o, .int .i64 c.a, .int .i64 c.g]
def cfgHead (c : Cfg) : Bool := decide (4 ≤ c.d ∧ c.d ≤ 60 ∧ 4 ≤ c.w ∧ c.w ≤ 16 ∧ c.w ≤ c.d ∧ 1 ≤ c.t ∧ c.t ≤ 256 ∧ 0 ≤ c.s ∧ c.s ≤ 65535)
def cfgB (c : Cfg) : Bool := cfgHead c && validB c.r c.b c.k c.c c.o && decide (1 ≤ c.a ∧ 1 ≤ c.g ∧ c.a ≤ c.r ∧ c.g ≤ c.r ∧ 12 + 2 * c.a + c.g ≤ c.r)

def CfgEnd (W : World) (b : Bool) (e : Ending) (w' : World) : Prop := e = .returned (.bool b) ∧ Below W.heap.size W w'
set_option maxRecDepth 100000 in
set_option maxHeartbeats 2000000 in
theorem config_any (c : Cfg) (w : World) : Calls Try.prog 15 #[cfgV c] w (CfgEnd w (cfgB c)) := by
  obtain ⟨d, ww, t, s, r, b, k, cc, o, a, g⟩ := c
  obtain ⟨V, hV⟩ : ∃ V, validB r b k cc o = V := ⟨_, rfl⟩
  have HV := Lib.hid hV
  have HB : Hid (cfgB ⟨d, ww, t, s, r, b, k, cc, o, a, g⟩ = (decide (4 ≤ d ∧ d ≤ 60 ∧ 4 ≤ ww ∧ ww ≤ 16 ∧ ww ≤ d ∧ 1 ≤ t ∧ t ≤ 256 ∧ 0 ≤ s ∧ s ≤ 65535) && V && decide (1 ≤ a ∧ 1 ≤ g ∧ a ≤ r ∧ g ≤ r ∧ 12 + 2 * a + g ≤ r))) := by show _ = _; unfold cfgB cfgHead; rw [hV]
  rw [HB.out]
  have HR : Hid (V = true → r ≤ 16384) := fun h => by rw [← hV] at h; unfold validB at h; rw [decide_eq_true_eq] at h; exact h.2.1
  clear hV
  by_cases hh : 4 ≤ d ∧ d ≤ 60 ∧ 4 ≤ ww ∧ ww ≤ 16 ∧ ww ≤ d ∧ 1 ≤ t ∧ t ≤ 256 ∧ 0 ≤ s ∧ s ≤ 65535
  · rw [decide_eq_true hh]
    obtain ⟨h1, h2, h3, h4, h5, h6, h7, h8, h9⟩ := hh
    have e1 : decide (d ≤ 3) = false := by rw [decide_eq_false_iff_not]; omega
    have e2 : decide (60 < d) = false := by rw [decide_eq_false_iff_not]; omega
    have e3 : decide (ww ≤ 3) = false := by rw [decide_eq_false_iff_not]; omega
    have e4 : decide (16 < ww) = false := by rw [decide_eq_false_iff_not]; omega
    have e5 : decide (d < ww) = false := by rw [decide_eq_false_iff_not]; omega
    have e6 : decide (t < 1) = false := by rw [decide_eq_false_iff_not]; omega
    have e7 : decide (256 < t) = false := by rw [decide_eq_false_iff_not]; omega
    have e8 : decide (s < 0) = false := by rw [decide_eq_false_iff_not]; omega
    have e9 : decide (65536 ≤ s) = false := by rw [decide_eq_false_iff_not]; omega
    go_enter Try.func15, Try.ntmps15
    go_wp2_with fail
    go_at_call 35
    have hg := gvalid_any r b k cc o
    rw [HV.out] at hg
    refine (hg _).mono ?_
    rintro e w2 ⟨rfl, hb2⟩
    have hx2 : Ext w w2 := (Ext.alloc _ _).trans hb2
    have hc2 := Ext.cells hb2
    have hs2 := Ext.size hb2
    cases V with
    | false =>
      go_wp2_with fail
      go_ret
      exact ⟨rfl, hx2⟩
    | true =>
      have hr := HR.out rfl
      go_wp2
      all_goals go_ret
      all_goals exact ⟨ret_iff (by simp only [Bool.and_eq_true, decide_eq_true_eq, Bool.false_eq_true, true_and, Bool.true_and] at *; constructor <;> intro h <;> first | exact False.elim h | omega), hx2⟩
  · rw [decide_eq_false hh]
    go_enter Try.func15, Try.ntmps15
    go_wp2_with fail
    all_goals first | (go_at_call 35; exfalso; exact hh (by omega)) | skip
    all_goals go_ret
    all_goals exact ⟨rfl, (Below.refl _ _).alloc (Nat.le_refl _) _⟩
set_option maxRecDepth 100000 in
set_option maxHeartbeats 2000000 in
theorem rconfig_any (c : Cfg) (w : World) : Calls Try.prog 16 #[cfgV c] w (CfgEnd w (cfgB c)) := by
  obtain ⟨d, ww, t, s, r, b, k, cc, o, a, g⟩ := c
  obtain ⟨V, hV⟩ : ∃ V, validB r b k cc o = V := ⟨_, rfl⟩
  have HV := Lib.hid hV
  obtain ⟨X, hX⟩ : ∃ X, cfgB ⟨d, ww, t, s, r, b, k, cc, o, a, g⟩ = X := ⟨_, rfl⟩
  have HB : Hid (X = (decide (4 ≤ d ∧ d ≤ 60 ∧ 4 ≤ ww ∧ ww ≤ 16 ∧ ww ≤ d ∧ 1 ≤ t ∧ t ≤ 256 ∧ 0 ≤ s ∧ s ≤ 65535) && V && decide (1 ≤ a ∧ 1 ≤ g ∧ a ≤ r ∧ g ≤ r ∧ 12 + 2 * a + g ≤ r))) := by show _ = _; rw [← hX]; unfold cfgB cfgHead; rw [hV]
  rw [hX]
  have HR : Hid (V = true → r ≤ 16384) := fun h => by rw [← hV] at h; unfold validB at h; rw [decide_eq_true_eq] at h; exact h.2.1
  clear hV hX
  by_cases hh : 4 ≤ d ∧ d ≤ 60 ∧ 4 ≤ ww ∧ ww ≤ 16 ∧ ww ≤ d ∧ 1 ≤ t ∧ t ≤ 256 ∧ 0 ≤ s ∧ s ≤ 65535
  · rw [decide_eq_true hh] at HB
    obtain ⟨h1, h2, h3, h4, h5, h6, h7, h8, h9⟩ := hh
    have e1 : withinB d 4 60 = true := decide_eq_true (by omega)
    have e2 : withinB ww 4 16 = true := decide_eq_true (by omega)
    have e5 : decide (d < ww) = false := by rw [decide_eq_false_iff_not]; omega
    have e6 : withinB t 1 256 = true := decide_eq_true (by omega)
    have e7 : withinB s 0 65535 = true := decide_eq_true (by omega)
    go_enter Try.func16, Try.ntmps16
    go_wp2_with (go_at_call 36; refine (within_any _ _ _ _).mono ?_; rintro e w' ⟨rfl, rfl⟩)
    go_at_call 37
    have hg := rgvalid_any r b k cc o
    rw [HV.out] at hg
    refine (hg _).mono ?_
    rintro e w2 ⟨rfl, hb2⟩
    have hx2 : Ext w w2 := (Ext.alloc _ _).trans hb2
    have hc2 := Ext.cells hb2
    have hs2 := Ext.size hb2
    clear hg
    cases V with
    | false =>
      have hXF : X = false := HB.out
      subst hXF
      go_wp2_with fail
      go_ret
      exact ⟨rfl, hx2⟩
    | true =>
      have hr := HR.out rfl
      by_cases ha : 1 ≤ a ∧ a ≤ 16384
      · have f1 : withinB a 1 16384 = true := decide_eq_true ha
        obtain ⟨ha1, ha2⟩ := ha
        by_cases hg : 1 ≤ g ∧ g ≤ 16384
        · have f2 : withinB g 1 16384 = true := decide_eq_true hg
          obtain ⟨hg1, hg2⟩ := hg
          have hE : X = decide (12 + 2 * a + g ≤ r) := by
            rw [HB.out, Bool.and_self, Bool.true_and]
            exact decide_eq_decide.2 ⟨fun h => h.2.2.2.2, fun h => ⟨ha1, hg1, by omega, by omega, h⟩⟩
          subst hE
          go_wp2_with (go_at_call 36; refine (within_any _ _ _ _).mono ?_; rintro e w' ⟨rfl, rfl⟩)
          all_goals go_ret
          all_goals exact ⟨ret_iff (by simp only [decide_eq_true_eq]), hx2⟩
        · have f2 : withinB g 1 16384 = false := decide_eq_false hg
          have hE : X = false := by
            rw [HB.out, Bool.and_self, Bool.true_and, decide_eq_false_iff_not]
            omega
          subst hE
          clear hg
          go_wp2_with (go_at_call 36; refine (within_any _ _ _ _).mono ?_; rintro e w' ⟨rfl, rfl⟩)
          all_goals go_ret
          all_goals exact ⟨rfl, hx2⟩
      · have f1 : withinB a 1 16384 = false := decide_eq_false ha
        have hE : X = false := by
          rw [HB.out, Bool.and_self, Bool.true_and, decide_eq_false_iff_not]
          omega
        subst hE
        clear ha
        go_wp2_with (go_at_call 36; refine (within_any _ _ _ _).mono ?_; rintro e w' ⟨rfl, rfl⟩)
        all_goals go_ret
        all_goals exact ⟨rfl, hx2⟩
  · rw [decide_eq_false hh, Bool.false_and, Bool.false_and] at HB
    have hXF : X = false := HB.out
    subst hXF
    have hcond : withinB d 4 60 = false ∨ withinB d 4 60 = true ∧ (withinB ww 4 16 = false ∨ withinB ww 4 16 = true ∧ (decide (d < ww) = true ∨ decide (d < ww) = false ∧ (withinB t 1 256 = false ∨ withinB t 1 256 = true ∧ withinB s 0 65535 = false))) := by
      simp only [withinB, decide_eq_true_eq, decide_eq_false_iff_not]
      omega
    clear hh HB HR
    rcases hcond with e1 | ⟨e1, e2 | ⟨e2, e3 | ⟨e3, e4 | ⟨e4, e5⟩⟩⟩⟩
    all_goals
      go_enter Try.func16, Try.ntmps16
      go_wp2_with (go_at_call 36; refine (within_any _ _ _ _).mono ?_; rintro e w' ⟨rfl, rfl⟩)
      go_ret
      exact ⟨rfl, (Below.refl _ _).alloc (Nat.le_refl _) _⟩
end Go.Proofs.Ythjcdikpomlpmaa
