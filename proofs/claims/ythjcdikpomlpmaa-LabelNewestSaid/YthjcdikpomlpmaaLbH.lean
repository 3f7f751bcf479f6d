/-
  Chapter 30 (label): configurations compared; labels compared.
-/
import Derived.Test.YthjcdikpomlpmaaLbG
namespace Go.Proofs.Ythjcdikpomlpmaa
open Go.RowKit
set_option linter.unusedVariables false

/-- equal configurations, a word that the walk does not open -/
def eqCfg (a b : Cfg) : Bool := decide (cfgL a = cfgL b)
theorem run_eq_cfg (a b : Cfg) (w : World) : (Op.equalIn 10000 26 (cfgV a) (cfgV b)).run Try.prog w = .ok (eqCfg a b) w := by
  have h : eqCfg a b = (a.d == b.d && a.w == b.w && a.t == b.t && a.s == b.s && a.r == b.r && a.b == b.b && a.k == b.k && a.c == b.c && a.o == b.o && a.a == b.a && a.g == b.g) := by
    unfold eqCfg cfgL
    rw [Bool.eq_iff_iff]
    simp only [decide_eq_true_eq, List.cons.injEq, Bool.and_eq_true, beq_iff_eq, and_true, and_assoc]
  rw [h]
  obtain ⟨d, ww, t, s, r, b', k, cc, o, a', g⟩ := a
  obtain ⟨d2, ww2, t2, s2, r2, b2, k2, cc2, o2, a2, g2⟩ := b
  simp only
  clear h
  go_simp
  repeat' split
  all_goals simp_all
/-- equal lists of Bools, a word that the walk does not open -/
def eqD (x y : List Bool) : Bool := decide (x = y)
theorem eqD_len {x y : List Bool} (h : x.length ≠ y.length) : eqD x y = false := by unfold eqD; rw [decide_eq_false_iff_not]; intro e; exact h (by rw [e])
theorem eqD_at {x y : List Bool} {i : Nat} (hx : i < x.length) (hy : i < y.length) (h : x[i] ≠ y[i]) : eqD x y = false := by unfold eqD; rw [decide_eq_false_iff_not]; intro e; subst e; exact h rfl
theorem eqD_all {x y : List Bool} (h : x.length = y.length) (ha : x.take x.length = y.take x.length) : eqD x y = true := by
  unfold eqD; rw [decide_eq_true_eq]
  rwa [List.take_length, h, List.take_length] at ha
theorem take_next {x y : List Bool} {i : Nat} (hx : i < x.length) (hy : i < y.length) (h : x.take i = y.take i) (he : x[i] = y[i]) : x.take (i + 1) = y.take (i + 1) := by
  rw [List.take_succ_eq_append_getElem hx, List.take_succ_eq_append_getElem hy, h, he]
def BoolEnd (w0 : World) (b : Bool) (e : Ending) (w' : World) : Prop := e = .returned (.bool b) ∧ Ext w0 w'
set_option maxRecDepth 100000 in
set_option maxHeartbeats 1000000 in
theorem eqsl_any (v1 v2 : Value) (x y : List Bool) (w : World) (hlx : x.length ≤ 100000) (hly : y.length ≤ 100000) (hx : SliceAt Value.bool w v1 x) (hy : SliceAt Value.bool w v2 y) :
    Calls Try.prog 39 #[v1, v2] w (BoolEnd w (eqD x y)) := by
  obtain ⟨ad1, cap1, rfl⟩ := hx.shape
  obtain ⟨ad2, cap2, rfl⟩ := hy.shape
  have HX := Lib.hid hx
  have HY := Lib.hid hy
  obtain ⟨n, hn⟩ : ∃ n, x.length = n := ⟨_, rfl⟩
  obtain ⟨m, hm⟩ : ∃ m, y.length = m := ⟨_, rfl⟩
  have HN := Lib.hid hn
  have HM := Lib.hid hm
  rw [hn] at HX hlx ⊢
  rw [hm] at HY hly ⊢
  clear hx hy hn hm
  by_cases hnm : n = m
  · subst hnm
    have hq1 : ((n : Int) == n) = true := by simp
    have hq2 : ((n : Int) != n) = false := by simp
    have HX0 : Hid (Ext w w) := Ext.refl _
    go_enter Try.func39, Try.ntmps39
    go_wp2_with fail
    go_loopw [13] (fun iv wr => ∃ i : Nat, i ≤ n ∧ iv = .int .i64 i ∧ Hid (x.take i = y.take i) ∧ Hid (Ext w wr)) (fun iv _ => n - (intOf iv).toNat)
    case atStart => exact ⟨0, Nat.zero_le _, rfl, by show _ = _; simp, HX0⟩
    case round =>
      obtain ⟨i, hi, rfl, HT, HXr⟩ := hrel
      by_cases hlt : i < n
      · have hin : (i : Int) < (n : Int) := by omega
        have hi0 : (0 : Int) ≤ (i : Int) := by omega
        obtain ⟨b1, off1, rfl, hb1, hc1⟩ := (HX.out.ext HXr.out).get i (by rw [HN.out]; exact hlt)
        obtain ⟨b2, off2, rfl, hb2, hc2⟩ := (HY.out.ext HXr.out).get i (by rw [HM.out]; exact hlt)
        have HNE : Hid (x[i]'(by rw [HN.out]; exact hlt) ≠ y[i]'(by rw [HM.out]; exact hlt) → eqD x y = false) := fun h => eqD_at _ _ h
        have HEQ : Hid (x[i]'(by rw [HN.out]; exact hlt) = y[i]'(by rw [HM.out]; exact hlt) → x.take (i + 1) = y.take (i + 1)) := fun h => take_next _ _ HT.out h
        generalize x[i]'(by rw [HN.out]; exact hlt) = p at *
        generalize y[i]'(by rw [HM.out]; exact hlt) = q at *
        cases p <;> cases q
        all_goals
          go_wp2_with fail
          refine wp_region_ext [(0, true), (1, true), (2, true), (3, true), (4, true), (5, true), (6, true), (7, true), (8, true)] (by kernel_rfl) (by kernel_rfl) ?_
          iterate 9 (first
           | (refine ext_move rfl rfl (by rfl) (by rfl) ?_; simp only [Act.put, List.setIfInBounds_toArray, List.set_cons_zero, List.set_cons_succ])
           | (refine ext_assign rfl rfl (by rfl) (by rfl) ?_; simp only [Act.put, List.setIfInBounds_toArray, List.set_cons_zero, List.set_cons_succ])
           | (refine ext_pick_t rfl rfl (by rfl) (by rfl) (by rfl) ?_; simp only [Act.put, List.setIfInBounds_toArray, List.set_cons_zero, List.set_cons_succ])
           | (refine ext_pick_f rfl rfl (by rfl) (by rfl) (by rfl) ?_; simp only [Act.put, List.setIfInBounds_toArray, List.set_cons_zero, List.set_cons_succ])
           | (apply ext_take rfl (by rfl)
              · intro w' hS
                have hSc := hS.cells
                (try simp only [World.size_drew, World.cell?_drew] at hSc)
                go_simp
                (try simp (disch := omega) only [i64_id, u64_id, ↓IntWalk.iteOmega, Int.tdiv_eq_ediv_of_nonneg, Int.tmod_eq_emod_of_nonneg])
                try rfl
              simp only [Act.put, List.setIfInBounds_toArray, List.set_cons_zero, List.set_cons_succ])
           | (refine ext_pass rfl (by rfl) ?_; simp only [Act.put, List.setIfInBounds_toArray, List.set_cons_zero, List.set_cons_succ]))
          refine ext_nil ?_
          go_wp2_with fail
        · go_roundw
          case rel => exact ⟨i + 1, by omega, by go_num, HEQ.out (by simp), HXr.out.trans (Ext.drew _)⟩
          case measure => simp [intOf]; omega
        · rw [HNE.out (by simp)]
          go_ret
          exact ⟨rfl, HXr.out.trans (Ext.drew _)⟩
        · rw [HNE.out (by simp)]
          go_ret
          exact ⟨rfl, HXr.out.trans (Ext.drew _)⟩
        · go_roundw
          case rel => exact ⟨i + 1, by omega, by go_num, HEQ.out (by simp), HXr.out.trans (Ext.drew _)⟩
          case measure => simp [intOf]; omega
      · have hin : i = n := by omega
        subst hin
        have hin2 : ¬ ((i : Int) < (i : Int)) := by omega
        go_wp2_with fail
        go_ret
        exact ⟨by rw [eqD_all (HN.out.trans HM.out.symm) (by rw [HN.out]; exact HT.out)]; rfl, HXr.out⟩
  · have hb1 : ((n : Int) == m) = false := by rw [beq_eq_false_iff_ne]; omega
    have hb2 : ((n : Int) != m) = true := by rw [bne, hb1]; rfl
    rw [eqD_len (by rw [HN.out, HM.out]; exact hnm)]
    go_enter Try.func39, Try.ntmps39
    go_wp2_with fail
    go_ret
    exact ⟨rfl, Ext.refl _⟩
end Go.Proofs.Ythjcdikpomlpmaa
