/-
  Chapter 25 (piecesum): lists compared: Bools of the reference.
-/
import Derived.Test.YtinnikbjphkkiaaPsC
namespace Go.Proofs.Ytinnikbjphkkiaa
open Go.RowKit
set_option linter.unusedVariables false

/-- equal lists, a word that the walk does not open -/
def eqL {α : Type} [DecidableEq α] (a b : List α) : Bool := decide (a = b)
theorem eqL_self {α : Type} [DecidableEq α] (a : List α) : eqL a a = true := by simp [eqL]
theorem eqL_len {α : Type} [DecidableEq α] {a b : List α} (h : a.length ≠ b.length) : eqL a b = false := by
  unfold eqL; rw [decide_eq_false_iff_not]; exact fun e => h (by rw [e])
theorem eqL_at {α : Type} [DecidableEq α] {a b : List α} {k : Nat} (h1 : k < a.length) (h2 : k < b.length) (h : a[k] ≠ b[k]) : eqL a b = false := by
  unfold eqL; rw [decide_eq_false_iff_not]; rintro rfl; exact h rfl
theorem eqL_all {α : Type} [DecidableEq α] {a b : List α} (hl : a.length = b.length) (h : a.take a.length = b.take a.length) : eqL a b = true := by
  unfold eqL; rw [decide_eq_true_eq]; rw [List.take_of_length_le (Nat.le_refl _), List.take_of_length_le (by omega)] at h; exact h
theorem take_next {α : Type} {a b : List α} {k : Nat} (h1 : k < a.length) (h2 : k < b.length) (h : a.take k = b.take k) (he : a[k] = b[k]) : a.take (k + 1) = b.take (k + 1) := by
  rw [List.take_succ_eq_append_getElem h1, List.take_succ_eq_append_getElem h2, h, he]

set_option maxHeartbeats 800000 in
theorem bools_any (va vb : Value) (la lb : List Bool) (w : World) (hla : la.length ≤ 100000) (hlb : lb.length ≤ 100000) (ha : SliceAt Value.bool w va la) (hb : SliceAt Value.bool w vb lb) :
    Calls Try.prog 17 #[va, vb] w fun e w' => e = .returned (.bool (eqL la lb)) ∧ Below w.heap.size w w' := by
  have HA := Lib.hid ha
  have HB := Lib.hid hb
  obtain ⟨ada, capa, rfl, _, _⟩ := ha
  obtain ⟨adb, capb, rfl, _, _⟩ := hb
  by_cases hl : la.length = lb.length
  · have HL := Lib.hid hl
    have hq : (la.length == lb.length) = true := by rw [beq_iff_eq]; exact hl
    have hq2 : ((la.length : Int) != (lb.length : Int)) = false := by rw [bne_eq_false_iff_eq]; omega
    have hq3 : (la.length != lb.length) = false := by rw [bne_eq_false_iff_eq]; exact hl
    clear hl
    go_enter Try.func17, Try.ntmps17
    go_wp2
    go_loopw [5] (fun i wr => ∃ k : Nat, k ≤ la.length ∧ i = .int .i64 k ∧ la.take k = lb.take k ∧ Ext w wr) (fun i _ => la.length - (intOf i).toNat)
    case atStart => exact ⟨0, by omega, rfl, rfl, Ext.refl _⟩
    case round =>
      obtain ⟨k, hk, rfl, ht, hx⟩ := hrel
      have HT := Lib.hid ht
      have HX := Lib.hid hx
      have hxc := hx.cells
      have hxs := hx.size
      clear ht
      by_cases hlt : k < la.length
      · have hlt2 : k < lb.length := by have := HL.out; omega
        obtain ⟨b1, o1, rfl, hb1, e1⟩ := HA.out.get k hlt
        obtain ⟨b2, o2, rfl, hb2, e2⟩ := HB.out.get k hlt2
        have f1 := (hx.cell b1 _ hb1).trans e1
        have f2 := (hx.cell b2 _ hb2).trans e2
        have hbr1 : b1 < wr.heap.size := by omega
        have hbr2 : b2 < wr.heap.size := by omega
        have HNX : Hid (la[k] = lb[k] → la.take (k + 1) = lb.take (k + 1)) := Lib.hid (take_next hlt hlt2 HT.out)
        have HNO : Hid (la[k] ≠ lb[k] → eqL la lb = false) := Lib.hid (eqL_at hlt hlt2)
        generalize la[k] = x at *
        generalize lb[k] = y at *
        clear e1 e2 hxc
        by_cases hxy : x = y
        · have HXY := Lib.hid hxy
          have hn : (x != y) = false := by rw [bne_eq_false_iff_eq]; exact hxy
          have hn1 : (x == y) = true := by rw [beq_iff_eq]; exact hxy
          have hn2 : (!x == y) = false := by rw [hxy]; cases y <;> rfl
          clear hxy
          go_wp2_with fail
          refine wp_region_ext [(0, true), (1, true), (2, true), (3, true), (4, true), (5, true), (6, true), (7, true), (8, true)] (by kernel_rfl) (by kernel_rfl) ?_
          iterate 9 (first
           | (refine ext_move rfl rfl (by rfl) (by rfl) ?_; simp only [Act.put, List.setIfInBounds_toArray, List.set_cons_zero, List.set_cons_succ])
           | (refine ext_assign rfl rfl (by rfl) (by rfl) ?_; simp only [Act.put, List.setIfInBounds_toArray, List.set_cons_zero, List.set_cons_succ])
           | (refine ext_pick_t rfl rfl (by rfl) (by rfl) (by rfl) ?_; simp only [Act.put, List.setIfInBounds_toArray, List.set_cons_zero, List.set_cons_succ])
           | (refine ext_pick_f rfl rfl (by rfl) (by rfl) (by rfl) ?_; simp only [Act.put, List.setIfInBounds_toArray, List.set_cons_zero, List.set_cons_succ])
           | (apply ext_take rfl (by rfl)
              · intro w' hS
                have hSc := hS.cells
                (try simp only [World.size_drew, World.cell?_drew] at hSc)
                go_simp
                (try simp (disch := omega) only [i64_id, u64_id, ↓IntWalk.iteOmega, Int.tdiv_eq_ediv_of_nonneg, Int.tmod_eq_emod_of_nonneg])
                try rfl
              simp only [Act.put, List.setIfInBounds_toArray, List.set_cons_zero, List.set_cons_succ])
           | (refine ext_pass rfl (by rfl) ?_; simp only [Act.put, List.setIfInBounds_toArray, List.set_cons_zero, List.set_cons_succ]))
          refine ext_nil ?_
          go_wp2_with fail
          go_roundw
          case rel => exact ⟨k + 1, by omega, by go_num, HNX.out HXY.out, HX.out.trans (Ext.drew _)⟩
          case measure => simp [intOf]; omega
        · have HXY := Lib.hid hxy
          have hn : (x != y) = true := by rw [bne_iff_ne]; exact hxy
          have hn1 : (x == y) = false := by rw [beq_eq_false_iff_ne]; exact hxy
          have hn2 : (!x == y) = true := by revert hxy; cases x <;> cases y <;> simp
          clear hxy
          go_wp2_with fail
          refine wp_region_ext [(0, true), (1, true), (2, true), (3, true), (4, true), (5, true), (6, true), (7, true), (8, true)] (by kernel_rfl) (by kernel_rfl) ?_
          iterate 9 (first
           | (refine ext_move rfl rfl (by rfl) (by rfl) ?_; simp only [Act.put, List.setIfInBounds_toArray, List.set_cons_zero, List.set_cons_succ])
           | (refine ext_assign rfl rfl (by rfl) (by rfl) ?_; simp only [Act.put, List.setIfInBounds_toArray, List.set_cons_zero, List.set_cons_succ])
           | (refine ext_pick_t rfl rfl (by rfl) (by rfl) (by rfl) ?_; simp only [Act.put, List.setIfInBounds_toArray, List.set_cons_zero, List.set_cons_succ])
           | (refine ext_pick_f rfl rfl (by rfl) (by rfl) (by rfl) ?_; simp only [Act.put, List.setIfInBounds_toArray, List.set_cons_zero, List.set_cons_succ])
           | (apply ext_take rfl (by rfl)
              · intro w' hS
                have hSc := hS.cells
                (try simp only [World.size_drew, World.cell?_drew] at hSc)
                go_simp
                (try simp (disch := omega) only [i64_id, u64_id, ↓IntWalk.iteOmega, Int.tdiv_eq_ediv_of_nonneg, Int.tmod_eq_emod_of_nonneg])
                try rfl
              simp only [Act.put, List.setIfInBounds_toArray, List.set_cons_zero, List.set_cons_succ])
           | (refine ext_pass rfl (by rfl) ?_; simp only [Act.put, List.setIfInBounds_toArray, List.set_cons_zero, List.set_cons_succ]))
          refine ext_nil ?_
          go_wp2_with fail
          go_ret
          exact ⟨ret_bool (HNO.out HXY.out).symm, HX.out.trans (Ext.drew _)⟩
      · have hkl : k = la.length := by omega
        have HF : Hid (eqL la lb = true) := eqL_all HL.out (by rw [← hkl]; exact HT.out)
        clear hkl
        go_wp2_with fail
        go_ret
        exact ⟨ret_bool HF.out.symm, HX.out⟩
  · have HF := Lib.hid (eqL_len hl)
    have hq3 : (la.length != lb.length) = true := by rw [bne_iff_ne]; exact hl
    have hq2 : ((la.length : Int) != (lb.length : Int)) = true := by rw [bne_iff_ne]; omega
    clear hl
    go_enter Try.func17, Try.ntmps17
    go_wp2
    go_ret
    exact ⟨ret_bool HF.out.symm, Below.refl _ _⟩
end Go.Proofs.Ytinnikbjphkkiaa
