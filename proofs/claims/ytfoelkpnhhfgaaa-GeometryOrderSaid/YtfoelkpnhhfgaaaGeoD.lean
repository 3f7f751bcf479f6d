/-
  Chapter 10 (geometry): the comparison of two lists.
-/
import Derived.Test.YtfoelkpnhhfgaaaGeoC
namespace Go.Proofs.Ytfoelkpnhhfgaaa
open Go.RowKit
set_option linter.unusedVariables false

set_option maxHeartbeats 800000 in
theorem ints_any (va vb : Value) (xs ys : List Int) (w : World) (ha : SliceAt encI w va xs) (hb : SliceAt encI w vb ys) (hla : xs.length ≤ maxLen) (hlb : ys.length ≤ maxLen) :
    Calls Try.prog 17 #[va, vb] w fun e w' => e = .returned (.bool (decide (xs = ys))) ∧ Below w.heap.size w w' := by
  obtain ⟨ada, capa, rfl, ha⟩ := ha
  obtain ⟨adb, capb, rfl, hb⟩ := hb
  unfold maxLen at hla hlb
  by_cases hl : xs.length = ys.length
  · have HL := Lib.hid hl
    have hll : ((xs.length : Int) != (ys.length : Int)) = false := by rw [hl]; simp
    clear hl
    go_enter Try.func17, Try.ntmps17
    go_wp2
    go_loopw [5] (fun i wr => ∃ k : Nat, k ≤ xs.length ∧ i = .int .i64 k ∧ (∀ j, j < k → xs[j]? = ys[j]?) ∧ Ext w wr) (fun i _ => xs.length - (intOf i).toNat)
    case atStart => exact ⟨0, Nat.zero_le _, rfl, fun j hj => absurd hj (Nat.not_lt_zero _), Ext.refl _⟩
    case round =>
      obtain ⟨k, hk, rfl, heq, hx⟩ := hrel
      have HE := Lib.hid heq; clear heq
      have hxc := hx.cells
      by_cases hlt : k < xs.length
      · have hltb : k < ys.length := by rw [← HL.out]; exact hlt
        rcases ha with ⟨ha, _⟩ | ⟨b1, o1, rfl, hb1, ha⟩
        · subst ha; simp at hlt
        rcases hb with ⟨hb, _⟩ | ⟨b2, o2, rfl, hb2, hb⟩
        · subst hb; simp at hltb
        have c1 : wr.cell? ⟨b1, o1 + k, none⟩ = some (.int .i64 xs[k]) := (hx.cell _ _ hb1).trans (ha k hlt)
        have c2 : wr.cell? ⟨b2, o2 + k, none⟩ = some (.int .i64 ys[k]) := (hx.cell _ _ hb2).trans (hb k hltb)
        have i0 : (0 : Int) ≤ (k : Int) := by omega
        have i1 : (k : Int) < (xs.length : Int) := by omega
        have i2 : (k : Int) < (ys.length : Int) := by omega
        have z1 : b1 < wr.heap.size := Nat.lt_of_lt_of_le hb1 hx.below.size
        have z2 : b2 < wr.heap.size := Nat.lt_of_lt_of_le hb2 hx.below.size
        clear ha hb hxc
        go_wp2
        refine wp_region_ext [(0, true), (1, true), (2, true), (3, true), (4, true), (5, true), (6, true), (7, true), (8, true)] (by kernel_rfl) (by kernel_rfl) ?_
        iterate 9 (first
         | (refine ext_move rfl rfl (by rfl) (by rfl) ?_; simp only [Act.put, List.setIfInBounds_toArray, List.set_cons_zero, List.set_cons_succ])
         | (refine ext_assign rfl rfl (by rfl) (by rfl) ?_; simp only [Act.put, List.setIfInBounds_toArray, List.set_cons_zero, List.set_cons_succ])
         | (refine ext_pick_t rfl rfl (by rfl) (by rfl) (by rfl) ?_; simp only [Act.put, List.setIfInBounds_toArray, List.set_cons_zero, List.set_cons_succ])
         | (refine ext_pick_f rfl rfl (by rfl) (by rfl) (by rfl) ?_; simp only [Act.put, List.setIfInBounds_toArray, List.set_cons_zero, List.set_cons_succ])
         | (apply ext_take rfl (by rfl)
            · intro w' hS
              have hSc := hS.cells
              (try simp only [World.size_drew, World.cell?_drew] at hSc)
              go_simp
              (try simp (disch := omega) only [i64_id, ↓IntWalk.iteOmega, Int.tdiv_eq_ediv_of_nonneg, Int.tmod_eq_emod_of_nonneg])
              try rfl
            simp only [Act.put, List.setIfInBounds_toArray, List.set_cons_zero, List.set_cons_succ])
         | (refine ext_pass rfl (by rfl) ?_; simp only [Act.put, List.setIfInBounds_toArray, List.set_cons_zero, List.set_cons_succ]))
        refine ext_nil ?_
        by_cases hne : xs[k] = ys[k]
        · have HN := Lib.hid hne
          have hb : (xs[k] != ys[k]) = false := by simpa using hne
          clear hne
          go_wp2
          go_roundw
          case rel => exact ⟨k + 1, by omega, by go_num, get_step HE.out (by rw [List.getElem?_eq_getElem hlt, List.getElem?_eq_getElem hltb, HN.out]), hx.trans (Ext.drew _)⟩
          case measure => simp [intOf]; omega
        · have HN := Lib.hid hne
          have hb : (xs[k] != ys[k]) = true := by simpa using hne
          clear hne
          go_wp2
          go_ret
          exact ⟨ret_bool (by symm; rw [decide_eq_false_iff_not]; intro e; subst e; exact HN.out rfl), hx.trans (Ext.drew _)⟩
      · go_wp2
        go_ret
        exact ⟨ret_bool (by symm; rw [decide_eq_true_eq]; exact get_all HL.out fun i hi => HE.out i (by omega)), hx⟩
  · have HL := Lib.hid hl
    have hll : ((xs.length : Int) != (ys.length : Int)) = true := by simpa [bne_iff_ne] using fun e => hl (by omega)
    clear hl
    go_enter Try.func17, Try.ntmps17
    go_wp2
    go_ret
    exact ⟨ret_bool (by symm; rw [decide_eq_false_iff_not]; intro e; subst e; exact HL.out rfl), Ext.refl _⟩
end Go.Proofs.Ytfoelkpnhhfgaaa
