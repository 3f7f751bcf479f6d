/-
  Chapter 29 (replica): the law's helpers same and short.
-/
import Derived.Test.YtknpdoepjihceaaRpM
namespace Go.Proofs.Ytknpdoepjihceaa
open Go.RowKit
set_option linter.unusedVariables false
attribute [local go_sem] eq_strB

theorem mem_all {α : Type} {p : α → Bool} {l : List α} (h : ∀ i (hi : i < l.length), p l[i] = true) : l.all p = true := by
  rw [List.all_eq_true]; intro x hx; obtain ⟨i, hi, rfl⟩ := List.mem_iff_getElem.1 hx; exact h i hi
theorem not_all {α : Type} {p : α → Bool} {l : List α} {i : Nat} (hi : i < l.length) (h : p l[i] = false) : l.all p = false := by
  rw [List.all_eq_false]; exact ⟨l[i], List.getElem_mem hi, by rw [h]; simp⟩
theorem same_any (va vb : Value) (la lb : List (List (BitVec 8))) (w : World) (ha : SliceR (Pat.slice Pat.u8) w va la) (hb : SliceR (Pat.slice Pat.u8) w vb lb) (hla : la.length ≤ 1000000) (hlb : lb.length ≤ 1000000) :
    Calls Try.prog 11 #[va, vb] w fun e w' => e = .returned (.bool (decide (la = lb))) ∧ Ext w w' := by
  obtain ⟨aa, ca, rfl⟩ := ha.shape
  obtain ⟨ab, cb, rfl⟩ := hb.shape
  have HA := Lib.hid ha
  have HB := Lib.hid hb
  clear ha hb
  by_cases hn : la.length = lb.length
  · have hne : ((la.length : Int) != (lb.length : Int)) = false := by rw [bne_eq_false_iff_eq]; omega
    have hne2 : ((la.length : Int) == (lb.length : Int)) = true := by rw [beq_iff_eq]; omega
    have HN := Lib.hid hn
    obtain ⟨n, hn1⟩ : ∃ n, la.length = n := ⟨_, rfl⟩
    have hn2 : lb.length = n := by omega
    have HN1 := Lib.hid hn1
    have HN2 := Lib.hid hn2
    rw [hn1] at HA hla hne hne2 ⊢
    rw [hn2] at HB hlb hne hne2 ⊢
    clear hn hn1 hn2
    go_enter Try.func11, Try.ntmps11
    go_wp2_with fail
    go_loopw [5] (fun x wr => ∃ k : Nat, k ≤ n ∧ x = .int .i64 k ∧ Hid (∀ j (h1 : j < la.length) (h2 : j < lb.length), j < k → la[j] = lb[j]) ∧ Ext w wr) (fun x _ => n - (intOf x).toNat)
    case atStart => exact ⟨0, by omega, rfl, Lib.hid fun _ _ _ h => absurd h (by omega), Ext.refl _⟩
    case round =>
      obtain ⟨k, hk, rfl, HR, hx⟩ := hrel
      have HX := Lib.hid hx
      clear hx
      by_cases hlt : k < n
      · have k1 : k < la.length := by rw [HN1.out]; exact hlt
        have k2 : k < lb.length := by rw [HN2.out]; exact hlt
        obtain ⟨b1, o1, v1, rfl, hb1, hc1, hv1, _⟩ := HA.out.elem k k1
        obtain ⟨b2, o2, v2, rfl, hb2, hc2, hv2, _⟩ := HB.out.elem k k2
        have hd1 := (HX.out.cell b1 (o1 + k) hb1).trans hc1
        have hd2 := (HX.out.cell b2 (o2 + k) hb2).trans hc2
        have hb1' := Nat.lt_of_lt_of_le hb1 HX.out.size
        have hb2' := Nat.lt_of_lt_of_le hb2 HX.out.size
        have HV1 := Lib.hid (hv1.at.1.ext HX.out)
        have HV2 := Lib.hid (hv2.at.1.ext HX.out)
        obtain ⟨a3, c3, rfl⟩ := hv1.shape
        obtain ⟨a4, c4, rfl⟩ := hv2.shape
        have hin : (k : Int) < (n : Int) := by omega
        have HEQ : Hid (la[k] = la[k]) := rfl
        obtain ⟨x1, hx1⟩ : ∃ x, la[k] = x := ⟨_, rfl⟩
        obtain ⟨x2, hx2⟩ : ∃ x, lb[k] = x := ⟨_, rfl⟩
        have HX1 := Lib.hid hx1
        have HX2 := Lib.hid hx2
        rw [hx1] at HV1 hd1
        rw [hx2] at HV2 hd2
        clear hc1 hc2 hv1 hv2 HEQ hx1 hx2
        go_wp2_with fail
        by_cases he : x1 = x2
        · have hde : decide (x1 = x2) = true := decide_eq_true he
          have HE := Lib.hid he
          clear he
          refine wp_region_ext [(0, true), (1, true), (2, true), (3, true), (4, true), (5, true), (6, true), (7, true), (8, true), (9, true), (10, true)] (by kernel_rfl) (by kernel_rfl) ?_
          iterate 4 (first
           | (refine ext_move rfl rfl (by rfl) (by rfl) ?_; simp only [Act.put, List.setIfInBounds_toArray, List.set_cons_zero, List.set_cons_succ])
           | (refine ext_assign rfl rfl (by rfl) (by rfl) ?_; simp only [Act.put, List.setIfInBounds_toArray, List.set_cons_zero, List.set_cons_succ])
           | (refine ext_pick_t rfl rfl (by rfl) (by rfl) (by rfl) ?_; simp only [Act.put, List.setIfInBounds_toArray, List.set_cons_zero, List.set_cons_succ])
           | (refine ext_pick_f rfl rfl (by rfl) (by rfl) (by rfl) ?_; simp only [Act.put, List.setIfInBounds_toArray, List.set_cons_zero, List.set_cons_succ])
           | (apply ext_take rfl (by rfl)
              · intro w' hS
                have hSc := hS.cells
                (try simp only [World.size_drew, World.cell?_drew] at hSc)
                go_simp
                (try simp (disch := omega) only [i64_id, u64_id, ↓IntWalk.iteOmega, Int.tdiv_eq_ediv_of_nonneg, Int.tmod_eq_emod_of_nonneg])
                try rfl
              simp only [Act.put, List.setIfInBounds_toArray, List.set_cons_zero, List.set_cons_succ])
           | (refine ext_pass rfl (by rfl) ?_; simp only [Act.put, List.setIfInBounds_toArray, List.set_cons_zero, List.set_cons_succ]))
          (apply ext_take rfl (by rfl)
           · intro w' hS
             have hcv := run_str (P := Try.prog) Try.underlying22 Try.underlying5 Try.underlying9 w' _ _ (SliceAt.ext HV1.out hS)
             go_simp
             try rfl
           simp only [Act.put, List.setIfInBounds_toArray, List.set_cons_zero, List.set_cons_succ])
          iterate 4 (first
           | (refine ext_move rfl rfl (by rfl) (by rfl) ?_; simp only [Act.put, List.setIfInBounds_toArray, List.set_cons_zero, List.set_cons_succ])
           | (refine ext_assign rfl rfl (by rfl) (by rfl) ?_; simp only [Act.put, List.setIfInBounds_toArray, List.set_cons_zero, List.set_cons_succ])
           | (refine ext_pick_t rfl rfl (by rfl) (by rfl) (by rfl) ?_; simp only [Act.put, List.setIfInBounds_toArray, List.set_cons_zero, List.set_cons_succ])
           | (refine ext_pick_f rfl rfl (by rfl) (by rfl) (by rfl) ?_; simp only [Act.put, List.setIfInBounds_toArray, List.set_cons_zero, List.set_cons_succ])
           | (apply ext_take rfl (by rfl)
              · intro w' hS
                have hSc := hS.cells
                (try simp only [World.size_drew, World.cell?_drew] at hSc)
                go_simp
                (try simp (disch := omega) only [i64_id, u64_id, ↓IntWalk.iteOmega, Int.tdiv_eq_ediv_of_nonneg, Int.tmod_eq_emod_of_nonneg])
                try rfl
              simp only [Act.put, List.setIfInBounds_toArray, List.set_cons_zero, List.set_cons_succ])
           | (refine ext_pass rfl (by rfl) ?_; simp only [Act.put, List.setIfInBounds_toArray, List.set_cons_zero, List.set_cons_succ]))
          (apply ext_take rfl (by rfl)
           · intro w' hS
             have hcv := run_str (P := Try.prog) Try.underlying22 Try.underlying5 Try.underlying9 w' _ _ (SliceAt.ext HV2.out hS)
             go_simp
             try rfl
           simp only [Act.put, List.setIfInBounds_toArray, List.set_cons_zero, List.set_cons_succ])
          iterate 1 (first
           | (refine ext_move rfl rfl (by rfl) (by rfl) ?_; simp only [Act.put, List.setIfInBounds_toArray, List.set_cons_zero, List.set_cons_succ])
           | (refine ext_assign rfl rfl (by rfl) (by rfl) ?_; simp only [Act.put, List.setIfInBounds_toArray, List.set_cons_zero, List.set_cons_succ])
           | (refine ext_pick_t rfl rfl (by rfl) (by rfl) (by rfl) ?_; simp only [Act.put, List.setIfInBounds_toArray, List.set_cons_zero, List.set_cons_succ])
           | (refine ext_pick_f rfl rfl (by rfl) (by rfl) (by rfl) ?_; simp only [Act.put, List.setIfInBounds_toArray, List.set_cons_zero, List.set_cons_succ])
           | (apply ext_take rfl (by rfl)
              · intro w' hS
                have hSc := hS.cells
                (try simp only [World.size_drew, World.cell?_drew] at hSc)
                go_simp
                (try simp (disch := omega) only [i64_id, u64_id, ↓IntWalk.iteOmega, Int.tdiv_eq_ediv_of_nonneg, Int.tmod_eq_emod_of_nonneg])
                try rfl
              simp only [Act.put, List.setIfInBounds_toArray, List.set_cons_zero, List.set_cons_succ])
           | (refine ext_pass rfl (by rfl) ?_; simp only [Act.put, List.setIfInBounds_toArray, List.set_cons_zero, List.set_cons_succ]))
          refine ext_nil ?_
          go_wp2_with fail
          go_roundw
          case rel => exact ⟨k + 1, by omega, by go_num, Lib.hid fun j h1 h2 hj => (by rcases Nat.lt_or_eq_of_le (Nat.le_of_lt_succ hj) with h' | h'; exact HR.out j h1 h2 h'; subst h'; rw [HX1.out, HX2.out, HE.out]), HX.out.trans (Ext.drew _)⟩
          case measure => show n - (intOf (.int .i64 ((k : Int) + 1))).toNat < n - (intOf (.int .i64 (k : Int))).toNat; unfold intOf; simp only; omega
        · have hde : decide (x1 = x2) = false := decide_eq_false he
          have HE : Hid (decide (la = lb) = false) := by
            show _ = _
            rw [decide_eq_false_iff_not]; intro h; apply he; rw [← HX1.out, ← HX2.out]; simp only [h]
          clear he
          refine wp_region_ext [(0, true), (1, true), (2, true), (3, true), (4, true), (5, true), (6, true), (7, true), (8, true), (9, true), (10, true)] (by kernel_rfl) (by kernel_rfl) ?_
          iterate 4 (first
           | (refine ext_move rfl rfl (by rfl) (by rfl) ?_; simp only [Act.put, List.setIfInBounds_toArray, List.set_cons_zero, List.set_cons_succ])
           | (refine ext_assign rfl rfl (by rfl) (by rfl) ?_; simp only [Act.put, List.setIfInBounds_toArray, List.set_cons_zero, List.set_cons_succ])
           | (refine ext_pick_t rfl rfl (by rfl) (by rfl) (by rfl) ?_; simp only [Act.put, List.setIfInBounds_toArray, List.set_cons_zero, List.set_cons_succ])
           | (refine ext_pick_f rfl rfl (by rfl) (by rfl) (by rfl) ?_; simp only [Act.put, List.setIfInBounds_toArray, List.set_cons_zero, List.set_cons_succ])
           | (apply ext_take rfl (by rfl)
              · intro w' hS
                have hSc := hS.cells
                (try simp only [World.size_drew, World.cell?_drew] at hSc)
                go_simp
                (try simp (disch := omega) only [i64_id, u64_id, ↓IntWalk.iteOmega, Int.tdiv_eq_ediv_of_nonneg, Int.tmod_eq_emod_of_nonneg])
                try rfl
              simp only [Act.put, List.setIfInBounds_toArray, List.set_cons_zero, List.set_cons_succ])
           | (refine ext_pass rfl (by rfl) ?_; simp only [Act.put, List.setIfInBounds_toArray, List.set_cons_zero, List.set_cons_succ]))
          (apply ext_take rfl (by rfl)
           · intro w' hS
             have hcv := run_str (P := Try.prog) Try.underlying22 Try.underlying5 Try.underlying9 w' _ _ (SliceAt.ext HV1.out hS)
             go_simp
             try rfl
           simp only [Act.put, List.setIfInBounds_toArray, List.set_cons_zero, List.set_cons_succ])
          iterate 4 (first
           | (refine ext_move rfl rfl (by rfl) (by rfl) ?_; simp only [Act.put, List.setIfInBounds_toArray, List.set_cons_zero, List.set_cons_succ])
           | (refine ext_assign rfl rfl (by rfl) (by rfl) ?_; simp only [Act.put, List.setIfInBounds_toArray, List.set_cons_zero, List.set_cons_succ])
           | (refine ext_pick_t rfl rfl (by rfl) (by rfl) (by rfl) ?_; simp only [Act.put, List.setIfInBounds_toArray, List.set_cons_zero, List.set_cons_succ])
           | (refine ext_pick_f rfl rfl (by rfl) (by rfl) (by rfl) ?_; simp only [Act.put, List.setIfInBounds_toArray, List.set_cons_zero, List.set_cons_succ])
           | (apply ext_take rfl (by rfl)
              · intro w' hS
                have hSc := hS.cells
                (try simp only [World.size_drew, World.cell?_drew] at hSc)
                go_simp
                (try simp (disch := omega) only [i64_id, u64_id, ↓IntWalk.iteOmega, Int.tdiv_eq_ediv_of_nonneg, Int.tmod_eq_emod_of_nonneg])
                try rfl
              simp only [Act.put, List.setIfInBounds_toArray, List.set_cons_zero, List.set_cons_succ])
           | (refine ext_pass rfl (by rfl) ?_; simp only [Act.put, List.setIfInBounds_toArray, List.set_cons_zero, List.set_cons_succ]))
          (apply ext_take rfl (by rfl)
           · intro w' hS
             have hcv := run_str (P := Try.prog) Try.underlying22 Try.underlying5 Try.underlying9 w' _ _ (SliceAt.ext HV2.out hS)
             go_simp
             try rfl
           simp only [Act.put, List.setIfInBounds_toArray, List.set_cons_zero, List.set_cons_succ])
          iterate 1 (first
           | (refine ext_move rfl rfl (by rfl) (by rfl) ?_; simp only [Act.put, List.setIfInBounds_toArray, List.set_cons_zero, List.set_cons_succ])
           | (refine ext_assign rfl rfl (by rfl) (by rfl) ?_; simp only [Act.put, List.setIfInBounds_toArray, List.set_cons_zero, List.set_cons_succ])
           | (refine ext_pick_t rfl rfl (by rfl) (by rfl) (by rfl) ?_; simp only [Act.put, List.setIfInBounds_toArray, List.set_cons_zero, List.set_cons_succ])
           | (refine ext_pick_f rfl rfl (by rfl) (by rfl) (by rfl) ?_; simp only [Act.put, List.setIfInBounds_toArray, List.set_cons_zero, List.set_cons_succ])
           | (apply ext_take rfl (by rfl)
              · intro w' hS
                have hSc := hS.cells
                (try simp only [World.size_drew, World.cell?_drew] at hSc)
                go_simp
                (try simp (disch := omega) only [i64_id, u64_id, ↓IntWalk.iteOmega, Int.tdiv_eq_ediv_of_nonneg, Int.tmod_eq_emod_of_nonneg])
                try rfl
              simp only [Act.put, List.setIfInBounds_toArray, List.set_cons_zero, List.set_cons_succ])
           | (refine ext_pass rfl (by rfl) ?_; simp only [Act.put, List.setIfInBounds_toArray, List.set_cons_zero, List.set_cons_succ]))
          refine ext_nil ?_
          go_wp2_with fail
          go_ret
          rw [HE.out]
          exact ⟨rfl, HX.out.trans (Ext.drew _)⟩
      · have hkn : k = n := by omega
        subst hkn
        have HE : Hid (decide (la = lb) = true) := by
          show _ = _
          rw [decide_eq_true_eq]
          exact List.ext_getElem HN.out fun j h1 h2 => HR.out j h1 h2 (by rw [← HN1.out]; exact h1)
        go_wp2_with fail
        go_ret
        rw [HE.out]
        exact ⟨rfl, HX.out⟩
  · have hne : ((la.length : Int) != (lb.length : Int)) = true := by rw [bne_iff_ne]; omega
    have hne2 : ((la.length : Int) == (lb.length : Int)) = false := by rw [beq_eq_false_iff_ne]; omega
    have HE : Hid (decide (la = lb) = false) := by show _ = _; rw [decide_eq_false_iff_not]; intro h; exact hn (by rw [h])
    clear hn
    go_enter Try.func11, Try.ntmps11
    go_wp2_with fail
    go_ret
    rw [HE.out]
    exact ⟨rfl, Ext.refl _⟩

/-- copies are few and short -/
def shortC (c : List (List (BitVec 8))) : Bool := decide (c.length ≤ 40) && c.all (fun l => decide (l.length ≤ 100))
def shortB (cs : List (List (List (BitVec 8)))) : Bool := decide (cs.length ≤ 8) && cs.all shortC
theorem short_any (vs : Value) (cs : List (List (List (BitVec 8)))) (w : World) (hm : cs.length ≤ maxLen) (h : SliceR (Pat.slice (Pat.slice Pat.u8)) w vs cs) :
    Calls Try.prog 12 #[vs] w fun e w' => e = .returned (.bool (shortB cs)) ∧ w = w' := by
  obtain ⟨ad, cap, rfl⟩ := h.shape
  have HS := Lib.hid h
  unfold maxLen at hm
  clear h
  by_cases h8 : cs.length ≤ 8
  · have hd8 : decide ((8 : Int) < (cs.length : Int)) = false := by rw [decide_eq_false_iff_not]; omega
    have HB : Hid (shortB cs = cs.all shortC) := by show _ = _; unfold shortB; rw [decide_eq_true h8, Bool.true_and]
    go_enter Try.func12, Try.ntmps12
    go_wp2_with fail
    go_loopw [3] (fun x wr => ∃ k : Nat, k ≤ cs.length ∧ x = .int .i64 k ∧ Hid (∀ j (hj : j < cs.length), j < k → shortC cs[j] = true) ∧ w = wr) (fun x _ => cs.length - (intOf x).toNat)
    case atStart => exact ⟨0, by omega, rfl, Lib.hid fun _ _ h => absurd h (by omega), rfl⟩
    case round =>
      obtain ⟨k, hk, rfl, HR, rfl⟩ := hrel
      by_cases hlt : k < cs.length
      · obtain ⟨b, off, v, rfl, hb, hc, hv, hm2⟩ := HS.out.elem k hlt
        obtain ⟨av, cv, rfl⟩ := hv.shape
        have hin : (k : Int) < (cs.length : Int) := by omega
        obtain ⟨c, hck⟩ : ∃ c, cs[k] = c := ⟨_, rfl⟩
        have HCK := Lib.hid hck
        rw [hck] at hv hc hm2
        have HV := Lib.hid hv
        unfold maxLen at hm2
        clear hv hck
        by_cases h40 : c.length ≤ 40
        · have hd40 : decide ((40 : Int) < (c.length : Int)) = false := by rw [decide_eq_false_iff_not]; omega
          have HC : Hid (shortC cs[k] = c.all (fun l => decide (l.length ≤ 100))) := by show _ = _; rw [HCK.out]; unfold shortC; rw [decide_eq_true h40, Bool.true_and]
          go_wp2_with fail
          go_loopw [4] (fun x wr => ∃ i : Nat, i ≤ c.length ∧ x = .int .i64 i ∧ Hid (∀ j (hj : j < c.length), j < i → decide (c[j].length ≤ 100) = true) ∧ w = wr) (fun x _ => c.length - (intOf x).toNat)
          case atStart => exact ⟨0, by omega, rfl, Lib.hid fun _ _ h => absurd h (by omega), rfl⟩
          case round =>
            obtain ⟨i, hi, rfl, HI, rfl⟩ := hrel
            by_cases hli : i < c.length
            · obtain ⟨b2, off2, v2, rfl, hb2, hc2, hv2, hm3⟩ := HV.out.elem i hli
              obtain ⟨a2, c2, rfl⟩ := hv2.shape
              have hin2 : (i : Int) < (c.length : Int) := by omega
              obtain ⟨l, hl⟩ : ∃ l, c[i] = l := ⟨_, rfl⟩
              have HL := Lib.hid hl
              rw [hl] at hc2 hm3
              unfold maxLen at hm3
              clear hv2 hl
              by_cases h100 : l.length ≤ 100
              · have hd100 : decide ((100 : Int) < (l.length : Int)) = false := by rw [decide_eq_false_iff_not]; omega
                have HE : Hid (decide (c[i].length ≤ 100) = true) := by show _ = _; rw [HL.out]; exact decide_eq_true h100
                clear h100
                go_wp2_with fail
                go_roundw
                case rel => exact ⟨i + 1, by omega, by go_num, Lib.hid fun j hj hjk => (by rcases Nat.lt_or_eq_of_le (Nat.le_of_lt_succ hjk) with h' | h'; exact HI.out j hj h'; subst h'; exact HE.out), by first | rfl | trivial⟩
                case measure => show c.length - (intOf (.int .i64 ((i : Int) + 1))).toNat < c.length - (intOf (.int .i64 (i : Int))).toNat; unfold intOf; simp only; omega
              · have hd100 : decide ((100 : Int) < (l.length : Int)) = true := by rw [decide_eq_true_eq]; omega
                have HE : Hid (shortB cs = false) := by show _ = _; rw [HB.out]; exact not_all hlt (by rw [HC.out]; exact not_all hli (by rw [HL.out]; exact decide_eq_false h100))
                clear h100
                go_wp2_with fail
                go_ret
                rw [HE.out]
                exact ⟨rfl, rfl⟩
            · have hii : i = c.length := by omega
              subst hii
              have HE : Hid (shortC cs[k] = true) := by show _ = _; rw [HC.out]; exact mem_all fun j hj => HI.out j hj hj
              go_wp2_with fail
              go_roundw
              case rel => exact ⟨k + 1, by omega, by go_num, Lib.hid fun j hj hjk => (by rcases Nat.lt_or_eq_of_le (Nat.le_of_lt_succ hjk) with h' | h'; exact HR.out j hj h'; subst h'; exact HE.out), by first | rfl | trivial⟩
              case measure => show cs.length - (intOf (.int .i64 ((k : Int) + 1))).toNat < cs.length - (intOf (.int .i64 (k : Int))).toNat; unfold intOf; simp only; omega
        · have hd40 : decide ((40 : Int) < (c.length : Int)) = true := by rw [decide_eq_true_eq]; omega
          have HE : Hid (shortB cs = false) := by show _ = _; rw [HB.out]; exact not_all hlt (by rw [HCK.out]; unfold shortC; rw [decide_eq_false h40]; rfl)
          go_wp2_with fail
          go_ret
          rw [HE.out]
          exact ⟨rfl, rfl⟩
      · have hkm : k = cs.length := by omega
        subst hkm
        have HE : Hid (shortB cs = true) := by show _ = _; rw [HB.out]; exact mem_all fun j hj => HR.out j hj hj
        go_wp2_with fail
        go_ret
        rw [HE.out]
        exact ⟨rfl, rfl⟩
  · have hd8 : decide ((8 : Int) < (cs.length : Int)) = true := by rw [decide_eq_true_eq]; omega
    have HB : Hid (shortB cs = false) := by show _ = _; unfold shortB; rw [decide_eq_false h8]; rfl
    go_enter Try.func12, Try.ntmps12
    go_wp2_with fail
    go_ret
    rw [HB.out]
    exact ⟨rfl, rfl⟩
end Go.Proofs.Ytknpdoepjihceaa
