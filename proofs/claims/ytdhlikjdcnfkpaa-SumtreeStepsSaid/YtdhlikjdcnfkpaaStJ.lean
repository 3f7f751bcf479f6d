/-
  Chapter 26 (sumtree): Uints of the reference; awake.
-/
import Derived.Test.YtdhlikjdcnfkpaaStI
namespace Go.Proofs.Ytdhlikjdcnfkpaa
open Go.RowKit
set_option linter.unusedVariables false
attribute [local go_sem] eq_un

theorem uints_any (va vb : Value) (la lb : List (BitVec 64)) (w : World) (ha : SliceAt encU w va la) (hb : SliceAt encU w vb lb) (hla : la.length ≤ 1000000) (hlb : lb.length ≤ 1000000) :
    Calls Try.prog 15 #[va, vb] w fun e w' => e = .returned (.bool (decide (la = lb))) ∧ Ext w w' := by
  obtain ⟨aa, ca, rfl⟩ := ha.shape
  obtain ⟨ab, cb, rfl⟩ := hb.shape
  have HA := Lib.hid ha
  have HB := Lib.hid hb
  clear ha hb
  by_cases hn : la.length = lb.length
  · have hne : ((la.length : Int) != (lb.length : Int)) = false := by rw [bne_eq_false_iff_eq]; omega
    have hne2 : ((la.length : Int) == (lb.length : Int)) = true := by rw [beq_iff_eq]; omega
    have HN := Lib.hid hn
    obtain ⟨n, hn1⟩ : ∃ n, la.length = n := ⟨_, rfl⟩
    have hn2 : lb.length = n := by omega
    have HN1 := Lib.hid hn1
    have HN2 := Lib.hid hn2
    rw [hn1] at HA hla hne hne2 ⊢
    rw [hn2] at HB hlb hne hne2 ⊢
    clear hn hn1 hn2
    go_enter Try.func15, Try.ntmps15
    go_wp2_with fail
    go_loopw [5] (fun x wr => ∃ k : Nat, k ≤ n ∧ x = .int .i64 k ∧ Hid (∀ j (h1 : j < la.length) (h2 : j < lb.length), j < k → la[j] = lb[j]) ∧ Ext w wr) (fun x _ => n - (intOf x).toNat)
    case atStart => exact ⟨0, by omega, rfl, Lib.hid fun _ _ _ h => absurd h (by omega), Ext.refl _⟩
    case round =>
      obtain ⟨k, hk, rfl, HR, hx⟩ := hrel
      have HX := Lib.hid hx
      clear hx
      by_cases hlt : k < n
      · have k1 : k < la.length := by rw [HN1.out]; exact hlt
        have k2 : k < lb.length := by rw [HN2.out]; exact hlt
        obtain ⟨b1, o1, rfl, hb1, hc1⟩ := (HA.out.ext HX.out).get k k1
        obtain ⟨b2, o2, rfl, hb2, hc2⟩ := (HB.out.ext HX.out).get k k2
        have hin : (k : Int) < (n : Int) := by omega
        obtain ⟨x1, hx1⟩ : ∃ x, la[k] = x := ⟨_, rfl⟩
        obtain ⟨x2, hx2⟩ : ∃ x, lb[k] = x := ⟨_, rfl⟩
        have HX1 := Lib.hid hx1
        have HX2 := Lib.hid hx2
        rw [hx1] at hc1
        rw [hx2] at hc2
        clear hx1 hx2
        by_cases he : x1 = x2
        · have HE := Lib.hid he
          have hde : (un x1 == un x2) = true := by rw [eq_un]; exact decide_eq_true he
          have hdn : (un x1 != un x2) = false := by rw [bne, hde]; rfl
          clear he
          go_wp2_with fail
          refine wp_region_ext [(0, true), (1, true), (2, true), (3, true), (4, true), (5, true), (6, true), (7, true), (8, true)] (by kernel_rfl) (by kernel_rfl) ?_
          iterate 9 (first
           | (refine ext_move rfl rfl (by rfl) (by rfl) ?_; simp only [Act.put, List.setIfInBounds_toArray, List.set_cons_zero, List.set_cons_succ])
           | (refine ext_assign rfl rfl (by rfl) (by rfl) ?_; simp only [Act.put, List.setIfInBounds_toArray, List.set_cons_zero, List.set_cons_succ])
           | (refine ext_pick_t rfl rfl (by rfl) (by rfl) (by rfl) ?_; simp only [Act.put, List.setIfInBounds_toArray, List.set_cons_zero, List.set_cons_succ])
           | (refine ext_pick_f rfl rfl (by rfl) (by rfl) (by rfl) ?_; simp only [Act.put, List.setIfInBounds_toArray, List.set_cons_zero, List.set_cons_succ])
           | (apply ext_take rfl (by rfl)
              · intro w' hS
                have hSc := hS.cells
                (try simp only [World.size_drew, World.cell?_drew] at hSc)
                go_simp
                (try simp (disch := omega) only [i64_id, u64_id, ↓IntWalk.iteOmega, Int.tdiv_eq_ediv_of_nonneg, Int.tmod_eq_emod_of_nonneg])
                try rfl
              simp only [Act.put, List.setIfInBounds_toArray, List.set_cons_zero, List.set_cons_succ])
           | (refine ext_pass rfl (by rfl) ?_; simp only [Act.put, List.setIfInBounds_toArray, List.set_cons_zero, List.set_cons_succ]))
          refine ext_nil ?_
          go_wp2_with fail
          go_roundw
          case rel => exact ⟨k + 1, by omega, by go_num, Lib.hid fun j h1 h2 hj => (by rcases Nat.lt_or_eq_of_le (Nat.le_of_lt_succ hj) with h' | h'; exact HR.out j h1 h2 h'; subst h'; rw [HX1.out, HX2.out, HE.out]), HX.out.trans (Ext.drew _)⟩
          case measure => show n - (intOf (.int .i64 ((k : Int) + 1))).toNat < n - (intOf (.int .i64 (k : Int))).toNat; unfold intOf; simp only; omega
        · have HE : Hid (decide (la = lb) = false) := by
            show _ = _
            rw [decide_eq_false_iff_not]; intro h; apply he; rw [← HX1.out, ← HX2.out]; simp only [h]
          have hde : (un x1 == un x2) = false := by rw [eq_un]; exact decide_eq_false he
          have hdn : (un x1 != un x2) = true := by rw [bne, hde]; rfl
          clear he
          go_wp2_with fail
          refine wp_region_ext [(0, true), (1, true), (2, true), (3, true), (4, true), (5, true), (6, true), (7, true), (8, true)] (by kernel_rfl) (by kernel_rfl) ?_
          iterate 9 (first
           | (refine ext_move rfl rfl (by rfl) (by rfl) ?_; simp only [Act.put, List.setIfInBounds_toArray, List.set_cons_zero, List.set_cons_succ])
           | (refine ext_assign rfl rfl (by rfl) (by rfl) ?_; simp only [Act.put, List.setIfInBounds_toArray, List.set_cons_zero, List.set_cons_succ])
           | (refine ext_pick_t rfl rfl (by rfl) (by rfl) (by rfl) ?_; simp only [Act.put, List.setIfInBounds_toArray, List.set_cons_zero, List.set_cons_succ])
           | (refine ext_pick_f rfl rfl (by rfl) (by rfl) (by rfl) ?_; simp only [Act.put, List.setIfInBounds_toArray, List.set_cons_zero, List.set_cons_succ])
           | (apply ext_take rfl (by rfl)
              · intro w' hS
                have hSc := hS.cells
                (try simp only [World.size_drew, World.cell?_drew] at hSc)
                go_simp
                (try simp (disch := omega) only [i64_id, u64_id, ↓IntWalk.iteOmega, Int.tdiv_eq_ediv_of_nonneg, Int.tmod_eq_emod_of_nonneg])
                try rfl
              simp only [Act.put, List.setIfInBounds_toArray, List.set_cons_zero, List.set_cons_succ])
           | (refine ext_pass rfl (by rfl) ?_; simp only [Act.put, List.setIfInBounds_toArray, List.set_cons_zero, List.set_cons_succ]))
          refine ext_nil ?_
          go_wp2_with fail
          go_ret
          rw [HE.out]
          exact ⟨rfl, HX.out.trans (Ext.drew _)⟩
      · have hkn : k = n := by omega
        subst hkn
        have HE : Hid (decide (la = lb) = true) := by
          show _ = _
          rw [decide_eq_true_eq]
          exact List.ext_getElem HN.out fun j h1 h2 => HR.out j h1 h2 (by rw [← HN1.out]; exact h1)
        go_wp2_with fail
        go_ret
        rw [HE.out]
        exact ⟨rfl, HX.out⟩
  · have hne : ((la.length : Int) != (lb.length : Int)) = true := by rw [bne_iff_ne]; omega
    have hne2 : ((la.length : Int) == (lb.length : Int)) = false := by rw [beq_eq_false_iff_ne]; omega
    have HE : Hid (decide (la = lb) = false) := by show _ = _; rw [decide_eq_false_iff_not]; intro h; exact hn (by rw [h])
    clear hn
    go_enter Try.func15, Try.ntmps15
    go_wp2_with fail
    go_ret
    rw [HE.out]
    exact ⟨rfl, Ext.refl _⟩

/-- a tree's value, its last pointer written out -/
theorem treeV_ptr (n : Nat) (P : Nat → Nat → Nat) : ∃ ad, treeV n P = .agg #[.int .i64 n, .int .i64 (hgt n), .pointer ad] := by
  unfold treeV topP encP
  split
  · exact ⟨_, rfl⟩
  · exact ⟨_, rfl⟩
/-! ### the example -/
def l5 : List (BitVec 64) := [1#64, 2#64, 3#64, 4#64, 5#64]
theorem hgt5 : hgt 5 = 2 := by rw [hgt_high (by omega), hgt_high (by omega), hgt_low (by omega)]
theorem path51 : pathL l5 1 = [1#64, 3#64, 4#64, runL (grp l5 1)] := by
  unfold pathL
  rw [show hgt l5.length = 2 from hgt5, pathK_cons, pathK_cons, pathK_zero]
  rfl
theorem path54 : (pathL l5 4).length = 1 := by
  unfold pathL
  rw [show hgt l5.length = 2 from hgt5, pathK_cons, pathK_cons, pathK_zero]
  rfl
theorem path_at1 (P : Nat → Nat → Nat) (w : World) (h : TreeAt w l5 P) : Calls Try.prog 12 #[treeV 5 P, .int .i64 1] w fun e w' =>
    ∃ b off c, e = .returned (.tuple #[.slice (some ⟨b, off, none⟩) 4 c, .int .i64 0]) ∧ b < w'.heap.size ∧ w'.cell? ⟨b, off, none⟩ = some (.int .u64 1) ∧ w'.cell? ⟨b, off + 1, none⟩ = some (.int .u64 3) ∧ w'.cell? ⟨b, off + 2, none⟩ = some (.int .u64 4) ∧ SliceAt encU w' (.slice (some ⟨b, off, none⟩) 4 c) (pathL l5 1) ∧ 4 ≤ c ∧ Below w.heap.size w w' := by
  refine (path_any l5 P 1 w (by decide) h).mono ?_
  rintro e w' ⟨v, rfl, hs, hb⟩
  rw [show pathO l5 1 = some (pathL l5 1) from if_pos ⟨by omega, by decide⟩] at hs ⊢
  simp only [Option.getD_some, Option.isSome_some, if_true] at hs ⊢
  have h0 := hs
  rw [path51] at h0
  obtain ⟨ad, cap, hv, hc4, hc⟩ := h0
  rcases hc with ⟨hc, _⟩ | ⟨b, off, rfl, hbl, hc⟩
  · cases hc
  · subst hv
    exact ⟨b, off, cap, rfl, hbl, hc 0 (by decide), hc 1 (by decide), hc 2 (by decide), hs, hc4, hb⟩
theorem path_at4 (P : Nat → Nat → Nat) (w : World) (h : TreeAt w l5 P) : Calls Try.prog 12 #[treeV 5 P, .int .i64 4] w fun e w' =>
    ∃ a c, e = .returned (.tuple #[.slice a 1 c, .int .i64 0]) ∧ Below w.heap.size w w' := by
  refine (path_any l5 P 4 w (by decide) h).mono ?_
  rintro e w' ⟨v, rfl, hs, hb⟩
  rw [show pathO l5 4 = some (pathL l5 4) from if_pos ⟨by omega, by decide⟩] at hs ⊢
  simp only [Option.getD_some, Option.isSome_some, if_true] at hs ⊢
  obtain ⟨a, c, rfl⟩ := hs.shape
  rw [path54]
  exact ⟨a, c, rfl, hb⟩
theorem check51 : checkB (rootL l5) 5 1 2#64 (pathL l5 1) = true := check_true (l := l5) (i := 1) (by decide) (by decide)

set_option maxRecDepth 100000 in
theorem awake_any (w : World) : Calls Try.prog 11 #[] w fun e w' => e = .returned (.bool true) ∧ Below w.heap.size w w' := by
  have HS : Hid (SliceAt encU (w.alloc (.cells #[.int .u64 1, .int .u64 2, .int .u64 3, .int .u64 4, .int .u64 5] 34)) (.slice (some ⟨w.heap.size, 0, none⟩) 5 5) l5) := SliceAt.lit w l5 _ _ _ rfl
  have HXA : Hid (Ext w (w.alloc (.cells #[.int .u64 1, .int .u64 2, .int .u64 3, .int .u64 4, .int .u64 5] 34))) := Ext.alloc _ _
  go_enter Try.func11, Try.ntmps11
  go_wp2_with fail
  go_at_call 13
  refine (build_any _ l5 _ (by decide) HS.out).mono ?_
  rintro e w1 ⟨P, rfl, ht, hb1⟩
  have HX1 : Hid (Ext w w1) := HXA.out.trans hb1
  obtain ⟨ad, hTV⟩ := treeV_ptr 5 P
  have e1 : Ext w1 (w1.alloc (.cells #[.int .i64 5, .int .i64 (hgt 5), .pointer ad] 29)) := Ext.alloc _ _
  have HB1 : Hid (BoxAt (w1.alloc (.cells #[.int .i64 5, .int .i64 (hgt 5), .pointer ad] 29)) w1.heap.size #[.int .i64 5, .int .i64 (hgt 5), .pointer ad] 29) := BoxAt.new _ _ _
  have HT1 := Lib.hid (ht.ext e1)
  have HX2 : Hid (Ext w (w1.alloc (.cells #[.int .i64 5, .int .i64 (hgt 5), .pointer ad] 29))) := HX1.out.trans e1
  rw [show l5.length = 5 from rfl]
  have HTV := Lib.hid hTV
  rw [hTV]
  clear ht hb1 e1 hTV
  go_wp2_with fail
  generalize w1.alloc (.cells #[.int .i64 5, .int .i64 (hgt 5), .pointer ad] 29) = w2 at *
  generalize w1.heap.size = gt at *
  go_at_call 12
  have hp1 := path_at1 P w2 HT1.out
  rw [HTV.out] at hp1
  refine hp1.mono ?_
  rintro e w3 ⟨b, off, c, rfl, hb, hc0, hc1, hc2, hs, hc4, hx⟩
  have HX3 : Hid (Ext w2 w3) := hx
  have HSP := Lib.hid hs
  have HB3 := Lib.hid (HB1.out.ext hx)
  have hd0 := HB3.out.cell 0 (v := .int .i64 5) rfl
  have hd1 := HB3.out.cell 1 (v := .int .i64 (hgt 5)) rfl
  have hd2 := HB3.out.cell 2 (v := .pointer ad) rfl
  have hdl := HB3.out.lt
  clear hx hs hp1
  go_wp2_with fail
  go_at_call 12
  have hp4 := path_at4 P w3 (HT1.out.ext HX3.out)
  rw [HTV.out] at hp4
  refine hp4.mono ?_
  rintro e w4 ⟨a4, c4', rfl, hx4⟩
  have HX4 : Hid (Ext w3 w4) := hx4
  have HB4 := Lib.hid (HB3.out.ext hx4)
  clear hd0 hd1 hd2 hdl hp4
  have hd0 := HB4.out.cell 0 (v := .int .i64 5) rfl
  have hd1 := HB4.out.cell 1 (v := .int .i64 (hgt 5)) rfl
  have hd2 := HB4.out.cell 2 (v := .pointer ad) rfl
  have hdl := HB4.out.lt
  clear hx4
  go_wp2_with fail
  go_at_call 25
  have hln := len_any 5 P w4
  rw [HTV.out] at hln
  refine hln.mono ?_
  rintro e w5 ⟨rfl, hx5⟩
  have HX5 : Hid (Ext w3 w5) := HX4.out.trans hx5
  have HB5 := Lib.hid (HB4.out.ext hx5)
  replace hc0 := (HX5.out.cell _ _ hb).trans hc0
  replace hc1 := (HX5.out.cell _ _ hb).trans hc1
  replace hc2 := (HX5.out.cell _ _ hb).trans hc2
  replace hb := Nat.lt_of_lt_of_le hb HX5.out.size
  clear hd0 hd1 hd2 hdl hln
  have hd0 := HB5.out.cell 0 (v := .int .i64 5) rfl
  have hd1 := HB5.out.cell 1 (v := .int .i64 (hgt 5)) rfl
  have hd2 := HB5.out.cell 2 (v := .pointer ad) rfl
  have hdl := HB5.out.lt
  clear hx5
  go_wp2_with fail
  go_at_call 18
  have hrt := root_tree l5 P w5 (by decide) (HT1.out.ext (HX3.out.trans HX5.out))
  rw [show l5.length = 5 from rfl, HTV.out] at hrt
  refine hrt.mono ?_
  rintro e w6 ⟨rfl, hx6⟩
  have HX6 : Hid (Ext w3 w6) := HX5.out.trans hx6
  clear hx6 hrt
  go_wp2_with fail
  go_at_call 16
  have hck := check_any (rootL l5) 2#64 5 1 _ (pathL l5 1) w6 ⟨by omega, by omega⟩ ⟨by omega, by omega⟩ (by rw [path51]; decide) (HSP.out.ext HX6.out)
  rw [check51] at hck
  refine hck.mono ?_
  rintro e w7 ⟨rfl, hx7⟩
  have HX7 : Hid (Ext w w7) := HX2.out.trans (HX3.out.trans (HX6.out.trans hx7))
  clear hx7 hck
  go_wp2_with fail
  go_ret
  exact ⟨rfl, HX7.out⟩
end Go.Proofs.Ytdhlikjdcnfkpaa
