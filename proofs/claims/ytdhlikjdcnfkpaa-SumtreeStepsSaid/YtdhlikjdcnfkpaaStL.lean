/-
  Chapter 26 (sumtree): the walks of SumtreeCheck and SumtreeProves.
-/
import Derived.Test.YtdhlikjdcnfkpaaStK
namespace Go.Proofs.Ytdhlikjdcnfkpaa
open Go.ChangeShapes Go.WideShapes Go.ChangeAt Go.RowKit
set_option linter.unusedVariables false
attribute [local go_sem] eq_un

theorem holds_nums {w : World} {cs : List Value} {l : List (BitVec 64)} (h : (Pat.slice Pat.u64).holds w cs l) : ∃ v, cs = [v] ∧ SliceAt encU w v l ∧ l.length ≤ maxLen := by
  obtain ⟨v, h1, h2, h3⟩ := h
  exact ⟨v, h1, h2.at.1, h3⟩
abbrev patProof := Pat.pair Pat.u64 (Pat.pair Pat.u64 (Pat.pair Pat.i64 (Pat.pair Pat.i64 (Pat.slice Pat.u64))))
theorem opProof : Opens Try.prog 36 patProof :=
  Opens.struct Try.underlying36 (OpensF.cons opU64 rfl (OpensF.cons opU64 rfl (OpensF.cons opI64 rfl (OpensF.cons opI64 rfl (OpensF.last opList rfl))))) (by kernel_rfl)
theorem open_proof {H : Type} {enc : TypeId × Value → H} {w : World} {r : Reach} {b0 : Nat} {v : Value} {d : DataW H} {ps : List MemPlace} (hval : Value.okWide Try.prog w r b0 36 v) (h : DataW.Trod enc Try.prog w 0 (fun _ => true) true 36 v d ps) :
    ∃ (r s : BitVec 64) (n i : Int) (vp : Value) (p : List (BitVec 64)), v = .agg #[encU r, encU s, .int .i64 n, .int .i64 i, vp] ∧ I64 n ∧ I64 i ∧ SliceAt encU w vp p ∧ p.length ≤ maxLen := by
  obtain ⟨cs, x, rfl, hx⟩ := opProof.agg (by kernel_rfl) hval h
  obtain ⟨c0, d0, rfl, h0, c1, d1, rfl, h1, c2, d2, rfl, h2, c3, d3, rfl, h3, h4⟩ := hx
  obtain ⟨v4, rfl, h4, hl4⟩ := holds_nums h4
  refine ⟨x.1, x.2.1, x.2.2.1, x.2.2.2.1, v4, x.2.2.2.2, ?_, h2.2, h3.2, h4, hl4⟩
  rw [h0.1, h1.1, h2.1, h3.1]; rfl

theorem check_as (b : Bool) (r s0 : BitVec 64) (n i : Int) (vp : Value) (p0 : List (BitVec 64)) (w : World) (hb : checkB r n i s0 p0 = b) (hn : I64 n) (hi : I64 i) (hp0 : p0.length ≤ 100000) (h : SliceAt encU w vp p0) :
    Calls Try.prog 16 #[encU r, .int .i64 n, .int .i64 i, encU s0, vp] w fun e w' => e = .returned (.bool b) ∧ Below w.heap.size w w' := by subst hb; exact check_any r s0 n i vp p0 w hn hi hp0 h
theorem rcheck_as (b : Bool) (r s0 : BitVec 64) (n i : Int) (vp : Value) (p0 : List (BitVec 64)) (w : World) (hb : checkB r n i s0 p0 = b) (hn : I64 n) (hi : I64 i) (hp0 : p0.length ≤ 100000) (h : SliceAt encU w vp p0) :
    Calls Try.prog 17 #[encU r, .int .i64 n, .int .i64 i, encU s0, vp] w fun e w' => e = .returned (.bool b) ∧ Below w.heap.size w w' := by subst hb; exact rcheck_any r s0 n i vp p0 w hn hi hp0 h

set_option maxRecDepth 100000 in
set_option maxHeartbeats 1000000 in
theorem sumtreeCheck_walk (r s : BitVec 64) (n i : Int) (vp : Value) (p : List (BitVec 64)) (w : World) (hn : I64 n) (hi : I64 i) (hm : p.length ≤ maxLen) (h : SliceAt encU w vp p) :
    Calls Try.prog 4 #[.agg #[encU r, encU s, .int .i64 n, .int .i64 i, vp]] w fun e w' => e = .returned (.bool true) ∧ Below w.heap.size w w' := by
  obtain ⟨ad, cap, rfl⟩ := h.shape
  have HS := Lib.hid h
  clear h
  unfold maxLen at hm
  have HXA : Hid (Ext w (w.alloc (.cells #[encU r, encU s, .int .i64 n, .int .i64 i, .slice ad p.length cap] 36))) := Ext.alloc _ _
  have HBA : Hid (BoxAt (w.alloc (.cells #[encU r, encU s, .int .i64 n, .int .i64 i, .slice ad p.length cap] 36)) w.heap.size #[encU r, encU s, .int .i64 n, .int .i64 i, .slice ad p.length cap] 36) := BoxAt.new _ _ _
  go_enter Try.func4, Try.ntmps4
  go_wp2_with fail
  go_at_call 11
  refine (awake_any _).mono ?_
  rintro e w1 ⟨rfl, hb1⟩
  have HX1 : Hid (Ext w w1) := HXA.out.trans hb1
  have HB1 := Lib.hid (HBA.out.ext hb1)
  have hc0 := HB1.out.cell 0 (v := encU r) rfl
  have hc1 := HB1.out.cell 1 (v := encU s) rfl
  have hc2 := HB1.out.cell 2 (v := .int .i64 n) rfl
  have hc3 := HB1.out.cell 3 (v := .int .i64 i) rfl
  have hc4 := HB1.out.cell 4 (v := .slice ad p.length cap) rfl
  have hz := HB1.out.lt
  clear hb1 HXA HBA
  by_cases hl : p.length ≤ 100
  · have hd : decide ((100 : Int) < (p.length : Int)) = false := by rw [decide_eq_false_iff_not]; omega
    obtain ⟨b, hb⟩ : ∃ b, checkB r n i s p = b := ⟨_, rfl⟩
    have HBb := Lib.hid hb
    have hbb : (b == b) = true := by simp
    have HN := Lib.hid hn
    have HI := Lib.hid hi
    clear hb
    go_wp2_with fail
    generalize w1 = W at *
    have hxd := Ext.drew W
    refine wp_region_ext [(0, true), (1, true), (2, true), (3, true), (4, true), (5, true), (6, true), (7, true), (8, true), (9, true), (11, true), (12, true), (13, true), (14, true), (15, true), (16, true), (17, true), (18, true), (19, true), (20, true), (10, false), (21, false), (22, true), (23, true)] (by kernel_rfl) (by kernel_rfl) ?_
    iterate 20 (first
     | (refine ext_move rfl rfl (by rfl) (by rfl) ?_; simp only [Act.put, List.setIfInBounds_toArray, List.set_cons_zero, List.set_cons_succ])
     | (refine ext_assign rfl rfl (by rfl) (by rfl) ?_; simp only [Act.put, List.setIfInBounds_toArray, List.set_cons_zero, List.set_cons_succ])
     | (refine ext_pick_t rfl rfl (by rfl) (by rfl) (by rfl) ?_; simp only [Act.put, List.setIfInBounds_toArray, List.set_cons_zero, List.set_cons_succ])
     | (refine ext_pick_f rfl rfl (by rfl) (by rfl) (by rfl) ?_; simp only [Act.put, List.setIfInBounds_toArray, List.set_cons_zero, List.set_cons_succ])
     | (apply ext_take rfl (by rfl)
        · intro w' hS
          have hSc := hS.cells
          (try simp only [World.size_drew, World.cell?_drew] at hSc)
          go_simp
          (try simp (disch := omega) only [i64_id, u64_id, ↓IntWalk.iteOmega, Int.tdiv_eq_ediv_of_nonneg, Int.tmod_eq_emod_of_nonneg])
          try rfl
        simp only [Act.put, List.setIfInBounds_toArray, List.set_cons_zero, List.set_cons_succ])
     | (refine ext_pass rfl (by rfl) ?_; simp only [Act.put, List.setIfInBounds_toArray, List.set_cons_zero, List.set_cons_succ]))
    (refine ext_do rfl (by rfl) (fun K hK => ?_)
     go_simp
     go_at_call 16
     refine (check_as b r s n i _ p _ HBb.out HN.out HI.out (by omega) (HS.out.ext (HX1.out.trans hxd))).mono ?_
     rintro e w2 ⟨rfl, hb2⟩
     have hx2 : Ext W w2 := hxd.trans hb2
     have hc2 := hx2.cells
     have hs2 := hx2.size
     have hq2 := Below.size hb2
     have hlt2 := Nat.lt_of_lt_of_le hz hs2
     (try have hlu2 := Nat.lt_of_lt_of_le hz0 hs2)
     (try have hlv2 := Nat.lt_of_lt_of_le hz1 hs2)
     skip
     refine hK _ _ (by first | exact hb2 | exact (Ext.drew _).trans hb2) ?_
     clear hK K
     (try simp only [Act.put, List.setIfInBounds_toArray, List.set_cons_zero, List.set_cons_succ]))
    (refine ext_do rfl (by rfl) (fun K hK => ?_)
     go_simp
     go_at_call 17
     refine (rcheck_as b r s n i _ p _ HBb.out HN.out HI.out (by omega) (HS.out.ext (HX1.out.trans hx2))).mono ?_
     rintro e w3 ⟨rfl, hb3⟩
     have hx3 : Ext W w3 := hx2.trans hb3
     have hc3 := hx3.cells
     have hs3 := hx3.size
     have hq3 := Below.size hb3
     have hlt3 := Nat.lt_of_lt_of_le hz hs3
     (try have hlu3 := Nat.lt_of_lt_of_le hz0 hs3)
     (try have hlv3 := Nat.lt_of_lt_of_le hz1 hs3)
     skip
     refine hK _ _ (by first | exact hb3 | exact (Ext.drew _).trans hb3) ?_
     clear hK K
     (try simp only [Act.put, List.setIfInBounds_toArray, List.set_cons_zero, List.set_cons_succ]))
    iterate 2 (first
     | (refine ext_move rfl rfl (by rfl) (by rfl) ?_; simp only [Act.put, List.setIfInBounds_toArray, List.set_cons_zero, List.set_cons_succ])
     | (refine ext_assign rfl rfl (by rfl) (by rfl) ?_; simp only [Act.put, List.setIfInBounds_toArray, List.set_cons_zero, List.set_cons_succ])
     | (refine ext_pick_t rfl rfl (by rfl) (by rfl) (by rfl) ?_; simp only [Act.put, List.setIfInBounds_toArray, List.set_cons_zero, List.set_cons_succ])
     | (refine ext_pick_f rfl rfl (by rfl) (by rfl) (by rfl) ?_; simp only [Act.put, List.setIfInBounds_toArray, List.set_cons_zero, List.set_cons_succ])
     | (apply ext_take rfl (by rfl)
        · intro w' hS
          have hSc := hS.cells
          (try simp only [World.size_drew, World.cell?_drew] at hSc)
          go_simp
          (try simp (disch := omega) only [i64_id, u64_id, ↓IntWalk.iteOmega, Int.tdiv_eq_ediv_of_nonneg, Int.tmod_eq_emod_of_nonneg])
          try rfl
        simp only [Act.put, List.setIfInBounds_toArray, List.set_cons_zero, List.set_cons_succ])
     | (refine ext_pass rfl (by rfl) ?_; simp only [Act.put, List.setIfInBounds_toArray, List.set_cons_zero, List.set_cons_succ]))
    refine ext_nil ?_
    go_wp2_with fail
    go_ret
    exact ⟨rfl, HX1.out.trans hx3⟩
  · have hd : decide ((100 : Int) < (p.length : Int)) = true := by rw [decide_eq_true_eq]; omega
    go_wp2_with fail
    go_at_call 11
    refine (awake_any _).mono ?_
    rintro e w3 ⟨rfl, hb3⟩
    have HX3 : Hid (Ext w1 w3) := hb3
    clear hb3
    go_wp2_with fail
    go_ret
    exact ⟨rfl, HX1.out.trans HX3.out⟩

set_option maxRecDepth 100000 in
set_option maxHeartbeats 2000000 in
theorem sumtreeProves_walk (vl : Value) (l : List (BitVec 64)) (i : Int) (x : BitVec 64) (w : World) (hi : I64 i) (hm : l.length ≤ maxLen) (h : SliceAt encU w vl l) :
    Calls Try.prog 5 #[vl, .int .i64 i, encU x] w fun e w' => e = .returned (.bool true) ∧ Below w.heap.size w w' := by
  obtain ⟨ad, cap, rfl⟩ := h.shape
  have HS := Lib.hid h
  clear h
  unfold maxLen at hm
  have hno : (l.length ≤ 100 ∧ 0 ≤ i ∧ i < l.length) ∨ ¬ (l.length ≤ 100 ∧ 0 ≤ i ∧ i < l.length) := Decidable.em _
  rcases hno with hc | hc
  · obtain ⟨hl, hi0, hi1⟩ := hc
    obtain ⟨k, rfl⟩ := Int.eq_ofNat_of_zero_le hi0
    have hk : k < l.length := by omega
    have hd1 : decide ((100 : Int) < (l.length : Int)) = false := by rw [decide_eq_false_iff_not]; omega
    have hd2 : decide ((k : Int) < 0) = false := by rw [decide_eq_false_iff_not]; omega
    have hd3 : decide ((l.length : Int) ≤ (k : Int)) = false := by rw [decide_eq_false_iff_not]; omega
    have hd4 : decide (l.length ≤ k) = false := by rw [decide_eq_false_iff_not]; omega
    have hkl : (k : Int) < (l.length : Int) := by omega
    clear hi0 hi1
    go_enter Try.func5, Try.ntmps5
    go_wp2_with fail
    go_at_call 11
    refine (awake_any _).mono ?_
    rintro e w1 ⟨rfl, hb1⟩
    have HX1 : Hid (Ext w w1) := hb1
    clear hb1
    go_wp2_with fail
    go_at_call 13
    refine (build_any _ l _ (by omega) (HS.out.ext HX1.out)).mono ?_
    rintro e w2 ⟨P, rfl, ht, hb2⟩
    obtain ⟨ap, hTV⟩ := treeV_ptr l.length P
    have HTV := Lib.hid hTV
    rw [hTV]
    have e3 : Ext w2 (w2.alloc (.cells #[.int .i64 l.length, .int .i64 (hgt l.length), .pointer ap] 29)) := Ext.alloc _ _
    have HX3 : Hid (Ext w (w2.alloc (.cells #[.int .i64 l.length, .int .i64 (hgt l.length), .pointer ap] 29))) := HX1.out.trans (Ext.trans hb2 e3)
    have HB3 : Hid (BoxAt (w2.alloc (.cells #[.int .i64 l.length, .int .i64 (hgt l.length), .pointer ap] 29)) w2.heap.size #[.int .i64 l.length, .int .i64 (hgt l.length), .pointer ap] 29) := BoxAt.new _ _ _
    have HT3 := Lib.hid (ht.ext e3)
    clear ht hb2 hTV e3
    go_wp2_with fail
    generalize w2.alloc (.cells #[.int .i64 l.length, .int .i64 (hgt l.length), .pointer ap] 29) = w3 at *
    generalize w2.heap.size = gT at *
    go_at_call 12
    have hpa := path_any l P k w3 (by omega) HT3.out
    rw [HTV.out, show pathO l k = some (pathL l k) from if_pos ⟨by omega, by omega⟩] at hpa
    refine hpa.mono ?_
    rintro e w4 ⟨vp, rfl, hs, hb4⟩
    simp only [Option.getD_some, Option.isSome_some, if_true] at hs ⊢
    obtain ⟨pp, hpp⟩ : ∃ p, pathL l k = p := ⟨_, rfl⟩
    have HPP := Lib.hid hpp
    have hplen : pp.length ≤ 100000 := by
      have h1 := pathK_le l k (hgt l.length) 0
      have h2 := hgt_small (n := l.length) (by omega)
      rw [show pathK l k 0 (hgt l.length) = pp from hpp] at h1
      omega
    rw [hpp] at hs
    have HX4 : Hid (Ext w w4) := HX3.out.trans hb4
    have HX34 : Hid (Ext w3 w4) := hb4
    have HP4 := Lib.hid hs
    have HB4 := Lib.hid (HB3.out.ext hb4)
    obtain ⟨app, cpp, rfl⟩ := hs.shape
    have hc0 := HB4.out.cell 0 (v := .int .i64 l.length) rfl
    have hc1 := HB4.out.cell 1 (v := .int .i64 (hgt l.length)) rfl
    have hc2 := HB4.out.cell 2 (v := .pointer ap) rfl
    have hcl := HB4.out.lt
    clear hpa hb4 hs hpp
    go_wp2_with fail
    go_at_call 18
    have hrt := root_tree l P w4 (by omega) (HT3.out.ext HX34.out)
    rw [HTV.out] at hrt
    obtain ⟨rt, hrr⟩ : ∃ x, rootL l = x := ⟨_, rfl⟩
    have HRR := Lib.hid hrr
    rw [hrr] at hrt
    refine hrt.mono ?_
    rintro e w5 ⟨rfl, hb5⟩
    have HX5 : Hid (Ext w w5) := HX4.out.trans hb5
    have HP5 := Lib.hid (HP4.out.ext hb5)
    obtain ⟨b, off, rfl, hb, hcc⟩ := (HS.out.ext HX5.out).get k hk
    obtain ⟨y, hy⟩ : ∃ y, l[k] = y := ⟨_, rfl⟩
    have HY : Hid (l.getD k 0#64 = y) := by show _ = _; rw [getD_in hk]; exact hy
    have HCT : Hid (checkB rt l.length k y pp = true) := by
      show _ = _
      rw [← HRR.out, ← HY.out, ← HPP.out]
      exact check_true hk (by omega)
    rw [hy] at hcc
    clear hrt hb5 hrr hy hc0 hc1 hc2 hcl
    go_wp2_with fail
    go_at_call 16
    refine (check_as true rt y l.length k _ pp _ HCT.out ⟨by omega, by omega⟩ ⟨by omega, by omega⟩ hplen HP5.out).mono ?_
    rintro e w6 ⟨rfl, hb6⟩
    have HX6 : Hid (Ext w5 w6) := hb6
    obtain ⟨b1, hb1⟩ : ∃ c, checkB rt l.length k x pp = c := ⟨_, rfl⟩
    have HB1 := Lib.hid hb1
    clear hb6 hb1
    go_wp2_with fail
    go_at_call 16
    refine (check_as b1 rt x l.length k _ pp _ HB1.out ⟨by omega, by omega⟩ ⟨by omega, by omega⟩ hplen (HP5.out.ext HX6.out)).mono ?_
    rintro e w7 ⟨rfl, hb7⟩
    have HX7 : Hid (Ext w5 w7) := HX6.out.trans hb7
    clear hb7
    go_wp2_with fail
    go_at_call 17
    refine (rcheck_as b1 rt x l.length k _ pp _ HB1.out ⟨by omega, by omega⟩ ⟨by omega, by omega⟩ hplen (HP5.out.ext HX7.out)).mono ?_
    rintro e w8 ⟨rfl, hb8⟩
    have HX8 : Hid (Ext w5 w8) := HX7.out.trans hb8
    have hbb : (b1 == b1) = true := by simp
    have hc8 := (HX8.out.cell _ _ hb).trans hcc
    have hb9 := Nat.lt_of_lt_of_le hb HX8.out.size
    have HCX : Hid (checkB x l.length k y pp = decide (x = rt)) := by
      have h1 := HCT.out
      have hcond : (1 : Int) ≤ (l.length : Int) ∧ (l.length : Int) ≤ 1048576 ∧ (0 : Int) ≤ (k : Int) ∧ (k : Int) < (l.length : Int) := ⟨by omega, by omega, by omega, by omega⟩
      show _ = _
      unfold checkB at h1 ⊢
      rw [if_pos hcond] at h1 ⊢
      cases hcv : chk (l.length : Int).toNat (k : Int).toNat y pp with
      | none => rw [hcv] at h1; cases h1
      | some z =>
        rw [hcv] at h1
        simp only at h1 ⊢
        have h2 : topL (l.length : Int).toNat z = rt := of_decide_eq_true h1
        rw [h2]
        simp only [eq_comm]
    clear hb8
    go_wp2_with fail
    go_at_call 16
    refine (check_as (decide (x = rt)) x y l.length k _ pp _ HCX.out ⟨by omega, by omega⟩ ⟨by omega, by omega⟩ hplen (HP5.out.ext HX8.out)).mono ?_
    rintro e w9 ⟨rfl, hb10⟩
    have HX9 : Hid (Ext w w9) := HX5.out.trans (HX8.out.trans hb10)
    have hqq : (decide (x = rt) == decide (x = rt)) = true := by simp
    clear hb10
    go_wp2_with fail
    go_ret
    exact ⟨rfl, HX9.out⟩
  · have HC := Lib.hid hc
    clear hc
    go_enter Try.func5, Try.ntmps5
    go_wp2_with fail
    go_at_call 11
    refine (awake_any _).mono ?_
    rintro e w1 ⟨rfl, hb1⟩
    have HX1 : Hid (Ext w w1) := hb1
    clear hb1
    by_cases hl : l.length ≤ 100
    · have hd1 : decide ((100 : Int) < (l.length : Int)) = false := by rw [decide_eq_false_iff_not]; omega
      by_cases hi0 : i < 0
      · have hd2 : decide (i < 0) = true := decide_eq_true hi0
        go_wp2_with fail
        go_at_call 11
        refine (awake_any _).mono ?_
        rintro e w3 ⟨rfl, hb3⟩
        have HX3 : Hid (Ext w1 w3) := hb3
        clear hb3
        go_wp2_with fail
        go_ret
        exact ⟨rfl, HX1.out.trans HX3.out⟩
      · have hd2 : decide (i < 0) = false := decide_eq_false hi0
        have hd3 : decide ((l.length : Int) ≤ i) = true := by rw [decide_eq_true_eq]; have := HC.out; omega
        go_wp2_with fail
        go_at_call 11
        refine (awake_any _).mono ?_
        rintro e w3 ⟨rfl, hb3⟩
        have HX3 : Hid (Ext w1 w3) := hb3
        clear hb3
        go_wp2_with fail
        go_ret
        exact ⟨rfl, HX1.out.trans HX3.out⟩
    · have hd1 : decide ((100 : Int) < (l.length : Int)) = true := by rw [decide_eq_true_eq]; omega
      go_wp2_with fail
      go_at_call 11
      refine (awake_any _).mono ?_
      rintro e w3 ⟨rfl, hb3⟩
      have HX3 : Hid (Ext w1 w3) := hb3
      clear hb3
      go_wp2_with fail
      go_ret
      exact ⟨rfl, HX1.out.trans HX3.out⟩
end Go.Proofs.Ytdhlikjdcnfkpaa
