/-
  Chapter 26 (sumtree): Check.
-/
import Derived.Test.YtdhlikjdcnfkpaaStF
import Derived.Test.YtdhlikjdcnfkpaaAltB
import Derived.Deep.DeepCutAuto
namespace Go.Proofs.Ytdhlikjdcnfkpaa
open Go.RowKit
set_option linter.unusedVariables false

theorem chk_step {size i : Nat} {s : BitVec 64} {p : List (BitVec 64)} (h : 1 < size) (k : Nat) (hk : min 4 (size - 4 * (i / 4)) = k) (hp : ¬ p.length < k - 1) :
    chk size i s p = chk ((size + 3) / 4) (i / 4) (runL (p.take (i % 4) ++ [s] ++ (p.drop (i % 4)).take (k - 1 - i % 4))) (p.drop (k - 1)) := by
  rw [chk, dif_neg (by omega), hk, if_neg hp, List.drop_take]
theorem chk_short {size i : Nat} {s : BitVec 64} {p : List (BitVec 64)} (h : 1 < size) (hp : p.length < min 4 (size - 4 * (i / 4)) - 1) : chk size i s p = none := by
  rw [chk, dif_neg (by omega), if_pos hp]
theorem chk_last {size i : Nat} {s : BitVec 64} {p : List (BitVec 64)} (h : ¬ 1 < size) : chk size i s p = if p = [] then some s else none := by
  rw [chk, dif_pos (by omega)]
/-- what Check answers of a result -/
def ansB (r : BitVec 64) (n : Nat) : Option (BitVec 64) → Bool
  | some x => decide (topL n x = r)
  | none => false

set_option maxRecDepth 100000 in
set_option maxHeartbeats 1000000 in
theorem check_in (r s0 : BitVec 64) (n i0 : Nat) (vp : Value) (p0 : List (BitVec 64)) (w : World) (hn : 1 ≤ n) (hn2 : n ≤ 1048576) (hi0 : i0 < n) (hp0 : p0.length ≤ 100000) (h : SliceAt encU w vp p0) :
    Calls Try.prog 16 #[encU r, .int .i64 n, .int .i64 i0, encU s0, vp] w fun e w' => e = .returned (.bool (ansB r n (chk n i0 s0 p0))) ∧ Below w.heap.size w w' := by
  obtain ⟨j0, hj, hj0, hj1, hj2⟩ := info_parts infoU
  obtain ⟨ad, cap, rfl⟩ := h.shape
  have hRes : ∃ o, chk n i0 s0 p0 = o := ⟨_, rfl⟩
  obtain ⟨o, ho⟩ := hRes
  rw [ho]
  have HO := Lib.hid ho
  have HS := Lib.hid h
  have hd1 : decide ((n : Int) < 1) = false := by rw [decide_eq_false_iff_not]; omega
  have hd2 : decide ((1048576 : Int) < (n : Int)) = false := by rw [decide_eq_false_iff_not]; omega
  have hd3 : decide ((i0 : Int) < 0) = false := by rw [decide_eq_false_iff_not]; omega
  have hd4 : decide ((n : Int) ≤ (i0 : Int)) = false := by rw [decide_eq_false_iff_not]; omega
  have hd5 : decide (n ≤ i0) = false := by rw [decide_eq_false_iff_not]; omega
  clear ho h
  go_enter Try.func16, Try.ntmps16
  go_wp2_with fail
  go_loopw [2, 3, 4, 11] (fun iv sv pv zv wr => ∃ (i size : Nat) (s : BitVec 64) (p : List (BitVec 64)), iv = .int .i64 i ∧ sv = encU s ∧ zv = .int .i64 size ∧ i < size ∧ size ≤ 1048576 ∧ p.length ≤ 100000 ∧ Hid (SliceAt encU w pv p) ∧ Hid (chk size i s p = o) ∧ Hid (Ext w wr)) (fun _ _ _ zv _ => (intOf zv).toNat)
  case atStart => exact ⟨i0, n, s0, p0, rfl, rfl, rfl, hi0, hn2, hp0, HS, HO, Lib.hid (Ext.refl _)⟩
  case round =>
    obtain ⟨i, size, s, p, rfl, rfl, rfl, hi, hsz, hpl, HP, HC, HX⟩ := hrel
    obtain ⟨ap, cp, rfl⟩ := HP.out.shape
    by_cases h1 : 1 < size
    · have h1' : (1 : Int) < (size : Int) := by omega
      obtain ⟨kid, hkid⟩ : ∃ kid, i % 4 = kid := ⟨_, rfl⟩
      obtain ⟨k, hk⟩ : ∃ k, min 4 (size - 4 * (i / 4)) = k := ⟨_, rfl⟩
      have hkk : kid < k := by omega
      have hk4 : k ≤ 4 := by omega
      have hrm : (i : Int).tmod 4 = (kid : Int) := by rw [Int.tmod_eq_emod_of_nonneg (by omega)]; omega
      have hrm2 : (i : Int) % 4 = (kid : Int) := by omega
      have hMin := fun (w : World) (ts : Array TypeId) (t : TypeId) => run_min2 (P := Try.prog) w ts t 4 ((size : Int) - ((i : Int) - (kid : Int)))
      rw [show min (4 : Int) ((size : Int) - ((i : Int) - (kid : Int))) = (k : Int) by omega] at hMin
      have HKID := Lib.hid hkid
      have HK := Lib.hid hk
      clear hkid hk
      by_cases hp : p.length < k - 1
      · have hlt : (p.length : Int) < (k : Int) - 1 := by omega
        have hN : Hid (ansB r n o = false) := by show _ = _; rw [← HC.out, chk_short h1 (by rw [HK.out]; exact hp)]; rfl
        go_wp2_with fail
        go_ret
        rw [hN.out]
        exact ⟨rfl, HX.out⟩
      · have hlt : ¬ ((p.length : Int) < (k : Int) - 1) := by omega
        have hlt2 : decide ((p.length : Int) < (k : Int) - 1) = false := decide_eq_false hlt
        have HST := Lib.hid (chk_step (s := s) h1 k HK.out hp)
        rw [HKID.out] at HST
        have HC1 := HP.out.take kid (by omega)
        obtain ⟨A2, hA2, HC2⟩ := HP.out.cutA kid (k - 1) (by omega) (by omega)
        obtain ⟨A3, hA3, HC3⟩ := HP.out.cutA (k - 1) p.length (by omega) (Nat.le_refl _)
        have hcp := HP.out.cap.2
        have n1 : ((k : Int) - 1).toNat = k - 1 := by omega
        have hkm : ((k : Int) - 1) = ((k - 1 : Nat) : Int) := by omega
        have lt1 : (p.take kid).length ≤ 4 := by rw [List.length_take]; omega
        have lt2 : ((p.drop kid).take (k - 1 - kid)).length ≤ 4 := by rw [List.length_take]; omega
        have HC1 := Lib.hid (HC1.ext HX.out)
        have HC2 := Lib.hid (HC2.ext HX.out)
        have HC3 := Lib.hid HC3
        have HLT1 := Lib.hid lt1
        have HLT2 := Lib.hid lt2
        clear lt1 lt2
        go_upto_region 10 with fail
        go_cut [14] (fun s14 wx => Hid (OwnG encU 34 wx wr.heap.size s14 (p.take kid ++ [s] ++ (p.drop kid).take (k - 1 - kid))) ∧ Hid (Ext wr wx))
        case first =>
          refine wp_region_extTB (.take 1 (.take 2 (.take 3 (.take 5 (.take 8 (.take 9 (.take 10 (.take 11 (.take 12 (.two 0 6 (.two 4 6 (.one 6 (.one 7 (.one 13 (.take 14 .done)))) (.one 4 (.one 7 (.one 13 (.take 14 .done))))) (.one 0 (.one 4 (.one 7 (.one 13 (.take 14 .done))))))))))))))) (by kernel_rfl) (by kernel_rfl) (fun wc hxc => ?_)
          iterate 9 (first
           | (refine extT_move rfl rfl (by rfl) (by rfl) ?_; simp only [Act.put, List.setIfInBounds_toArray, List.set_cons_zero, List.set_cons_succ])
           | (refine extT_assign rfl rfl (by rfl) (by rfl) ?_; simp only [Act.put, List.setIfInBounds_toArray, List.set_cons_zero, List.set_cons_succ])
           | (refine extT_pick_t rfl rfl (by rfl) (by rfl) (by rfl) ?_; simp only [Act.put, List.setIfInBounds_toArray, List.set_cons_zero, List.set_cons_succ])
           | (refine extT_pick_f rfl rfl (by rfl) (by rfl) (by rfl) ?_; simp only [Act.put, List.setIfInBounds_toArray, List.set_cons_zero, List.set_cons_succ])
           | (apply extT_take rfl (by rfl)
              · intro w' hS
                have hSc := hS.cells
                (try simp only [World.size_drew, World.cell?_drew] at hSc)
                go_simp
                (try simp (disch := omega) only [i64_id, u64_id, ↓IntWalk.iteOmega, Int.tdiv_eq_ediv_of_nonneg, Int.tmod_eq_emod_of_nonneg])
                try rfl
              simp only [Act.put, List.setIfInBounds_toArray, List.set_cons_zero, List.set_cons_succ])
           | (refine extT_pass rfl (by rfl) ?_; simp only [Act.put, List.setIfInBounds_toArray, List.set_cons_zero, List.set_cons_succ]))
          refine extT_twoB rfl rfl (by rfl) (by rfl) (fun K hK => ?_) (fun K hK => ?_)
          go_simp
          have hst : Ext wc (wc.alloc (.cells #[] 34)) := Ext.alloc _ _
          have hq0 : OwnG encU 34 (wc.alloc (.cells #[] 34)) wr.heap.size (.slice (some ⟨wc.heap.size, 0, none⟩) 0 0) [] := OwnG.lit (enc := encU) wc [] 34 wr.heap.size hxc.size (Nat.zero_le _) #[] rfl
          skip
          refine hK _ _ (hxc.trans hst) ?_
          clear hK K
          replace hxc := hxc.trans hst
          clear hst
          generalize wc.alloc (.cells #[] 34) = wn at *
          generalize wc.heap.size = q0 at *
          generalize wn = wc at *
          (try simp only [Act.put, List.setIfInBounds_toArray, List.set_cons_zero, List.set_cons_succ])
          refine extT_twoB rfl rfl (by rfl) (by rfl) (fun K hK => ?_) (fun K hK => ?_)
          refine wp_of_list rfl ?_
          refine wpList_append_lit (enc := encU) (fun _ => rfl) rfl _ _ 22 rfl 34 j0 (.int .u64 0) 8 Try.underlying22 hj hj0 hj1 hj2 rfl wr.heap.size _ rfl hq0 hxc.size _ (p.take kid) rfl (HC1.out.ext hxc) (by have := HLT1.out; unfold maxLen; omega) (by have := HLT1.out; omega) ?_
          intro v4 wn ho4 hst _
          skip
          replace hq0 := hq0.ext hst
          refine hK _ _ (hxc.trans hst) ?_
          clear hK K
          replace hxc := hxc.trans hst
          clear hst
          generalize wn = wc at *
          (try simp only [Act.put, List.setIfInBounds_toArray, List.set_cons_zero, List.set_cons_succ])
          refine extT_doB rfl (by rfl) (fun K hK => ?_)
          go_simp
          have hst : Ext wc (wc.alloc (.cells #[encU s] 34)) := Ext.alloc _ _
          have hb6 : BoxAt (wc.alloc (.cells #[encU s] 34)) wc.heap.size #[encU s] 34 := BoxAt.new _ _ _
          replace hq0 := hq0.ext hst
          replace ho4 := ho4.ext hst
          refine hK _ _ (hxc.trans hst) ?_
          clear hK K
          replace hxc := hxc.trans hst
          clear hst
          generalize wc.alloc (.cells #[encU s] 34) = wn at *
          generalize wc.heap.size = q6 at *
          generalize wn = wc at *
          (try simp only [Act.put, List.setIfInBounds_toArray, List.set_cons_zero, List.set_cons_succ])
          refine extT_doB rfl (by rfl) (fun K hK => ?_)
          refine wp_of_list rfl ?_
          refine wpList_append_one rfl _ _ 22 rfl wr.heap.size 34 j0 (.int .u64 0) 8 Try.underlying22 hj hj0 hj1 hj2 rfl _ _ _ rfl ho4 _ (encU s) rfl rfl (hb6.cell 0 rfl) (by have := HLT1.out; unfold maxLen; omega) (by have := HLT1.out; omega) hxc.size ?_
          intro v7 wn ho7 hg7 _
          have hxn : Ext wr wn := Below.grown hxc hg7 hxc.size (fun q hq => (ho4.lt q hq).1)
          replace ho7 : OwnG encU 34 wn wr.heap.size v7 (p.take kid ++ [s]) := OwnG.snoc (enc := encU) (x := s) ho7
          refine hK _ _ hxn ?_
          clear hK K hg7 hb6 hq0 ho4
          replace hxc := hxn
          clear hxn
          generalize wn = wc at *
          (try simp only [Act.put, List.setIfInBounds_toArray, List.set_cons_zero, List.set_cons_succ])
          refine extT_doB rfl (by rfl) (fun K hK => ?_)
          refine wp_of_list rfl ?_
          refine wpList_append_slice (enc := encU) (fun _ => rfl) rfl _ _ 22 rfl wr.heap.size 34 j0 (.int .u64 0) 8 Try.underlying22 hj hj0 hj1 hj2 rfl _ _ _ rfl ho7 _ ((p.drop kid).take (k - 1 - kid)) rfl (HC2.out.ext hxc) (by have := HLT1.out; have := HLT2.out; unfold maxLen; simp only [List.length_append, List.length_singleton]; omega) (by have := HLT1.out; have := HLT2.out; simp only [List.length_append, List.length_singleton]; omega) hxc.size ?_
          intro v13 wn ho13 hg13
          have hxn : Ext wr wn := Below.grown hxc hg13 hxc.size (fun q hq => (ho7.lt q hq).1)
          replace ho13 : OwnG encU 34 wn wr.heap.size v13 (p.take kid ++ [s] ++ (p.drop kid).take (k - 1 - kid)) := OwnG.app ho13
          refine hK _ _ hxn ?_
          clear hK K hg13 ho7 hxc
          (try simp only [Act.put, List.setIfInBounds_toArray, List.set_cons_zero, List.set_cons_succ])
          iterate 1 (first
           | (refine extT_move rfl rfl (by rfl) (by rfl) ?_; simp only [Act.put, List.setIfInBounds_toArray, List.set_cons_zero, List.set_cons_succ])
           | (refine extT_assign rfl rfl (by rfl) (by rfl) ?_; simp only [Act.put, List.setIfInBounds_toArray, List.set_cons_zero, List.set_cons_succ])
           | (refine extT_pick_t rfl rfl (by rfl) (by rfl) (by rfl) ?_; simp only [Act.put, List.setIfInBounds_toArray, List.set_cons_zero, List.set_cons_succ])
           | (refine extT_pick_f rfl rfl (by rfl) (by rfl) (by rfl) ?_; simp only [Act.put, List.setIfInBounds_toArray, List.set_cons_zero, List.set_cons_succ])
           | (apply extT_take rfl (by rfl)
              · intro w' hS
                have hSc := hS.cells
                (try simp only [World.size_drew, World.cell?_drew] at hSc)
                go_simp
                (try simp (disch := omega) only [i64_id, u64_id, ↓IntWalk.iteOmega, Int.tdiv_eq_ediv_of_nonneg, Int.tmod_eq_emod_of_nonneg])
                try rfl
              simp only [Act.put, List.setIfInBounds_toArray, List.set_cons_zero, List.set_cons_succ])
           | (refine extT_pass rfl (by rfl) ?_; simp only [Act.put, List.setIfInBounds_toArray, List.set_cons_zero, List.set_cons_succ]))
          refine extT_nil ?_
          (go_wp2_with fail; go_meet; exact ⟨ho13, hxn⟩)
          skip
          go_simp
          have hst : Ext wc (wc.alloc (.cells #[encU s] 34)) := Ext.alloc _ _
          have hb6 : BoxAt (wc.alloc (.cells #[encU s] 34)) wc.heap.size #[encU s] 34 := BoxAt.new _ _ _
          replace hq0 := hq0.ext hst
          skip
          refine hK _ _ (hxc.trans hst) ?_
          clear hK K
          replace hxc := hxc.trans hst
          clear hst
          generalize wc.alloc (.cells #[encU s] 34) = wn at *
          generalize wc.heap.size = q6 at *
          generalize wn = wc at *
          (try simp only [Act.put, List.setIfInBounds_toArray, List.set_cons_zero, List.set_cons_succ])
          refine extT_doB rfl (by rfl) (fun K hK => ?_)
          refine wp_of_list rfl ?_
          refine wpList_append_lit (enc := encU) (fun _ => rfl) rfl _ _ 22 rfl 34 j0 (.int .u64 0) 8 Try.underlying22 hj hj0 hj1 hj2 rfl wr.heap.size _ rfl hq0 hxc.size _ (p.take kid) rfl (HC1.out.ext hxc) (by have := HLT1.out; unfold maxLen; omega) (by have := HLT1.out; omega) ?_
          intro v4 wn ho4 hst _
          replace hb6 := hb6.ext hst
          replace hq0 := hq0.ext hst
          refine hK _ _ (hxc.trans hst) ?_
          clear hK K
          replace hxc := hxc.trans hst
          clear hst
          generalize wn = wc at *
          (try simp only [Act.put, List.setIfInBounds_toArray, List.set_cons_zero, List.set_cons_succ])
          refine extT_doB rfl (by rfl) (fun K hK => ?_)
          refine wp_of_list rfl ?_
          refine wpList_append_one rfl _ _ 22 rfl wr.heap.size 34 j0 (.int .u64 0) 8 Try.underlying22 hj hj0 hj1 hj2 rfl _ _ _ rfl ho4 _ (encU s) rfl rfl (hb6.cell 0 rfl) (by have := HLT1.out; unfold maxLen; omega) (by have := HLT1.out; omega) hxc.size ?_
          intro v7 wn ho7 hg7 _
          have hxn : Ext wr wn := Below.grown hxc hg7 hxc.size (fun q hq => (ho4.lt q hq).1)
          replace ho7 : OwnG encU 34 wn wr.heap.size v7 (p.take kid ++ [s]) := OwnG.snoc (enc := encU) (x := s) ho7
          refine hK _ _ hxn ?_
          clear hK K hg7 hb6 hq0 ho4
          replace hxc := hxn
          clear hxn
          generalize wn = wc at *
          (try simp only [Act.put, List.setIfInBounds_toArray, List.set_cons_zero, List.set_cons_succ])
          refine extT_doB rfl (by rfl) (fun K hK => ?_)
          refine wp_of_list rfl ?_
          refine wpList_append_slice (enc := encU) (fun _ => rfl) rfl _ _ 22 rfl wr.heap.size 34 j0 (.int .u64 0) 8 Try.underlying22 hj hj0 hj1 hj2 rfl _ _ _ rfl ho7 _ ((p.drop kid).take (k - 1 - kid)) rfl (HC2.out.ext hxc) (by have := HLT1.out; have := HLT2.out; unfold maxLen; simp only [List.length_append, List.length_singleton]; omega) (by have := HLT1.out; have := HLT2.out; simp only [List.length_append, List.length_singleton]; omega) hxc.size ?_
          intro v13 wn ho13 hg13
          have hxn : Ext wr wn := Below.grown hxc hg13 hxc.size (fun q hq => (ho7.lt q hq).1)
          replace ho13 : OwnG encU 34 wn wr.heap.size v13 (p.take kid ++ [s] ++ (p.drop kid).take (k - 1 - kid)) := OwnG.app ho13
          refine hK _ _ hxn ?_
          clear hK K hg13 ho7 hxc
          (try simp only [Act.put, List.setIfInBounds_toArray, List.set_cons_zero, List.set_cons_succ])
          iterate 1 (first
           | (refine extT_move rfl rfl (by rfl) (by rfl) ?_; simp only [Act.put, List.setIfInBounds_toArray, List.set_cons_zero, List.set_cons_succ])
           | (refine extT_assign rfl rfl (by rfl) (by rfl) ?_; simp only [Act.put, List.setIfInBounds_toArray, List.set_cons_zero, List.set_cons_succ])
           | (refine extT_pick_t rfl rfl (by rfl) (by rfl) (by rfl) ?_; simp only [Act.put, List.setIfInBounds_toArray, List.set_cons_zero, List.set_cons_succ])
           | (refine extT_pick_f rfl rfl (by rfl) (by rfl) (by rfl) ?_; simp only [Act.put, List.setIfInBounds_toArray, List.set_cons_zero, List.set_cons_succ])
           | (apply extT_take rfl (by rfl)
              · intro w' hS
                have hSc := hS.cells
                (try simp only [World.size_drew, World.cell?_drew] at hSc)
                go_simp
                (try simp (disch := omega) only [i64_id, u64_id, ↓IntWalk.iteOmega, Int.tdiv_eq_ediv_of_nonneg, Int.tmod_eq_emod_of_nonneg])
                try rfl
              simp only [Act.put, List.setIfInBounds_toArray, List.set_cons_zero, List.set_cons_succ])
           | (refine extT_pass rfl (by rfl) ?_; simp only [Act.put, List.setIfInBounds_toArray, List.set_cons_zero, List.set_cons_succ]))
          refine extT_nil ?_
          (go_wp2_with fail; go_meet; exact ⟨ho13, hxn⟩)
          skip
          go_simp
          have hst : Ext wc (wc.alloc (.cells #[encU s] 34)) := Ext.alloc _ _
          have hb6 : BoxAt (wc.alloc (.cells #[encU s] 34)) wc.heap.size #[encU s] 34 := BoxAt.new _ _ _
          skip
          skip
          refine hK _ _ (hxc.trans hst) ?_
          clear hK K
          replace hxc := hxc.trans hst
          clear hst
          generalize wc.alloc (.cells #[encU s] 34) = wn at *
          generalize wc.heap.size = q6 at *
          generalize wn = wc at *
          (try simp only [Act.put, List.setIfInBounds_toArray, List.set_cons_zero, List.set_cons_succ])
          refine extT_doB rfl (by rfl) (fun K hK => ?_)
          go_simp
          have hst : Ext wc (wc.alloc (.cells #[] 34)) := Ext.alloc _ _
          have hq0 : OwnG encU 34 (wc.alloc (.cells #[] 34)) wr.heap.size (.slice (some ⟨wc.heap.size, 0, none⟩) 0 0) [] := OwnG.lit (enc := encU) wc [] 34 wr.heap.size hxc.size (Nat.zero_le _) #[] rfl
          replace hb6 := hb6.ext hst
          refine hK _ _ (hxc.trans hst) ?_
          clear hK K
          replace hxc := hxc.trans hst
          clear hst
          generalize wc.alloc (.cells #[] 34) = wn at *
          generalize wc.heap.size = q0 at *
          generalize wn = wc at *
          (try simp only [Act.put, List.setIfInBounds_toArray, List.set_cons_zero, List.set_cons_succ])
          refine extT_doB rfl (by rfl) (fun K hK => ?_)
          refine wp_of_list rfl ?_
          refine wpList_append_lit (enc := encU) (fun _ => rfl) rfl _ _ 22 rfl 34 j0 (.int .u64 0) 8 Try.underlying22 hj hj0 hj1 hj2 rfl wr.heap.size _ rfl hq0 hxc.size _ (p.take kid) rfl (HC1.out.ext hxc) (by have := HLT1.out; unfold maxLen; omega) (by have := HLT1.out; omega) ?_
          intro v4 wn ho4 hst _
          replace hb6 := hb6.ext hst
          replace hq0 := hq0.ext hst
          refine hK _ _ (hxc.trans hst) ?_
          clear hK K
          replace hxc := hxc.trans hst
          clear hst
          generalize wn = wc at *
          (try simp only [Act.put, List.setIfInBounds_toArray, List.set_cons_zero, List.set_cons_succ])
          refine extT_doB rfl (by rfl) (fun K hK => ?_)
          refine wp_of_list rfl ?_
          refine wpList_append_one rfl _ _ 22 rfl wr.heap.size 34 j0 (.int .u64 0) 8 Try.underlying22 hj hj0 hj1 hj2 rfl _ _ _ rfl ho4 _ (encU s) rfl rfl (hb6.cell 0 rfl) (by have := HLT1.out; unfold maxLen; omega) (by have := HLT1.out; omega) hxc.size ?_
          intro v7 wn ho7 hg7 _
          have hxn : Ext wr wn := Below.grown hxc hg7 hxc.size (fun q hq => (ho4.lt q hq).1)
          replace ho7 : OwnG encU 34 wn wr.heap.size v7 (p.take kid ++ [s]) := OwnG.snoc (enc := encU) (x := s) ho7
          refine hK _ _ hxn ?_
          clear hK K hg7 hb6 hq0 ho4
          replace hxc := hxn
          clear hxn
          generalize wn = wc at *
          (try simp only [Act.put, List.setIfInBounds_toArray, List.set_cons_zero, List.set_cons_succ])
          refine extT_doB rfl (by rfl) (fun K hK => ?_)
          refine wp_of_list rfl ?_
          refine wpList_append_slice (enc := encU) (fun _ => rfl) rfl _ _ 22 rfl wr.heap.size 34 j0 (.int .u64 0) 8 Try.underlying22 hj hj0 hj1 hj2 rfl _ _ _ rfl ho7 _ ((p.drop kid).take (k - 1 - kid)) rfl (HC2.out.ext hxc) (by have := HLT1.out; have := HLT2.out; unfold maxLen; simp only [List.length_append, List.length_singleton]; omega) (by have := HLT1.out; have := HLT2.out; simp only [List.length_append, List.length_singleton]; omega) hxc.size ?_
          intro v13 wn ho13 hg13
          have hxn : Ext wr wn := Below.grown hxc hg13 hxc.size (fun q hq => (ho7.lt q hq).1)
          replace ho13 : OwnG encU 34 wn wr.heap.size v13 (p.take kid ++ [s] ++ (p.drop kid).take (k - 1 - kid)) := OwnG.app ho13
          refine hK _ _ hxn ?_
          clear hK K hg13 ho7 hxc
          (try simp only [Act.put, List.setIfInBounds_toArray, List.set_cons_zero, List.set_cons_succ])
          iterate 1 (first
           | (refine extT_move rfl rfl (by rfl) (by rfl) ?_; simp only [Act.put, List.setIfInBounds_toArray, List.set_cons_zero, List.set_cons_succ])
           | (refine extT_assign rfl rfl (by rfl) (by rfl) ?_; simp only [Act.put, List.setIfInBounds_toArray, List.set_cons_zero, List.set_cons_succ])
           | (refine extT_pick_t rfl rfl (by rfl) (by rfl) (by rfl) ?_; simp only [Act.put, List.setIfInBounds_toArray, List.set_cons_zero, List.set_cons_succ])
           | (refine extT_pick_f rfl rfl (by rfl) (by rfl) (by rfl) ?_; simp only [Act.put, List.setIfInBounds_toArray, List.set_cons_zero, List.set_cons_succ])
           | (apply extT_take rfl (by rfl)
              · intro w' hS
                have hSc := hS.cells
                (try simp only [World.size_drew, World.cell?_drew] at hSc)
                go_simp
                (try simp (disch := omega) only [i64_id, u64_id, ↓IntWalk.iteOmega, Int.tdiv_eq_ediv_of_nonneg, Int.tmod_eq_emod_of_nonneg])
                try rfl
              simp only [Act.put, List.setIfInBounds_toArray, List.set_cons_zero, List.set_cons_succ])
           | (refine extT_pass rfl (by rfl) ?_; simp only [Act.put, List.setIfInBounds_toArray, List.set_cons_zero, List.set_cons_succ]))
          refine extT_nil ?_
          (go_wp2_with fail; go_meet; exact ⟨ho13, hxn⟩)
          skip
        case rest =>
          obtain ⟨HO14, HX14⟩ := hcut
          obtain ⟨a14, c14, hv14⟩ := HO14.out.shape
          have hle : (p.take kid ++ [s] ++ (p.drop kid).take (k - 1 - kid)).length ≤ 100000 := by
            have := HLT1.out; have := HLT2.out; simp only [List.length_append, List.length_singleton]; omega
          have HRL : Hid (runL (p.take kid ++ [s] ++ (p.drop kid).take (k - 1 - kid)) = runL (p.take kid ++ [s] ++ (p.drop kid).take (k - 1 - kid))) := rfl
          obtain ⟨l14, hl14⟩ : ∃ x, p.take kid ++ [s] ++ (p.drop kid).take (k - 1 - kid) = x := ⟨_, rfl⟩
          rw [hl14] at HO14 hle HST hv14
          subst hv14
          obtain ⟨n14, hn14⟩ : ∃ x, l14.length = x := ⟨_, rfl⟩
          rw [hn14] at HO14 ⊢
          have HL14 := Lib.hid hl14
          have HN14 := Lib.hid hn14
          clear hl14 hn14 HRL
          go_wp2_with fail
          generalize wc = W at *
          have hzz : ∃ g, g < W.heap.size := by
            obtain ⟨g, _, _, _, h⟩ := HO14.out.form (by rw [← HL14.out]; simp only [List.length_append, List.length_singleton]; omega)
            exact ⟨g, h⟩
          obtain ⟨g14, hz⟩ := hzz
          have hxd := Ext.drew W
          refine wp_region_ext [(0, true), (2, true), (3, true), (4, true), (5, true), (6, true), (7, true), (1, false), (8, true), (9, true), (10, true)] (by kernel_rfl) (by kernel_rfl) ?_
          iterate 7 (first
           | (refine ext_move rfl rfl (by rfl) (by rfl) ?_; simp only [Act.put, List.setIfInBounds_toArray, List.set_cons_zero, List.set_cons_succ])
           | (refine ext_assign rfl rfl (by rfl) (by rfl) ?_; simp only [Act.put, List.setIfInBounds_toArray, List.set_cons_zero, List.set_cons_succ])
           | (refine ext_pick_t rfl rfl (by rfl) (by rfl) (by rfl) ?_; simp only [Act.put, List.setIfInBounds_toArray, List.set_cons_zero, List.set_cons_succ])
           | (refine ext_pick_f rfl rfl (by rfl) (by rfl) (by rfl) ?_; simp only [Act.put, List.setIfInBounds_toArray, List.set_cons_zero, List.set_cons_succ])
           | (apply ext_take rfl (by rfl)
              · intro w' hS
                have hSc := hS.cells
                (try simp only [World.size_drew, World.cell?_drew] at hSc)
                go_simp
                (try simp (disch := omega) only [i64_id, u64_id, ↓IntWalk.iteOmega, Int.tdiv_eq_ediv_of_nonneg, Int.tmod_eq_emod_of_nonneg])
                try rfl
              simp only [Act.put, List.setIfInBounds_toArray, List.set_cons_zero, List.set_cons_succ])
           | (refine ext_pass rfl (by rfl) ?_; simp only [Act.put, List.setIfInBounds_toArray, List.set_cons_zero, List.set_cons_succ]))
          (refine ext_do rfl (by rfl) (fun K hK => ?_)
           go_simp
           go_at_call 31
           refine (run_any _ l14 _ hle (HO14.out.slice.ext hxd)).mono ?_
           rintro e w2 ⟨rfl, hb2⟩
           have hx2 : Ext W w2 := hxd.trans hb2
           have hc2 := hx2.cells
           have hs2 := hx2.size
           have hq2 := Below.size hb2
           have hlt2 := Nat.lt_of_lt_of_le hz hs2
           (try have hlu2 := Nat.lt_of_lt_of_le hz0 hs2)
           (try have hlv2 := Nat.lt_of_lt_of_le hz1 hs2)
           skip
           refine hK _ _ (by first | exact hb2 | exact (Ext.drew _).trans hb2) ?_
           clear hK K
           (try simp only [Act.put, List.setIfInBounds_toArray, List.set_cons_zero, List.set_cons_succ]))
          iterate 3 (first
           | (refine ext_move rfl rfl (by rfl) (by rfl) ?_; simp only [Act.put, List.setIfInBounds_toArray, List.set_cons_zero, List.set_cons_succ])
           | (refine ext_assign rfl rfl (by rfl) (by rfl) ?_; simp only [Act.put, List.setIfInBounds_toArray, List.set_cons_zero, List.set_cons_succ])
           | (refine ext_pick_t rfl rfl (by rfl) (by rfl) (by rfl) ?_; simp only [Act.put, List.setIfInBounds_toArray, List.set_cons_zero, List.set_cons_succ])
           | (refine ext_pick_f rfl rfl (by rfl) (by rfl) (by rfl) ?_; simp only [Act.put, List.setIfInBounds_toArray, List.set_cons_zero, List.set_cons_succ])
           | (apply ext_take rfl (by rfl)
              · intro w' hS
                have hSc := hS.cells
                (try simp only [World.size_drew, World.cell?_drew] at hSc)
                go_simp
                (try simp (disch := omega) only [i64_id, u64_id, ↓IntWalk.iteOmega, Int.tdiv_eq_ediv_of_nonneg, Int.tmod_eq_emod_of_nonneg])
                try rfl
              simp only [Act.put, List.setIfInBounds_toArray, List.set_cons_zero, List.set_cons_succ])
           | (refine ext_pass rfl (by rfl) ?_; simp only [Act.put, List.setIfInBounds_toArray, List.set_cons_zero, List.set_cons_succ]))
          refine ext_nil ?_
          have HCC : Hid (chk ((size + 3) / 4) (i / 4) (runL l14) (p.drop (k - 1)) = o) := by show _ = _; rw [← HST.out]; exact HC.out
          have HX2 : Hid (Ext w w2) := HX.out.trans (HX14.out.trans hx2)
          have hc3 := HC3.out
          rw [List.take_of_length_le (by rw [List.length_drop]; exact Nat.le_refl _)] at hc3
          have HC4 := Lib.hid hc3
          have hdl : (p.drop (k - 1)).length ≤ 100000 := by rw [List.length_drop]; omega
          clear hc3
          go_wp2
          go_roundw
          case rel => exact ⟨i / 4, (size + 3) / 4, runL l14, p.drop (k - 1), by (congr 1), rfl, by (congr 1; omega), by omega, by omega, hdl, HC4, HCC, HX2⟩
          case measure => simp [intOf]; omega
    · have h1' : ¬ ((1 : Int) < (size : Int)) := by omega
      have HR := Lib.hid (chk_last (i := i) (s := s) (p := p) h1)
      by_cases hp : p = []
      · have HA : Hid (ansB r n o = decide (topL n s = r)) := by show _ = _; rw [← HC.out, HR.out, if_pos hp]; rfl
        have hlen : ((p.length : Int) == 0) = true := by rw [hp]; rfl
        have hlen2 : p.length = 0 := by rw [hp]; rfl
        have hq := eq_un (topL n s) r
        rw [hlen2] at HP ⊢
        clear hp hlen
        go_wp2_with fail
        go_at_call 32
        refine (root_any n s _ (by omega)).mono ?_
        rintro e w2 ⟨rfl, hb2⟩
        have HX2 : Hid (Ext w w2) := HX.out.trans hb2
        clear hb2
        go_wp2_with fail
        go_ret
        rw [HA.out]
        exact ⟨rfl, HX2.out⟩
      · have HA : Hid (ansB r n o = false) := by show _ = _; rw [← HC.out, HR.out, if_neg hp]; rfl
        have hl0 : p.length ≠ 0 := fun e => hp (List.eq_nil_of_length_eq_zero e)
        have hlen : ((p.length : Int) == 0) = false := by rw [beq_eq_false_iff_ne]; omega
        clear hp hl0
        go_wp2_with fail
        go_ret
        rw [HA.out]
        exact ⟨rfl, HX.out⟩
theorem check_any (r s0 : BitVec 64) (n i : Int) (vp : Value) (p0 : List (BitVec 64)) (w : World) (hn : I64 n) (hi : I64 i) (hp0 : p0.length ≤ 100000) (h : SliceAt encU w vp p0) :
    Calls Try.prog 16 #[encU r, .int .i64 n, .int .i64 i, encU s0, vp] w fun e w' => e = .returned (.bool (checkB r n i s0 p0)) ∧ Below w.heap.size w w' := by
  have hX : (1 ≤ n ∧ n ≤ 1048576 ∧ 0 ≤ i ∧ i < n) ∨ ¬ (1 ≤ n ∧ n ≤ 1048576 ∧ 0 ≤ i ∧ i < n) := Decidable.em _
  rcases hX with hc | hc
  · obtain ⟨m, rfl⟩ := Int.eq_ofNat_of_zero_le (show 0 ≤ n by omega)
    obtain ⟨j, rfl⟩ := Int.eq_ofNat_of_zero_le hc.2.2.1
    have h2 := check_in r s0 m j vp p0 w (by omega) (by omega) (by omega) hp0 h
    have e : checkB r m j s0 p0 = ansB r m (chk m j s0 p0) := by
      unfold checkB
      rw [if_pos hc]
      simp only [Int.toNat_natCast]
      rfl
    rw [e]
    exact h2
  · have e : checkB r n i s0 p0 = false := by unfold checkB; rw [if_neg hc]
    rw [e]
    obtain ⟨ad, cap, rfl⟩ := h.shape
    clear h
    by_cases h1 : n < 1
    · have hd1 : decide (n < 1) = true := decide_eq_true h1
      go_enter Try.func16, Try.ntmps16
      go_wp2_with fail
      go_ret
      exact ⟨rfl, Below.refl _ _⟩
    · have hd1 : decide (n < 1) = false := decide_eq_false h1
      by_cases h2 : 1048576 < n
      · have hd2 : decide ((1048576 : Int) < n) = true := decide_eq_true h2
        go_enter Try.func16, Try.ntmps16
        go_wp2_with fail
        go_ret
        exact ⟨rfl, Below.refl _ _⟩
      · have hd2 : decide ((1048576 : Int) < n) = false := decide_eq_false h2
        by_cases h3 : i < 0
        · have hd3 : decide (i < 0) = true := decide_eq_true h3
          go_enter Try.func16, Try.ntmps16
          go_wp2_with fail
          go_ret
          exact ⟨rfl, Below.refl _ _⟩
        · have hd3 : decide (i < 0) = false := decide_eq_false h3
          have hd4 : decide (n ≤ i) = true := by rw [decide_eq_true_eq]; omega
          clear hc h1 h2 h3
          go_enter Try.func16, Try.ntmps16
          go_wp2_with fail
          go_ret
          exact ⟨rfl, Below.refl _ _⟩
end Go.Proofs.Ytdhlikjdcnfkpaa
