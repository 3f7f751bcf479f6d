/-
  Chapter 26 (sumtree): the walk of SumtreeSteps.
-/
import Derived.Test.YtdhlikjdcnfkpaaStX
import Derived.Test.YtdhlikjdcnfkpaaStW
namespace Go.Proofs.Ytdhlikjdcnfkpaa
open Go.RowKit
set_option linter.unusedVariables false

/-- what holds before a step: the row, the first tree, the changed tree in their boxes -/
def StepsAt (w wr : World) (l kl : List (BitVec 64)) (P Q : Nat → Nat → Nat) (g c gT gB B : Nat) : Prop :=
  OwnG encU 34 wr B (.slice (some ⟨g, 0, none⟩) l.length c) kl ∧ IntsAt wr g ∧ TreeAt wr l P ∧ TreeAt wr kl Q ∧
  BoxAt wr gT #[.int .i64 l.length, .int .i64 (hgt l.length), encP (P (hgt l.length) 0)] 29 ∧
  BoxAt wr gB #[.int .i64 l.length, .int .i64 (hgt l.length), encP (Q (hgt l.length) 0)] 29 ∧ Ext w wr ∧ kl.length = l.length ∧ g < wr.heap.size
theorem StepsAt.ext {w wr w' : World} {l kl : List (BitVec 64)} {P Q : Nat → Nat → Nat} {g c gT gB B : Nat} (h : StepsAt w wr l kl P Q g c gT gB B) (e : Ext wr w') : StepsAt w w' l kl P Q g c gT gB B := by
  obtain ⟨h1, h2, h3, h4, h5, h6, h7, h8, h9⟩ := h
  exact ⟨h1.ext e, h2.ext e h9, h3.ext e, h4.ext e, h5.ext e, h6.ext e, h7.trans e, h8, Nat.lt_of_lt_of_le h9 e.size⟩

set_option maxRecDepth 100000 in
set_option maxHeartbeats 4000000 in
theorem sumtreeSteps_walk (vl vh : Value) (l : List (BitVec 64)) (ats : List Nat) (w : World) (hm : l.length ≤ maxLen) (hb : ∀ x ∈ ats, x ≤ 65535) (h : SliceAt encU w vl l) (h2 : SliceAt encH w vh ats) :
    Calls Try.prog 9 #[vl, vh] w fun e w' => e = .returned (.bool true) ∧ Below w.heap.size w w' := by
  obtain ⟨j0, hj, hj0, hj1, hj2⟩ := info_parts infoU
  obtain ⟨ad, cap, rfl⟩ := h.shape
  obtain ⟨ah, ch, rfl⟩ := h2.shape
  have HS := Lib.hid h
  have HH := Lib.hid h2
  have HBD := Lib.hid hb
  clear h h2 hb
  unfold maxLen at hm
  go_enter Try.func9, Try.ntmps9
  go_wp2_with fail
  go_at_call 11
  refine (awake_any _).mono ?_
  rintro e w1 ⟨rfl, hb1⟩
  have HX1 : Hid (Ext w w1) := hb1
  clear hb1
  by_cases hc : l.length ≤ 60 ∧ 0 < l.length ∧ ats.length ≤ 30
  · obtain ⟨hl, h0, hal⟩ := hc
    have hd : decide ((60 : Int) < (l.length : Int)) = false := by rw [decide_eq_false_iff_not]; omega
    have hd2 : ((l.length : Int) == 0) = false := by rw [beq_eq_false_iff_ne]; omega
    have hd2b : (l.length == 0) = false := by rw [beq_eq_false_iff_ne]; omega
    have hd3 : decide ((30 : Int) < (ats.length : Int)) = false := by rw [decide_eq_false_iff_not]; omega
    go_wp2_with fail
    go_at_call 13
    refine (build_any _ l _ (by omega) (HS.out.ext HX1.out)).mono ?_
    rintro e w2 ⟨P, rfl, ht, hb2⟩
    rw [tree_pos h0]
    have HTV := fun R => tree_pos (n := l.length) h0 R
    have HTV := Lib.hid HTV
    obtain ⟨r0, hr0⟩ : ∃ r, P (hgt l.length) 0 = r := ⟨_, rfl⟩
    have HR0 := Lib.hid hr0
    rw [hr0]
    have e3 : Ext w2 (w2.alloc (.cells #[.int .i64 l.length, .int .i64 (hgt l.length), encP r0] 29)) := Ext.alloc _ _
    have HX3 : Hid (Ext w (w2.alloc (.cells #[.int .i64 l.length, .int .i64 (hgt l.length), encP r0] 29))) := HX1.out.trans (Ext.trans hb2 e3)
    have HB3 : Hid (BoxAt (w2.alloc (.cells #[.int .i64 l.length, .int .i64 (hgt l.length), encP r0] 29)) w2.heap.size #[.int .i64 l.length, .int .i64 (hgt l.length), encP r0] 29) := BoxAt.new _ _ _
    have HT3 := Lib.hid (ht.ext e3)
    have hz3 : w2.heap.size < (w2.alloc (.cells #[.int .i64 l.length, .int .i64 (hgt l.length), encP r0] 29)).heap.size := by simp
    have hz3w : w.heap.size ≤ w2.heap.size := (HX1.out.trans hb2).size
    clear ht hb2 hr0 e3
    unfold encP at HX3 HB3 HT3 hz3
    go_upto_region 4 with fail
    generalize w2.alloc (.cells #[.int .i64 l.length, .int .i64 (hgt l.length), .pointer (some ⟨r0, 0, none⟩)] 29) = w3 at *
    generalize w2.heap.size = gT at *
    have hc0 := HB3.out.cell 0 (v := .int .i64 l.length) rfl
    have hc1 := HB3.out.cell 1 (v := .int .i64 (hgt l.length)) rfl
    have hc2 := HB3.out.cell 2 (v := .pointer (some ⟨r0, 0, none⟩)) rfl
    have e4 : Ext w3 (w3.alloc (.cells #[.int .i64 l.length, .int .i64 (hgt l.length), .pointer (some ⟨r0, 0, none⟩)] 29)) := Ext.alloc _ _
    have HX4 : Hid (Ext w (w3.alloc (.cells #[.int .i64 l.length, .int .i64 (hgt l.length), .pointer (some ⟨r0, 0, none⟩)] 29))) := HX3.out.trans e4
    have HB4 : Hid (BoxAt (w3.alloc (.cells #[.int .i64 l.length, .int .i64 (hgt l.length), .pointer (some ⟨r0, 0, none⟩)] 29)) w3.heap.size #[.int .i64 l.length, .int .i64 (hgt l.length), .pointer (some ⟨r0, 0, none⟩)] 29) := BoxAt.new _ _ _
    have HA4 := Lib.hid (HB3.out.ext e4)
    have HT4 := Lib.hid (HT3.out.ext e4)
    have hz4 : w3.heap.size < (w3.alloc (.cells #[.int .i64 l.length, .int .i64 (hgt l.length), .pointer (some ⟨r0, 0, none⟩)] 29)).heap.size := by simp
    clear e4 HT3 HB3
    go_upto_region 5 with fail
    generalize w3.alloc (.cells #[.int .i64 l.length, .int .i64 (hgt l.length), .pointer (some ⟨r0, 0, none⟩)] 29) = w4 at *
    have hgTB : gT < w3.heap.size := hz3
    clear hc0 hc1 hc2
    generalize w3.heap.size = gB at *
    go_wp2_with (at_builtin; refine Classical.byContradiction (fun hN => ?_))
    refine hN ?_
    clear hN
    have e6 : Ext w4 (w4.alloc (.cells #[] 34)) := Ext.alloc _ _
    refine wpList_append_u64 rfl _ _ 22 rfl 34 j0 8 Try.underlying22 hj hj0 hj1 hj2 w4.heap.size w4.heap.size rfl (BoxAt.new _ _ _) (Nat.le_refl _) e6.size _ l rfl (HS.out.ext (HX4.out.trans e6)) (by unfold maxLen; omega) (by omega) ?_
    intro g c w6 ho6 hx6 hi6 hg6 hgl6
    have HX46 : Hid (Ext w4 w6) := e6.trans hx6
    have HST : Hid (StepsAt w w6 l l P P g c gT gB w4.heap.size) := by
      refine ⟨ho6, hi6, HT4.out.ext HX46.out, HT4.out.ext HX46.out, ?_, ?_, HX4.out.trans HX46.out, rfl, hgl6⟩
      · rw [HR0.out]; exact HA4.out.ext HX46.out
      · rw [HR0.out]; exact HB4.out.ext HX46.out
    have hgBg : gB < g := by omega
    have hgw : w.heap.size ≤ gT := hz3w
    have hz6 : gB < w4.heap.size := hz4
    generalize w4.heap.size = B at *
    clear e6 ho6 hx6 hi6 HA4 HB4 HT4 HX46 HX3 HX4 hz3 hz3w hz4
    go_wp2_with fail
    go_loopw [8] (fun iv wr => ∃ (t : Nat) (kl : List (BitVec 64)) (Q : Nat → Nat → Nat), t ≤ ats.length ∧ iv = .int .i64 t ∧ Hid (StepsAt w wr l kl P Q g c gT gB B)) (fun iv _ => ats.length - (intOf iv).toNat)
    case atStart => exact ⟨0, l, P, Nat.zero_le _, rfl, HST⟩
    case round =>
      obtain ⟨t, kl, Q, ht, rfl, HK⟩ := hrel
      by_cases htm : t < ats.length
      · have hin : (t : Int) < (ats.length : Int) := by omega
        obtain ⟨hO, hI, hP, hQ, hbT, hbB, hX, hkl, hgs⟩ := HK.out
        obtain ⟨b1, o1, rfl, hb1, hc1⟩ := (HH.out.ext hX).get t htm
        have ha : ats[t] ≤ 65535 := HBD.out _ (List.getElem_mem htm)
        generalize ats[t] = a at *
        unfold encH at hc1
        obtain ⟨p, hp⟩ : ∃ p, a % l.length = p := ⟨_, rfl⟩
        have hpl : p < l.length := by rw [← hp]; exact Nat.mod_lt _ h0
        have hrm : (a : Int).tmod (l.length : Int) = (p : Int) := by rw [Int.tmod_eq_emod_of_nonneg (by omega), ← hp]; rfl
        have hrm2 : (a : Int) % (l.length : Int) = (p : Int) := by rw [← hp]; rfl
        have hcp := hO.at hkl.symm (k := p) (by omega)
        have hfp := hO.frees hkl.symm p
        obtain ⟨y, hy⟩ : ∃ y, kl[p]'(by omega) = y := ⟨_, rfl⟩
        rw [hy] at hcp
        have hst := step_un y a
        obtain ⟨z, hz⟩ : ∃ z, y * 3#64 + BitVec.ofNat 64 a = z := ⟨_, rfl⟩
        rw [hz] at hst
        have HZ := Lib.hid hst
        clear hp hy hz
        have hO7 := (hO.put hkl.symm p z).ext (Ext.drew _)
        have hI7 := (hI.set hcp z).ext (Ext.drew _) (by simpa using hgs)
        have hP7 : TreeAt _ l P := TreeTo.ext (hP.setU hI (o := p) (x := encU z)) (Ext.drew _)
        have hQ7 : TreeAt _ kl Q := TreeTo.ext (hQ.setU hI (o := p) (x := encU z)) (Ext.drew _)
        have hT7 := (hbT.set_off (show gT ≠ g by omega) p (encU z)).ext (Ext.drew _)
        have hB7 := (hbB.set_off (show gB ≠ g by omega) p (encU z)).ext (Ext.drew _)
        have hX7 : Ext w _ := Ext.trans (bel_set hX (show w.heap.size ≤ g by omega) p (encU z)) (Ext.drew _)
        have HO7 := Lib.hid hO7
        have HI7 := Lib.hid hI7
        have HP7 := Lib.hid hP7
        have HQ7 := Lib.hid hQ7
        have HT7 := Lib.hid hT7
        have HB7 := Lib.hid hB7
        have HX7 := Lib.hid hX7
        have hg7 : g < (wr.setCell ⟨g, p, none⟩ (encU z)).drew.heap.size := by simpa using hgs
        clear hO hI hP hQ hbT hbB hX hO7 hI7 hP7 hQ7 hT7 hB7 hX7 hst
        go_upto_region 10 with fail
        refine wp_region_ext [(0, true), (1, true), (2, true), (3, true), (4, true), (5, true), (6, true), (7, true), (8, true), (9, true), (10, true), (11, true), (12, true), (13, true), (14, false)] (by kernel_rfl) (by kernel_rfl) ?_
        iterate 14 (first
         | (refine ext_move rfl rfl (by rfl) (by rfl) ?_; simp only [Act.put, List.setIfInBounds_toArray, List.set_cons_zero, List.set_cons_succ])
         | (refine ext_assign rfl rfl (by rfl) (by rfl) ?_; simp only [Act.put, List.setIfInBounds_toArray, List.set_cons_zero, List.set_cons_succ])
         | (refine ext_pick_t rfl rfl (by rfl) (by rfl) (by rfl) ?_; simp only [Act.put, List.setIfInBounds_toArray, List.set_cons_zero, List.set_cons_succ])
         | (refine ext_pick_f rfl rfl (by rfl) (by rfl) (by rfl) ?_; simp only [Act.put, List.setIfInBounds_toArray, List.set_cons_zero, List.set_cons_succ])
         | (apply ext_take rfl (by rfl)
            · intro w' hS
              have hSc := hS.cells
              (try simp only [World.size_drew, World.cell?_drew] at hSc)
              go_simp
              (try simp (disch := omega) only [i64_id, u64_id, ↓IntWalk.iteOmega, Int.tdiv_eq_ediv_of_nonneg, Int.tmod_eq_emod_of_nonneg])
              try rfl
            simp only [Act.put, List.setIfInBounds_toArray, List.set_cons_zero, List.set_cons_succ])
         | (refine ext_pass rfl (by rfl) ?_; simp only [Act.put, List.setIfInBounds_toArray, List.set_cons_zero, List.set_cons_succ]))
        (refine ext_store rfl (by rfl) (by kernel_rfl) (fun K hK => ?_)
         go_simp
         refine hK _ _ ?_
         clear hK K
         (try simp only [Act.put, List.setIfInBounds_toArray, List.set_cons_zero, List.set_cons_succ]))
        refine ext_nil ?_
        rw [HZ.out, show Value.int .u64 (un z) = encU z from rfl]
        generalize (wr.setCell ⟨g, p, none⟩ (encU z)).drew = w7 at *
        clear hcp hfp hb1 hc1 hgs
        have hc0 := HB7.out.cell 0 (v := .int .i64 l.length) rfl
        have hc1 := HB7.out.cell 1 (v := .int .i64 (hgt l.length)) rfl
        have hc2 := HB7.out.cell 2 (v := .pointer (some ⟨Q (hgt l.length) 0, 0, none⟩)) rfl
        have hcl := HB7.out.lt
        have hcp7 : w7.cell? ⟨g, p, none⟩ = some (encU z) := by
          have h := HO7.out.at (by rw [List.length_set]; exact hkl.symm) (k := p) (by rw [List.length_set]; omega)
          rw [List.getElem_set_self] at h
          exact h
        have HSE : Hid (∀ wc, Ext w7 wc → Calls Try.prog 22 #[.agg #[.int .i64 l.length, .int .i64 (hgt l.length), .pointer (some ⟨Q (hgt l.length) 0, 0, none⟩)], .int .i64 p, encU z] wc fun e w' => ∃ Q' : Nat → Nat → Nat, e = .returned (.tuple #[.agg #[.int .i64 l.length, .int .i64 (hgt l.length), .pointer (some ⟨Q' (hgt l.length) 0, 0, none⟩)], .int .i64 0]) ∧ TreeAt w' (kl.set p z) Q' ∧ Ext wc w') := by
          intro wc hwc
          have h := Set_any kl Q p z wc (by omega) (by omega) (HQ7.out.ext hwc)
          rw [hkl, HTV.out] at h
          refine h.mono ?_
          rintro e w' ⟨N, rfl, h1, _, h2⟩
          exact ⟨newP Q p N, by rw [hkl, HTV.out], h1, h2⟩
        have hh := hgt_small (show l.length ≤ 100000 by omega)
        obtain ⟨H, hH⟩ : ∃ H, hgt l.length = H := ⟨_, rfl⟩
        have HHH := Lib.hid hH
        rw [hH] at HSE HB7 HT7 hc1 hc2 hh ⊢
        clear hH
        go_upto_region 11 with fail
        refine wp_region_extTB (.take 0 (.take 1 (.take 2 (.take 3 (.take 4 (.take 5 (.two 6 10 (.take 7 (.take 8 (.take 9 (.one 10 (.one 11 (.take 12 .done)))))) (.one 6 (.take 7 (.take 8 (.take 9 (.one 11 (.take 12 .done))))))))))))) (by kernel_rfl) (by kernel_rfl) (fun wc hxc => ?_)
        iterate 6 (first
         | (refine extT_move rfl rfl (by rfl) (by rfl) ?_; simp only [Act.put, List.setIfInBounds_toArray, List.set_cons_zero, List.set_cons_succ])
         | (refine extT_assign rfl rfl (by rfl) (by rfl) ?_; simp only [Act.put, List.setIfInBounds_toArray, List.set_cons_zero, List.set_cons_succ])
         | (refine extT_pick_t rfl rfl (by rfl) (by rfl) (by rfl) ?_; simp only [Act.put, List.setIfInBounds_toArray, List.set_cons_zero, List.set_cons_succ])
         | (refine extT_pick_f rfl rfl (by rfl) (by rfl) (by rfl) ?_; simp only [Act.put, List.setIfInBounds_toArray, List.set_cons_zero, List.set_cons_succ])
         | (apply extT_take rfl (by rfl)
            · intro w' hS
              have hSc := hS.cells
              (try simp only [World.size_drew, World.cell?_drew] at hSc)
              go_simp
              (try simp (disch := omega) only [i64_id, u64_id, ↓IntWalk.iteOmega, Int.tdiv_eq_ediv_of_nonneg, Int.tmod_eq_emod_of_nonneg])
              try rfl
            simp only [Act.put, List.setIfInBounds_toArray, List.set_cons_zero, List.set_cons_succ])
         | (refine extT_pass rfl (by rfl) ?_; simp only [Act.put, List.setIfInBounds_toArray, List.set_cons_zero, List.set_cons_succ]))
        refine extT_twoB rfl rfl (by rfl) (by rfl) (fun K hK => ?_) (fun K hK => ?_)
        go_simp
        go_at_call 22
        refine (HSE.out wc hxc).mono ?_
        rintro e wn ⟨Q', rfl, hu, hst⟩
        skip
        refine hK _ _ (hxc.trans hst) ?_
        clear hK K
        replace hxc := hxc.trans hst
        clear hst
        generalize wn = wc at *
        (try simp only [Act.put, List.setIfInBounds_toArray, List.set_cons_zero, List.set_cons_succ])
        iterate 3 (first
         | (refine extT_move rfl rfl (by rfl) (by rfl) ?_; simp only [Act.put, List.setIfInBounds_toArray, List.set_cons_zero, List.set_cons_succ])
         | (refine extT_assign rfl rfl (by rfl) (by rfl) ?_; simp only [Act.put, List.setIfInBounds_toArray, List.set_cons_zero, List.set_cons_succ])
         | (refine extT_pick_t rfl rfl (by rfl) (by rfl) (by rfl) ?_; simp only [Act.put, List.setIfInBounds_toArray, List.set_cons_zero, List.set_cons_succ])
         | (refine extT_pick_f rfl rfl (by rfl) (by rfl) (by rfl) ?_; simp only [Act.put, List.setIfInBounds_toArray, List.set_cons_zero, List.set_cons_succ])
         | (apply extT_take rfl (by rfl)
            · intro w' hS
              have hSc := hS.cells
              (try simp only [World.size_drew, World.cell?_drew] at hSc)
              go_simp
              (try simp (disch := omega) only [i64_id, u64_id, ↓IntWalk.iteOmega, Int.tdiv_eq_ediv_of_nonneg, Int.tmod_eq_emod_of_nonneg])
              try rfl
            simp only [Act.put, List.setIfInBounds_toArray, List.set_cons_zero, List.set_cons_succ])
         | (refine extT_pass rfl (by rfl) ?_; simp only [Act.put, List.setIfInBounds_toArray, List.set_cons_zero, List.set_cons_succ]))
        refine extT_doB rfl (by rfl) (fun K hK => ?_)
        go_simp
        have hst : Ext wc (wc.alloc (.cells #[.int .i64 0, .int .i64 0, .pointer none] 29)) := Ext.alloc _ _
        have hb10 : BoxAt (wc.alloc (.cells #[.int .i64 0, .int .i64 0, .pointer none] 29)) wc.heap.size #[.int .i64 0, .int .i64 0, .pointer none] 29 := BoxAt.new _ _ _
        have hq10 := hxc.size
        replace hu := hu.ext hst
        refine hK _ _ (hxc.trans hst) ?_
        clear hK K
        replace hxc := hxc.trans hst
        clear hst
        generalize wc.alloc (.cells #[.int .i64 0, .int .i64 0, .pointer none] 29) = wn at *
        generalize wc.heap.size = q10 at *
        generalize wn = wc at *
        (try simp only [Act.put, List.setIfInBounds_toArray, List.set_cons_zero, List.set_cons_succ])
        refine extT_doB rfl (by rfl) (fun K hK => ?_)
        have hy0 := hb10.cell 0 (v := .int .i64 0) rfl
        have hy1 := hb10.cell 1 (v := .int .i64 0) rfl
        have hy2 := hb10.cell 2 (v := .pointer none) rfl
        have hyl := hb10.lt
        have hyf0 := hb10.free 0
        have hyf1 := hb10.free 1
        have hyf2 := hb10.free 2
        go_simp
        have hwx : boxed wc q10 l.length H (Q' H 0) = ((wc.setCell ⟨q10, 0, none⟩ (.int .i64 l.length)).setCell ⟨q10, 1, none⟩ (.int .i64 H)).setCell ⟨q10, 2, none⟩ (.pointer (some ⟨Q' H 0, 0, none⟩)) := rfl
        rw [← hwx]
        have hst : Ext w7 (boxed wc q10 l.length H (Q' H 0)) := boxed_bel hxc hq10
        replace hu : TreeAt (boxed wc q10 l.length H (Q' H 0)) (kl.set p z) Q' := hu.filled hb10
        replace hb10 : BoxAt (boxed wc q10 l.length H (Q' H 0)) q10 #[.int .i64 l.length, .int .i64 H, encP (Q' H 0)] 29 := filled_box hb10
        refine hK _ _ hst ?_
        clear hK K hwx hy0 hy1 hy2 hyl hyf0 hyf1 hyf2 hxc
        generalize boxed wc q10 l.length H (Q' H 0) = wn at *
        clear wc
        generalize wn = wc at *
        (try simp only [Act.put, List.setIfInBounds_toArray, List.set_cons_zero, List.set_cons_succ])
        iterate 1 (first
         | (refine extT_move rfl rfl (by rfl) (by rfl) ?_; simp only [Act.put, List.setIfInBounds_toArray, List.set_cons_zero, List.set_cons_succ])
         | (refine extT_assign rfl rfl (by rfl) (by rfl) ?_; simp only [Act.put, List.setIfInBounds_toArray, List.set_cons_zero, List.set_cons_succ])
         | (refine extT_pick_t rfl rfl (by rfl) (by rfl) (by rfl) ?_; simp only [Act.put, List.setIfInBounds_toArray, List.set_cons_zero, List.set_cons_succ])
         | (refine extT_pick_f rfl rfl (by rfl) (by rfl) (by rfl) ?_; simp only [Act.put, List.setIfInBounds_toArray, List.set_cons_zero, List.set_cons_succ])
         | (apply extT_take rfl (by rfl)
            · intro w' hS
              have hSc := hS.cells
              (try simp only [World.size_drew, World.cell?_drew] at hSc)
              go_simp
              (try simp (disch := omega) only [i64_id, u64_id, ↓IntWalk.iteOmega, Int.tdiv_eq_ediv_of_nonneg, Int.tmod_eq_emod_of_nonneg])
              try rfl
            simp only [Act.put, List.setIfInBounds_toArray, List.set_cons_zero, List.set_cons_succ])
         | (refine extT_pass rfl (by rfl) ?_; simp only [Act.put, List.setIfInBounds_toArray, List.set_cons_zero, List.set_cons_succ]))
        refine extT_nil ?_
        have HU8 := Lib.hid hu
        have HY8 := Lib.hid hb10
        have HX8 : Hid (Ext w7 wc) := hst
        have HB8 := Lib.hid (HB7.out.ext hst)
        have HF : Hid (StepsAt w (boxed wc gB l.length H (Q' H 0)) l (kl.set p z) P Q' g c gT gB B) := by
          refine ⟨boxed_own (HO7.out.ext hst) ((HO7.out.ext hst).not_box HB8.out (by decide)), boxed_ints (HI7.out.ext hst hg7) (by omega), TreeAt.boxed (HP7.out.ext hst) (HQ7.out.ext hst) hkl h0 (by rw [HHH.out]; exact HB8.out), TreeAt.boxed HU8.out (HQ7.out.ext hst) (by rw [List.length_set]) (by rw [List.length_set, hkl]; exact h0) (by rw [List.length_set, hkl, HHH.out]; exact HB8.out), ?_, ?_, boxed_bel (HX7.out.trans hst) (by omega), by rw [List.length_set]; exact hkl, ?_⟩
          · rw [HHH.out]; exact boxed_off (HT7.out.ext hst) (by omega)
          · rw [HHH.out]; exact boxed_box HB8.out
          · rw [boxed_size]; exact Nat.lt_of_lt_of_le hg7 hst.size
        have hy0 := HY8.out.cell 0 (v := .int .i64 l.length) rfl
        have hy1 := HY8.out.cell 1 (v := .int .i64 H) rfl
        have hy2 := HY8.out.cell 2 (v := .pointer (some ⟨Q' H 0, 0, none⟩)) rfl
        have hyl := HY8.out.lt
        have hz0 := HB8.out.cell 0 (v := .int .i64 l.length) rfl
        have hz1 := HB8.out.cell 1 (v := .int .i64 H) rfl
        have hz2 := HB8.out.cell 2 (v := .pointer (some ⟨Q H 0, 0, none⟩)) rfl
        have hzl := HB8.out.lt
        have hzf0 := HB8.out.free 0
        have hzf1 := HB8.out.free 1
        have hzf2 := HB8.out.free 2
        clear hu hb10 hst hc0 hc1 hc2 hcl hcp7
        go_wp2_with fail
        have hHe := HHH.out
        subst hHe
        refine ⟨?_, ?measure⟩
        apply Exists.intro
        repeat apply Exists.intro
        refine ⟨?rel, rfl⟩
        case rel => exact ⟨t + 1, kl.set p z, Q', by omega, by go_num, HF⟩
        case measure => simp [intOf]; omega
        skip
        go_simp
        have hst : Ext wc (wc.alloc (.cells #[.int .i64 0, .int .i64 0, .pointer none] 29)) := Ext.alloc _ _
        have hb10 : BoxAt (wc.alloc (.cells #[.int .i64 0, .int .i64 0, .pointer none] 29)) wc.heap.size #[.int .i64 0, .int .i64 0, .pointer none] 29 := BoxAt.new _ _ _
        have hq10 := hxc.size
        skip
        refine hK _ _ (hxc.trans hst) ?_
        clear hK K
        replace hxc := hxc.trans hst
        clear hst
        generalize wc.alloc (.cells #[.int .i64 0, .int .i64 0, .pointer none] 29) = wn at *
        generalize wc.heap.size = q10 at *
        generalize wn = wc at *
        (try simp only [Act.put, List.setIfInBounds_toArray, List.set_cons_zero, List.set_cons_succ])
        refine extT_doB rfl (by rfl) (fun K hK => ?_)
        go_simp
        go_at_call 22
        refine (HSE.out wc hxc).mono ?_
        rintro e wn ⟨Q', rfl, hu, hst⟩
        replace hb10 := hb10.ext hst
        refine hK _ _ (hxc.trans hst) ?_
        clear hK K
        replace hxc := hxc.trans hst
        clear hst
        generalize wn = wc at *
        (try simp only [Act.put, List.setIfInBounds_toArray, List.set_cons_zero, List.set_cons_succ])
        iterate 3 (first
         | (refine extT_move rfl rfl (by rfl) (by rfl) ?_; simp only [Act.put, List.setIfInBounds_toArray, List.set_cons_zero, List.set_cons_succ])
         | (refine extT_assign rfl rfl (by rfl) (by rfl) ?_; simp only [Act.put, List.setIfInBounds_toArray, List.set_cons_zero, List.set_cons_succ])
         | (refine extT_pick_t rfl rfl (by rfl) (by rfl) (by rfl) ?_; simp only [Act.put, List.setIfInBounds_toArray, List.set_cons_zero, List.set_cons_succ])
         | (refine extT_pick_f rfl rfl (by rfl) (by rfl) (by rfl) ?_; simp only [Act.put, List.setIfInBounds_toArray, List.set_cons_zero, List.set_cons_succ])
         | (apply extT_take rfl (by rfl)
            · intro w' hS
              have hSc := hS.cells
              (try simp only [World.size_drew, World.cell?_drew] at hSc)
              go_simp
              (try simp (disch := omega) only [i64_id, u64_id, ↓IntWalk.iteOmega, Int.tdiv_eq_ediv_of_nonneg, Int.tmod_eq_emod_of_nonneg])
              try rfl
            simp only [Act.put, List.setIfInBounds_toArray, List.set_cons_zero, List.set_cons_succ])
         | (refine extT_pass rfl (by rfl) ?_; simp only [Act.put, List.setIfInBounds_toArray, List.set_cons_zero, List.set_cons_succ]))
        refine extT_doB rfl (by rfl) (fun K hK => ?_)
        have hy0 := hb10.cell 0 (v := .int .i64 0) rfl
        have hy1 := hb10.cell 1 (v := .int .i64 0) rfl
        have hy2 := hb10.cell 2 (v := .pointer none) rfl
        have hyl := hb10.lt
        have hyf0 := hb10.free 0
        have hyf1 := hb10.free 1
        have hyf2 := hb10.free 2
        go_simp
        have hwx : boxed wc q10 l.length H (Q' H 0) = ((wc.setCell ⟨q10, 0, none⟩ (.int .i64 l.length)).setCell ⟨q10, 1, none⟩ (.int .i64 H)).setCell ⟨q10, 2, none⟩ (.pointer (some ⟨Q' H 0, 0, none⟩)) := rfl
        rw [← hwx]
        have hst : Ext w7 (boxed wc q10 l.length H (Q' H 0)) := boxed_bel hxc hq10
        replace hu : TreeAt (boxed wc q10 l.length H (Q' H 0)) (kl.set p z) Q' := hu.filled hb10
        replace hb10 : BoxAt (boxed wc q10 l.length H (Q' H 0)) q10 #[.int .i64 l.length, .int .i64 H, encP (Q' H 0)] 29 := filled_box hb10
        refine hK _ _ hst ?_
        clear hK K hwx hy0 hy1 hy2 hyl hyf0 hyf1 hyf2 hxc
        generalize boxed wc q10 l.length H (Q' H 0) = wn at *
        clear wc
        generalize wn = wc at *
        (try simp only [Act.put, List.setIfInBounds_toArray, List.set_cons_zero, List.set_cons_succ])
        iterate 1 (first
         | (refine extT_move rfl rfl (by rfl) (by rfl) ?_; simp only [Act.put, List.setIfInBounds_toArray, List.set_cons_zero, List.set_cons_succ])
         | (refine extT_assign rfl rfl (by rfl) (by rfl) ?_; simp only [Act.put, List.setIfInBounds_toArray, List.set_cons_zero, List.set_cons_succ])
         | (refine extT_pick_t rfl rfl (by rfl) (by rfl) (by rfl) ?_; simp only [Act.put, List.setIfInBounds_toArray, List.set_cons_zero, List.set_cons_succ])
         | (refine extT_pick_f rfl rfl (by rfl) (by rfl) (by rfl) ?_; simp only [Act.put, List.setIfInBounds_toArray, List.set_cons_zero, List.set_cons_succ])
         | (apply extT_take rfl (by rfl)
            · intro w' hS
              have hSc := hS.cells
              (try simp only [World.size_drew, World.cell?_drew] at hSc)
              go_simp
              (try simp (disch := omega) only [i64_id, u64_id, ↓IntWalk.iteOmega, Int.tdiv_eq_ediv_of_nonneg, Int.tmod_eq_emod_of_nonneg])
              try rfl
            simp only [Act.put, List.setIfInBounds_toArray, List.set_cons_zero, List.set_cons_succ])
         | (refine extT_pass rfl (by rfl) ?_; simp only [Act.put, List.setIfInBounds_toArray, List.set_cons_zero, List.set_cons_succ]))
        refine extT_nil ?_
        have HU8 := Lib.hid hu
        have HY8 := Lib.hid hb10
        have HX8 : Hid (Ext w7 wc) := hst
        have HB8 := Lib.hid (HB7.out.ext hst)
        have HF : Hid (StepsAt w (boxed wc gB l.length H (Q' H 0)) l (kl.set p z) P Q' g c gT gB B) := by
          refine ⟨boxed_own (HO7.out.ext hst) ((HO7.out.ext hst).not_box HB8.out (by decide)), boxed_ints (HI7.out.ext hst hg7) (by omega), TreeAt.boxed (HP7.out.ext hst) (HQ7.out.ext hst) hkl h0 (by rw [HHH.out]; exact HB8.out), TreeAt.boxed HU8.out (HQ7.out.ext hst) (by rw [List.length_set]) (by rw [List.length_set, hkl]; exact h0) (by rw [List.length_set, hkl, HHH.out]; exact HB8.out), ?_, ?_, boxed_bel (HX7.out.trans hst) (by omega), by rw [List.length_set]; exact hkl, ?_⟩
          · rw [HHH.out]; exact boxed_off (HT7.out.ext hst) (by omega)
          · rw [HHH.out]; exact boxed_box HB8.out
          · rw [boxed_size]; exact Nat.lt_of_lt_of_le hg7 hst.size
        have hy0 := HY8.out.cell 0 (v := .int .i64 l.length) rfl
        have hy1 := HY8.out.cell 1 (v := .int .i64 H) rfl
        have hy2 := HY8.out.cell 2 (v := .pointer (some ⟨Q' H 0, 0, none⟩)) rfl
        have hyl := HY8.out.lt
        have hz0 := HB8.out.cell 0 (v := .int .i64 l.length) rfl
        have hz1 := HB8.out.cell 1 (v := .int .i64 H) rfl
        have hz2 := HB8.out.cell 2 (v := .pointer (some ⟨Q H 0, 0, none⟩)) rfl
        have hzl := HB8.out.lt
        have hzf0 := HB8.out.free 0
        have hzf1 := HB8.out.free 1
        have hzf2 := HB8.out.free 2
        clear hu hb10 hst hc0 hc1 hc2 hcl hcp7
        go_wp2_with fail
        have hHe := HHH.out
        subst hHe
        refine ⟨?_, ?measure⟩
        apply Exists.intro
        repeat apply Exists.intro
        refine ⟨?rel, rfl⟩
        case rel => exact ⟨t + 1, kl.set p z, Q', by omega, by go_num, HF⟩
        case measure => simp [intOf]; omega
        skip
      · have htm : t = ats.length := by omega
        subst htm
        have hin : ¬ ((ats.length : Int) < (ats.length : Int)) := by omega
        obtain ⟨hO, hI, hP, hQ, hbT, hbB, hX, hkl, hgs⟩ := HK.out
        have hdf := Diff_any l kl P Q wr (by omega) (by omega) hP hQ
        rw [hkl, HTV.out P, HTV.out Q] at hdf
        have hdo : diffO l kl = some (diffL l kl) := if_pos hkl.symm
        have HDO := Lib.hid hdo
        rw [hdo] at hdf
        have hol := diffL_len l kl
        obtain ⟨q, hq⟩ : ∃ q, diffL l kl = q := ⟨_, rfl⟩
        rw [hq] at hdf hol HDO
        have HDF := Lib.hid hdf
        have hx0 := hbT.cell 0 (v := .int .i64 l.length) rfl
        have hx1 := hbT.cell 1 (v := .int .i64 (hgt l.length)) rfl
        have hx2 := hbT.cell 2 (v := .pointer (some ⟨P (hgt l.length) 0, 0, none⟩)) rfl
        have hxl := hbT.lt
        have hy0 := hbB.cell 0 (v := .int .i64 l.length) rfl
        have hy1 := hbB.cell 1 (v := .int .i64 (hgt l.length)) rfl
        have hy2 := hbB.cell 2 (v := .pointer (some ⟨Q (hgt l.length) 0, 0, none⟩)) rfl
        have hyl := hbB.lt
        have HP := Lib.hid hP
        have HQ := Lib.hid hQ
        have HBT := Lib.hid hbT
        have HBB := Lib.hid hbB
        have HX := Lib.hid hX
        have HO := Lib.hid hO.slice
        clear hO hI hP hQ hbT hbB hX hq hdf hdo
        go_wp2_with fail
        go_at_call 20
        refine HDF.out.mono ?_
        rintro e w4 ⟨v4, rfl, hs4, hb4⟩
        replace hs4 : SliceAt encN w4 v4 q := hs4
        have HX4 : Hid (Ext wr w4) := hb4
        have HS4 := Lib.hid hs4
        obtain ⟨a4, c4, rfl⟩ := hs4.shape
        clear hb4 hs4
        go_wp2_with fail
        go_at_call 21
        have hpr := rdiff_any (.slice ad l.length cap) (.slice (some ⟨g, 0, none⟩) l.length c) l kl w4 (by omega) (HS.out.ext (HX.out.trans HX4.out)) (HO.out.ext HX4.out)
        rw [HDO.out] at hpr
        refine hpr.mono ?_
        rintro e w5 ⟨v5, rfl, hs5, hb5⟩
        replace hs5 : SliceAt encN w5 v5 q := hs5
        have HX5 : Hid (Ext wr w5) := HX4.out.trans hb5
        have HS5 := Lib.hid hs5
        have HS45 := Lib.hid (HS4.out.ext hb5)
        obtain ⟨a5, c5, rfl⟩ := hs5.shape
        have HBB5 := Lib.hid (HBB.out.ext HX5.out)
        clear hpr hb5 hs5 HS4 hx0 hx1 hx2 hxl hy0 hy1 hy2 hyl
        have hy0 := HBB5.out.cell 0 (v := .int .i64 l.length) rfl
        have hy1 := HBB5.out.cell 1 (v := .int .i64 (hgt l.length)) rfl
        have hy2 := HBB5.out.cell 2 (v := .pointer (some ⟨Q (hgt l.length) 0, 0, none⟩)) rfl
        have hyl := HBB5.out.lt
        have hqq : ((q.length : Int) != (q.length : Int)) = false := by simp
        go_wp2_with fail
        go_at_call 19
        have hst := same_true (.slice (some ⟨g, 0, none⟩) l.length c) kl Q w5 (by omega) (HQ.out.ext HX5.out) (HO.out.ext HX5.out)
        rw [hkl, HTV.out Q] at hst
        refine hst.mono ?_
        rintro e w6 ⟨rfl, hb6⟩
        have HX6 : Hid (Ext wr w6) := HX5.out.trans hb6
        have HX56 : Hid (Ext w5 w6) := hb6
        have HBT6 := Lib.hid (HBT.out.ext HX6.out)
        clear hst hb6 hy0 hy1 hy2 hyl
        have hx0 := HBT6.out.cell 0 (v := .int .i64 l.length) rfl
        have hx1 := HBT6.out.cell 1 (v := .int .i64 (hgt l.length)) rfl
        have hx2 := HBT6.out.cell 2 (v := .pointer (some ⟨P (hgt l.length) 0, 0, none⟩)) rfl
        have hxl := HBT6.out.lt
        go_wp2_with fail
        go_at_call 19
        have hst := same_true (.slice ad l.length cap) l P w6 (by omega) (HP.out.ext HX6.out) (HS.out.ext (HX.out.trans HX6.out))
        rw [HTV.out P] at hst
        refine hst.mono ?_
        rintro e w7 ⟨rfl, hb7⟩
        have HX7 : Hid (Ext w w7) := HX.out.trans (HX6.out.trans hb7)
        have HS57 := Lib.hid (HS5.out.ext (HX56.out.trans hb7))
        have HS47 := Lib.hid (HS45.out.ext (HX56.out.trans hb7))
        clear hst hb7 hx0 hx1 hx2 hxl HS5 HS45
        generalize wr = wo at *
        go_wp2_with fail
        go_loopw [16] (fun xt wr => ∃ t : Nat, t ≤ q.length ∧ xt = .int .i64 t ∧ Hid (Ext w7 wr)) (fun xt _ => q.length - (intOf xt).toNat)
        case atStart => exact ⟨0, Nat.zero_le _, rfl, Lib.hid (Ext.refl _)⟩
        case round =>
          obtain ⟨t, ht, rfl, HXr⟩ := hrel
          by_cases htm : t < q.length
          · have hin : (t : Int) < (q.length : Int) := by omega
            obtain ⟨b1, o1, rfl, hb1, hc1⟩ := (HS47.out.ext HXr.out).get t htm
            obtain ⟨b2, o2, rfl, hb2, hc2⟩ := (HS57.out.ext HXr.out).get t htm
            unfold encN at hc1 hc2
            have hyy : ((q[t] : Int) != (q[t] : Int)) = false := by simp
            generalize q[t] = y at *
            have HX8 : Hid (Ext w7 wr.drew) := HXr.out.trans (Ext.drew _)
            go_wp2_with fail
            refine wp_region_ext [(0, true), (1, true), (2, true), (3, true), (4, true), (5, true), (6, true), (7, true), (8, true)] (by kernel_rfl) (by kernel_rfl) ?_
            iterate 9 (first
             | (refine ext_move rfl rfl (by rfl) (by rfl) ?_; simp only [Act.put, List.setIfInBounds_toArray, List.set_cons_zero, List.set_cons_succ])
             | (refine ext_assign rfl rfl (by rfl) (by rfl) ?_; simp only [Act.put, List.setIfInBounds_toArray, List.set_cons_zero, List.set_cons_succ])
             | (refine ext_pick_t rfl rfl (by rfl) (by rfl) (by rfl) ?_; simp only [Act.put, List.setIfInBounds_toArray, List.set_cons_zero, List.set_cons_succ])
             | (refine ext_pick_f rfl rfl (by rfl) (by rfl) (by rfl) ?_; simp only [Act.put, List.setIfInBounds_toArray, List.set_cons_zero, List.set_cons_succ])
             | (apply ext_take rfl (by rfl)
                · intro w' hS
                  have hSc := hS.cells
                  (try simp only [World.size_drew, World.cell?_drew] at hSc)
                  go_simp
                  (try simp (disch := omega) only [i64_id, u64_id, ↓IntWalk.iteOmega, Int.tdiv_eq_ediv_of_nonneg, Int.tmod_eq_emod_of_nonneg])
                  try rfl
                simp only [Act.put, List.setIfInBounds_toArray, List.set_cons_zero, List.set_cons_succ])
             | (refine ext_pass rfl (by rfl) ?_; simp only [Act.put, List.setIfInBounds_toArray, List.set_cons_zero, List.set_cons_succ]))
            refine ext_nil ?_
            go_wp2_with fail
            go_roundw
            case rel => exact ⟨t + 1, by omega, by go_num, HX8⟩
            case measure => simp [intOf]; omega
          · have htm : t = q.length := by omega
            subst htm
            have hin : ¬ ((q.length : Int) < (q.length : Int)) := by omega
            go_wp2_with fail
            go_ret
            exact ⟨rfl, HX7.out.trans HXr.out⟩
  · have hcond : (¬ l.length ≤ 60 ∧ decide ((60 : Int) < (l.length : Int)) = true) ∨ (l.length = 0 ∧ decide ((60 : Int) < (l.length : Int)) = false ∧ ((l.length : Int) == 0) = true) ∨ (l.length ≤ 60 ∧ decide ((60 : Int) < (l.length : Int)) = false ∧ ((l.length : Int) == 0) = false ∧ (l.length == 0) = false ∧ decide ((30 : Int) < (ats.length : Int)) = true) := by
      simp only [decide_eq_true_eq, decide_eq_false_iff_not, beq_iff_eq, beq_eq_false_iff_ne]
      omega
    clear hc
    rcases hcond with ⟨_, hd⟩ | ⟨hz, hd, hd2⟩ | ⟨_, hd, hd2, hd2b, hd3⟩
    · go_wp2_with fail
      go_at_call 11
      refine (awake_any _).mono ?_
      rintro e w3 ⟨rfl, hb3⟩
      have HX3 : Hid (Ext w1 w3) := hb3
      clear hb3
      go_wp2_with fail
      go_ret
      exact ⟨rfl, HX1.out.trans HX3.out⟩
    · rw [hz] at hd hd2 ⊢
      go_wp2_with fail
      go_at_call 11
      refine (awake_any _).mono ?_
      rintro e w3 ⟨rfl, hb3⟩
      have HX3 : Hid (Ext w1 w3) := hb3
      clear hb3
      go_wp2_with fail
      go_ret
      exact ⟨rfl, HX1.out.trans HX3.out⟩
    · go_wp2_with fail
      go_at_call 11
      refine (awake_any _).mono ?_
      rintro e w3 ⟨rfl, hb3⟩
      have HX3 : Hid (Ext w1 w3) := hb3
      clear hb3
      go_wp2_with fail
      go_ret
      exact ⟨rfl, HX1.out.trans HX3.out⟩
end Go.Proofs.Ytdhlikjdcnfkpaa
