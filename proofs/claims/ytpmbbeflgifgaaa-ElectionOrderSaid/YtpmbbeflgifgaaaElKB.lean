/-
  Chapter 31 (election): the reference's outlives.
-/
import Derived.Test.YtpmbbeflgifgaaaElK
import Derived.Test.YtpmbbeflgifgaaaElS
namespace Go.Proofs.Ytpmbbeflgifgaaa
open Go.RowKit
set_option linter.unusedVariables false

def blockN (ls : List LD) (rd : List Bool) (m j : Nat) : Bool := candN ls rd j && (genN ls j == genN ls m && !eqN ls j m) && !((deadL ls m).getD (diskN ls j) false)
set_option maxRecDepth 100000 in
set_option maxHeartbeats 4000000 in
theorem routlives_any (vl vr dv : Value) (ls : List LD) (rd : List Bool) (m : Nat) (w : World) (hn : ls.length ≤ 900) (hr : rd.length = ls.length) (hdl : ∀ i, (ldN ls i).2.length ≤ 100000)
    (h : LabsAt w vl ls) (hrd : SliceAt Value.bool w vr rd) (hm : SliceAt Value.bool w dv (ldN ls m).2) :
    Calls Try.prog 35 #[vl, vr, labV (ldN ls m).1 dv] w (BoolEnd w (El.outN ls.length (candN ls rd) (genN ls) (eqN ls) (diskN ls) (deadL ls) m)) := by
  obtain ⟨al, cl, rfl⟩ := h.shape
  obtain ⟨ar, cr, rfl⟩ := hrd.shape
  obtain ⟨am, cm, rfl⟩ := hm.shape
  rw [hr] at hrd ⊢
  have HL := Lib.hid h
  have HR := Lib.hid hrd
  have HM := Lib.hid hm
  have HO : Hid (El.outN ls.length (candN ls rd) (genN ls) (eqN ls) (diskN ls) (deadL ls) m = (List.range ls.length).all fun j => !blockN ls rd m j) := by
    show _ = _
    unfold El.outN blockN
    congr 1; funext j
    cases candN ls rd j <;> cases (genN ls j == genN ls m) <;> cases eqN ls j m <;> cases (deadL ls m).getD (diskN ls j) false <;> rfl
  rw [HO.out]
  clear HO
  obtain ⟨n, hnn⟩ : ∃ n, ls.length = n := ⟨_, rfl⟩
  have HN1 := Lib.hid hnn
  have HN2 := Lib.hid (hr.trans hnn)
  rw [hnn] at HR HL hn ⊢
  clear h hrd hm hnn hr
  have HB1 : Hid (BoxAt (w.alloc (.cells (labA (ldN ls m).1 (.slice am (ldN ls m).2.length cm)) 32)) w.heap.size (labA (ldN ls m).1 (.slice am (ldN ls m).2.length cm)) 32) := BoxAt.new _ _ _
  have HX1 : Hid (Ext w (w.alloc (.cells (labA (ldN ls m).1 (.slice am (ldN ls m).2.length cm)) 32))) := Ext.alloc _ _
  go_enter Try.func35, Try.ntmps35
  go_wp2_with fail
  go_loopw [7] (fun it wr => ∃ i : Nat, i ≤ n ∧ it = .int .i64 i ∧ Hid (∀ j, j < i → blockN ls rd m j = false) ∧ Hid (BoxAt wr w.heap.size (labA (ldN ls m).1 (.slice am (ldN ls m).2.length cm)) 32) ∧ Hid (Ext w wr)) (fun it _ => n - (intOf it).toNat)
  case atStart => exact ⟨0, Nat.zero_le _, rfl, Lib.hid (fun j hj => absurd hj (Nat.not_lt_zero j)), HB1, HX1⟩
  case round =>
    obtain ⟨i, hi, rfl, HF, HB, HX⟩ := hrel
    by_cases hlt : i < n
    · have hin : (i : Int) < (n : Int) := by omega
      have hil : i < ls.length := by rw [HN1.out]; exact hlt
      have hir : i < rd.length := by rw [HN2.out]; exact hlt
      obtain ⟨bl, ol, rfl, dvi, hA, hD⟩ := (HL.out.ext HX.out).at i hil
      obtain ⟨ad, cd, rfl⟩ := hD.shape
      obtain ⟨br, or_, rfl, hbr, hcr⟩ := (HR.out.ext HX.out).get i hir
      rw [← getD_in (d := false) hir] at hcr
      have HV := Lib.hid (fun w' (e : Ext wr w') => rvalid_any (ldN ls i).1 _ _ w' (hdl i) (hD.ext e))
      have HE : Hid (∀ w', Ext wr w' → Calls Try.prog 15 #[labV (ldN ls i).1 (.slice ad (ldN ls i).2.length cd), labV (ldN ls m).1 (.slice am (ldN ls m).2.length cm)] w' (BoolEnd w' (eqN ls i m))) := fun w' e => requal_any _ _ _ _ _ _ w' (hdl i) (hdl m) (hD.ext e) ((HM.out.ext HX.out).ext e)
      have HA := Lib.hid hA
      go_upto_region 5 with (first | (refine wpList_loadR 32 _ rfl (by rfl) rfl HA.out.load ?_) | (refine wpList_store_lab (w0 := wr) (l := (ldN ls i).1) (d := .slice ad (ldN ls i).2.length cd) _ _ rfl (by rfl) rfl rfl (BoxAt.new _ _ _) rfl rfl (Ext.alloc _ _) (Nat.le_refl _) ?_; intro w2 hx2 hb2 hs2))
      have hcr2 := (hx2.cell _ _ hbr).trans hcr
      have hbr2 := Nat.lt_of_lt_of_le hbr hx2.size
      have HX2 := Lib.hid hx2
      have HB2 := Lib.hid hb2
      have HBM := Lib.hid (HB.out.ext hx2)
      have HN : Hid (blockN ls rd m i = false → ∀ j, j < i + 1 → blockN ls rd m j = false) := fun e j hj => by
        by_cases c : j = i
        · rw [c]; exact e
        · exact HF.out j (by omega)
      have HBL : Hid (blockN ls rd m i = (((rd.getD i false && validL (ldN ls i).1 (ldN ls i).2) && (genN ls i == genN ls m && !eqN ls i m)) && !((deadL ls m).getD (diskN ls i) false))) := rfl
      clear hx2 hb2 hs2 hcr hbr
      cases hrv : rd.getD i false with
      | false =>
        rw [hrv] at hcr2 HBL
        go_wp2_with fail
        go_roundw
        case rel => exact ⟨i + 1, by omega, by go_num, Lib.hid (HN.out (by rw [HBL.out]; rfl)), HBM.out, HX.out.trans HX2.out⟩
        case measure => simp [intOf]; omega
      | true =>
        rw [hrv] at hcr2 HBL
        go_wp2_with (refine wpList_loadR 32 _ rfl (by rfl) rfl (LabAt.of_box HB2.out).load ?_)
        go_at_call 16
        refine (HV.out _ HX2.out).mono ?_
        rintro e w3 ⟨rfl, hb3⟩
        have HX3 : Hid (Ext wr w3) := HX2.out.trans hb3
        have HB3 := Lib.hid (HB2.out.ext hb3)
        have HBM3 := Lib.hid (HBM.out.ext hb3)
        clear hb3 hcr2 hbr2
        cases hvv : validL (ldN ls i).1 (ldN ls i).2 with
        | false =>
          rw [hvv] at HBL
          have HNB := Lib.hid (HN.out (by rw [HBL.out]; rfl))
          go_wp2_with fail
          go_roundw
          case rel => exact ⟨i + 1, by omega, by go_num, HNB, HBM3.out, HX.out.trans HX3.out⟩
          case measure => simp [intOf]; omega
        | true =>
          rw [hvv] at HBL
          have hvf := valid_facts hvv
          have HDK : Hid ((ldN ls i).1.disk = (diskN ls i : Int)) := by show _ = _; have := hvf.1; unfold diskN; omega
          have i2 := HB3.out.cell 2 (v := .int .u64 (genN ls i : Nat)) rfl
          have m2 := HBM3.out.cell 2 (v := .int .u64 (genN ls m : Nat)) rfl
          have hl2 := HB3.out.lt
          have hlm := HBM3.out.lt
          clear hvf hvv
          by_cases hg : genN ls i = genN ls m
          · have g1 : ((genN ls i : Int) == (genN ls m : Int)) = true := by rw [hg]; simp
            have g2 : (genN ls i == genN ls m) = true := by rw [hg]; simp
            rw [g2] at HBL
            clear hg
            go_wp2_with (first | (refine wpList_loadR 32 _ rfl (by rfl) rfl (LabAt.of_box HB3.out).load ?_) | (refine wpList_loadR 32 _ rfl (by rfl) rfl (LabAt.of_box HBM3.out).load ?_))
            go_at_call 15
            refine (HE.out _ HX3.out).mono ?_
            rintro e w4 ⟨rfl, hb4⟩
            have HX4 : Hid (Ext wr w4) := HX3.out.trans hb4
            have HB4 := Lib.hid (HB3.out.ext hb4)
            have HBM4 := Lib.hid (HBM3.out.ext hb4)
            clear hb4 i2 m2 hl2 hlm g1 g2
            cases hev : eqN ls i m with
            | true =>
              rw [hev] at HBL
              have HNB := Lib.hid (HN.out (by rw [HBL.out]; rfl))
              go_wp2_with fail
              go_roundw
              case rel => exact ⟨i + 1, by omega, by go_num, HNB, HBM4.out, HX.out.trans HX4.out⟩
              case measure => simp [intOf]; omega
            | false =>
              rw [hev] at HBL
              have i1 := HB4.out.cell 1 (v := .int .i64 (diskN ls i : Nat)) (by rw [← HDK.out]; rfl)
              have m15 := HBM4.out.cell 15 (v := .slice am (ldN ls m).2.length cm) rfl
              have hl2 := HB4.out.lt
              have hlm := HBM4.out.lt
              have HBT : Hid (blockN ls rd m i = true → ((List.range n).all fun j => !blockN ls rd m j) = false) := fun e => by
                cases hq : (List.range n).all fun j => !blockN ls rd m j with
                | false => rfl
                | true =>
                  rw [List.all_eq_true] at hq
                  have := hq i (List.mem_range.2 hlt)
                  rw [e] at this; cases this
              by_cases hdq : diskN ls i < (ldN ls m).2.length
              · have hdI : (diskN ls i : Int) < ((ldN ls m).2.length : Int) := by omega
                have hd0 : (0 : Int) ≤ (diskN ls i : Int) := by omega
                have d1 : decide (((ldN ls m).2.length : Int) ≤ (diskN ls i : Int)) = false := by rw [decide_eq_false_iff_not]; omega
                have d2 : decide ((ldN ls m).2.length ≤ diskN ls i) = false := by rw [decide_eq_false_iff_not]; omega
                obtain ⟨bd, od_, rfl, hbd, hcd⟩ := ((HM.out.ext HX.out).ext HX4.out).get (diskN ls i) hdq
                rw [← getD_in (d := false) hdq] at hcd
                have HHH : Hid ((ldN ls m).2.getD (diskN ls i) false = (deadL ls m).getD (diskN ls i) false) := rfl
                rw [HHH.out] at hcd
                generalize diskN ls i = dk at *
                cases hz : (deadL ls m).getD dk false with
                | true =>
                  rw [hz] at HBL hcd
                  have HNB := Lib.hid (HN.out (by rw [HBL.out]; rfl))
                  clear hdq
                  go_wp2_with fail
                  go_roundw
                  case rel => exact ⟨i + 1, by omega, by go_num, HNB, HBM4.out, HX.out.trans HX4.out⟩
                  case measure => simp [intOf]; omega
                | false =>
                  rw [hz] at HBL hcd
                  have HNB := Lib.hid (HBT.out (by rw [HBL.out]; rfl))
                  go_wp2_with fail
                  go_ret
                  exact ⟨by rw [HNB.out]; rfl, HX.out.trans HX4.out⟩
              · have d1 : decide (((ldN ls m).2.length : Int) ≤ (diskN ls i : Int)) = true := by rw [decide_eq_true_iff]; omega
                have d2 : decide ((ldN ls m).2.length ≤ diskN ls i) = true := by rw [decide_eq_true_iff]; omega
                have HZ : Hid ((deadL ls m).getD (diskN ls i) false = false) := getD_out hdq
                have HNB := Lib.hid (HBT.out (by rw [HBL.out, HZ.out]; rfl))
                clear hdq
                go_wp2_with fail
                go_ret
                exact ⟨by rw [HNB.out]; rfl, HX.out.trans HX4.out⟩
          · have g1 : ((genN ls i : Int) == (genN ls m : Int)) = false := by rw [beq_eq_false_iff_ne]; omega
            have g2 : (genN ls i == genN ls m) = false := by rw [beq_eq_false_iff_ne]; exact hg
            rw [g2] at HBL
            have HNB := Lib.hid (HN.out (by rw [HBL.out]; simp))
            clear hg
            go_wp2_with fail
            go_roundw
            case rel => exact ⟨i + 1, by omega, by go_num, HNB, HBM3.out, HX.out.trans HX3.out⟩
            case measure => simp [intOf]; omega
    · have hin : i = n := by omega
      subst hin
      have hin2 : ¬ ((i : Int) < (i : Int)) := by omega
      have hall : ((List.range i).all fun j => !blockN ls rd m j) = true := by
        rw [List.all_eq_true]
        intro j hj
        rw [HF.out j (List.mem_range.1 hj)]; rfl
      go_wp2_with fail
      go_ret
      exact ⟨rfl, HX.out⟩

set_option maxRecDepth 100000 in
set_option maxHeartbeats 4000000 in
theorem better_any (vl vr d1 d2 : Value) (ls : List LD) (rd : List Bool) (a b : Nat) (w : World) (hn : ls.length ≤ 900) (hr : rd.length = ls.length) (hdl : ∀ i, (ldN ls i).2.length ≤ 100000)
    (h : LabsAt w vl ls) (hrd : SliceAt Value.bool w vr rd) (ha : SliceAt Value.bool w d1 (ldN ls a).2) (hb : SliceAt Value.bool w d2 (ldN ls b).2) :
    Calls Try.prog 26 #[vl, vr, labV (ldN ls a).1 d1, labV (ldN ls b).1 d2] w (BoolEnd w (El.betterN ls.length (candN ls rd) (genN ls) (eqN ls) (diskN ls) (deadL ls) a b)) := by
  have HOA := Lib.hid (fun w' (e : Ext w w') => routlives_any vl vr d1 ls rd a w' hn hr hdl (h.ext e) (hrd.ext e) (ha.ext e))
  have HOB := Lib.hid (fun w' (e : Ext w w') => routlives_any vl vr d2 ls rd b w' hn hr hdl (h.ext e) (hrd.ext e) (hb.ext e))
  have HVA := Lib.hid (fun w' (e : Ext w w') => votes_any vl vr d1 ls rd a w' hn hr hdl (h.ext e) (hrd.ext e) (ha.ext e))
  have HVB := Lib.hid (fun w' (e : Ext w w') => votes_any vl vr d2 ls rd b w' hn hr hdl (h.ext e) (hrd.ext e) (hb.ext e))
  have HB : Hid (El.betterN ls.length (candN ls rd) (genN ls) (eqN ls) (diskN ls) (deadL ls) a b = (if El.outN ls.length (candN ls rd) (genN ls) (eqN ls) (diskN ls) (deadL ls) a = El.outN ls.length (candN ls rd) (genN ls) (eqN ls) (diskN ls) (deadL ls) b then decide (votK ls rd b ls.length < votK ls rd a ls.length) || (votK ls rd a ls.length == votK ls rd b ls.length && decide (lowK ls rd a ls.length < lowK ls rd b ls.length)) else El.outN ls.length (candN ls rd) (genN ls) (eqN ls) (diskN ls) (deadL ls) a)) := rfl
  obtain ⟨al, cl, rfl⟩ := h.shape
  obtain ⟨ar, cr, rfl⟩ := hrd.shape
  obtain ⟨a1, c1, rfl⟩ := ha.shape
  obtain ⟨a2, c2, rfl⟩ := hb.shape
  generalize El.betterN ls.length (candN ls rd) (genN ls) (eqN ls) (diskN ls) (deadL ls) a b = Z at *
  generalize El.outN ls.length (candN ls rd) (genN ls) (eqN ls) (diskN ls) (deadL ls) a = x at *
  generalize El.outN ls.length (candN ls rd) (genN ls) (eqN ls) (diskN ls) (deadL ls) b = y at *
  have hva := votK_le ls rd a ls.length
  have hvb := votK_le ls rd b ls.length
  have hla := lowK_le ls rd a ls.length
  have hlb := lowK_le ls rd b ls.length
  generalize votK ls rd a ls.length = va at *
  generalize votK ls rd b ls.length = vb at *
  generalize lowK ls rd a ls.length = la at *
  generalize lowK ls rd b ls.length = lb at *
  generalize (ldN ls a).2.length = qa at *
  generalize (ldN ls b).2.length = qb at *
  generalize (ldN ls a).1 = LA at *
  generalize (ldN ls b).1 = LB at *
  generalize ls.length = n at *
  generalize rd.length = r at *
  subst hr
  clear h hrd ha hb hdl
  have HB1 : Hid (BoxAt ((w.alloc (.cells (labA LA (.slice a1 qa c1)) 32)).alloc (.cells (labA LB (.slice a2 qb c2)) 32)) w.heap.size (labA LA (.slice a1 qa c1)) 32) := (BoxAt.new w _ _).ext (Ext.alloc _ _)
  have HB2 : Hid (BoxAt ((w.alloc (.cells (labA LA (.slice a1 qa c1)) 32)).alloc (.cells (labA LB (.slice a2 qb c2)) 32)) (w.heap.size + 1) (labA LB (.slice a2 qb c2)) 32) := by
    have := BoxAt.new (w.alloc (.cells (labA LA (.slice a1 qa c1)) 32)) (labA LB (.slice a2 qb c2)) 32
    rwa [World.size_alloc] at this
  have HX1 : Hid (Ext w ((w.alloc (.cells (labA LA (.slice a1 qa c1)) 32)).alloc (.cells (labA LB (.slice a2 qb c2)) 32))) := (Ext.alloc _ _).trans (Ext.alloc _ _)
  go_enter Try.func26, Try.ntmps26
  go_upto_region 1 with fail
  generalize (w.alloc (.cells (labA LA (.slice a1 qa c1)) 32)).alloc (.cells (labA LB (.slice a2 qb c2)) 32) = w1 at *
  refine wp_region_ext [(0, true), (1, true), (2, true), (4, true), (5, true), (6, true), (3, false), (7, false), (8, true), (9, true)] (by kernel_rfl) (by kernel_rfl) ?_
  iterate 2 (first
   | (refine ext_move rfl rfl (by rfl) (by rfl) ?_; simp only [Act.put, List.setIfInBounds_toArray, List.set_cons_zero, List.set_cons_succ])
   | (refine ext_assign rfl rfl (by rfl) (by rfl) ?_; simp only [Act.put, List.setIfInBounds_toArray, List.set_cons_zero, List.set_cons_succ])
   | (refine ext_pick_t rfl rfl (by rfl) (by rfl) (by rfl) ?_; simp only [Act.put, List.setIfInBounds_toArray, List.set_cons_zero, List.set_cons_succ])
   | (refine ext_pick_f rfl rfl (by rfl) (by rfl) (by rfl) ?_; simp only [Act.put, List.setIfInBounds_toArray, List.set_cons_zero, List.set_cons_succ])
   | (apply ext_take rfl (by rfl)
      · intro w' hS
        have hSc := hS.cells
        (try simp only [World.size_drew, World.cell?_drew] at hSc)
        go_simp
        (try simp (disch := omega) only [i64_id, u64_id, ↓IntWalk.iteOmega, Int.tdiv_eq_ediv_of_nonneg, Int.tmod_eq_emod_of_nonneg])
        try rfl
      simp only [Act.put, List.setIfInBounds_toArray, List.set_cons_zero, List.set_cons_succ])
   | (refine ext_pass rfl (by rfl) ?_; simp only [Act.put, List.setIfInBounds_toArray, List.set_cons_zero, List.set_cons_succ]))
  (refine ext_load 32 rfl (by rfl) rfl (by rfl) (fun w' hS => (LabAt.of_box (HB1.out.ext hS)).load) ?_; simp only [Act.put, List.setIfInBounds_toArray, List.set_cons_zero, List.set_cons_succ])
  iterate 2 (first
   | (refine ext_move rfl rfl (by rfl) (by rfl) ?_; simp only [Act.put, List.setIfInBounds_toArray, List.set_cons_zero, List.set_cons_succ])
   | (refine ext_assign rfl rfl (by rfl) (by rfl) ?_; simp only [Act.put, List.setIfInBounds_toArray, List.set_cons_zero, List.set_cons_succ])
   | (refine ext_pick_t rfl rfl (by rfl) (by rfl) (by rfl) ?_; simp only [Act.put, List.setIfInBounds_toArray, List.set_cons_zero, List.set_cons_succ])
   | (refine ext_pick_f rfl rfl (by rfl) (by rfl) (by rfl) ?_; simp only [Act.put, List.setIfInBounds_toArray, List.set_cons_zero, List.set_cons_succ])
   | (apply ext_take rfl (by rfl)
      · intro w' hS
        have hSc := hS.cells
        (try simp only [World.size_drew, World.cell?_drew] at hSc)
        go_simp
        (try simp (disch := omega) only [i64_id, u64_id, ↓IntWalk.iteOmega, Int.tdiv_eq_ediv_of_nonneg, Int.tmod_eq_emod_of_nonneg])
        try rfl
      simp only [Act.put, List.setIfInBounds_toArray, List.set_cons_zero, List.set_cons_succ])
   | (refine ext_pass rfl (by rfl) ?_; simp only [Act.put, List.setIfInBounds_toArray, List.set_cons_zero, List.set_cons_succ]))
  (refine ext_load 32 rfl (by rfl) rfl (by rfl) (fun w' hS => (LabAt.of_box (HB2.out.ext hS)).load) ?_; simp only [Act.put, List.setIfInBounds_toArray, List.set_cons_zero, List.set_cons_succ])
  refine ext_do rfl (by rfl) (fun K hK => ?_)
  go_simp
  go_at_call 35
  refine (HOA.out _ (HX1.out.trans (Ext.drew _))).mono ?_
  rintro e w2 ⟨rfl, hb2⟩
  have HX2 : Hid (Ext w1 w2) := (Ext.drew _).trans hb2
  refine hK _ _ HX2.out ?_
  clear hK K hb2
  (try simp only [Act.put, List.setIfInBounds_toArray, List.set_cons_zero, List.set_cons_succ])
  refine ext_do rfl (by rfl) (fun K hK => ?_)
  go_simp
  go_at_call 35
  refine (HOB.out _ (HX1.out.trans HX2.out)).mono ?_
  rintro e w3 ⟨rfl, hb3⟩
  have HX3 : Hid (Ext w1 w3) := HX2.out.trans hb3
  refine hK _ _ hb3 ?_
  clear hK K hb3
  (try simp only [Act.put, List.setIfInBounds_toArray, List.set_cons_zero, List.set_cons_succ])
  iterate 2 (first
   | (refine ext_move rfl rfl (by rfl) (by rfl) ?_; simp only [Act.put, List.setIfInBounds_toArray, List.set_cons_zero, List.set_cons_succ])
   | (refine ext_assign rfl rfl (by rfl) (by rfl) ?_; simp only [Act.put, List.setIfInBounds_toArray, List.set_cons_zero, List.set_cons_succ])
   | (refine ext_pick_t rfl rfl (by rfl) (by rfl) (by rfl) ?_; simp only [Act.put, List.setIfInBounds_toArray, List.set_cons_zero, List.set_cons_succ])
   | (refine ext_pick_f rfl rfl (by rfl) (by rfl) (by rfl) ?_; simp only [Act.put, List.setIfInBounds_toArray, List.set_cons_zero, List.set_cons_succ])
   | (apply ext_take rfl (by rfl)
      · intro w' hS
        have hSc := hS.cells
        (try simp only [World.size_drew, World.cell?_drew] at hSc)
        go_simp
        (try simp (disch := omega) only [i64_id, u64_id, ↓IntWalk.iteOmega, Int.tdiv_eq_ediv_of_nonneg, Int.tmod_eq_emod_of_nonneg])
        try rfl
      simp only [Act.put, List.setIfInBounds_toArray, List.set_cons_zero, List.set_cons_succ])
   | (refine ext_pass rfl (by rfl) ?_; simp only [Act.put, List.setIfInBounds_toArray, List.set_cons_zero, List.set_cons_succ]))
  refine ext_nil ?_
  by_cases hxy : x = y
  · rw [if_pos hxy] at HB
    subst hxy
    have hq1 : (x == x) = true := by simp
    have hq2 : (x != x) = false := by simp
    have HB13 := Lib.hid (HB1.out.ext HX3.out)
    go_wp2_with (refine wpList_loadR 32 _ rfl (by rfl) rfl (LabAt.of_box HB13.out).load ?_)
    go_at_call 36
    refine (HVA.out _ (HX1.out.trans HX3.out)).mono ?_
    rintro e w4 ⟨rfl, hb4⟩
    have HX4 : Hid (Ext w1 w4) := HX3.out.trans hb4
    have HB24 := Lib.hid (HB2.out.ext HX4.out)
    clear hb4
    go_wp2_with (refine wpList_loadR 32 _ rfl (by rfl) rfl (LabAt.of_box HB24.out).load ?_)
    go_at_call 36
    refine (HVB.out _ (HX1.out.trans HX4.out)).mono ?_
    rintro e w5 ⟨rfl, hb5⟩
    have HX5 : Hid (Ext w w5) := HX1.out.trans (HX4.out.trans hb5)
    clear hb5
    rcases Nat.lt_trichotomy va vb with hv | hv | hv
    · have c1 : decide ((vb : Int) < (va : Int)) = false := by rw [decide_eq_false_iff_not]; omega
      have c1n : decide (vb < va) = false := by rw [decide_eq_false_iff_not]; omega
      have c2 : ((va : Int) == (vb : Int)) = false := by rw [beq_eq_false_iff_ne]; omega
      have c2n : (va == vb) = false := by rw [beq_eq_false_iff_ne]; omega
      have HZ : Hid (Z = false) := by show _ = _; rw [HB.out, c1n, c2n]; rfl
      clear hv
      go_wp2_with fail
      go_ret
      exact ⟨by rw [HZ.out]; rfl, HX5.out⟩
    · subst hv
      have c1 : decide ((va : Int) < (va : Int)) = false := by rw [decide_eq_false_iff_not]; omega
      have c1n : decide (va < va) = false := by rw [decide_eq_false_iff_not]; omega
      have c2 : ((va : Int) == (va : Int)) = true := by simp
      have c2n : (va == va) = true := by simp
      have HZ : Hid (Z = decide (la < lb)) := by show _ = _; rw [HB.out, c1n, c2n]; rfl
      go_wp2_with fail
      go_ret
      exact ⟨by rw [HZ.out]; rfl, HX5.out⟩
    · have c1 : decide ((vb : Int) < (va : Int)) = true := by rw [decide_eq_true_iff]; omega
      have c1n : decide (vb < va) = true := by rw [decide_eq_true_iff]; omega
      have HZ : Hid (Z = true) := by show _ = _; rw [HB.out, c1n]; rfl
      clear hv
      go_wp2_with fail
      go_ret
      exact ⟨by rw [HZ.out]; rfl, HX5.out⟩
  · rw [if_neg hxy] at HB
    have hq1 : (x == y) = false := by rw [beq_eq_false_iff_ne]; exact hxy
    have hq2 : (x != y) = true := by rw [bne, hq1]; rfl
    clear hxy
    go_wp2_with fail
    go_ret
    exact ⟨by rw [HB.out]; rfl, HX1.out.trans HX3.out⟩
end Go.Proofs.Ytpmbbeflgifgaaa
