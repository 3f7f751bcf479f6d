/-
  Part 17 of the proof.
-/
import Derived.Test.YtjabgpejmnpamaaGreatDoorY13
set_option linter.unusedVariables false
namespace Go.Proofs.YtjabgpejmnpamaaGreatDoor
open Go.RowKit
def usB (l : List (BitVec 8)) (gen : BitVec 64) (i : Nat) : Bool := okP l && decide (gP l = gen) && decide (iP l = BitVec.ofNat 64 i) && decide ((iP l).toNat < (mP l).toNat)
def UsableEnd (w0 W : World) (l : List (BitVec 8)) (gen : BitVec 64) (i : Nat) (e : Ending) (w' : World) : Prop :=
  ∃ vc, e = .returned (.tuple #[.agg #[encU (gP l), encU (iP l), encU (mP l), vc], .bool (usB l gen i)]) ∧ SliceAt encB w0 vc (cP l) ∧ Below W.heap.size W w'
theorem gP_nil : gP [] = 0#64 := rfl
theorem iP_nil : iP [] = 0#64 := rfl
theorem mP_nil : mP [] = 0#64 := rfl
theorem cP_nil : cP [] = [] := rfl
theorem usB_nil (gen : BitVec 64) (i : Nat) : usB [] gen i = false := by unfold usB okP; simp
set_option maxHeartbeats 2000000 in
theorem usable_any (vc : Value) (c : List (List (BitVec 8))) (i : Nat) (gen : BitVec 64) (w0 w : World) (hx0 : Ext w0 w) (hi : i ≤ 100000) (hcl : c.length ≤ 100000) (hl : ∀ l ∈ c, l.length ≤ 100000) (h : SliceR (Pat.slice Pat.u8) w0 vc c) :
    Calls Tryz.prog 92 #[vc, .int .i64 i, encU gen] w (UsableEnd w0 w (c.getD i []) gen i) := by
  obtain ⟨ad, cap, rfl⟩ := h.shape
  by_cases hlt : i < c.length
  · obtain ⟨b, off, v, rfl, hb0, hc0, hv, hm⟩ := h.elem i hlt
    have hc := (hx0.cell b (off + i) hb0).trans hc0
    have hb := Nat.lt_of_lt_of_le hb0 hx0.size
    clear hc0
    have hlc : c[i].length ≤ 100000 := hl _ (List.getElem_mem hlt)
    have HV := Lib.hid hv.at.1
    rw [show c.getD i [] = c[i] by rw [List.getD_eq_getElem?_getD, List.getElem?_eq_getElem hlt]; rfl]
    generalize c[i] = l at *
    obtain ⟨av, cv, rfl⟩ := HV.out.shape
    have hge : decide ((c.length : Int) ≤ (i : Int)) = false := by rw [decide_eq_false_iff_not]; omega
    have hin : (i : Int) < (c.length : Int) := by omega
    clear hv h hl
    go_enter Tryz.func92, Tryz.ntmps92
    go_wp2_with fail
    go_at_call 140
    refine (rpparse_any _ l _ hlc (HV.out.ext (hx0.trans (Ext.alloc _ _)))).mono ?_
    rintro e w1 ⟨vq, rfl, hs1', hb1⟩
    have hs1 := hs1' _ HV.out
    clear hs1'
    have HX1 : Hid (Ext w w1) := (Ext.alloc _ _).trans hb1
    have HB1 := Lib.hid ((BoxAt.new w #[.int .u64 0, .int .u64 0, .int .u64 0, .slice none 0 0] 106).ext hb1)
    obtain ⟨cl, hcl1⟩ : ∃ cl, cP l = cl := ⟨_, rfl⟩
    rw [hcl1] at hs1
    have HCL := Lib.hid hcl1
    obtain ⟨aq, cq, hvq⟩ := hs1.shape
    subst hvq
    have HS1 := Lib.hid hs1
    have hus : usB l gen i = (okP l && decide (gP l = gen) && decide (iP l = BitVec.ofNat 64 i) && decide ((iP l).toNat < (mP l).toNat)) := rfl
    have HUS := Lib.hid hus
    generalize hgn : gP l = g1 at *
    generalize hin : iP l = i1 at *
    generalize hmn : mP l = m1 at *
    generalize hok : okP l = ok at *
    have HGN := Lib.hid hgn
    have HIN := Lib.hid hin
    have HMN := Lib.hid hmn
    clear hgn hin hmn hus hs1 hb1 hc hok hcl1
    go_wp2_with fail
    have hHH : (w1.alloc (.cells #[.int .u64 (un g1), .int .u64 (un i1), .int .u64 (un m1), .slice aq cl.length cq] 106)) = (w1.alloc (.cells #[.int .u64 (un g1), .int .u64 (un i1), .int .u64 (un m1), .slice aq cl.length cq] 106)) := rfl
    generalize hW2 : w1.alloc (.cells #[.int .u64 (un g1), .int .u64 (un i1), .int .u64 (un m1), .slice aq cl.length cq] 106) = w2 at *
    have HX2 : Hid (Ext w1 w2) := by rw [← hW2]; exact Ext.alloc _ _
    have hB2 : BoxAt w2 w1.heap.size #[encU g1, encU i1, encU m1, .slice aq cl.length cq] 106 := by rw [← hW2]; exact BoxAt.new _ _ _
    clear hW2 hHH
    have hB1 := HB1.out.ext HX2.out
    have hc0 := hB2.cell 0 rfl
    have hc1 := hB2.cell 1 rfl
    have hc2 := hB2.cell 2 rfl
    have hc3 := hB2.cell 3 rfl
    have hgl := hB2.lt
    have hz1 := HB1.out.lt
    have hne : w1.heap.size ≠ w.heap.size := by omega
    have hz := hB1.lt
    have hk0 := hB1.cell 0 rfl
    have hk1 := hB1.cell 1 rfl
    have hk2 := hB1.cell 2 rfl
    have hk3 := hB1.cell 3 rfl
    have hff := hB1.free
    have hfg := hB2.free
    have hi64 : IntKind.u64.wrap (i : Int) = (i : Int) := u64_id _ (by omega)
    have hii : (BitVec.ofNat 64 i).toNat = i := by rw [BitVec.toNat_ofNat]; omega
    clear hB1 hB2
    cases ok with
    | false =>
      have HE : Hid (usB l gen i = false) := by show _ = _; rw [HUS.out]; simp
      refine wp_region_fix (fun x => ∀ b o, b < w2.heap.size → b ≠ w.heap.size → x.cell? ⟨b, o, none⟩ = w2.cell? ⟨b, o, none⟩) [(0, true), (1, true), (2, true), (3, true), (4, true), (5, true), (6, true), (7, true), (8, true), (9, true), (10, true), (11, true), (12, true), (13, true), (14, true), (15, true), (16, true), (17, true), (18, true), (19, true), (20, true), (21, true), (22, false), (23, true)] (by kernel_rfl) (by kernel_rfl) ?_ ?_
      · exact fun b o _ _ => rfl
      iterate 22 ((first
       | refine fix_move rfl rfl (by rfl) (by rfl) ?_
       | (apply fix_take rfl (by rfl)
          · intro w' hSc
            go_simp
            (try simp (disch := omega) only [i64_id, u64_id, ↓IntWalk.iteOmega, Int.tdiv_eq_ediv_of_nonneg, Int.tmod_eq_emod_of_nonneg])
            try rfl)
       | refine fix_pass rfl (by rfl) ?_); simp only [Act.put, setZa, setZ0, setZ1])
      (refine fix_do rfl (by rfl) (fun K hK => ?_)
       go_simp
       refine hK _ _ (fun b o hb h1 => (set_block (Ne.symm h1)).trans ((set_block (Ne.symm h1)).trans ((set_block (Ne.symm h1)).trans (set_block (Ne.symm h1))))) ?_
       clear hK K
       (try simp only [Act.put, setZa, setZ0, setZ1]))
      iterate 1 ((first
       | refine fix_move rfl rfl (by rfl) (by rfl) ?_
       | (apply fix_take rfl (by rfl)
          · intro w' hSc
            go_simp
            (try simp (disch := omega) only [i64_id, u64_id, ↓IntWalk.iteOmega, Int.tdiv_eq_ediv_of_nonneg, Int.tmod_eq_emod_of_nonneg])
            try rfl)
       | refine fix_pass rfl (by rfl) ?_); simp only [Act.put, setZa, setZ0, setZ1])
      refine fix_nil ?_
      go_wp2_with fail
      refine bodyPost_ret (v := .tuple #[.agg #[encU g1, encU i1, encU m1, .slice aq cl.length cq], .bool false]) ?_ rfl ?_
      · simp only [results, Tryz.results92]
        go_simp
      · unfold UsableEnd
        rw [HE.out, HGN.out, HIN.out, HMN.out, HCL.out]
        have HB6 := (bel_set (bel_set (bel_set (bel_set (Ext.below (HX1.out.trans (HX2.out.trans (Ext.drew w2)))) (Nat.le_refl _) 0 (encU g1)) (Nat.le_refl _) 1 (encU i1)) (Nat.le_refl _) 2 (encU m1)) (Nat.le_refl _) 3 (.slice aq cl.length cq))
        refine ⟨_, rfl, HS1.out, HB6⟩
    | true =>
      by_cases hA : g1 = gen
      · have ha : (un g1 == un gen) = true := by rw [beq_iff_eq, hA]
        by_cases hB : i1 = BitVec.ofNat 64 i
        · have hb' : (un i1 == (i : Int)) = true := by rw [beq_iff_eq, hB]; show ((BitVec.ofNat 64 i).toNat : Int) = i; rw [hii]
          by_cases hC : i1.toNat < m1.toNat
          · have hc' : decide (un i1 < un m1) = true := by rw [decide_eq_true_eq]; show ((i1.toNat : Nat) : Int) < (m1.toNat : Int); omega
            have HE : Hid (usB l gen i = true) := by show _ = _; rw [HUS.out, decide_eq_true hA, decide_eq_true hB, decide_eq_true hC]; rfl
            clear hA hB hC
            refine wp_region_fix (fun x => ∀ b o, b < w2.heap.size → b ≠ w.heap.size → x.cell? ⟨b, o, none⟩ = w2.cell? ⟨b, o, none⟩) [(0, true), (1, true), (2, true), (3, true), (4, true), (5, true), (6, true), (7, true), (8, true), (9, true), (10, true), (11, true), (12, true), (13, true), (14, true), (15, true), (16, true), (17, true), (18, true), (19, true), (20, true), (21, true), (22, false), (23, true)] (by kernel_rfl) (by kernel_rfl) ?_ ?_
            · exact fun b o _ _ => rfl
            iterate 22 ((first
             | refine fix_move rfl rfl (by rfl) (by rfl) ?_
             | (apply fix_take rfl (by rfl)
                · intro w' hSc
                  go_simp
                  (try simp (disch := omega) only [i64_id, u64_id, ↓IntWalk.iteOmega, Int.tdiv_eq_ediv_of_nonneg, Int.tmod_eq_emod_of_nonneg])
                  try rfl)
             | refine fix_pass rfl (by rfl) ?_); simp only [Act.put, setZa, setZ0, setZ1])
            (refine fix_do rfl (by rfl) (fun K hK => ?_)
             go_simp
             refine hK _ _ (fun b o hb h1 => (set_block (Ne.symm h1)).trans ((set_block (Ne.symm h1)).trans ((set_block (Ne.symm h1)).trans (set_block (Ne.symm h1))))) ?_
             clear hK K
             (try simp only [Act.put, setZa, setZ0, setZ1]))
            iterate 1 ((first
             | refine fix_move rfl rfl (by rfl) (by rfl) ?_
             | (apply fix_take rfl (by rfl)
                · intro w' hSc
                  go_simp
                  (try simp (disch := omega) only [i64_id, u64_id, ↓IntWalk.iteOmega, Int.tdiv_eq_ediv_of_nonneg, Int.tmod_eq_emod_of_nonneg])
                  try rfl)
             | refine fix_pass rfl (by rfl) ?_); simp only [Act.put, setZa, setZ0, setZ1])
            refine fix_nil ?_
            go_wp2_with fail
            refine bodyPost_ret (v := .tuple #[.agg #[encU g1, encU i1, encU m1, .slice aq cl.length cq], .bool true]) ?_ rfl ?_
            · simp only [results, Tryz.results92]
              go_simp
            · unfold UsableEnd
              rw [HE.out, HGN.out, HIN.out, HMN.out, HCL.out]
              have HB6 := (bel_set (bel_set (bel_set (bel_set (Ext.below (HX1.out.trans (HX2.out.trans (Ext.drew w2)))) (Nat.le_refl _) 0 (encU g1)) (Nat.le_refl _) 1 (encU i1)) (Nat.le_refl _) 2 (encU m1)) (Nat.le_refl _) 3 (.slice aq cl.length cq))
              refine ⟨_, rfl, HS1.out, HB6⟩
          · have hc' : decide (un i1 < un m1) = false := by rw [decide_eq_false_iff_not]; show ¬ ((i1.toNat : Nat) : Int) < (m1.toNat : Int); omega
            have HE : Hid (usB l gen i = false) := by show _ = _; rw [HUS.out, decide_eq_false hC]; simp
            clear hA hB hC
            refine wp_region_fix (fun x => ∀ b o, b < w2.heap.size → b ≠ w.heap.size → x.cell? ⟨b, o, none⟩ = w2.cell? ⟨b, o, none⟩) [(0, true), (1, true), (2, true), (3, true), (4, true), (5, true), (6, true), (7, true), (8, true), (9, true), (10, true), (11, true), (12, true), (13, true), (14, true), (15, true), (16, true), (17, true), (18, true), (19, true), (20, true), (21, true), (22, false), (23, true)] (by kernel_rfl) (by kernel_rfl) ?_ ?_
            · exact fun b o _ _ => rfl
            iterate 22 ((first
             | refine fix_move rfl rfl (by rfl) (by rfl) ?_
             | (apply fix_take rfl (by rfl)
                · intro w' hSc
                  go_simp
                  (try simp (disch := omega) only [i64_id, u64_id, ↓IntWalk.iteOmega, Int.tdiv_eq_ediv_of_nonneg, Int.tmod_eq_emod_of_nonneg])
                  try rfl)
             | refine fix_pass rfl (by rfl) ?_); simp only [Act.put, setZa, setZ0, setZ1])
            (refine fix_do rfl (by rfl) (fun K hK => ?_)
             go_simp
             refine hK _ _ (fun b o hb h1 => (set_block (Ne.symm h1)).trans ((set_block (Ne.symm h1)).trans ((set_block (Ne.symm h1)).trans (set_block (Ne.symm h1))))) ?_
             clear hK K
             (try simp only [Act.put, setZa, setZ0, setZ1]))
            iterate 1 ((first
             | refine fix_move rfl rfl (by rfl) (by rfl) ?_
             | (apply fix_take rfl (by rfl)
                · intro w' hSc
                  go_simp
                  (try simp (disch := omega) only [i64_id, u64_id, ↓IntWalk.iteOmega, Int.tdiv_eq_ediv_of_nonneg, Int.tmod_eq_emod_of_nonneg])
                  try rfl)
             | refine fix_pass rfl (by rfl) ?_); simp only [Act.put, setZa, setZ0, setZ1])
            refine fix_nil ?_
            go_wp2_with fail
            refine bodyPost_ret (v := .tuple #[.agg #[encU g1, encU i1, encU m1, .slice aq cl.length cq], .bool false]) ?_ rfl ?_
            · simp only [results, Tryz.results92]
              go_simp
            · unfold UsableEnd
              rw [HE.out, HGN.out, HIN.out, HMN.out, HCL.out]
              have HB6 := (bel_set (bel_set (bel_set (bel_set (Ext.below (HX1.out.trans (HX2.out.trans (Ext.drew w2)))) (Nat.le_refl _) 0 (encU g1)) (Nat.le_refl _) 1 (encU i1)) (Nat.le_refl _) 2 (encU m1)) (Nat.le_refl _) 3 (.slice aq cl.length cq))
              refine ⟨_, rfl, HS1.out, HB6⟩
        · have hb' : (un i1 == (i : Int)) = false := by
            rw [beq_eq_false_iff_ne]; intro hh; apply hB; apply BitVec.eq_of_toNat_eq; rw [hii]
            have : ((i1.toNat : Nat) : Int) = (i : Int) := hh
            omega
          have HE : Hid (usB l gen i = false) := by show _ = _; rw [HUS.out, decide_eq_false hB]; simp
          clear hA hB
          refine wp_region_fix (fun x => ∀ b o, b < w2.heap.size → b ≠ w.heap.size → x.cell? ⟨b, o, none⟩ = w2.cell? ⟨b, o, none⟩) [(0, true), (1, true), (2, true), (3, true), (4, true), (5, true), (6, true), (7, true), (8, true), (9, true), (10, true), (11, true), (12, true), (13, true), (14, true), (15, true), (16, true), (17, true), (18, true), (19, true), (20, true), (21, true), (22, false), (23, true)] (by kernel_rfl) (by kernel_rfl) ?_ ?_
          · exact fun b o _ _ => rfl
          iterate 22 ((first
           | refine fix_move rfl rfl (by rfl) (by rfl) ?_
           | (apply fix_take rfl (by rfl)
              · intro w' hSc
                go_simp
                (try simp (disch := omega) only [i64_id, u64_id, ↓IntWalk.iteOmega, Int.tdiv_eq_ediv_of_nonneg, Int.tmod_eq_emod_of_nonneg])
                try rfl)
           | refine fix_pass rfl (by rfl) ?_); simp only [Act.put, setZa, setZ0, setZ1])
          (refine fix_do rfl (by rfl) (fun K hK => ?_)
           go_simp
           refine hK _ _ (fun b o hb h1 => (set_block (Ne.symm h1)).trans ((set_block (Ne.symm h1)).trans ((set_block (Ne.symm h1)).trans (set_block (Ne.symm h1))))) ?_
           clear hK K
           (try simp only [Act.put, setZa, setZ0, setZ1]))
          iterate 1 ((first
           | refine fix_move rfl rfl (by rfl) (by rfl) ?_
           | (apply fix_take rfl (by rfl)
              · intro w' hSc
                go_simp
                (try simp (disch := omega) only [i64_id, u64_id, ↓IntWalk.iteOmega, Int.tdiv_eq_ediv_of_nonneg, Int.tmod_eq_emod_of_nonneg])
                try rfl)
           | refine fix_pass rfl (by rfl) ?_); simp only [Act.put, setZa, setZ0, setZ1])
          refine fix_nil ?_
          go_wp2_with fail
          refine bodyPost_ret (v := .tuple #[.agg #[encU g1, encU i1, encU m1, .slice aq cl.length cq], .bool false]) ?_ rfl ?_
          · simp only [results, Tryz.results92]
            go_simp
          · unfold UsableEnd
            rw [HE.out, HGN.out, HIN.out, HMN.out, HCL.out]
            have HB6 := (bel_set (bel_set (bel_set (bel_set (Ext.below (HX1.out.trans (HX2.out.trans (Ext.drew w2)))) (Nat.le_refl _) 0 (encU g1)) (Nat.le_refl _) 1 (encU i1)) (Nat.le_refl _) 2 (encU m1)) (Nat.le_refl _) 3 (.slice aq cl.length cq))
            refine ⟨_, rfl, HS1.out, HB6⟩
      · have ha : (un g1 == un gen) = false := by
          rw [beq_eq_false_iff_ne]; intro hh; apply hA; apply BitVec.eq_of_toNat_eq
          have : ((g1.toNat : Nat) : Int) = (gen.toNat : Int) := hh
          omega
        have HE : Hid (usB l gen i = false) := by show _ = _; rw [HUS.out, decide_eq_false hA]; simp
        clear hA
        refine wp_region_fix (fun x => ∀ b o, b < w2.heap.size → b ≠ w.heap.size → x.cell? ⟨b, o, none⟩ = w2.cell? ⟨b, o, none⟩) [(0, true), (1, true), (2, true), (3, true), (4, true), (5, true), (6, true), (7, true), (8, true), (9, true), (10, true), (11, true), (12, true), (13, true), (14, true), (15, true), (16, true), (17, true), (18, true), (19, true), (20, true), (21, true), (22, false), (23, true)] (by kernel_rfl) (by kernel_rfl) ?_ ?_
        · exact fun b o _ _ => rfl
        iterate 22 ((first
         | refine fix_move rfl rfl (by rfl) (by rfl) ?_
         | (apply fix_take rfl (by rfl)
            · intro w' hSc
              go_simp
              (try simp (disch := omega) only [i64_id, u64_id, ↓IntWalk.iteOmega, Int.tdiv_eq_ediv_of_nonneg, Int.tmod_eq_emod_of_nonneg])
              try rfl)
         | refine fix_pass rfl (by rfl) ?_); simp only [Act.put, setZa, setZ0, setZ1])
        (refine fix_do rfl (by rfl) (fun K hK => ?_)
         go_simp
         refine hK _ _ (fun b o hb h1 => (set_block (Ne.symm h1)).trans ((set_block (Ne.symm h1)).trans ((set_block (Ne.symm h1)).trans (set_block (Ne.symm h1))))) ?_
         clear hK K
         (try simp only [Act.put, setZa, setZ0, setZ1]))
        iterate 1 ((first
         | refine fix_move rfl rfl (by rfl) (by rfl) ?_
         | (apply fix_take rfl (by rfl)
            · intro w' hSc
              go_simp
              (try simp (disch := omega) only [i64_id, u64_id, ↓IntWalk.iteOmega, Int.tdiv_eq_ediv_of_nonneg, Int.tmod_eq_emod_of_nonneg])
              try rfl)
         | refine fix_pass rfl (by rfl) ?_); simp only [Act.put, setZa, setZ0, setZ1])
        refine fix_nil ?_
        go_wp2_with fail
        refine bodyPost_ret (v := .tuple #[.agg #[encU g1, encU i1, encU m1, .slice aq cl.length cq], .bool false]) ?_ rfl ?_
        · simp only [results, Tryz.results92]
          go_simp
        · unfold UsableEnd
          rw [HE.out, HGN.out, HIN.out, HMN.out, HCL.out]
          have HB6 := (bel_set (bel_set (bel_set (bel_set (Ext.below (HX1.out.trans (HX2.out.trans (Ext.drew w2)))) (Nat.le_refl _) 0 (encU g1)) (Nat.le_refl _) 1 (encU i1)) (Nat.le_refl _) 2 (encU m1)) (Nat.le_refl _) 3 (.slice aq cl.length cq))
          refine ⟨_, rfl, HS1.out, HB6⟩
  · have hge : decide ((c.length : Int) ≤ (i : Int)) = true := by rw [decide_eq_true_eq]; omega
    rw [show c.getD i [] = [] by rw [List.getD_eq_getElem?_getD, List.getElem?_eq_none (by omega)]; rfl]
    clear h hl
    go_enter Tryz.func92, Tryz.ntmps92
    go_wp2_with fail
    refine bodyPost_ret (v := .tuple #[.agg #[.int .u64 0, .int .u64 0, .int .u64 0, .slice none 0 0], .bool false]) ?_ rfl ?_
    · simp only [results, Tryz.results92]
      go_simp
    · unfold UsableEnd
      rw [gP_nil, iP_nil, mP_nil, cP_nil, usB_nil]
      exact ⟨_, rfl, SliceAt.nil, Ext.alloc _ _⟩
end Go.Proofs.YtjabgpejmnpamaaGreatDoor
