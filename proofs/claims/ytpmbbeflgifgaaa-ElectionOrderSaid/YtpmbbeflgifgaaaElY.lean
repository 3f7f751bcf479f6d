/-
  Chapter 31 (election): the walk of ElectionDead.
-/
import Derived.Test.YtpmbbeflgifgaaaElX
namespace Go.Proofs.Ytpmbbeflgifgaaa
open Go.ChangeShapes Go.WideShapes Go.ChangeAt Go.RowKit
set_option linter.unusedVariables false

theorem large_facts {ls : List LD} (h : largeB ls = false) : ls.length ≤ 70 ∧ ∀ i, (ldN ls i).2.length ≤ 100 := by
  unfold largeB at h
  rw [Bool.or_eq_false_iff, decide_eq_false_iff_not] at h
  refine ⟨by omega, fun i => ?_⟩
  by_cases hi : i < ls.length
  · have h1 := h.1
    rw [List.any_eq_false] at h1
    have := h1 _ (List.getElem_mem hi)
    rw [decide_eq_true_eq] at this
    rw [ldN_in hi]; omega
  · unfold ldN; rw [getD_out hi]; simp [ld0]
theorem err_zero {ls : List LD} {rd : List Bool} (h : errE ls rd = 0) : ls.length = rd.length ∧ ∃ m, bestE ls rd = some m ∧ cntN (atE ls rd m) ≤ 3 := by
  unfold errE at h
  by_cases hl : ls.length = rd.length
  · rw [if_neg (by simpa using hl)] at h
    refine ⟨hl, ?_⟩
    cases hb : bestE ls rd with
    | none => rw [hb] at h; cases h
    | some m =>
      rw [hb] at h
      refine ⟨m, rfl, ?_⟩
      by_cases h3 : 3 < cntN (atE ls rd m)
      · simp only [if_pos h3] at h; cases h
      · omega
  · rw [if_pos hl] at h; cases h
theorem atE_len (ls : List LD) (rd : List Bool) (m : Nat) : (atE ls rd m).length = disksN ls m := by unfold atE; rw [List.length_map, List.length_range]
/-- what stands at a place -/
theorem place_facts {ls : List LD} {rd : List Bool} {m d : Nat} (hd : d < (atE ls rd m).length) :
    (atE ls rd m)[d] = -1 ∨ ∃ i : Nat, i < ls.length ∧ (atE ls rd m)[d] = i ∧ candN ls rd i = true ∧ diskN ls i = d ∧ (deadL ls m).getD d false = false ∧ (eqN ls i m = true ∨ eqN ls i m = false ∧ oldN ls m i = true) := by
  have hz : (atE ls rd m)[d] = El.place (fun i => candN ls rd i && (diskN ls i == d && curN ls m i)) (fun i => candN ls rd i && (diskN ls i == d && oldN ls m i)) ls.length := by
    simp only [atE, List.getElem_map, List.getElem_range]
  rw [hz]
  unfold El.place
  cases hc : El.firstN (fun i => candN ls rd i && (diskN ls i == d && curN ls m i)) ls.length with
  | some i =>
    obtain ⟨h1, h2⟩ := El.firstN_some hc
    simp only [Bool.and_eq_true, beq_iff_eq] at h2
    refine .inr ⟨i, h1, rfl, h2.1, h2.2.1, ?_, .inl ?_⟩
    · have := h2.2.2
      unfold curN at this
      simp only [Bool.and_eq_true, Bool.not_eq_true'] at this
      rw [← h2.2.1]; exact this.1
    · have := h2.2.2
      unfold curN at this
      simp only [Bool.and_eq_true] at this
      exact this.2
  | none =>
    simp only
    cases ho : El.firstN (fun i => candN ls rd i && (diskN ls i == d && oldN ls m i)) ls.length with
    | some i =>
      obtain ⟨h1, h2⟩ := El.firstN_some ho
      simp only [Bool.and_eq_true, beq_iff_eq] at h2
      have hdd : (deadL ls m).getD d false = false := by
        have := h2.2.2
        unfold oldN at this
        simp only [Bool.and_eq_true, Bool.not_eq_true'] at this
        rw [← h2.2.1]; exact this.1
      refine .inr ⟨i, h1, rfl, h2.1, h2.2.1, hdd, ?_⟩
      cases he : eqN ls i m with
      | true => exact .inl rfl
      | false => exact .inr ⟨rfl, h2.2.2⟩
    | none => exact .inl rfl
theorem old_gen {ls : List LD} {m i : Nat} (h : oldN ls m i = true) : genN ls i = (ldN ls m).1.prev.toNat := by
  unfold oldN at h
  simp only [Bool.and_eq_true, beq_iff_eq] at h
  exact h.2.2
set_option maxRecDepth 100000 in
set_option maxHeartbeats 4000000 in
theorem electionDead_walk (v1 v2 : Value) (ls : List LD) (rd : List Bool) (w : World) (hm : ls.length ≤ maxLen) (hmr : rd.length ≤ maxLen) (hq : ∀ l, l ∈ ls → l.2.length ≤ maxLen ∧ LabI l.1) (h : LabsAt w v1 ls) (hr : SliceAt Value.bool w v2 rd) :
    Calls Try.prog 5 #[v1, v2] w fun e w' => e = .returned (.bool true) ∧ Below w.heap.size w w' := by
  obtain ⟨al, cl, rfl⟩ := h.shape
  obtain ⟨ar, cr, rfl⟩ := hr.shape
  have HL := Lib.hid h
  have HR := Lib.hid hr
  have HLG := Lib.hid (fun (w' : World) (e : Ext w w') => large_any _ ls w' hm (fun l hl => (hq l hl).1) (h.ext e))
  have HLF := Lib.hid (large_facts (ls := ls))
  unfold maxLen at hm hmr
  obtain ⟨n, hn⟩ : ∃ n, ls.length = n := ⟨_, rfl⟩
  obtain ⟨r, hrn⟩ : ∃ r, rd.length = r := ⟨_, rfl⟩
  have HN := Lib.hid hn
  have HRN := Lib.hid hrn
  rw [hn] at HL hm HLF ⊢
  rw [hn] at HLG
  rw [hrn] at HR hmr ⊢
  clear h hr hq hn hrn
  go_enter Try.func5, Try.ntmps5
  go_wp2_with fail
  go_at_call 9
  refine (awake_any _).mono ?_
  rintro e w1 ⟨rfl, hb1⟩
  have HX1 : Hid (Ext w w1) := hb1
  clear hb1
  go_wp2_with fail
  go_at_call 10
  refine (HLG.out _ HX1.out).mono ?_
  rintro e w2 ⟨rfl, rfl⟩
  cases hlg : largeB ls with
  | true =>
    go_wp2_with fail
    go_ret
    exact ⟨rfl, HX1.out⟩
  | false =>
    obtain ⟨hn70, hdl⟩ := HLF.out hlg
    have HDL := Lib.hid hdl
    clear hdl hlg
    by_cases hrl : r = n
    · subst hrl
      have hq1 : ((r : Int) == r) = true := by simp
      have hq2 : ((r : Int) != r) = false := by simp
      go_wp2_with fail
      go_at_call 11
      refine (elect_any _ _ ls rd _ (by rw [HN.out]; omega) (by rw [HRN.out]; omega) (fun i => Nat.le_trans (HDL.out i) (by decide)) (HL.out.ext HX1.out) (HR.out.ext HX1.out)).mono ?_
      rintro e w3 ⟨dv, av, rfl, hd3, ha3, hx3⟩
      have HX3 : Hid (Ext w w3) := HX1.out.trans hx3
      obtain ⟨ad, cd, rfl⟩ := hd3.shape
      obtain ⟨aa, ca, rfl⟩ := ha3.shape
      have HD3 := Lib.hid hd3
      have HA3 := Lib.hid ha3
      clear hd3 ha3 hx3
      by_cases he : errE ls rd = 0
      · obtain ⟨_, m, hb, _⟩ := err_zero he
        obtain ⟨hl1, hl2⟩ := good_lab he hb
        obtain ⟨hmn, hmc⟩ := best_facts hb
        have hv := valid_facts (cand_valid hmc)
        rw [hl1] at HD3 ⊢
        rw [hl2] at HA3 ⊢
        rw [he]
        obtain ⟨D, hDe⟩ : ∃ D, disksN ls m = D := ⟨_, rfl⟩
        have HAL : Hid ((atE ls rd m).length = D) := by show _ = _; rw [atE_len, hDe]
        have HDD : Hid ((ldN ls m).2.length = D) := by show _ = _; rw [← hDe]; unfold disksN; omega
        have hcd : (ldN ls m).1.c.d = (D : Int) := by rw [← hDe]; unfold disksN; omega
        have HPF := Lib.hid (fun d hd => place_facts (ls := ls) (rd := rd) (m := m) (d := d) hd)
        rw [HAL.out] at HA3 ⊢
        rw [HDD.out] at HD3 ⊢
        have hDl : D ≤ 60 := by omega
        clear he hb hl1 hl2 hmn hmc hv hDe
        go_upto_region 6 with (refine wpList_store_lab (w0 := w3) (l := (ldN ls m).1) (d := .slice ad D cd) _ _ rfl (by rfl) rfl rfl (BoxAt.new _ _ _) rfl rfl (Ext.alloc _ _) (Nat.le_refl _) ?_; intro w4 hx4 hb4 hs4)
        have c4 : w4.cell? ⟨w3.heap.size, 4, none⟩ = some (.int .i64 D) := by rw [← hcd]; exact hb4.cell 4 rfl
        have c15 := hb4.cell 15 (v := .slice ad D cd) rfl
        have hl4 := hb4.lt
        have hqD1 : ((D : Int) == D) = true := by simp
        have hqD2 : ((D : Int) != D) = false := by simp
        have HB4 := Lib.hid hb4
        have HX4 : Hid (Ext w w4) := HX3.out.trans hx4
        have HA4 := Lib.hid (HA3.out.ext hx4)
        have HD4 := Lib.hid (HD3.out.ext hx4)
        clear hb4 hx4 hs4 hcd
        go_wp2_with fail
        clear c4 c15 hl4
        go_loopw [46] (fun it wr => ∃ d : Nat, d ≤ D ∧ it = .int .i64 d ∧ Hid (Ext w4 wr)) (fun it _ => D - (intOf it).toNat)
        case atStart => exact ⟨0, Nat.zero_le _, rfl, Lib.hid (Ext.refl _)⟩
        case round =>
          obtain ⟨d, hdD, rfl, HXr⟩ := hrel
          by_cases hlt : d < D
          · have hdI : (d : Int) < (D : Int) := by omega
            have hd0 : (0 : Int) ≤ (d : Int) := by omega
            have hda : d < (atE ls rd m).length := by rw [HAL.out]; exact hlt
            obtain ⟨b1, o1, rfl, hb1, hc1⟩ := (HA4.out.ext HXr.out).get d hda
            have hpf := HPF.out d hda
            generalize (atE ls rd m)[d] = z at *
            rcases hpf with rfl | ⟨i, hi, rfl, hci, hdi, hdd, hgen⟩
            · go_wp2_with fail
              go_roundw
              case rel => exact ⟨d + 1, by omega, by go_num, HXr⟩
              case measure => simp [intOf]; omega
            · have hir : i < rd.length := by rw [HRN.out, ← HN.out]; exact hi
              have hcv := cand_disk hci
              have hrc : rd.getD i false = true := by unfold candN at hci; rw [Bool.and_eq_true] at hci; exact hci.1
              obtain ⟨b2, o2, rfl, hb2, hc2⟩ := (HR.out.ext (HX4.out.trans HXr.out)).get i hir
              rw [← getD_in (d := false) hir, hrc] at hc2
              obtain ⟨b3, o3, rfl, dvi, hAi, hDi⟩ := (HL.out.ext (HX4.out.trans HXr.out)).at i hi
              have hdisk : (ldN ls i).1.disk = (d : Int) := by
                have h1 := hcv.1
                unfold diskN at hdi
                omega
              have a1 := hAi.cell 1 (v := .int .i64 d) (by rw [← hdisk]; rfl)
              have a2 := hAi.gen
              have hl3 := hAi.2
              obtain ⟨b4, o4, rfl, hb4', hc4⟩ := (HD4.out.ext HXr.out).get d (by rw [HDD.out]; exact hlt)
              rw [← getD_in (d := false) (show d < (ldN ls m).2.length by rw [HDD.out]; exact hlt)] at hc4
              have hc4' : wr.cell? ⟨b4, o4 + d, none⟩ = some (.bool false) := by rw [hc4]; exact congrArg (fun z => some (Value.bool z)) hdd
              have hbe := HB4.out.ext HXr.out
              have m2 := hbe.cell 2 (v := .int .u64 (genN ls m : Nat)) rfl
              have m3 := hbe.cell 3 (v := .int .u64 ((ldN ls m).1.prev.toNat : Nat)) rfl
              have m15 := hbe.cell 15 (v := .slice (some ⟨b4, o4, none⟩) D cd) rfl
              have hlb := hbe.lt
              have hiI : (i : Int) < (r : Int) := by have := HN.out; omega
              have hi0 : (0 : Int) ≤ (i : Int) := by omega
              have di1 : decide ((r : Int) ≤ (i : Int)) = false := by rw [decide_eq_false_iff_not]; omega
              have di2 : decide (r ≤ i) = false := by rw [decide_eq_false_iff_not]; omega
              have di3 : decide ((i : Int) < 0) = false := by rw [decide_eq_false_iff_not]; omega
              have dd1 : ((d : Int) == d) = true := by simp
              have dd2 : ((d : Int) != d) = false := by simp
              have hG : genN ls i = genN ls m ∨ genN ls i ≠ genN ls m ∧ genN ls i = (ldN ls m).1.prev.toNat := by
                rcases hgen with h | ⟨_, h⟩
                · exact .inl (eqN_gen h)
                · by_cases e : genN ls i = genN ls m
                  · exact .inl e
                  · exact .inr ⟨e, old_gen h⟩
              generalize genN ls i = Gi at *
              generalize genN ls m = Gm at *
              generalize (ldN ls m).1.prev.toNat = Pm at *
              clear hc4 hbe hAi hDi hdisk hdi hci hcv hrc hdd hgen
              rcases hG with rfl | ⟨hne, rfl⟩
              · have g1 : ((Gi : Int) == Gi) = true := by simp
                have g2 : ((Gi : Int) != Gi) = false := by simp
                go_wp2_with fail
                refine wp_region_ext [(0, true), (1, true), (2, true), (3, true), (4, true), (5, true), (6, true), (7, true), (8, true), (9, true), (10, true), (11, true), (12, true), (13, true), (14, true), (15, true), (16, true), (17, true), (18, true), (19, true), (20, true), (21, true), (22, true), (23, true), (24, true), (25, true), (26, true), (27, true), (28, true), (29, true), (30, true), (31, true), (32, true), (33, true), (34, true), (35, true), (36, true), (37, true), (38, true), (39, true), (40, true), (41, true), (42, true), (43, true), (44, true), (45, true), (46, true)] (by kernel_rfl) (by kernel_rfl) ?_
                iterate 47 (first
                 | (refine ext_move rfl rfl (by rfl) (by rfl) ?_; simp only [Act.put, List.setIfInBounds_toArray, List.set_cons_zero, List.set_cons_succ])
                 | (refine ext_assign rfl rfl (by rfl) (by rfl) ?_; simp only [Act.put, List.setIfInBounds_toArray, List.set_cons_zero, List.set_cons_succ])
                 | (refine ext_pick_t rfl rfl (by rfl) (by rfl) (by rfl) ?_; simp only [Act.put, List.setIfInBounds_toArray, List.set_cons_zero, List.set_cons_succ])
                 | (refine ext_pick_f rfl rfl (by rfl) (by rfl) (by rfl) ?_; simp only [Act.put, List.setIfInBounds_toArray, List.set_cons_zero, List.set_cons_succ])
                 | (apply ext_take rfl (by rfl)
                    · intro w' hS
                      have hSc := hS.cells
                      (try simp only [World.size_drew, World.cell?_drew] at hSc)
                      go_simp
                      (try simp (disch := omega) only [i64_id, u64_id, ↓IntWalk.iteOmega, Int.tdiv_eq_ediv_of_nonneg, Int.tmod_eq_emod_of_nonneg])
                      try rfl
                    simp only [Act.put, List.setIfInBounds_toArray, List.set_cons_zero, List.set_cons_succ])
                 | (refine ext_pass rfl (by rfl) ?_; simp only [Act.put, List.setIfInBounds_toArray, List.set_cons_zero, List.set_cons_succ]))
                refine ext_nil ?_
                go_wp2_with fail
                go_roundw
                case rel => exact ⟨d + 1, by omega, by go_num, HXr.out.trans (Ext.drew _)⟩
                case measure => simp [intOf]; omega
              · have g1 : ((Gi : Int) == (Gm : Int)) = false := by rw [beq_eq_false_iff_ne]; omega
                have g2 : ((Gi : Int) != (Gm : Int)) = true := by rw [bne, g1]; rfl
                have g3 : ((Gi : Int) == Gi) = true := by simp
                have g4 : ((Gi : Int) != Gi) = false := by simp
                go_wp2_with fail
                refine wp_region_ext [(0, true), (1, true), (2, true), (3, true), (4, true), (5, true), (6, true), (7, true), (8, true), (9, true), (10, true), (11, true), (12, true), (13, true), (14, true), (15, true), (16, true), (17, true), (18, true), (19, true), (20, true), (21, true), (22, true), (23, true), (24, true), (25, true), (26, true), (27, true), (28, true), (29, true), (30, true), (31, true), (32, true), (33, true), (34, true), (35, true), (36, true), (37, true), (38, true), (39, true), (40, true), (41, true), (42, true), (43, true), (44, true), (45, true), (46, true)] (by kernel_rfl) (by kernel_rfl) ?_
                iterate 47 (first
                 | (refine ext_move rfl rfl (by rfl) (by rfl) ?_; simp only [Act.put, List.setIfInBounds_toArray, List.set_cons_zero, List.set_cons_succ])
                 | (refine ext_assign rfl rfl (by rfl) (by rfl) ?_; simp only [Act.put, List.setIfInBounds_toArray, List.set_cons_zero, List.set_cons_succ])
                 | (refine ext_pick_t rfl rfl (by rfl) (by rfl) (by rfl) ?_; simp only [Act.put, List.setIfInBounds_toArray, List.set_cons_zero, List.set_cons_succ])
                 | (refine ext_pick_f rfl rfl (by rfl) (by rfl) (by rfl) ?_; simp only [Act.put, List.setIfInBounds_toArray, List.set_cons_zero, List.set_cons_succ])
                 | (apply ext_take rfl (by rfl)
                    · intro w' hS
                      have hSc := hS.cells
                      (try simp only [World.size_drew, World.cell?_drew] at hSc)
                      go_simp
                      (try simp (disch := omega) only [i64_id, u64_id, ↓IntWalk.iteOmega, Int.tdiv_eq_ediv_of_nonneg, Int.tmod_eq_emod_of_nonneg])
                      try rfl
                    simp only [Act.put, List.setIfInBounds_toArray, List.set_cons_zero, List.set_cons_succ])
                 | (refine ext_pass rfl (by rfl) ?_; simp only [Act.put, List.setIfInBounds_toArray, List.set_cons_zero, List.set_cons_succ]))
                refine ext_nil ?_
                go_wp2_with fail
                go_roundw
                case rel => exact ⟨d + 1, by omega, by go_num, HXr.out.trans (Ext.drew _)⟩
                case measure => simp [intOf]; omega
          · have hdD2 : d = D := by omega
            subst hdD2
            have hin2 : ¬ ((d : Int) < (d : Int)) := by omega
            go_wp2_with fail
            go_ret
            exact ⟨rfl, HX4.out.trans HXr.out⟩
      · have d1 : ((errE ls rd : Int) == 0) = false := by rw [beq_eq_false_iff_ne]; omega
        have d2 : ((errE ls rd : Int) != 0) = true := by rw [bne, d1]; rfl
        generalize errE ls rd = E at *
        generalize (labE ls rd).2 = D7 at *
        generalize (labE ls rd).1 = L7 at *
        clear he
        go_upto_region 6 with (refine wpList_store_lab (w0 := w3) (l := L7) (d := .slice ad D7.length cd) _ _ rfl (by rfl) rfl rfl (BoxAt.new _ _ _) rfl rfl (Ext.alloc _ _) (Nat.le_refl _) ?_; intro w4 hx4 hb4 hs4)
        have HX4 : Hid (Ext w w4) := HX3.out.trans hx4
        clear hx4 hb4 hs4
        go_wp2_with fail
        go_ret
        exact ⟨rfl, HX4.out⟩
    · have hq1 : ((r : Int) == (n : Int)) = false := by rw [beq_eq_false_iff_ne]; omega
      have hq2 : ((r : Int) != (n : Int)) = true := by rw [bne, hq1]; rfl
      go_wp2_with fail
      go_ret
      exact ⟨rfl, HX1.out⟩
end Go.Proofs.Ytpmbbeflgifgaaa
