/-
  Chapter 31 (election): the walk of ElectionOrder.
-/
import Derived.Test.YtpmbbeflgifgaaaElAV
import Derived.Test.YtpmbbeflgifgaaaElKD
namespace Go.Proofs.Ytpmbbeflgifgaaa
open Go.ChangeShapes Go.WideShapes Go.ChangeAt Go.RowKit
set_option linter.unusedVariables false

set_option maxRecDepth 100000 in
set_option maxHeartbeats 4000000 in
theorem electionOrder_walk (v1 v2 : Value) (ls : List LD) (rd : List Bool) (sh : BitVec 8) (w : World) (hm : ls.length ≤ maxLen) (hmr : rd.length ≤ maxLen) (hq : ∀ l, l ∈ ls → l.2.length ≤ maxLen ∧ LabI l.1) (h : LabsAt w v1 ls) (hr : SliceAt Value.bool w v2 rd) :
    Calls Try.prog 4 #[v1, v2, .int .u8 (ub sh)] w fun e w' => e = .returned (.bool true) ∧ Below w.heap.size w w' := by
  obtain ⟨i0, hI, hI0, hI1, hI2⟩ := info_parts infoBo
  obtain ⟨al, cl, rfl⟩ := h.shape
  obtain ⟨ar, cr, rfl⟩ := hr.shape
  have HL := Lib.hid h
  have HR := Lib.hid hr
  have HLG := Lib.hid (fun (w' : World) (e : Ext w w') => large_any _ ls w' hm (fun l hl => (hq l hl).1) (h.ext e))
  have HLF := Lib.hid (large_facts (ls := ls))
  unfold maxLen at hm hmr
  obtain ⟨n, hn⟩ : ∃ n, ls.length = n := ⟨_, rfl⟩
  obtain ⟨r, hrn⟩ : ∃ r, rd.length = r := ⟨_, rfl⟩
  have HN := Lib.hid hn
  have HRN := Lib.hid hrn
  have hS := sh.isLt
  show Calls _ _ #[_, _, .int .u8 (sh.toNat : Nat)] _ _
  generalize sh.toNat = S at *
  rw [hn] at HL hm HLF ⊢
  rw [hn] at HLG
  rw [hrn] at HR hmr ⊢
  clear h hr hq hn hrn
  go_enter Try.func4, Try.ntmps4
  go_wp2_with fail
  go_at_call 9
  refine (awake_any _).mono ?_
  rintro e w1 ⟨rfl, hb1⟩
  have HX1 : Hid (Ext w w1) := hb1
  clear hb1
  go_wp2_with fail
  go_at_call 10
  refine (HLG.out _ HX1.out).mono ?_
  rintro e w2 ⟨rfl, rfl⟩
  cases hlg : largeB ls with
  | true =>
    go_wp2_with fail
    go_ret
    exact ⟨rfl, HX1.out⟩
  | false =>
    obtain ⟨hn70, hdl⟩ := HLF.out hlg
    have HDL := Lib.hid hdl
    clear hdl hlg
    by_cases hrl : r = n
    · subst hrl
      have hq1 : ((r : Int) == r) = true := by simp
      have hq2 : ((r : Int) != r) = false := by simp
      by_cases hr0 : r = 0
      · subst hr0
        go_wp2_with fail
        go_ret
        exact ⟨rfl, HX1.out⟩
      · have hq3 : ((r : Int) == 0) = false := by rw [beq_eq_false_iff_ne]; omega
        go_wp2_with fail
        clear hq1 hq2 hq3
        go_loopw [37] (fun it wr => ∃ a : Nat, a ≤ r ∧ it = .int .i64 a ∧ Hid (∀ i k, k < i → i < a → (ldN ls i).1.disk ≠ (ldN ls k).1.disk) ∧ Hid (Ext w wr)) (fun it _ => r - (intOf it).toNat)
        case atStart => exact ⟨0, Nat.zero_le _, rfl, Lib.hid (fun i k _ h => absurd h (Nat.not_lt_zero _)), HX1⟩
        case round =>
          obtain ⟨a, har, rfl, HDD, HXr⟩ := hrel
          generalize wr = wo at *
          by_cases hlt : a < r
          · have hdI : (a : Int) < (r : Int) := by omega
            have hd0 : (0 : Int) ≤ (a : Int) := by omega
            go_wp2_with fail
            go_loopw [41] (fun it wr => ∃ b : Nat, b ≤ a ∧ it = .int .i64 b ∧ Hid (∀ k, k < b → (ldN ls a).1.disk ≠ (ldN ls k).1.disk) ∧ Hid (Ext w wr)) (fun it _ => a - (intOf it).toNat)
            case atStart => exact ⟨0, Nat.zero_le _, rfl, Lib.hid (fun k h => absurd h (Nat.not_lt_zero _)), HXr⟩
            case round =>
              obtain ⟨b, hba, rfl, HDA, HXi⟩ := hrel
              by_cases hlt2 : b < a
              · have hbI : (b : Int) < (a : Int) := by omega
                have hb0 : (0 : Int) ≤ (b : Int) := by omega
                have hbr : (b : Int) < (r : Int) := by omega
                obtain ⟨b1, o1, rfl, dv1, hA1, _⟩ := (HL.out.ext HXi.out).at a (by rw [HN.out]; exact hlt)
                obtain ⟨b2, o2, hbe, dv2, hA2, _⟩ := (HL.out.ext HXi.out).at b (by rw [HN.out]; omega)
                cases hbe
                have c1 := hA1.cell 1 (v := .int .i64 (ldN ls a).1.disk) rfl
                have c2 := hA2.cell 1 (v := .int .i64 (ldN ls b).1.disk) rfl
                have hl1 := hA1.2
                have HNE := Lib.hid (fun (e : (ldN ls a).1.disk ≠ (ldN ls b).1.disk) => (fun k (hk : k < b + 1) => if h : k < b then HDA.out k h else by rw [show k = b by omega]; exact e : ∀ k, k < b + 1 → (ldN ls a).1.disk ≠ (ldN ls k).1.disk))
                clear hA1 hA2
                generalize (ldN ls a).1.disk = z1 at *
                generalize (ldN ls b).1.disk = z2 at *
                by_cases hz : z1 = z2
                · subst hz
                  have q1 : (z1 == z1) = true := by simp
                  go_wp2_with fail
                  refine wp_region_ext [(0, true), (1, true), (2, true), (3, true), (4, true), (5, true), (6, true), (7, true), (8, true), (9, true), (10, true)] (by kernel_rfl) (by kernel_rfl) ?_
                  iterate 11 (first
                   | (refine ext_move rfl rfl (by rfl) (by rfl) ?_; simp only [Act.put, List.setIfInBounds_toArray, List.set_cons_zero, List.set_cons_succ])
                   | (refine ext_assign rfl rfl (by rfl) (by rfl) ?_; simp only [Act.put, List.setIfInBounds_toArray, List.set_cons_zero, List.set_cons_succ])
                   | (refine ext_pick_t rfl rfl (by rfl) (by rfl) (by rfl) ?_; simp only [Act.put, List.setIfInBounds_toArray, List.set_cons_zero, List.set_cons_succ])
                   | (refine ext_pick_f rfl rfl (by rfl) (by rfl) (by rfl) ?_; simp only [Act.put, List.setIfInBounds_toArray, List.set_cons_zero, List.set_cons_succ])
                   | (apply ext_take rfl (by rfl)
                      · intro w' hS
                        have hSc := hS.cells
                        (try simp only [World.size_drew, World.cell?_drew] at hSc)
                        go_simp
                        (try simp (disch := omega) only [i64_id, u64_id, ↓IntWalk.iteOmega, Int.tdiv_eq_ediv_of_nonneg, Int.tmod_eq_emod_of_nonneg])
                        try rfl
                      simp only [Act.put, List.setIfInBounds_toArray, List.set_cons_zero, List.set_cons_succ])
                   | (refine ext_pass rfl (by rfl) ?_; simp only [Act.put, List.setIfInBounds_toArray, List.set_cons_zero, List.set_cons_succ]))
                  refine ext_nil ?_
                  go_wp2_with fail
                  go_ret
                  exact ⟨rfl, HXi.out.trans (Ext.drew _)⟩
                · have q1 : (z1 == z2) = false := by rw [beq_eq_false_iff_ne]; exact hz
                  have HZ := Lib.hid hz
                  clear hz
                  go_wp2_with fail
                  refine wp_region_ext [(0, true), (1, true), (2, true), (3, true), (4, true), (5, true), (6, true), (7, true), (8, true), (9, true), (10, true)] (by kernel_rfl) (by kernel_rfl) ?_
                  iterate 11 (first
                   | (refine ext_move rfl rfl (by rfl) (by rfl) ?_; simp only [Act.put, List.setIfInBounds_toArray, List.set_cons_zero, List.set_cons_succ])
                   | (refine ext_assign rfl rfl (by rfl) (by rfl) ?_; simp only [Act.put, List.setIfInBounds_toArray, List.set_cons_zero, List.set_cons_succ])
                   | (refine ext_pick_t rfl rfl (by rfl) (by rfl) (by rfl) ?_; simp only [Act.put, List.setIfInBounds_toArray, List.set_cons_zero, List.set_cons_succ])
                   | (refine ext_pick_f rfl rfl (by rfl) (by rfl) (by rfl) ?_; simp only [Act.put, List.setIfInBounds_toArray, List.set_cons_zero, List.set_cons_succ])
                   | (apply ext_take rfl (by rfl)
                      · intro w' hS
                        have hSc := hS.cells
                        (try simp only [World.size_drew, World.cell?_drew] at hSc)
                        go_simp
                        (try simp (disch := omega) only [i64_id, u64_id, ↓IntWalk.iteOmega, Int.tdiv_eq_ediv_of_nonneg, Int.tmod_eq_emod_of_nonneg])
                        try rfl
                      simp only [Act.put, List.setIfInBounds_toArray, List.set_cons_zero, List.set_cons_succ])
                   | (refine ext_pass rfl (by rfl) ?_; simp only [Act.put, List.setIfInBounds_toArray, List.set_cons_zero, List.set_cons_succ]))
                  refine ext_nil ?_
                  go_wp2_with fail
                  go_roundw
                  case rel => exact ⟨b + 1, by omega, by go_num, Lib.hid (HNE.out HZ.out), Lib.hid (HXi.out.trans (Ext.drew _))⟩
                  case measure => simp [intOf]; omega
              · have hba2 : b = a := by omega
                subst hba2
                have hin2 : ¬ ((b : Int) < (b : Int)) := by omega
                go_wp2_with fail
                go_roundw
                case rel => exact ⟨b + 1, by omega, by go_num, Lib.hid (fun i k hk hi => if h : i < b then HDD.out i k hk h else (show i = b by omega) ▸ HDA.out k (by omega)), HXi⟩
                case measure => simp [intOf]; omega
          · have hadr : a = r := by omega
            subst hadr
            have hin2 : ¬ ((a : Int) < (a : Int)) := by omega
            obtain ⟨k, hk⟩ : ∃ k, S % a = k := ⟨_, rfl⟩
            have hkr : k < a := by rw [← hk]; exact Nat.mod_lt _ (by omega)
            have hm1 : ((S : Int) % (a : Int)) = (k : Int) := by rw [← hk]; simp
            have hm2 : (S : Int).tmod (a : Int) = (k : Int) := (Int.tmod_eq_emod_of_nonneg (by omega)).trans hm1
            have har0 : 0 < a := by omega
            clear hk
            obtain ⟨hcl, b1, o1, rfl, hin1⟩ := (HL.out.ext HXr.out).inn (by rw [HN.out]; exact har0)
            have HIN := Lib.hid hin1
            clear hin1
            have hcr := (HR.out.ext HXr.out).get 0 (by rw [HRN.out]; exact har0)
            obtain ⟨b2, o2, rfl, hb2, hcx⟩ := hcr
            clear hcx
            obtain ⟨hcrl, hsb⟩ := HR.out.inn (by rw [HRN.out]; exact har0)
            clear har
            go_upto_region 16 with fail
            refine wp_region_bel (wo.heap.size) (wo) ((Below.refl _ _)) [(1, true), (2, true), (3, true), (5, true), (6, true), (7, true), (0, false), (4, false), (8, false), (9, true)] (by kernel_rfl) (by kernel_rfl) ?_
            iterate 6 (first
             | (refine bel_move rfl rfl (by rfl) (by rfl) ?_; simp only [Act.put, List.setIfInBounds_toArray, List.set_cons_zero, List.set_cons_succ])
             | (apply bel_take rfl (by rfl)
                · intro w' hS
                  have hSc := below_cellsB hS
                  go_simp
                  (try simp (disch := omega) only [i64_id, u64_id, ↓IntWalk.iteOmega, Int.tdiv_eq_ediv_of_nonneg, Int.tmod_eq_emod_of_nonneg])
                  try rfl
                simp only [Act.put, List.setIfInBounds_toArray, List.set_cons_zero, List.set_cons_succ])
             | (refine bel_pass rfl (by rfl) ?_; simp only [Act.put, List.setIfInBounds_toArray, List.set_cons_zero, List.set_cons_succ]))
            (refine bel_do rfl (by rfl) (fun K hK => ?_)
             go_simp
             refine hK _ _ ((Ext.drew _).trans (Ext.alloc _ _)) ?_
             clear hK K
             (try simp only [Act.put, List.setIfInBounds_toArray, List.set_cons_zero, List.set_cons_succ]))
            (refine bel_do rfl (by rfl) (fun K hK => ?_)
             refine wp_of_list rfl ?_
             refine wpList_append_labs rfl (.tmp 62) (.tmp 65) rfl wo _ [] (ls.drop k) rfl (OwnLD.lit (Ext.drew _)) rfl (by rw [List.length_drop, HN.out]) (HIN.out.drop k) (by rw [List.length_drop, HN.out]; simp; omega) ?_
             intro v2 w2 ho2 hx2
             rw [List.nil_append] at ho2
             have HO2 := Lib.hid ho2
             refine hK _ _ hx2 ?_
             clear hK K ho2 hx2
             (try simp only [Act.put, List.setIfInBounds_toArray, List.set_cons_zero, List.set_cons_succ]))
            (refine bel_do rfl (by rfl) (fun K hK => ?_)
             refine wp_of_list rfl ?_
             refine wpList_append_labs rfl (.tmp 66) (.tmp 69) rfl wo _ (ls.drop k) (ls.take k) rfl HO2.out rfl (by rw [List.length_take, HN.out]; omega) (HIN.out.take k) (by rw [List.length_drop, List.length_take, HN.out]; omega) ?_
             intro v3 w3 ho3 hx3
             have HO3 : Hid (OwnLD wo w3 v3 (turnL ls k)) := ho3
             have HX3 := Lib.hid hx3
             refine hK _ _ hx3 ?_
             clear hK K ho3 hx3 HO2
             (try simp only [Act.put, List.setIfInBounds_toArray, List.set_cons_zero, List.set_cons_succ]))
            iterate 1 (first
             | (refine bel_move rfl rfl (by rfl) (by rfl) ?_; simp only [Act.put, List.setIfInBounds_toArray, List.set_cons_zero, List.set_cons_succ])
             | (apply bel_take rfl (by rfl)
                · intro w' hS
                  have hSc := below_cellsB hS
                  go_simp
                  (try simp (disch := omega) only [i64_id, u64_id, ↓IntWalk.iteOmega, Int.tdiv_eq_ediv_of_nonneg, Int.tmod_eq_emod_of_nonneg])
                  try rfl
                simp only [Act.put, List.setIfInBounds_toArray, List.set_cons_zero, List.set_cons_succ])
             | (refine bel_pass rfl (by rfl) ?_; simp only [Act.put, List.setIfInBounds_toArray, List.set_cons_zero, List.set_cons_succ]))
            refine bel_nil ?_
            go_upto_region 17 with fail
            have HSD := Lib.hid (((HR.out.ext HXr.out).ext HX3.out).dropS (lo := k) (by rw [HRN.out]; omega) (by omega))
            have HST := Lib.hid (((HR.out.ext HXr.out).ext HX3.out).takeS (lo := k) (by rw [HRN.out]; omega) (by omega))
            refine wp_region_bel (w3.heap.size) (w3) ((Below.refl _ _)) [(1, true), (2, true), (3, true), (5, true), (6, true), (7, true), (0, false), (4, false), (8, false), (9, true)] (by kernel_rfl) (by kernel_rfl) ?_
            iterate 6 (first
             | (refine bel_move rfl rfl (by rfl) (by rfl) ?_; simp only [Act.put, List.setIfInBounds_toArray, List.set_cons_zero, List.set_cons_succ])
             | (apply bel_take rfl (by rfl)
                · intro w' hS
                  have hSc := below_cellsB hS
                  go_simp
                  (try simp (disch := omega) only [i64_id, u64_id, ↓IntWalk.iteOmega, Int.tdiv_eq_ediv_of_nonneg, Int.tmod_eq_emod_of_nonneg])
                  try rfl
                simp only [Act.put, List.setIfInBounds_toArray, List.set_cons_zero, List.set_cons_succ])
             | (refine bel_pass rfl (by rfl) ?_; simp only [Act.put, List.setIfInBounds_toArray, List.set_cons_zero, List.set_cons_succ]))
            (refine bel_do rfl (by rfl) (fun K hK => ?_)
             go_simp
             refine hK _ _ ((Ext.drew _).trans (Ext.alloc _ _)) ?_
             clear hK K
             (try simp only [Act.put, List.setIfInBounds_toArray, List.set_cons_zero, List.set_cons_succ]))
            (refine bel_do rfl (by rfl) (fun K hK => ?_)
             refine wp_of_list rfl ?_
             have hx4 : Ext w3 (w3.drew.alloc (.cells #[] 4)) := (Ext.drew _).trans (Ext.alloc _ _)
             refine wpList_append_slice (enc := Value.bool) (fun _ => rfl) rfl (.tmp 71) (.tmp 74) 23 rfl w3.heap.size 4 i0 (.bool false) 1 Try.underlying23 hI hI0 hI1 hI2 rfl _ 0 [] rfl (World.ownsRow_lit w3.drew #[] 0 (Ext.drew w3).size (by decide) (by simp)) _ (rd.drop k) rfl (HSD.out.ext hx4) (by rw [List.length_drop, HRN.out]; unfold maxLen; omega) (by rw [List.length_drop, HRN.out]; omega) hx4.size ?_
             intro v4 w4 ho4 hg4
             have hx5 : Ext w3 w4 := hx4.grown hg4 hx4.size (fun q hq => by
               have := (World.ownsRow.lt (World.ownsRow_lit (base := w3.heap.size) (size := 1) (e := 4) w3.drew #[] 0 (Ext.drew w3).size (by decide) (by simp)) q hq).1
               exact this)
             have HO4 : Hid (OwnG Value.bool 4 w4 w3.heap.size v4 (rd.drop k)) := by
               have h5 := ho4
               rw [List.nil_append, Nat.zero_add] at h5
               exact h5
             have HX4 := Lib.hid hx5
             refine hK _ _ hx5 ?_
             clear hK K ho4 hg4 hx4 hx5
             (try simp only [Act.put, List.setIfInBounds_toArray, List.set_cons_zero, List.set_cons_succ]))
            (refine bel_do rfl (by rfl) (fun K hK => ?_)
             refine wp_of_list rfl ?_
             refine wpList_append_slice (enc := Value.bool) (fun _ => rfl) rfl (.tmp 75) (.tmp 78) 23 rfl w3.heap.size 4 i0 (.bool false) 1 Try.underlying23 hI hI0 hI1 hI2 rfl _ _ _ rfl HO4.out _ (rd.take k) rfl (HST.out.ext HX4.out) (by rw [List.length_drop, List.length_take, HRN.out]; unfold maxLen; omega) (by rw [List.length_drop, List.length_take, HRN.out]; omega) HX4.out.size ?_
             intro v5 w5 ho5 hg5
             have hx5 : Ext w3 w5 := HX4.out.grown hg5 HX4.out.size (fun q hq => (HO4.out.lt q hq).1)
             have HS5 : Hid (SliceAt Value.bool w5 v5 (turnL rd k)) := by
               have h5 := ho5
               rw [← List.map_append, ← List.length_append] at h5
               exact SliceAt.of_owns h5
             have HX5 := Lib.hid (HX3.out.trans hx5)
             have HT5 := Lib.hid (HO3.out.labs.ext hx5)
             refine hK _ _ hx5 ?_
             clear hK K ho5 hg5 hx5 HO4 HX4 HST HSD
             (try simp only [Act.put, List.setIfInBounds_toArray, List.set_cons_zero, List.set_cons_succ]))
            iterate 1 (first
             | (refine bel_move rfl rfl (by rfl) (by rfl) ?_; simp only [Act.put, List.setIfInBounds_toArray, List.set_cons_zero, List.set_cons_succ])
             | (apply bel_take rfl (by rfl)
                · intro w' hS
                  have hSc := below_cellsB hS
                  go_simp
                  (try simp (disch := omega) only [i64_id, u64_id, ↓IntWalk.iteOmega, Int.tdiv_eq_ediv_of_nonneg, Int.tmod_eq_emod_of_nonneg])
                  try rfl
                simp only [Act.put, List.setIfInBounds_toArray, List.set_cons_zero, List.set_cons_succ])
             | (refine bel_pass rfl (by rfl) ?_; simp only [Act.put, List.setIfInBounds_toArray, List.set_cons_zero, List.set_cons_succ]))
            refine bel_nil ?_
            have HLAW := Lib.hid (turn_law (ls := ls) (rd := rd) (s := k) (by rw [HN.out]; exact hkr) (by rw [HN.out]; omega) (by rw [HRN.out, HN.out]) (fun i j hi hj e => by
              rw [HN.out] at hi hj
              rcases Nat.lt_trichotomy i j with h | h | h
              · exact absurd e.symm (HDD.out j i h hj)
              · exact h
              · exact absurd e (HDD.out i j h hi)))
            have HLT : Hid ((turnL ls k).length = a) := by show _ = _; rw [turnL_len]; exact HN.out
            have HRT : Hid ((turnL rd k).length = a) := by show _ = _; rw [turnL_len]; exact HRN.out
            have HDT : Hid (∀ i, (ldN (turnL ls k) i).2.length ≤ 100) := fun i => by
              by_cases hi : i < a
              · rw [turn_ld (by rw [HN.out]; exact hkr) (by rw [HN.out]; exact hi)]
                exact HDL.out _
              · unfold ldN; rw [getD_out (by rw [HLT.out]; exact hi)]; decide
            have HLw := Lib.hid ((HL.out.ext HXr.out).ext HX5.out)
            have HRw := Lib.hid ((HR.out.ext HXr.out).ext HX5.out)
            have HXw : Hid (Ext w w5) := HXr.out.trans HX5.out
            clear HO3 HX3 HX5 HIN HDD HL HR HLG HLF HXr HX1 hm hmr hI hI0 hI1 hI2
            generalize turnL ls k = tl at *
            generalize turnL rd k = tr at *
            go_upto_region 18 with fail
            go_wp2_with fail
            go_at_call 11
            refine (elect_any _ _ ls rd _ (by rw [HN.out]; omega) (by rw [HRN.out]; omega) (fun i => Nat.le_trans (HDL.out i) (by decide)) HLw.out HRw.out).mono ?_
            rintro e w6 ⟨dv6, av6, rfl, hd6, ha6, hx6⟩
            have HX6 : Hid (Ext w w6) := HXw.out.trans hx6
            have HT6 := Lib.hid (HT5.out.ext hx6)
            have HS6 := Lib.hid (HS5.out.ext hx6)
            have hls := labE_short (rd := rd) HDL.out
            have hlt2 := labE_short (rd := tr) HDT.out
            have hps := placesE_short (ls := ls) (rd := rd)
            obtain ⟨ad6, cd6, rfl⟩ := hd6.shape
            obtain ⟨aa6, ca6, rfl⟩ := ha6.shape
            have HD6 := Lib.hid hd6
            have HA6 := Lib.hid ha6
            clear hd6 ha6 hx6 HLw HRw HXw HT5 HS5
            go_upto_region 19 with (refine wpList_store_lab (w0 := w6) (l := (labE ls rd).1) (d := .slice ad6 (labE ls rd).2.length cd6) _ _ rfl (by rfl) rfl rfl (BoxAt.new _ _ _) rfl rfl (Ext.alloc _ _) (Nat.le_refl _) ?_; intro w7 hx7 hb7 hs7)
            have HX7 : Hid (Ext w w7) := HX6.out.trans hx7
            have HB7 := Lib.hid hb7
            have HD7 := Lib.hid (HD6.out.ext hx7)
            have HA7 := Lib.hid (HA6.out.ext hx7)
            have HT7 := Lib.hid (HT6.out.ext hx7)
            have HS7 := Lib.hid (HS6.out.ext hx7)
            clear hb7 hx7 hs7 HX6 HD6 HA6 HT6 HS6
            go_wp2_with fail
            go_at_call 11
            refine (elect_any _ _ tl tr _ (by rw [HLT.out]; omega) (by rw [HRT.out]; omega) (fun i => Nat.le_trans (HDT.out i) (by decide)) HT7.out HS7.out).mono ?_
            rintro e w8 ⟨dv8, av8, rfl, hd8, ha8, hx8⟩
            obtain ⟨ad8, cd8, rfl⟩ := hd8.shape
            obtain ⟨aa8, ca8, rfl⟩ := ha8.shape
            have HX8 : Hid (Ext w w8) := HX7.out.trans hx8
            have HB8 := Lib.hid (HB7.out.ext hx8)
            have HD8 := Lib.hid hd8
            have HA8 := Lib.hid ha8
            have HD78 := Lib.hid (HD7.out.ext hx8)
            have HA78 := Lib.hid (HA7.out.ext hx8)
            clear hd8 ha8 hx8 HX7 HB7 HD7 HA7 HT7 HS7
            have hlaw := HLAW.out
            rw [HN.out] at hlaw
            obtain ⟨tE, tQ, tN, tP⟩ := hlaw
            have hps2 : (placesE tl tr).length ≤ 60 := by rw [tN]; exact hps
            rw [tE, tN]
            have HTN := Lib.hid tN
            clear tE HLAW hS hcl hcrl hlt hin2 hm1 hm2 hb2 HDL HDT HLT HRT HN HRN
            clear tN
            generalize errE ls rd = E at *
            generalize placesE ls rd = P at *
            generalize placesE tl tr = P2 at *
            generalize (labE ls rd).2 = X1 at *
            generalize (labE ls rd).1 = L1 at *
            generalize (labE tl tr).2 = X2 at *
            generalize (labE tl tr).1 = L2 at *
            go_upto_region 20 with (refine wpList_store_lab (w0 := w8) (l := L2) (d := .slice ad8 X2.length cd8) _ _ rfl (by rfl) rfl rfl (BoxAt.new _ _ _) rfl rfl (Ext.alloc _ _) (Nat.le_refl _) ?_; intro w9 hx9 hb9 hs9)
            have HX9 : Hid (Ext w w9) := HX8.out.trans hx9
            have HB9 := Lib.hid hb9
            have HB89 := Lib.hid (HB8.out.ext hx9)
            have HEQ := Lib.hid (requal_any L1 L2 (.slice ad6 X1.length cd6) (.slice ad8 X2.length cd8) X1 X2 w9 (by omega) (by omega) (HD78.out.ext hx9) (HD8.out.ext hx9))
            rw [tQ] at HEQ
            have HA1 := Lib.hid (HA78.out.ext hx9)
            have HA2 := Lib.hid (HA8.out.ext hx9)
            have HTP := Lib.hid tP
            rw [HTN.out] at HA2
            obtain ⟨p, hp⟩ : ∃ p, P.length = p := ⟨_, rfl⟩
            have HPN := Lib.hid hp
            rw [hp] at HA1 HA2 HTP hps ⊢
            have q1 : ((E : Int) == (E : Int)) = true := by simp
            have q2 : ((E : Int) != (E : Int)) = false := by simp
            have q3 : ((p : Int) == (p : Int)) = true := by simp
            have q4 : ((p : Int) != (p : Int)) = false := by simp
            clear hb9 hx9 hs9 tQ tP hp hps2 HX8 HB8 HD8 HA8 HD78 HA78
            go_wp2_with (first | (refine wpList_loadR 32 _ rfl (by rfl) rfl (LabAt.of_box HB89.out).load ?_) | (refine wpList_loadR 32 _ rfl (by rfl) rfl (LabAt.of_box HB9.out).load ?_))
            go_at_call 15
            refine HEQ.out.mono ?_
            rintro e w10 ⟨rfl, hx10⟩
            have HX10 : Hid (Ext w w10) := HX9.out.trans hx10
            have HA10 := Lib.hid (HA1.out.ext hx10)
            have HA20 := Lib.hid (HA2.out.ext hx10)
            clear hx10 HEQ HA1 HA2 HX9 HB89 HB9
            go_wp2_with fail
            clear q1 q2 q3 q4
            go_loopw [112] (fun it wr => ∃ d : Nat, d ≤ p ∧ it = .int .i64 d ∧ Hid (Ext w10 wr)) (fun it _ => p - (intOf it).toNat)
            case atStart => exact ⟨0, Nat.zero_le _, rfl, Lib.hid (Ext.refl _)⟩
            case round =>
              obtain ⟨d, hdp, rfl, HXr⟩ := hrel
              by_cases hlt : d < p
              · have hdI : (d : Int) < (p : Int) := by omega
                have hd0 : (0 : Int) ≤ (d : Int) := by omega
                have hd1 : d < P.length := by rw [HPN.out]; exact hlt
                have hd2 : d < P2.length := by rw [HTN.out, HPN.out]; exact hlt
                obtain ⟨b3, o3, rfl, hb3, hc3⟩ := (HA10.out.ext HXr.out).get d hd1
                obtain ⟨b4, o4, rfl, hb4, hc4⟩ := (HA20.out.ext HXr.out).get d hd2
                have htp := HTP.out d hlt
                rw [← getD_in (d := 0) hd1] at hc3
                rw [← getD_in (d := 0) hd2] at hc4
                generalize P.getD d 0 = z1 at *
                generalize P2.getD d 0 = z2 at *
                clear hd1 hd2
                rcases htp with ⟨rfl, rfl⟩ | ⟨i, j, hi, hj, rfl, rfl, hij⟩
                · go_wp2_with fail
                  refine wp_region_ext [(0, true), (1, true), (2, true), (3, true), (4, true), (5, true), (6, true), (7, true), (8, true), (9, true), (10, true), (11, true), (12, true), (13, true), (14, true), (15, true), (16, true), (17, true), (18, true), (19, true), (20, true), (21, true), (22, true), (23, true), (24, true), (25, true), (26, true), (27, true), (28, true), (29, true), (30, true), (31, true), (32, true), (33, true), (34, true), (35, true), (36, true), (37, true), (38, true), (39, true), (40, true), (41, true), (42, true)] (by kernel_rfl) (by kernel_rfl) ?_
                  iterate 43 (first
                   | (refine ext_move rfl rfl (by rfl) (by rfl) ?_; simp only [Act.put, List.setIfInBounds_toArray, List.set_cons_zero, List.set_cons_succ])
                   | (refine ext_assign rfl rfl (by rfl) (by rfl) ?_; simp only [Act.put, List.setIfInBounds_toArray, List.set_cons_zero, List.set_cons_succ])
                   | (refine ext_pick_t rfl rfl (by rfl) (by rfl) (by rfl) ?_; simp only [Act.put, List.setIfInBounds_toArray, List.set_cons_zero, List.set_cons_succ])
                   | (refine ext_pick_f rfl rfl (by rfl) (by rfl) (by rfl) ?_; simp only [Act.put, List.setIfInBounds_toArray, List.set_cons_zero, List.set_cons_succ])
                   | (apply ext_take rfl (by rfl)
                      · intro w' hS
                        have hSc := hS.cells
                        (try simp only [World.size_drew, World.cell?_drew] at hSc)
                        go_simp
                        (try simp (disch := omega) only [i64_id, u64_id, ↓IntWalk.iteOmega, Int.tdiv_eq_ediv_of_nonneg, Int.tmod_eq_emod_of_nonneg])
                        try rfl
                      simp only [Act.put, List.setIfInBounds_toArray, List.set_cons_zero, List.set_cons_succ])
                   | (refine ext_pass rfl (by rfl) ?_; simp only [Act.put, List.setIfInBounds_toArray, List.set_cons_zero, List.set_cons_succ]))
                  refine ext_nil ?_
                  go_wp2_with fail
                  go_roundw
                  case rel => exact ⟨d + 1, by omega, by go_num, Lib.hid (HXr.out.trans (Ext.drew _))⟩
                  case measure => simp [intOf]; omega
                · have hmod : (j + k) % a = i := by rw [hij]; exact El.rot_mod hkr hj
                  have hm1 : ((j : Int) + (k : Int)) % (a : Int) = (i : Int) := by rw [← hmod]; simp
                  have hm2 : ((j : Int) + (k : Int)).tmod (a : Int) = (i : Int) := (Int.tmod_eq_emod_of_nonneg (by omega)).trans hm1
                  have hw1 : IntKind.i64.wrap ((j : Int) + (k : Int)) = (j : Int) + (k : Int) := i64_id _ ⟨by omega, by omega⟩
                  have e1 : decide ((i : Int) < 0) = false := by rw [decide_eq_false_iff_not]; omega
                  have e2 : decide ((j : Int) < 0) = false := by rw [decide_eq_false_iff_not]; omega
                  have e3 : decide ((0 : Int) ≤ (i : Int)) = true := by rw [decide_eq_true_iff]; omega
                  have e4 : decide ((a : Int) ≤ (i : Int)) = false := by rw [decide_eq_false_iff_not]; omega
                  have e5 : decide (a ≤ i) = false := by rw [decide_eq_false_iff_not]; omega
                  have e6 : ((i : Int) == (i : Int)) = true := by simp
                  have e7 : ((i : Int) != (i : Int)) = false := by simp
                  clear hmod hij
                  go_wp2_with fail
                  refine wp_region_ext [(0, true), (1, true), (2, true), (3, true), (4, true), (5, true), (6, true), (7, true), (8, true), (9, true), (10, true), (11, true), (12, true), (13, true), (14, true), (15, true), (16, true), (17, true), (18, true), (19, true), (20, true), (21, true), (22, true), (23, true), (24, true), (25, true), (26, true), (27, true), (28, true), (29, true), (30, true), (31, true), (32, true), (33, true), (34, true), (35, true), (36, true), (37, true), (38, true), (39, true), (40, true), (41, true), (42, true)] (by kernel_rfl) (by kernel_rfl) ?_
                  iterate 43 (first
                   | (refine ext_move rfl rfl (by rfl) (by rfl) ?_; simp only [Act.put, List.setIfInBounds_toArray, List.set_cons_zero, List.set_cons_succ])
                   | (refine ext_assign rfl rfl (by rfl) (by rfl) ?_; simp only [Act.put, List.setIfInBounds_toArray, List.set_cons_zero, List.set_cons_succ])
                   | (refine ext_pick_t rfl rfl (by rfl) (by rfl) (by rfl) ?_; simp only [Act.put, List.setIfInBounds_toArray, List.set_cons_zero, List.set_cons_succ])
                   | (refine ext_pick_f rfl rfl (by rfl) (by rfl) (by rfl) ?_; simp only [Act.put, List.setIfInBounds_toArray, List.set_cons_zero, List.set_cons_succ])
                   | (apply ext_take rfl (by rfl)
                      · intro w' hS
                        have hSc := hS.cells
                        (try simp only [World.size_drew, World.cell?_drew] at hSc)
                        go_simp
                        (try simp (disch := omega) only [i64_id, u64_id, ↓IntWalk.iteOmega, Int.tdiv_eq_ediv_of_nonneg, Int.tmod_eq_emod_of_nonneg])
                        try rfl
                      simp only [Act.put, List.setIfInBounds_toArray, List.set_cons_zero, List.set_cons_succ])
                   | (refine ext_pass rfl (by rfl) ?_; simp only [Act.put, List.setIfInBounds_toArray, List.set_cons_zero, List.set_cons_succ]))
                  refine ext_nil ?_
                  go_wp2_with fail
                  go_roundw
                  case rel => exact ⟨d + 1, by omega, by go_num, Lib.hid (HXr.out.trans (Ext.drew _))⟩
                  case measure => simp [intOf]; omega
              · have hdp2 : d = p := by omega
                subst hdp2
                have hin2 : ¬ ((d : Int) < (d : Int)) := by omega
                go_wp2_with fail
                go_ret
                exact ⟨rfl, HX10.out.trans HXr.out⟩
    · have hq1 : ((r : Int) == (n : Int)) = false := by rw [beq_eq_false_iff_ne]; omega
      have hq2 : ((r : Int) != (n : Int)) = true := by rw [bne, hq1]; rfl
      go_wp2_with fail
      go_ret
      exact ⟨rfl, HX1.out⟩
end Go.Proofs.Ytpmbbeflgifgaaa
