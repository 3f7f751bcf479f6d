/-
  Chapter 30 (label): the walk of LabelPayload.
-/
import Derived.Test.YthjcdikpomlpmaaLcD
namespace Go.Proofs.Ythjcdikpomlpmaa
open Go.ChangeShapes Go.WideShapes Go.ChangeAt Go.RowKit
set_option linter.unusedVariables false

theorem cut_short {g d : Nat} {p : List (BitVec 8)} (hg : g < 18446744073709551616) (hd : d ≤ 100) (hp : p.length ≤ 160) : (Lb.cutL g d p).length ≤ 60 ∧ ∀ l, l ∈ Lb.cutL g d p → l.length ≤ 200 := by
  have hn : Lb.partsN p ≤ 6 := by unfold Lb.partsN; omega
  refine ⟨by rw [Lb.cutL_len]; omega, fun l hl => ?_⟩
  unfold Lb.cutL at hl
  obtain ⟨i, hi, rfl⟩ := List.mem_map.1 hl
  have hi := List.mem_range.1 hi
  unfold Lb.sectorL
  rw [Lb.sealL_len, Lb.body_right]
  have h1 := (uv_len g (by omega)).2
  have h2 := (uv_len d (by omega)).2
  have h3 := (uv_len i (by omega)).2
  have h4 := (uv_len (Lb.partsN p) (by omega)).2
  have h5 := Lb.partAt_len p i
  have h6 := (uv_len (Lb.partAt p i).length (by omega)).2
  simp only [List.length_cons, List.length_append, List.length_nil]
  omega
theorem err_cases (o : Option Lb.LX) : (o = none ∧ errD o = 5 ∧ labD o = (lz, [])) ∨ ∃ q, o = some q ∧ errD o = 0 ∧ labD o = q := by
  cases o with
  | none => exact .inl ⟨rfl, rfl, rfl⟩
  | some q => exact .inr ⟨q, rfl, rfl, rfl⟩
set_option maxRecDepth 100000 in
set_option maxHeartbeats 4000000 in
theorem labelPayload_walk (g : BitVec 64) (d : Int) (v : Value) (p : List (BitVec 8)) (w : World) (hd : I64 d) (mp : p.length ≤ maxLen) (h : SliceAt encB w v p) :
    Calls Try.prog 7 #[encU g, .int .i64 d, v] w fun e w' => e = .returned (.bool true) ∧ Below w.heap.size w w' := by
  obtain ⟨ap, cp, rfl⟩ := h.shape
  have HP := Lib.hid h
  unfold maxLen at mp
  obtain ⟨n, hn⟩ : ∃ n, p.length = n := ⟨_, rfl⟩
  have HN := Lib.hid hn
  rw [hn] at HP mp ⊢
  clear h hn
  go_enter Try.func7, Try.ntmps7
  go_wp2_with fail
  go_at_call 10
  refine (awake_any _).mono ?_
  rintro e w1 ⟨rfl, hb1⟩
  have HX1 : Hid (Ext w w1) := hb1
  clear hb1
  by_cases h160 : 160 < n
  · have d1 : decide ((160 : Int) < (n : Int)) = true := by rw [decide_eq_true_iff]; omega
    have d2 : decide (160 < n) = true := by rw [decide_eq_true_iff]; omega
    clear h160
    go_wp2_with fail
    go_ret
    exact ⟨rfl, HX1.out⟩
  · have d1 : decide ((160 : Int) < (n : Int)) = false := by rw [decide_eq_false_iff_not]; omega
    have d2 : decide (160 < n) = false := by rw [decide_eq_false_iff_not]; omega
    by_cases hd0 : d < 0
    · have d3 : decide (d < 0) = true := by rw [decide_eq_true_iff]; exact hd0
      clear h160 hd0
      go_wp2_with fail
      go_ret
      exact ⟨rfl, HX1.out⟩
    · have d3 : decide (d < 0) = false := by rw [decide_eq_false_iff_not]; exact hd0
      by_cases hd100 : 100 < d
      · have d4 : decide (100 < d) = true := by rw [decide_eq_true_iff]; exact hd100
        clear h160 hd0 hd100
        go_wp2_with fail
        go_ret
        exact ⟨rfl, HX1.out⟩
      · have d4 : decide (100 < d) = false := by rw [decide_eq_false_iff_not]; exact hd100
        obtain ⟨k, rfl⟩ := Int.eq_ofNat_of_zero_le (show 0 ≤ d by omega)
        have hk : k ≤ 100 := by omega
        have hn160 : n ≤ 160 := by omega
        obtain ⟨hcl, hcs⟩ := cut_short (g := g.toNat) (d := k) (p := p) (by have := g.isLt; omega) hk (by rw [HN.out]; exact hn160)
        have HCS := Lib.hid hcs
        clear h160 hd0 hd100 hd hcs
        go_wp2_with fail
        go_at_call 25
        refine (rcut_any g k _ p _ (by omega) (by rw [HN.out]; omega) (HP.out.ext HX1.out)).mono ?_
        rintro e w2 ⟨cv, rfl, hcv, hx2⟩
        have HX2 : Hid (Ext w w2) := HX1.out.trans hx2
        have HCV := Lib.hid hcv.rows
        have HLN := Lib.hid (dec_len (S := Lb.cutL g.toNat k p))
        have HSM := Lib.hid (Lb.dec_same (Lb.cutL g.toNat k p))
        have HDC := Lib.hid (fun q h => Lb.dec_cut (g := g.toNat) (d := k) (p := p) (q := q) h)
        have HFI := Lib.hid (fun q (h : Lb.decT (Lb.cutL g.toNat k p) = some q) => Lb.fine_of (Lb.dec_iff.1 h).1)
        have HEC := Lib.hid (err_cases (Lb.decT (Lb.cutL g.toNat k p)))
        generalize Lb.cutL g.toNat k p = S at *
        clear hcv hx2 d1 d2 d3 d4
        obtain ⟨ac, cc, rfl, _⟩ := HCV.out.shape
        go_wp2_with fail
        go_at_call 22
        refine (decode_any _ S _ hcl HCS.out HCV.out).mono ?_
        rintro e w3 ⟨dv, rfl, hd3, hx3⟩
        have HRD := Lib.hid (fun (w' : World) (e : Ext w2 w') => rdecode_any _ S w' hcl HCS.out (HCV.out.ext e))
        rw [← HSM.out] at HRD
        unfold DecEnd at HRD
        generalize errD (Lb.decT S) = E at *
        generalize labD (Lb.decT S) = L at *
        obtain ⟨L1, L2⟩ := L
        simp only at hd3 HRD HLN ⊢
        obtain ⟨ad, cd, rfl⟩ := hd3.shape
        have HX3 : Hid (Ext w2 w3) := hx3
        have HD3 := Lib.hid hd3
        clear hd3 hx3
        go_upto_region 7 with (refine wpList_store_lab3 (l := L1) (d := .slice ad L2.length cd) _ _ rfl (by rfl) rfl rfl (BoxAt.new _ _ _) rfl rfl ?_; intro w4 hg4 hb4)
        have hx4 : Ext w3 w4 := (Ext.alloc _ _).grown hg4 (Ext.alloc _ _).size (fun q hq => by cases hq; exact Nat.le_refl _)
        have HX4 : Hid (Ext w2 w4) := HX3.out.trans hx4
        have HB4 := Lib.hid hb4
        have HD4 := Lib.hid (HD3.out.ext hx4)
        clear hg4 hb4 hx4 HD3
        go_wp2_with fail
        go_at_call 23
        refine (HRD.out _ HX4.out).mono ?_
        rintro e w5 ⟨dv5, rfl, hd5, hx5⟩
        obtain ⟨ad5, cd5, rfl⟩ := hd5.shape
        have HX5 : Hid (Ext w2 w5) := HX4.out.trans hx5
        have HB5 := Lib.hid (HB4.out.ext hx5)
        have HD45 := Lib.hid (HD4.out.ext hx5)
        have HD5 := Lib.hid hd5
        clear hd5 hx5 HB4 HD4
        go_upto_region 8 with (refine wpList_store_lab3 (l := L1) (d := .slice ad5 L2.length cd5) _ _ rfl (by rfl) rfl rfl (BoxAt.new _ _ _) rfl rfl ?_; intro w6 hg6 hb6)
        have hx6 : Ext w5 w6 := (Ext.alloc _ _).grown hg6 (Ext.alloc _ _).size (fun q hq => by cases hq; exact Nat.le_refl _)
        have HX6 : Hid (Ext w2 w6) := HX5.out.trans hx6
        have HB6 := Lib.hid hb6
        have HB56 := Lib.hid (HB5.out.ext hx6)
        have HSA := Lib.hid (same_any L1 L1 (.slice ad L2.length cd) (.slice ad5 L2.length cd5) L2 L2 w6.drew HLN.out HLN.out ((HD45.out.ext hx6).ext (Ext.drew _)) ((HD5.out.ext hx6).ext (Ext.drew _)))
        rw [sameB_refl] at HSA
        have hx6s : Ext w5 w6 := hx6
        clear hg6 hb6 hx6
        have HPW := Lib.hid (HP.out.ext ((HX2.out.trans HX6.out)))
        rcases HEC.out with ⟨hnone, hE, hL⟩ | ⟨q, hsome, hE, hL⟩
        · subst hE
          clear hnone hL HEC HDC HFI
          refine wp_region_ext [(0, true), (1, true), (2, true), (3, true), (4, true), (5, true), (6, false), (7, true), (8, true), (9, true), (10, true), (11, true), (12, true), (15, true), (16, true), (13, false), (14, true), (17, true), (18, true), (19, true), (20, true), (21, true), (22, true), (23, true), (24, true), (25, true), (26, true), (27, true), (28, true), (29, true), (30, true), (31, true), (32, true)] (by kernel_rfl) (by kernel_rfl) ?_
          iterate 4 (first
           | (refine ext_move rfl rfl (by rfl) (by rfl) ?_; simp only [Act.put, List.setIfInBounds_toArray, List.set_cons_zero, List.set_cons_succ])
           | (refine ext_assign rfl rfl (by rfl) (by rfl) ?_; simp only [Act.put, List.setIfInBounds_toArray, List.set_cons_zero, List.set_cons_succ])
           | (refine ext_pick_t rfl rfl (by rfl) (by rfl) (by rfl) ?_; simp only [Act.put, List.setIfInBounds_toArray, List.set_cons_zero, List.set_cons_succ])
           | (refine ext_pick_f rfl rfl (by rfl) (by rfl) (by rfl) ?_; simp only [Act.put, List.setIfInBounds_toArray, List.set_cons_zero, List.set_cons_succ])
           | (apply ext_take rfl (by rfl)
              · intro w' hS
                have hSc := hS.cells
                (try simp only [World.size_drew, World.cell?_drew] at hSc)
                go_simp
                (try simp (disch := omega) only [i64_id, u64_id, ↓IntWalk.iteOmega, Int.tdiv_eq_ediv_of_nonneg, Int.tmod_eq_emod_of_nonneg])
                try rfl
              simp only [Act.put, List.setIfInBounds_toArray, List.set_cons_zero, List.set_cons_succ])
           | (refine ext_pass rfl (by rfl) ?_; simp only [Act.put, List.setIfInBounds_toArray, List.set_cons_zero, List.set_cons_succ]))
          (refine ext_load 29 rfl (by rfl) rfl (by rfl) (fun w' hS => (LabAt.of_box (HB56.out.ext hS)).load) ?_; simp only [Act.put, List.setIfInBounds_toArray, List.set_cons_zero, List.set_cons_succ])
          (refine ext_load 29 rfl (by rfl) rfl (by rfl) (fun w' hS => (LabAt.of_box (HB6.out.ext hS)).load) ?_; simp only [Act.put, List.setIfInBounds_toArray, List.set_cons_zero, List.set_cons_succ])
          (refine ext_do rfl (by rfl) (fun K hK => ?_)
           go_simp
           go_at_call 24
           refine (HSA.out.mono ?_)
           rintro e w7 ⟨rfl, hx7⟩
           have HX7 : Hid (Ext w6 w7) := (Ext.drew _).trans hx7
           refine hK _ _ (by first | exact hx7 | exact (Ext.drew _).trans hx7) ?_
           clear hK K hx7
           (try simp only [Act.put, List.setIfInBounds_toArray, List.set_cons_zero, List.set_cons_succ]))
          iterate 8 (first
           | (refine ext_move rfl rfl (by rfl) (by rfl) ?_; simp only [Act.put, List.setIfInBounds_toArray, List.set_cons_zero, List.set_cons_succ])
           | (refine ext_assign rfl rfl (by rfl) (by rfl) ?_; simp only [Act.put, List.setIfInBounds_toArray, List.set_cons_zero, List.set_cons_succ])
           | (refine ext_pick_t rfl rfl (by rfl) (by rfl) (by rfl) ?_; simp only [Act.put, List.setIfInBounds_toArray, List.set_cons_zero, List.set_cons_succ])
           | (refine ext_pick_f rfl rfl (by rfl) (by rfl) (by rfl) ?_; simp only [Act.put, List.setIfInBounds_toArray, List.set_cons_zero, List.set_cons_succ])
           | (apply ext_take rfl (by rfl)
              · intro w' hS
                have hSc := hS.cells
                (try simp only [World.size_drew, World.cell?_drew] at hSc)
                go_simp
                (try simp (disch := omega) only [i64_id, u64_id, ↓IntWalk.iteOmega, Int.tdiv_eq_ediv_of_nonneg, Int.tmod_eq_emod_of_nonneg])
                try rfl
              simp only [Act.put, List.setIfInBounds_toArray, List.set_cons_zero, List.set_cons_succ])
           | (refine ext_pass rfl (by rfl) ?_; simp only [Act.put, List.setIfInBounds_toArray, List.set_cons_zero, List.set_cons_succ]))
          (first | (refine ext_passE rfl (by rfl) (by first | (with_reducible exact Ext.refl _) | (with_reducible exact Ext.drew _)) ?_; simp only [Act.put, List.setIfInBounds_toArray, List.set_cons_zero, List.set_cons_succ]))
          iterate 17 (first
           | (refine ext_move rfl rfl (by rfl) (by rfl) ?_; simp only [Act.put, List.setIfInBounds_toArray, List.set_cons_zero, List.set_cons_succ])
           | (refine ext_assign rfl rfl (by rfl) (by rfl) ?_; simp only [Act.put, List.setIfInBounds_toArray, List.set_cons_zero, List.set_cons_succ])
           | (refine ext_pick_t rfl rfl (by rfl) (by rfl) (by rfl) ?_; simp only [Act.put, List.setIfInBounds_toArray, List.set_cons_zero, List.set_cons_succ])
           | (refine ext_pick_f rfl rfl (by rfl) (by rfl) (by rfl) ?_; simp only [Act.put, List.setIfInBounds_toArray, List.set_cons_zero, List.set_cons_succ])
           | (apply ext_take rfl (by rfl)
              · intro w' hS
                have hSc := hS.cells
                (try simp only [World.size_drew, World.cell?_drew] at hSc)
                go_simp
                (try simp (disch := omega) only [i64_id, u64_id, ↓IntWalk.iteOmega, Int.tdiv_eq_ediv_of_nonneg, Int.tmod_eq_emod_of_nonneg])
                try rfl
              simp only [Act.put, List.setIfInBounds_toArray, List.set_cons_zero, List.set_cons_succ])
           | (refine ext_pass rfl (by rfl) ?_; simp only [Act.put, List.setIfInBounds_toArray, List.set_cons_zero, List.set_cons_succ]))
          refine ext_nil ?_
          go_wp2_with fail
          go_ret
          exact ⟨rfl, HX2.out.trans (HX6.out.trans HX7.out)⟩
        · subst hE
          obtain ⟨hpay, hge, hdk⟩ := HDC.out q hsome
          have hF := HFI.out q hsome
          rw [← hL] at hpay hge hdk hF
          simp only at hpay hge hdk hF
          have hgg : L1.gen = g := BitVec.eq_of_toNat_eq hge
          have hdd : L1.disk = (k : Int) := by have := hF.disk.1; omega
          have HF := Lib.hid hF
          have HPY := Lib.hid hpay
          have HGG := Lib.hid hgg
          have HDD := Lib.hid hdd
          have q2 : (un g == un g) = true := by simp
          have q3 : ((k : Int) == (k : Int)) = true := by simp
          have hse : ((strB p).toList == (strB p).toList) = true := by simp
          clear hsome hL HEC HDC HFI hpay hge hdk hF hgg hdd
          refine wp_region_ext [(0, true), (1, true), (2, true), (3, true), (4, true), (5, true), (6, false), (7, true), (8, true), (9, true), (10, true), (11, true), (12, true), (15, true), (16, true), (13, false), (14, true), (17, true), (18, true), (19, true), (20, true), (21, true), (22, true), (23, true), (24, true), (25, true), (26, true), (27, true), (28, true), (29, true), (30, true), (31, true), (32, true)] (by kernel_rfl) (by kernel_rfl) ?_
          iterate 4 (first
           | (refine ext_move rfl rfl (by rfl) (by rfl) ?_; simp only [Act.put, List.setIfInBounds_toArray, List.set_cons_zero, List.set_cons_succ])
           | (refine ext_assign rfl rfl (by rfl) (by rfl) ?_; simp only [Act.put, List.setIfInBounds_toArray, List.set_cons_zero, List.set_cons_succ])
           | (refine ext_pick_t rfl rfl (by rfl) (by rfl) (by rfl) ?_; simp only [Act.put, List.setIfInBounds_toArray, List.set_cons_zero, List.set_cons_succ])
           | (refine ext_pick_f rfl rfl (by rfl) (by rfl) (by rfl) ?_; simp only [Act.put, List.setIfInBounds_toArray, List.set_cons_zero, List.set_cons_succ])
           | (apply ext_take rfl (by rfl)
              · intro w' hS
                have hSc := hS.cells
                (try simp only [World.size_drew, World.cell?_drew] at hSc)
                go_simp
                (try simp (disch := omega) only [i64_id, u64_id, ↓IntWalk.iteOmega, Int.tdiv_eq_ediv_of_nonneg, Int.tmod_eq_emod_of_nonneg])
                try rfl
              simp only [Act.put, List.setIfInBounds_toArray, List.set_cons_zero, List.set_cons_succ])
           | (refine ext_pass rfl (by rfl) ?_; simp only [Act.put, List.setIfInBounds_toArray, List.set_cons_zero, List.set_cons_succ]))
          (refine ext_load 29 rfl (by rfl) rfl (by rfl) (fun w' hS => (LabAt.of_box (HB56.out.ext hS)).load) ?_; simp only [Act.put, List.setIfInBounds_toArray, List.set_cons_zero, List.set_cons_succ])
          (refine ext_load 29 rfl (by rfl) rfl (by rfl) (fun w' hS => (LabAt.of_box (HB6.out.ext hS)).load) ?_; simp only [Act.put, List.setIfInBounds_toArray, List.set_cons_zero, List.set_cons_succ])
          (refine ext_do rfl (by rfl) (fun K hK => ?_)
           go_simp
           go_at_call 24
           refine (HSA.out.mono ?_)
           rintro e w7 ⟨rfl, hx7⟩
           have HX7 : Hid (Ext w6 w7) := (Ext.drew _).trans hx7
           refine hK _ _ (by first | exact hx7 | exact (Ext.drew _).trans hx7) ?_
           clear hK K hx7
           (try simp only [Act.put, List.setIfInBounds_toArray, List.set_cons_zero, List.set_cons_succ]))
          have hbw := HB56.out.ext HX7.out
          iterate 5 (first
           | (refine ext_move rfl rfl (by rfl) (by rfl) ?_; simp only [Act.put, List.setIfInBounds_toArray, List.set_cons_zero, List.set_cons_succ])
           | (refine ext_assign rfl rfl (by rfl) (by rfl) ?_; simp only [Act.put, List.setIfInBounds_toArray, List.set_cons_zero, List.set_cons_succ])
           | (refine ext_pick_t rfl rfl (by rfl) (by rfl) (by rfl) ?_; simp only [Act.put, List.setIfInBounds_toArray, List.set_cons_zero, List.set_cons_succ])
           | (refine ext_pick_f rfl rfl (by rfl) (by rfl) (by rfl) ?_; simp only [Act.put, List.setIfInBounds_toArray, List.set_cons_zero, List.set_cons_succ])
           | (apply ext_take rfl (by rfl)
              · intro w' hS
                have hSc := hS.cells
                (try simp only [World.size_drew, World.cell?_drew] at hSc)
                go_simp
                (try simp (disch := omega) only [i64_id, u64_id, ↓IntWalk.iteOmega, Int.tdiv_eq_ediv_of_nonneg, Int.tmod_eq_emod_of_nonneg])
                try rfl
              simp only [Act.put, List.setIfInBounds_toArray, List.set_cons_zero, List.set_cons_succ])
           | (refine ext_pass rfl (by rfl) ?_; simp only [Act.put, List.setIfInBounds_toArray, List.set_cons_zero, List.set_cons_succ]))
          (refine ext_load 29 rfl (by rfl) rfl (by rfl) (fun w' hS => (LabAt.of_box (hbw.ext hS)).load) ?_; simp only [Act.put, List.setIfInBounds_toArray, List.set_cons_zero, List.set_cons_succ])
          iterate 1 (first
           | (refine ext_move rfl rfl (by rfl) (by rfl) ?_; simp only [Act.put, List.setIfInBounds_toArray, List.set_cons_zero, List.set_cons_succ])
           | (refine ext_assign rfl rfl (by rfl) (by rfl) ?_; simp only [Act.put, List.setIfInBounds_toArray, List.set_cons_zero, List.set_cons_succ])
           | (refine ext_pick_t rfl rfl (by rfl) (by rfl) (by rfl) ?_; simp only [Act.put, List.setIfInBounds_toArray, List.set_cons_zero, List.set_cons_succ])
           | (refine ext_pick_f rfl rfl (by rfl) (by rfl) (by rfl) ?_; simp only [Act.put, List.setIfInBounds_toArray, List.set_cons_zero, List.set_cons_succ])
           | (apply ext_take rfl (by rfl)
              · intro w' hS
                have hSc := hS.cells
                (try simp only [World.size_drew, World.cell?_drew] at hSc)
                go_simp
                (try simp (disch := omega) only [i64_id, u64_id, ↓IntWalk.iteOmega, Int.tdiv_eq_ediv_of_nonneg, Int.tmod_eq_emod_of_nonneg])
                try rfl
              simp only [Act.put, List.setIfInBounds_toArray, List.set_cons_zero, List.set_cons_succ])
           | (refine ext_pass rfl (by rfl) ?_; simp only [Act.put, List.setIfInBounds_toArray, List.set_cons_zero, List.set_cons_succ]))
          (apply ext_take rfl (by rfl)
           · intro w' hS
             have hcv := run_str (P := Try.prog) Try.underlying35 Try.underlying5 Try.underlying9 w' _ _ (SliceAt.ext (HPW.out.ext HX7.out) hS)
             go_simp
             try rfl
           simp only [Act.put, List.setIfInBounds_toArray, List.set_cons_zero, List.set_cons_succ])
          (refine ext_do rfl (by rfl) (fun K hK => ?_)
           go_simp
           go_at_call 26
           refine (rpayload_any L1 (.slice ad L2.length cd) L2 _ HF.out ((HD45.out.ext hx6s).ext HX7.out)).mono ?_
           rintro e w8 ⟨pv, rfl, hpv, hx8⟩
           rw [HPY.out] at hpv
           have HPV := Lib.hid hpv
           have HX8 : Hid (Ext w7 w8) := hx8
           refine hK _ _ hx8 ?_
           clear hK K hpv hx8
           (try simp only [Act.put, List.setIfInBounds_toArray, List.set_cons_zero, List.set_cons_succ]))
          (apply ext_take rfl (by rfl)
           · intro w' hS
             have hcv := run_str (P := Try.prog) Try.underlying35 Try.underlying5 Try.underlying9 w' _ _ (SliceAt.ext HPV.out hS)
             go_simp
             try rfl
           simp only [Act.put, List.setIfInBounds_toArray, List.set_cons_zero, List.set_cons_succ])
          have hb8 := hbw.ext HX8.out
          have c2 := hb8.cell 2 (v := encU L1.gen) rfl
          have c1 := hb8.cell 1 (v := .int .i64 L1.disk) rfl
          rw [HGG.out] at c2
          rw [HDD.out] at c1
          have cl := hb8.lt
          iterate 16 (first
           | (refine ext_move rfl rfl (by rfl) (by rfl) ?_; simp only [Act.put, List.setIfInBounds_toArray, List.set_cons_zero, List.set_cons_succ])
           | (refine ext_assign rfl rfl (by rfl) (by rfl) ?_; simp only [Act.put, List.setIfInBounds_toArray, List.set_cons_zero, List.set_cons_succ])
           | (refine ext_pick_t rfl rfl (by rfl) (by rfl) (by rfl) ?_; simp only [Act.put, List.setIfInBounds_toArray, List.set_cons_zero, List.set_cons_succ])
           | (refine ext_pick_f rfl rfl (by rfl) (by rfl) (by rfl) ?_; simp only [Act.put, List.setIfInBounds_toArray, List.set_cons_zero, List.set_cons_succ])
           | (apply ext_take rfl (by rfl)
              · intro w' hS
                have hSc := hS.cells
                (try simp only [World.size_drew, World.cell?_drew] at hSc)
                go_simp
                (try simp (disch := omega) only [i64_id, u64_id, ↓IntWalk.iteOmega, Int.tdiv_eq_ediv_of_nonneg, Int.tmod_eq_emod_of_nonneg])
                try rfl
              simp only [Act.put, List.setIfInBounds_toArray, List.set_cons_zero, List.set_cons_succ])
           | (refine ext_pass rfl (by rfl) ?_; simp only [Act.put, List.setIfInBounds_toArray, List.set_cons_zero, List.set_cons_succ]))
          refine ext_nil ?_
          go_wp2_with fail
          go_ret
          exact ⟨rfl, HX2.out.trans (HX6.out.trans (HX7.out.trans HX8.out))⟩
end Go.Proofs.Ythjcdikpomlpmaa
