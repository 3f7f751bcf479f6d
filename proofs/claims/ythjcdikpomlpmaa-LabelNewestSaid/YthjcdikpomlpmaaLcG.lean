/-
  Chapter 30 (label): Newest of both; the walk of LabelNewest.
-/
import Derived.Test.YthjcdikpomlpmaaLcD
namespace Go.Proofs.Ythjcdikpomlpmaa
open Go.ChangeShapes Go.WideShapes Go.ChangeAt Go.RowKit
set_option linter.unusedVariables false

/-- the better one of a label and what was decoded, at a parity -/
def better1 (q : Lb.LX) (o : Option Lb.LX) (i : Int) : Lb.LX := match o with
  | some p => if (un p.1.gen % 2 == i) = true ∧ un q.1.gen < un p.1.gen then p else q
  | none => q
def lz0 : Lb.LX := (lz, [])
def best2 (a b : Option Lb.LX) : Lb.LX := better1 (better1 lz0 a 0) b 1
def newT (a b : Option Lb.LX) : Option Lb.LX := if un (best2 a b).1.gen = 0 then none else some (best2 a b)
theorem err_two (o : Option Lb.LX) : (o = none ∧ errD o = 5 ∧ labD o = (lz, [])) ∨ ∃ q, o = some q ∧ errD o = 0 ∧ labD o = q := by
  cases o with
  | none => exact .inl ⟨rfl, rfl, rfl⟩
  | some q => exact .inr ⟨q, rfl, rfl, rfl⟩
def odd1 (o : Option Lb.LX) (i : Int) : Bool := match o with
  | some p => un p.1.gen % 2 == i
  | none => false
def genO (o : Option Lb.LX) : Int := match o with
  | some p => un p.1.gen
  | none => 0
def newR (a b : Option Lb.LX) : Option Lb.LX := if odd1 a 0 && (!(odd1 b 1) || decide (genO b < genO a)) then a else if odd1 b 1 then b else none
theorem un_lz : un lz0.1.gen = 0 := rfl
theorem new_same (a b : Option Lb.LX) (ha : ∀ p, a = some p → 1 ≤ un p.1.gen) (hb : ∀ p, b = some p → 1 ≤ un p.1.gen) : newR a b = newT a b := by
  unfold newR newT best2
  cases a with
  | none =>
    cases b with
    | none => simp [odd1, better1, un_lz]
    | some q =>
      have h2 := hb q rfl
      by_cases k2 : (un q.1.gen % 2 == 1) = true
      · simp only [odd1, better1, k2, un_lz]
        simp
        exact ⟨fun h => by rw [if_pos (show (0 : Int) < un q.1.gen by omega)] at h; omega, fun h => absurd (Int.le_trans h2 h) (by decide)⟩
      · simp only [odd1, better1, k2, un_lz]
        simp [un_lz]
  | some p =>
    have h1 := ha p rfl
    cases b with
    | none =>
      by_cases k1 : (un p.1.gen % 2 == 0) = true
      · simp only [odd1, better1, k1, un_lz]
        simp
        exact ⟨fun h => by rw [if_pos (show (0 : Int) < un p.1.gen by omega)] at h; omega, fun h => absurd (Int.le_trans h1 h) (by decide)⟩
      · simp only [odd1, better1, k1, un_lz]
        simp [un_lz]
    | some q =>
      have h2 := hb q rfl
      by_cases k1 : (un p.1.gen % 2 == 0) = true
      · by_cases k2 : (un q.1.gen % 2 == 1) = true
        · have e1 : un p.1.gen % 2 = 0 := by simpa using k1
          have e2 : un q.1.gen % 2 = 1 := by simpa using k2
          simp only [odd1, better1, genO, k1, k2, un_lz]
          by_cases k3 : un q.1.gen < un p.1.gen
          · simp only [k3, decide_true, Bool.or_true, Bool.and_true, if_true, true_and]
            rw [if_pos (show (0 : Int) < un p.1.gen by omega), if_neg (show ¬ un p.1.gen < un q.1.gen by omega), if_neg (by omega)]
          · have k4 : un p.1.gen < un q.1.gen := by omega
            simp only [k3, decide_false, Bool.not_true, Bool.or_false, Bool.and_false, Bool.false_eq_true, if_false, if_true, true_and]
            rw [if_pos (show (0 : Int) < un p.1.gen by omega), if_pos k4, if_neg (by omega)]
        · simp only [odd1, better1, genO, k1, k2, un_lz]
          simp
          exact ⟨fun h => by rw [if_pos (show (0 : Int) < un p.1.gen by omega)] at h; omega, fun h => absurd (Int.le_trans h1 h) (by decide)⟩
      · by_cases k2 : (un q.1.gen % 2 == 1) = true
        · simp only [odd1, better1, genO, k1, k2, un_lz]
          simp [un_lz]
          exact ⟨fun h => by rw [if_pos (show (0 : Int) < un q.1.gen by omega)] at h; omega, fun h => absurd (Int.le_trans h2 h) (by decide)⟩
        · simp only [odd1, better1, genO, k1, k2, un_lz]
          simp [un_lz]
def errW (o : Option Lb.LX) : Nat := if o.isSome then 0 else 9
def NewEnd (w : World) (o : Option Lb.LX) (e : Ending) (w' : World) : Prop := ∃ dv, e = .returned (.tuple #[labV (labD o).1 dv, .int .i64 (errW o : Nat)]) ∧ SliceAt Value.bool w' dv (labD o).2 ∧ Ext w w'
theorem dec_gen {S : List (List (BitVec 8))} : ∀ p, Lb.decT S = some p → 1 ≤ un p.1.gen := fun p h => by
  have := (Lb.fine_of (Lb.dec_iff.1 h).1).gen.1
  show (1 : Int) ≤ ((p.1.gen.toNat : Nat) : Int)
  omega
theorem un_tmod (x : BitVec 64) : (un x).tmod 2 = un x % 2 := Int.tmod_eq_emod_of_nonneg (by show (0 : Int) ≤ ((x.toNat : Nat) : Int); omega)
set_option maxRecDepth 100000 in
set_option maxHeartbeats 4000000 in
theorem rnewest_any (v1 v2 : Value) (S U : List (List (BitVec 8))) (w : World) (hS : S.length ≤ 60) (hl : ∀ l, l ∈ S → l.length ≤ 200) (hU : U.length ≤ 60) (hk : ∀ l, l ∈ U → l.length ≤ 200) (h : RowsB w v1 S) (h' : RowsB w v2 U) :
    Calls Try.prog 28 #[v1, v2] w (NewEnd w (newR (Lb.rdecT S) (Lb.rdecT U))) := by
  have HS := Lib.hid h
  have HU := Lib.hid h'
  have HLL := Lib.hid hl
  have HLK := Lib.hid hk
  have hbr : BoxAt (w.alloc (.cells (labA ⟨0#64, 0, 0#64, 0#64, Lb.cfgOf [], 0, 0#64, 0#64⟩ (.slice none 0 0)) 29)) w.heap.size (labA ⟨0#64, 0, 0#64, 0#64, Lb.cfgOf [], 0, 0#64, 0#64⟩ (.slice none 0 0)) 29 := BoxAt.new _ _ _
  have hxW : Ext w (w.alloc (.cells (labA ⟨0#64, 0, 0#64, 0#64, Lb.cfgOf [], 0, 0#64, 0#64⟩ (.slice none 0 0)) 29)) := Ext.alloc _ _
  clear h h' hl hk
  go_enter Try.func28, Try.ntmps28
  go_upto_region 1 with fail
  have HBR := Lib.hid hbr
  have HXW := Lib.hid hxW
  clear hbr hxW
  go_wp2_with fail
  go_at_call 23
  refine (rdecode_any v1 S _ hS HLL.out (HS.out.ext HXW.out)).mono ?_
  rintro e w2 ⟨d2, rfl, hd2, hx2⟩
  obtain ⟨W, hW⟩ : ∃ W, w.alloc (.cells (labA ⟨0#64, 0, 0#64, 0#64, Lb.cfgOf [], 0, 0#64, 0#64⟩ (.slice none 0 0)) 29) = W := ⟨_, rfl⟩
  rw [hW] at HBR HXW hx2
  have HEA := Lib.hid (err_two (Lb.rdecT S))
  have HX2 : Hid (Ext W w2) := hx2
  generalize Lb.rdecT S = oa at *
  generalize hLA : labD oa = LA at *
  generalize errD oa = EA at *
  obtain ⟨A1, A2⟩ := LA
  simp only at hd2 ⊢
  obtain ⟨ad, ac, rfl⟩ := hd2.shape
  have HD2 := Lib.hid hd2
  clear hd2 hx2 hW hLA
  go_upto_region 2 with (refine wpList_store_lab3 (l := A1) (d := .slice ad A2.length ac) _ _ rfl (by rfl) rfl rfl (BoxAt.new _ _ _) rfl rfl ?_; intro w3 hg3 hb3)
  have hx3 : Ext w2 w3 := (Ext.alloc _ _).grown hg3 (Ext.alloc _ _).size (fun q hq => by cases hq; exact Nat.le_refl _)
  have HX3 : Hid (Ext W w3) := HX2.out.trans hx3
  have HB3 := Lib.hid hb3
  have HD3 := Lib.hid (HD2.out.ext hx3)
  clear hg3 hb3 hx3 HD2
  go_wp2_with fail
  go_at_call 23
  refine (rdecode_any v2 U _ hU HLK.out (HU.out.ext (HXW.out.trans HX3.out))).mono ?_
  rintro e w4 ⟨d4, rfl, hd4, hx4⟩
  have HEB := Lib.hid (err_two (Lb.rdecT U))
  have HX4 : Hid (Ext W w4) := HX3.out.trans hx4
  have HB4 := Lib.hid (HB3.out.ext hx4)
  have HD34 := Lib.hid (HD3.out.ext hx4)
  generalize Lb.rdecT U = ob at *
  generalize labD ob = LB at *
  generalize errD ob = EB at *
  obtain ⟨B1, B2⟩ := LB
  simp only at hd4 ⊢
  obtain ⟨bd, bc, rfl⟩ := hd4.shape
  have HD4 := Lib.hid hd4
  clear hd4 hx4 HB3 HD3
  go_upto_region 3 with (refine wpList_store_lab3 (l := B1) (d := .slice bd B2.length bc) _ _ rfl (by rfl) rfl rfl (BoxAt.new _ _ _) rfl rfl ?_; intro w5 hg5 hb5)
  have hx5 : Ext w4 w5 := (Ext.alloc _ _).grown hg5 (Ext.alloc _ _).size (fun q hq => by cases hq; exact Nat.le_refl _)
  have HX5 : Hid (Ext W w5) := HX4.out.trans hx5
  have HB5 := Lib.hid (HB4.out.ext hx5)
  have HC5 := Lib.hid hb5
  have HDA := Lib.hid (HD34.out.ext hx5)
  have HDB := Lib.hid (HD4.out.ext hx5)
  clear hg5 hb5 hx5 HD34 HD4 HB4
  have ca := HB5.out.cell 2 (v := encU A1.gen) rfl
  have cb := HC5.out.cell 2 (v := encU B1.gen) rfl
  have la := HB5.out.lt
  have lb := HC5.out.lt
  generalize w2.heap.size = ga at *
  generalize w4.heap.size = gb at *
  have ta := un_tmod A1.gen
  have tb := un_tmod B1.gen
  rcases HEA.out with ⟨ha1, ha2, ha3⟩ | ⟨qa, ha1, ha2, ha3⟩
  · subst ha2
    have pa : True := trivial
    clear ha3
    rcases HEB.out with ⟨hb1, hb2, hb3⟩ | ⟨qb, hb1, hb2, hb3⟩
    · subst hb1 hb2
      have HRES : Hid (newR oa none = none) := by show _ = _; rw [ha1]; simp [newR, odd1, genO, pa]
      have HEQ := Lib.hid ha1
      clear ha1 HEA HEB hb3
      refine wp_region_ext [(0, true), (1, true), (2, true), (3, true), (4, true), (5, true), (6, true), (7, true), (8, true), (9, true), (10, true), (11, true), (12, true), (13, true), (14, true), (15, true), (16, true), (17, true)] (by kernel_rfl) (by kernel_rfl) ?_
      iterate 18 (first
       | (refine ext_move rfl rfl (by rfl) (by rfl) ?_; simp only [Act.put, List.setIfInBounds_toArray, List.set_cons_zero, List.set_cons_succ])
       | (refine ext_assign rfl rfl (by rfl) (by rfl) ?_; simp only [Act.put, List.setIfInBounds_toArray, List.set_cons_zero, List.set_cons_succ])
       | (refine ext_pick_t rfl rfl (by rfl) (by rfl) (by rfl) ?_; simp only [Act.put, List.setIfInBounds_toArray, List.set_cons_zero, List.set_cons_succ])
       | (refine ext_pick_f rfl rfl (by rfl) (by rfl) (by rfl) ?_; simp only [Act.put, List.setIfInBounds_toArray, List.set_cons_zero, List.set_cons_succ])
       | (apply ext_take rfl (by rfl)
          · intro w' hS
            have hSc := hS.cells
            (try simp only [World.size_drew, World.cell?_drew] at hSc)
            go_simp
            (try simp (disch := omega) only [i64_id, u64_id, ↓IntWalk.iteOmega, Int.tdiv_eq_ediv_of_nonneg, Int.tmod_eq_emod_of_nonneg])
            try rfl
          simp only [Act.put, List.setIfInBounds_toArray, List.set_cons_zero, List.set_cons_succ])
       | (refine ext_pass rfl (by rfl) ?_; simp only [Act.put, List.setIfInBounds_toArray, List.set_cons_zero, List.set_cons_succ]))
      refine ext_nil ?_
      go_wp2_with (first | (refine wpList_store_lab3 (l := lz) (d := .slice none 0 0) _ _ rfl (by rfl) rfl rfl (HBR.out.ext (HX5.out.trans (Ext.drew _))) rfl rfl ?_; intro wf hgf hbf))
      have HXF := (HXW.out.trans (HX5.out.trans (Ext.drew _))).grown hgf (HXW.out.trans (HX5.out.trans (Ext.drew _))).size (fun q hq => by cases hq; exact Nat.le_refl _)
      refine bodyPost_ret (results_cell_tmp1 rfl _ _ rfl (lab_result hbf)) rfl ⟨.slice none 0 0, ?_, ?_, HXF⟩
      · rw [HRES.out]; rfl
      · rw [HRES.out]; exact SliceAt.nil
    · subst hb2 hb3
      by_cases kb : (un B1.gen % 2 == 1) = true
      · skip
        have HRES : Hid (newR oa ob = some (B1, B2)) := by show _ = _; rw [ha1, hb1]; simp [newR, odd1, genO, pa, kb]
        clear ha1 hb1 HEA HEB
        refine wp_region_ext [(0, true), (1, true), (2, true), (3, true), (4, true), (5, true), (6, true), (7, true), (8, true), (9, true), (10, true), (11, true), (12, true), (13, true), (14, true), (15, true), (16, true), (17, true)] (by kernel_rfl) (by kernel_rfl) ?_
        iterate 18 (first
         | (refine ext_move rfl rfl (by rfl) (by rfl) ?_; simp only [Act.put, List.setIfInBounds_toArray, List.set_cons_zero, List.set_cons_succ])
         | (refine ext_assign rfl rfl (by rfl) (by rfl) ?_; simp only [Act.put, List.setIfInBounds_toArray, List.set_cons_zero, List.set_cons_succ])
         | (refine ext_pick_t rfl rfl (by rfl) (by rfl) (by rfl) ?_; simp only [Act.put, List.setIfInBounds_toArray, List.set_cons_zero, List.set_cons_succ])
         | (refine ext_pick_f rfl rfl (by rfl) (by rfl) (by rfl) ?_; simp only [Act.put, List.setIfInBounds_toArray, List.set_cons_zero, List.set_cons_succ])
         | (apply ext_take rfl (by rfl)
            · intro w' hS
              have hSc := hS.cells
              (try simp only [World.size_drew, World.cell?_drew] at hSc)
              go_simp
              (try simp (disch := omega) only [i64_id, u64_id, ↓IntWalk.iteOmega, Int.tdiv_eq_ediv_of_nonneg, Int.tmod_eq_emod_of_nonneg])
              try rfl
            simp only [Act.put, List.setIfInBounds_toArray, List.set_cons_zero, List.set_cons_succ])
         | (refine ext_pass rfl (by rfl) ?_; simp only [Act.put, List.setIfInBounds_toArray, List.set_cons_zero, List.set_cons_succ]))
        refine ext_nil ?_
        go_wp2_with (first | (refine wpList_loadR 29 _ rfl (by rfl) rfl (LabAt.of_box (HC5.out.ext (Ext.drew _))).load ?_) | (refine wpList_store_lab3 (l := B1) (d := .slice bd B2.length bc) _ _ rfl (by rfl) rfl rfl (HBR.out.ext (HX5.out.trans (Ext.drew _))) rfl rfl ?_; intro wf hgf hbf))
        have HXF := (HXW.out.trans (HX5.out.trans (Ext.drew _))).grown hgf (HXW.out.trans (HX5.out.trans (Ext.drew _))).size (fun q hq => by cases hq; exact Nat.le_refl _)
        refine bodyPost_ret (results_cell_tmp1 rfl _ _ rfl (lab_result hbf)) rfl ⟨.slice bd B2.length bc, ?_, ?_, HXF⟩
        · rw [HRES.out]; rfl
        · rw [HRES.out]; exact (HDB.out.ext (Ext.drew _)).turnV (lab_nbv (HBR.out.ext (HX5.out.trans (Ext.drew _)))) hgf
      · skip
        have kb2 : (un B1.gen % 2 == 1) = false := by simpa using kb
        have HRES : Hid (newR oa ob = none) := by show _ = _; rw [ha1, hb1]; simp [newR, odd1, genO, pa, kb2]
        clear ha1 hb1 HEA HEB kb
        refine wp_region_ext [(0, true), (1, true), (2, true), (3, true), (4, true), (5, true), (6, true), (7, true), (8, true), (9, true), (10, true), (11, true), (12, true), (13, true), (14, true), (15, true), (16, true), (17, true)] (by kernel_rfl) (by kernel_rfl) ?_
        iterate 18 (first
         | (refine ext_move rfl rfl (by rfl) (by rfl) ?_; simp only [Act.put, List.setIfInBounds_toArray, List.set_cons_zero, List.set_cons_succ])
         | (refine ext_assign rfl rfl (by rfl) (by rfl) ?_; simp only [Act.put, List.setIfInBounds_toArray, List.set_cons_zero, List.set_cons_succ])
         | (refine ext_pick_t rfl rfl (by rfl) (by rfl) (by rfl) ?_; simp only [Act.put, List.setIfInBounds_toArray, List.set_cons_zero, List.set_cons_succ])
         | (refine ext_pick_f rfl rfl (by rfl) (by rfl) (by rfl) ?_; simp only [Act.put, List.setIfInBounds_toArray, List.set_cons_zero, List.set_cons_succ])
         | (apply ext_take rfl (by rfl)
            · intro w' hS
              have hSc := hS.cells
              (try simp only [World.size_drew, World.cell?_drew] at hSc)
              go_simp
              (try simp (disch := omega) only [i64_id, u64_id, ↓IntWalk.iteOmega, Int.tdiv_eq_ediv_of_nonneg, Int.tmod_eq_emod_of_nonneg])
              try rfl
            simp only [Act.put, List.setIfInBounds_toArray, List.set_cons_zero, List.set_cons_succ])
         | (refine ext_pass rfl (by rfl) ?_; simp only [Act.put, List.setIfInBounds_toArray, List.set_cons_zero, List.set_cons_succ]))
        refine ext_nil ?_
        go_wp2_with (first | (refine wpList_store_lab3 (l := lz) (d := .slice none 0 0) _ _ rfl (by rfl) rfl rfl (HBR.out.ext (HX5.out.trans (Ext.drew _))) rfl rfl ?_; intro wf hgf hbf))
        have HXF := (HXW.out.trans (HX5.out.trans (Ext.drew _))).grown hgf (HXW.out.trans (HX5.out.trans (Ext.drew _))).size (fun q hq => by cases hq; exact Nat.le_refl _)
        refine bodyPost_ret (results_cell_tmp1 rfl _ _ rfl (lab_result hbf)) rfl ⟨.slice none 0 0, ?_, ?_, HXF⟩
        · rw [HRES.out]; rfl
        · rw [HRES.out]; exact SliceAt.nil
  · subst ha2 ha3
    by_cases ka : (un A1.gen % 2 == 0) = true
    · have pa := ka
      clear ka
      rcases HEB.out with ⟨hb1, hb2, hb3⟩ | ⟨qb, hb1, hb2, hb3⟩
      · subst hb1 hb2
        have HRES : Hid (newR oa none = some (A1, A2)) := by show _ = _; rw [ha1]; simp [newR, odd1, genO, pa]
        have HEQ := Lib.hid ha1
        clear ha1 HEA HEB hb3
        refine wp_region_ext [(0, true), (1, true), (2, true), (3, true), (4, true), (5, true), (6, true), (7, true), (8, true), (9, true), (10, true), (11, true), (12, true), (13, true), (14, true), (15, true), (16, true), (17, true)] (by kernel_rfl) (by kernel_rfl) ?_
        iterate 18 (first
         | (refine ext_move rfl rfl (by rfl) (by rfl) ?_; simp only [Act.put, List.setIfInBounds_toArray, List.set_cons_zero, List.set_cons_succ])
         | (refine ext_assign rfl rfl (by rfl) (by rfl) ?_; simp only [Act.put, List.setIfInBounds_toArray, List.set_cons_zero, List.set_cons_succ])
         | (refine ext_pick_t rfl rfl (by rfl) (by rfl) (by rfl) ?_; simp only [Act.put, List.setIfInBounds_toArray, List.set_cons_zero, List.set_cons_succ])
         | (refine ext_pick_f rfl rfl (by rfl) (by rfl) (by rfl) ?_; simp only [Act.put, List.setIfInBounds_toArray, List.set_cons_zero, List.set_cons_succ])
         | (apply ext_take rfl (by rfl)
            · intro w' hS
              have hSc := hS.cells
              (try simp only [World.size_drew, World.cell?_drew] at hSc)
              go_simp
              (try simp (disch := omega) only [i64_id, u64_id, ↓IntWalk.iteOmega, Int.tdiv_eq_ediv_of_nonneg, Int.tmod_eq_emod_of_nonneg])
              try rfl
            simp only [Act.put, List.setIfInBounds_toArray, List.set_cons_zero, List.set_cons_succ])
         | (refine ext_pass rfl (by rfl) ?_; simp only [Act.put, List.setIfInBounds_toArray, List.set_cons_zero, List.set_cons_succ]))
        refine ext_nil ?_
        go_wp2_with (first | (refine wpList_loadR 29 _ rfl (by rfl) rfl (LabAt.of_box (HB5.out.ext (Ext.drew _))).load ?_) | (refine wpList_store_lab3 (l := A1) (d := .slice ad A2.length ac) _ _ rfl (by rfl) rfl rfl (HBR.out.ext (HX5.out.trans (Ext.drew _))) rfl rfl ?_; intro wf hgf hbf))
        have HXF := (HXW.out.trans (HX5.out.trans (Ext.drew _))).grown hgf (HXW.out.trans (HX5.out.trans (Ext.drew _))).size (fun q hq => by cases hq; exact Nat.le_refl _)
        refine bodyPost_ret (results_cell_tmp1 rfl _ _ rfl (lab_result hbf)) rfl ⟨.slice ad A2.length ac, ?_, ?_, HXF⟩
        · rw [HRES.out]; rfl
        · rw [HRES.out]; exact (HDA.out.ext (Ext.drew _)).turnV (lab_nbv (HBR.out.ext (HX5.out.trans (Ext.drew _)))) hgf
      · subst hb2 hb3
        by_cases kb : (un B1.gen % 2 == 1) = true
        · skip
          by_cases kg : un B1.gen < un A1.gen
          · have dg : decide (un B1.gen < un A1.gen) = true := by rw [decide_eq_true_iff]; exact kg
            have HRES : Hid (newR oa ob = some (A1, A2)) := by show _ = _; rw [ha1, hb1]; simp [newR, odd1, genO, pa, kb, kg]
            clear ha1 hb1 HEA HEB kg
            refine wp_region_ext [(0, true), (1, true), (2, true), (3, true), (4, true), (5, true), (6, true), (7, true), (8, true), (9, true), (10, true), (11, true), (12, true), (13, true), (14, true), (15, true), (16, true), (17, true)] (by kernel_rfl) (by kernel_rfl) ?_
            iterate 18 (first
             | (refine ext_move rfl rfl (by rfl) (by rfl) ?_; simp only [Act.put, List.setIfInBounds_toArray, List.set_cons_zero, List.set_cons_succ])
             | (refine ext_assign rfl rfl (by rfl) (by rfl) ?_; simp only [Act.put, List.setIfInBounds_toArray, List.set_cons_zero, List.set_cons_succ])
             | (refine ext_pick_t rfl rfl (by rfl) (by rfl) (by rfl) ?_; simp only [Act.put, List.setIfInBounds_toArray, List.set_cons_zero, List.set_cons_succ])
             | (refine ext_pick_f rfl rfl (by rfl) (by rfl) (by rfl) ?_; simp only [Act.put, List.setIfInBounds_toArray, List.set_cons_zero, List.set_cons_succ])
             | (apply ext_take rfl (by rfl)
                · intro w' hS
                  have hSc := hS.cells
                  (try simp only [World.size_drew, World.cell?_drew] at hSc)
                  go_simp
                  (try simp (disch := omega) only [i64_id, u64_id, ↓IntWalk.iteOmega, Int.tdiv_eq_ediv_of_nonneg, Int.tmod_eq_emod_of_nonneg])
                  try rfl
                simp only [Act.put, List.setIfInBounds_toArray, List.set_cons_zero, List.set_cons_succ])
             | (refine ext_pass rfl (by rfl) ?_; simp only [Act.put, List.setIfInBounds_toArray, List.set_cons_zero, List.set_cons_succ]))
            refine ext_nil ?_
            go_wp2_with (first | (refine wpList_loadR 29 _ rfl (by rfl) rfl (LabAt.of_box (HB5.out.ext (Ext.drew _))).load ?_) | (refine wpList_store_lab3 (l := A1) (d := .slice ad A2.length ac) _ _ rfl (by rfl) rfl rfl (HBR.out.ext (HX5.out.trans (Ext.drew _))) rfl rfl ?_; intro wf hgf hbf))
            have HXF := (HXW.out.trans (HX5.out.trans (Ext.drew _))).grown hgf (HXW.out.trans (HX5.out.trans (Ext.drew _))).size (fun q hq => by cases hq; exact Nat.le_refl _)
            refine bodyPost_ret (results_cell_tmp1 rfl _ _ rfl (lab_result hbf)) rfl ⟨.slice ad A2.length ac, ?_, ?_, HXF⟩
            · rw [HRES.out]; rfl
            · rw [HRES.out]; exact (HDA.out.ext (Ext.drew _)).turnV (lab_nbv (HBR.out.ext (HX5.out.trans (Ext.drew _)))) hgf
          · have dg : decide (un B1.gen < un A1.gen) = false := by rw [decide_eq_false_iff_not]; exact kg
            have HRES : Hid (newR oa ob = some (B1, B2)) := by show _ = _; rw [ha1, hb1]; simp [newR, odd1, genO, pa, kb, kg]
            clear ha1 hb1 HEA HEB kg
            refine wp_region_ext [(0, true), (1, true), (2, true), (3, true), (4, true), (5, true), (6, true), (7, true), (8, true), (9, true), (10, true), (11, true), (12, true), (13, true), (14, true), (15, true), (16, true), (17, true)] (by kernel_rfl) (by kernel_rfl) ?_
            iterate 18 (first
             | (refine ext_move rfl rfl (by rfl) (by rfl) ?_; simp only [Act.put, List.setIfInBounds_toArray, List.set_cons_zero, List.set_cons_succ])
             | (refine ext_assign rfl rfl (by rfl) (by rfl) ?_; simp only [Act.put, List.setIfInBounds_toArray, List.set_cons_zero, List.set_cons_succ])
             | (refine ext_pick_t rfl rfl (by rfl) (by rfl) (by rfl) ?_; simp only [Act.put, List.setIfInBounds_toArray, List.set_cons_zero, List.set_cons_succ])
             | (refine ext_pick_f rfl rfl (by rfl) (by rfl) (by rfl) ?_; simp only [Act.put, List.setIfInBounds_toArray, List.set_cons_zero, List.set_cons_succ])
             | (apply ext_take rfl (by rfl)
                · intro w' hS
                  have hSc := hS.cells
                  (try simp only [World.size_drew, World.cell?_drew] at hSc)
                  go_simp
                  (try simp (disch := omega) only [i64_id, u64_id, ↓IntWalk.iteOmega, Int.tdiv_eq_ediv_of_nonneg, Int.tmod_eq_emod_of_nonneg])
                  try rfl
                simp only [Act.put, List.setIfInBounds_toArray, List.set_cons_zero, List.set_cons_succ])
             | (refine ext_pass rfl (by rfl) ?_; simp only [Act.put, List.setIfInBounds_toArray, List.set_cons_zero, List.set_cons_succ]))
            refine ext_nil ?_
            go_wp2_with (first | (refine wpList_loadR 29 _ rfl (by rfl) rfl (LabAt.of_box (HC5.out.ext (Ext.drew _))).load ?_) | (refine wpList_store_lab3 (l := B1) (d := .slice bd B2.length bc) _ _ rfl (by rfl) rfl rfl (HBR.out.ext (HX5.out.trans (Ext.drew _))) rfl rfl ?_; intro wf hgf hbf))
            have HXF := (HXW.out.trans (HX5.out.trans (Ext.drew _))).grown hgf (HXW.out.trans (HX5.out.trans (Ext.drew _))).size (fun q hq => by cases hq; exact Nat.le_refl _)
            refine bodyPost_ret (results_cell_tmp1 rfl _ _ rfl (lab_result hbf)) rfl ⟨.slice bd B2.length bc, ?_, ?_, HXF⟩
            · rw [HRES.out]; rfl
            · rw [HRES.out]; exact (HDB.out.ext (Ext.drew _)).turnV (lab_nbv (HBR.out.ext (HX5.out.trans (Ext.drew _)))) hgf
        · skip
          have kb2 : (un B1.gen % 2 == 1) = false := by simpa using kb
          have HRES : Hid (newR oa ob = some (A1, A2)) := by show _ = _; rw [ha1, hb1]; simp [newR, odd1, genO, pa, kb2]
          clear ha1 hb1 HEA HEB kb
          refine wp_region_ext [(0, true), (1, true), (2, true), (3, true), (4, true), (5, true), (6, true), (7, true), (8, true), (9, true), (10, true), (11, true), (12, true), (13, true), (14, true), (15, true), (16, true), (17, true)] (by kernel_rfl) (by kernel_rfl) ?_
          iterate 18 (first
           | (refine ext_move rfl rfl (by rfl) (by rfl) ?_; simp only [Act.put, List.setIfInBounds_toArray, List.set_cons_zero, List.set_cons_succ])
           | (refine ext_assign rfl rfl (by rfl) (by rfl) ?_; simp only [Act.put, List.setIfInBounds_toArray, List.set_cons_zero, List.set_cons_succ])
           | (refine ext_pick_t rfl rfl (by rfl) (by rfl) (by rfl) ?_; simp only [Act.put, List.setIfInBounds_toArray, List.set_cons_zero, List.set_cons_succ])
           | (refine ext_pick_f rfl rfl (by rfl) (by rfl) (by rfl) ?_; simp only [Act.put, List.setIfInBounds_toArray, List.set_cons_zero, List.set_cons_succ])
           | (apply ext_take rfl (by rfl)
              · intro w' hS
                have hSc := hS.cells
                (try simp only [World.size_drew, World.cell?_drew] at hSc)
                go_simp
                (try simp (disch := omega) only [i64_id, u64_id, ↓IntWalk.iteOmega, Int.tdiv_eq_ediv_of_nonneg, Int.tmod_eq_emod_of_nonneg])
                try rfl
              simp only [Act.put, List.setIfInBounds_toArray, List.set_cons_zero, List.set_cons_succ])
           | (refine ext_pass rfl (by rfl) ?_; simp only [Act.put, List.setIfInBounds_toArray, List.set_cons_zero, List.set_cons_succ]))
          refine ext_nil ?_
          go_wp2_with (first | (refine wpList_loadR 29 _ rfl (by rfl) rfl (LabAt.of_box (HB5.out.ext (Ext.drew _))).load ?_) | (refine wpList_store_lab3 (l := A1) (d := .slice ad A2.length ac) _ _ rfl (by rfl) rfl rfl (HBR.out.ext (HX5.out.trans (Ext.drew _))) rfl rfl ?_; intro wf hgf hbf))
          have HXF := (HXW.out.trans (HX5.out.trans (Ext.drew _))).grown hgf (HXW.out.trans (HX5.out.trans (Ext.drew _))).size (fun q hq => by cases hq; exact Nat.le_refl _)
          refine bodyPost_ret (results_cell_tmp1 rfl _ _ rfl (lab_result hbf)) rfl ⟨.slice ad A2.length ac, ?_, ?_, HXF⟩
          · rw [HRES.out]; rfl
          · rw [HRES.out]; exact (HDA.out.ext (Ext.drew _)).turnV (lab_nbv (HBR.out.ext (HX5.out.trans (Ext.drew _)))) hgf
    · have pa : (un A1.gen % 2 == 0) = false := by simpa using ka
      clear ka
      rcases HEB.out with ⟨hb1, hb2, hb3⟩ | ⟨qb, hb1, hb2, hb3⟩
      · subst hb1 hb2
        have HRES : Hid (newR oa none = none) := by show _ = _; rw [ha1]; simp [newR, odd1, genO, pa]
        have HEQ := Lib.hid ha1
        clear ha1 HEA HEB hb3
        refine wp_region_ext [(0, true), (1, true), (2, true), (3, true), (4, true), (5, true), (6, true), (7, true), (8, true), (9, true), (10, true), (11, true), (12, true), (13, true), (14, true), (15, true), (16, true), (17, true)] (by kernel_rfl) (by kernel_rfl) ?_
        iterate 18 (first
         | (refine ext_move rfl rfl (by rfl) (by rfl) ?_; simp only [Act.put, List.setIfInBounds_toArray, List.set_cons_zero, List.set_cons_succ])
         | (refine ext_assign rfl rfl (by rfl) (by rfl) ?_; simp only [Act.put, List.setIfInBounds_toArray, List.set_cons_zero, List.set_cons_succ])
         | (refine ext_pick_t rfl rfl (by rfl) (by rfl) (by rfl) ?_; simp only [Act.put, List.setIfInBounds_toArray, List.set_cons_zero, List.set_cons_succ])
         | (refine ext_pick_f rfl rfl (by rfl) (by rfl) (by rfl) ?_; simp only [Act.put, List.setIfInBounds_toArray, List.set_cons_zero, List.set_cons_succ])
         | (apply ext_take rfl (by rfl)
            · intro w' hS
              have hSc := hS.cells
              (try simp only [World.size_drew, World.cell?_drew] at hSc)
              go_simp
              (try simp (disch := omega) only [i64_id, u64_id, ↓IntWalk.iteOmega, Int.tdiv_eq_ediv_of_nonneg, Int.tmod_eq_emod_of_nonneg])
              try rfl
            simp only [Act.put, List.setIfInBounds_toArray, List.set_cons_zero, List.set_cons_succ])
         | (refine ext_pass rfl (by rfl) ?_; simp only [Act.put, List.setIfInBounds_toArray, List.set_cons_zero, List.set_cons_succ]))
        refine ext_nil ?_
        go_wp2_with (first | (refine wpList_store_lab3 (l := lz) (d := .slice none 0 0) _ _ rfl (by rfl) rfl rfl (HBR.out.ext (HX5.out.trans (Ext.drew _))) rfl rfl ?_; intro wf hgf hbf))
        have HXF := (HXW.out.trans (HX5.out.trans (Ext.drew _))).grown hgf (HXW.out.trans (HX5.out.trans (Ext.drew _))).size (fun q hq => by cases hq; exact Nat.le_refl _)
        refine bodyPost_ret (results_cell_tmp1 rfl _ _ rfl (lab_result hbf)) rfl ⟨.slice none 0 0, ?_, ?_, HXF⟩
        · rw [HRES.out]; rfl
        · rw [HRES.out]; exact SliceAt.nil
      · subst hb2 hb3
        by_cases kb : (un B1.gen % 2 == 1) = true
        · skip
          have HRES : Hid (newR oa ob = some (B1, B2)) := by show _ = _; rw [ha1, hb1]; simp [newR, odd1, genO, pa, kb]
          clear ha1 hb1 HEA HEB
          refine wp_region_ext [(0, true), (1, true), (2, true), (3, true), (4, true), (5, true), (6, true), (7, true), (8, true), (9, true), (10, true), (11, true), (12, true), (13, true), (14, true), (15, true), (16, true), (17, true)] (by kernel_rfl) (by kernel_rfl) ?_
          iterate 18 (first
           | (refine ext_move rfl rfl (by rfl) (by rfl) ?_; simp only [Act.put, List.setIfInBounds_toArray, List.set_cons_zero, List.set_cons_succ])
           | (refine ext_assign rfl rfl (by rfl) (by rfl) ?_; simp only [Act.put, List.setIfInBounds_toArray, List.set_cons_zero, List.set_cons_succ])
           | (refine ext_pick_t rfl rfl (by rfl) (by rfl) (by rfl) ?_; simp only [Act.put, List.setIfInBounds_toArray, List.set_cons_zero, List.set_cons_succ])
           | (refine ext_pick_f rfl rfl (by rfl) (by rfl) (by rfl) ?_; simp only [Act.put, List.setIfInBounds_toArray, List.set_cons_zero, List.set_cons_succ])
           | (apply ext_take rfl (by rfl)
              · intro w' hS
                have hSc := hS.cells
                (try simp only [World.size_drew, World.cell?_drew] at hSc)
                go_simp
                (try simp (disch := omega) only [i64_id, u64_id, ↓IntWalk.iteOmega, Int.tdiv_eq_ediv_of_nonneg, Int.tmod_eq_emod_of_nonneg])
                try rfl
              simp only [Act.put, List.setIfInBounds_toArray, List.set_cons_zero, List.set_cons_succ])
           | (refine ext_pass rfl (by rfl) ?_; simp only [Act.put, List.setIfInBounds_toArray, List.set_cons_zero, List.set_cons_succ]))
          refine ext_nil ?_
          go_wp2_with (first | (refine wpList_loadR 29 _ rfl (by rfl) rfl (LabAt.of_box (HC5.out.ext (Ext.drew _))).load ?_) | (refine wpList_store_lab3 (l := B1) (d := .slice bd B2.length bc) _ _ rfl (by rfl) rfl rfl (HBR.out.ext (HX5.out.trans (Ext.drew _))) rfl rfl ?_; intro wf hgf hbf))
          have HXF := (HXW.out.trans (HX5.out.trans (Ext.drew _))).grown hgf (HXW.out.trans (HX5.out.trans (Ext.drew _))).size (fun q hq => by cases hq; exact Nat.le_refl _)
          refine bodyPost_ret (results_cell_tmp1 rfl _ _ rfl (lab_result hbf)) rfl ⟨.slice bd B2.length bc, ?_, ?_, HXF⟩
          · rw [HRES.out]; rfl
          · rw [HRES.out]; exact (HDB.out.ext (Ext.drew _)).turnV (lab_nbv (HBR.out.ext (HX5.out.trans (Ext.drew _)))) hgf
        · skip
          have kb2 : (un B1.gen % 2 == 1) = false := by simpa using kb
          have HRES : Hid (newR oa ob = none) := by show _ = _; rw [ha1, hb1]; simp [newR, odd1, genO, pa, kb2]
          clear ha1 hb1 HEA HEB kb
          refine wp_region_ext [(0, true), (1, true), (2, true), (3, true), (4, true), (5, true), (6, true), (7, true), (8, true), (9, true), (10, true), (11, true), (12, true), (13, true), (14, true), (15, true), (16, true), (17, true)] (by kernel_rfl) (by kernel_rfl) ?_
          iterate 18 (first
           | (refine ext_move rfl rfl (by rfl) (by rfl) ?_; simp only [Act.put, List.setIfInBounds_toArray, List.set_cons_zero, List.set_cons_succ])
           | (refine ext_assign rfl rfl (by rfl) (by rfl) ?_; simp only [Act.put, List.setIfInBounds_toArray, List.set_cons_zero, List.set_cons_succ])
           | (refine ext_pick_t rfl rfl (by rfl) (by rfl) (by rfl) ?_; simp only [Act.put, List.setIfInBounds_toArray, List.set_cons_zero, List.set_cons_succ])
           | (refine ext_pick_f rfl rfl (by rfl) (by rfl) (by rfl) ?_; simp only [Act.put, List.setIfInBounds_toArray, List.set_cons_zero, List.set_cons_succ])
           | (apply ext_take rfl (by rfl)
              · intro w' hS
                have hSc := hS.cells
                (try simp only [World.size_drew, World.cell?_drew] at hSc)
                go_simp
                (try simp (disch := omega) only [i64_id, u64_id, ↓IntWalk.iteOmega, Int.tdiv_eq_ediv_of_nonneg, Int.tmod_eq_emod_of_nonneg])
                try rfl
              simp only [Act.put, List.setIfInBounds_toArray, List.set_cons_zero, List.set_cons_succ])
           | (refine ext_pass rfl (by rfl) ?_; simp only [Act.put, List.setIfInBounds_toArray, List.set_cons_zero, List.set_cons_succ]))
          refine ext_nil ?_
          go_wp2_with (first | (refine wpList_store_lab3 (l := lz) (d := .slice none 0 0) _ _ rfl (by rfl) rfl rfl (HBR.out.ext (HX5.out.trans (Ext.drew _))) rfl rfl ?_; intro wf hgf hbf))
          have HXF := (HXW.out.trans (HX5.out.trans (Ext.drew _))).grown hgf (HXW.out.trans (HX5.out.trans (Ext.drew _))).size (fun q hq => by cases hq; exact Nat.le_refl _)
          refine bodyPost_ret (results_cell_tmp1 rfl _ _ rfl (lab_result hbf)) rfl ⟨.slice none 0 0, ?_, ?_, HXF⟩
          · rw [HRES.out]; rfl
          · rw [HRES.out]; exact SliceAt.nil
set_option maxRecDepth 100000 in
set_option maxHeartbeats 4000000 in
theorem newest_any (v1 v2 : Value) (S U : List (List (BitVec 8))) (w : World) (hS : S.length ≤ 60) (hl : ∀ l, l ∈ S → l.length ≤ 200) (hU : U.length ≤ 60) (hk : ∀ l, l ∈ U → l.length ≤ 200) (h : RowsB w v1 S) (h' : RowsB w v2 U) :
    Calls Try.prog 27 #[v1, v2] w (NewEnd w (newT (Lb.decT S) (Lb.decT U))) := by
  obtain ⟨as1, cs1, rfl, _⟩ := h.shape
  obtain ⟨as2, cs2, rfl, _⟩ := h'.shape
  have HS := Lib.hid h
  have HU := Lib.hid h'
  have HLL := Lib.hid hl
  have HLK := Lib.hid hk
  have hbr : BoxAt (w.alloc (.cells (labA ⟨0#64, 0, 0#64, 0#64, Lb.cfgOf [], 0, 0#64, 0#64⟩ (.slice none 0 0)) 29)) w.heap.size (labA ⟨0#64, 0, 0#64, 0#64, Lb.cfgOf [], 0, 0#64, 0#64⟩ (.slice none 0 0)) 29 := BoxAt.new _ _ _
  have hxW : Ext w (w.alloc (.cells (labA ⟨0#64, 0, 0#64, 0#64, Lb.cfgOf [], 0, 0#64, 0#64⟩ (.slice none 0 0)) 29)) := Ext.alloc _ _
  clear h h' hl hk
  go_enter Try.func27, Try.ntmps27
  go_upto_region 1 with fail
  have HBR := Lib.hid hbr
  have HXW := Lib.hid hxW
  clear hbr hxW
  have hsz : (w.alloc (.cells (labA ⟨0#64, 0, 0#64, 0#64, Lb.cfgOf [], 0, 0#64, 0#64⟩ (.slice none 0 0)) 29)).heap.size = w.heap.size + 1 := by simp
  have HG := Lib.hid hsz
  have HB0 : Hid (BoxAt ((w.alloc (.cells (labA ⟨0#64, 0, 0#64, 0#64, Lb.cfgOf [], 0, 0#64, 0#64⟩ (.slice none 0 0)) 29)).alloc (.cells (labA lz0.1 (.slice none lz0.2.length 0)) 29)) (w.heap.size + 1) (labA lz0.1 (.slice none lz0.2.length 0)) 29) := by show BoxAt _ _ _ _; rw [← hsz]; exact BoxAt.new _ _ _
  have HX0 : Hid (Ext (w.alloc (.cells (labA ⟨0#64, 0, 0#64, 0#64, Lb.cfgOf [], 0, 0#64, 0#64⟩ (.slice none 0 0)) 29)) ((w.alloc (.cells (labA ⟨0#64, 0, 0#64, 0#64, Lb.cfgOf [], 0, 0#64, 0#64⟩ (.slice none 0 0)) 29)).alloc (.cells (labA lz0.1 (.slice none lz0.2.length 0)) 29))) := Ext.alloc _ _
  clear hsz
  go_wp2_with fail
  go_loopw [14] (fun it wr => ∃ (i : Nat) (q : Lb.LX) (da : Option Addr) (dc : Nat), i ≤ 2 ∧ it = .int .i64 i ∧ Hid ((i = 0 ∧ q = lz0) ∨ (i = 1 ∧ q = better1 lz0 (Lb.decT S) 0) ∨ (i = 2 ∧ q = best2 (Lb.decT S) (Lb.decT U))) ∧ Hid (BoxAt wr (w.heap.size + 1) (labA q.1 (.slice da q.2.length dc)) 29) ∧ Hid (SliceAt Value.bool wr (.slice da q.2.length dc) q.2) ∧ Hid (Ext (w.alloc (.cells (labA ⟨0#64, 0, 0#64, 0#64, Lb.cfgOf [], 0, 0#64, 0#64⟩ (.slice none 0 0)) 29)) wr)) (fun it _ => 2 - (intOf it).toNat)
  case atStart => exact ⟨0, lz0, none, 0, by decide, rfl, Lib.hid (.inl ⟨rfl, rfl⟩), HB0, Lib.hid SliceAt.nil, HX0⟩
  case round =>
    obtain ⟨i, ⟨q1, q2⟩, da, dc, hi, rfl, HQ, HB, HD, HX⟩ := hrel
    simp only at HB HD
    generalize hWW : w.alloc (.cells (labA ⟨0#64, 0, 0#64, 0#64, Lb.cfgOf [], 0, 0#64, 0#64⟩ (.slice none 0 0)) 29) = W at *
    clear hWW HB0 HX0
    generalize wr = wo at *
    have hi3 : i = 0 ∨ i = 1 ∨ i = 2 := by omega
    have tq := un_tmod q1.gen
    rcases hi3 with rfl | rfl | rfl
    · skip
      have HQ1 : Hid ((q1, q2) = lz0) := by
        rcases HQ.out with ⟨h1, h2⟩ | ⟨h1, h2⟩ | ⟨h1, h2⟩
        · exact h2
        · omega
        · omega
      have hix : ∀ w0 : World, (Instr.index 73 (.agg #[.slice as1 S.length cs1, .slice as2 U.length cs2]) (.int .i64 0)).run Try.prog w0 = .ok ((.slice as1 S.length cs1) : Value) w0 := fun _ => rfl
      go_wp2_with fail
      go_at_call 22
      refine (decode_any _ S _ hS HLL.out (HS.out.ext (HXW.out.trans HX.out))).mono ?_
      rintro e w2 ⟨d2, rfl, hd2, hx2⟩
      have HEA := Lib.hid (err_two (Lb.decT S))
      generalize labD (Lb.decT S) = LA at *
      generalize errD (Lb.decT S) = EA at *
      obtain ⟨A1, A2⟩ := LA
      simp only at hd2 ⊢
      obtain ⟨ad, ac, rfl⟩ := hd2.shape
      have HD2 := Lib.hid hd2
      have HX2 : Hid (Ext W w2) := HX.out.trans hx2
      have HBQ := Lib.hid (HB.out.ext hx2)
      have HDQ := Lib.hid (HD.out.ext hx2)
      clear hd2 hx2 HB HD
      go_upto_region 6 with (refine wpList_store_lab3 (l := A1) (d := .slice ad A2.length ac) _ _ rfl (by rfl) rfl rfl (BoxAt.new _ _ _) rfl rfl ?_; intro w3 hg3 hb3)
      have hx3 : Ext w2 w3 := (Ext.alloc _ _).grown hg3 (Ext.alloc _ _).size (fun q hq => by cases hq; exact Nat.le_refl _)
      have HX3 : Hid (Ext W w3) := HX2.out.trans hx3
      have HBN := Lib.hid hb3
      have HBP := Lib.hid (HBQ.out.ext hx3)
      have HDN := Lib.hid (HD2.out.ext hx3)
      have HDP := Lib.hid (HDQ.out.ext hx3)
      have cn := hb3.cell 2 (v := encU A1.gen) rfl
      have cq := HBP.out.cell 2 (v := encU q1.gen) rfl
      have ln := hb3.lt
      have lq := HBP.out.lt
      have tn := un_tmod A1.gen
      clear hg3 hb3 hx3 HBQ HDQ HD2
      generalize w2.heap.size = gn at *
      rcases HEA.out with ⟨ha1, ha2, ha3⟩ | ⟨qa, ha1, ha2, ha3⟩
      · subst ha2
        have HN : Hid ((q1, q2) = better1 lz0 (Lb.decT S) 0) := by show _ = _; rw [← HQ1.out]; rw [ha1]; rfl
        clear ha1 ha3 HEA
        go_wp2_with fail
        go_roundw
        case rel => exact ⟨1, (q1, q2), da, dc, by decide, by go_num, Lib.hid (.inr (.inl ⟨rfl, HN.out⟩)), HBP, HDP, HX3⟩
        case measure => first | (simp [intOf]; done) | (simp [intOf]; omega)
      · subst ha2 ha3
        by_cases kp : (un A1.gen % 2 == 0) = true
        · by_cases kg : un q1.gen < un A1.gen
          · have dg : decide (un q1.gen < un A1.gen) = true := by rw [decide_eq_true_iff]; exact kg
            have HN : Hid ((A1, A2) = better1 lz0 (Lb.decT S) 0) := by show _ = _; rw [← HQ1.out]; rw [ha1]; unfold better1; simp only; rw [if_pos ⟨kp, kg⟩]
            clear ha1 HEA kg
            go_wp2_with (first | (refine wpList_loadR 29 _ rfl (by rfl) rfl (LabAt.of_box HBN.out).load ?_) | (refine wpList_store_lab3 (l := A1) (d := .slice ad A2.length ac) _ _ rfl (by rfl) rfl rfl HBP.out rfl rfl ?_; intro wf hgf hbf))
            have HXF : Hid (Ext W wf) := HX3.out.grown hgf HX3.out.size (fun q hq => by cases hq; exact Nat.le_of_eq HG.out)
            have HBF := Lib.hid hbf
            have HDF := Lib.hid (HDN.out.turnV (lab_nbv HBP.out) hgf)
            clear hgf hbf
            go_roundw
            case rel => exact ⟨1, (A1, A2), ad, ac, by decide, by go_num, Lib.hid (.inr (.inl ⟨rfl, HN.out⟩)), HBF, HDF, HXF⟩
            case measure => first | (simp [intOf]; done) | (simp [intOf]; omega)
          · have dg : decide (un q1.gen < un A1.gen) = false := by rw [decide_eq_false_iff_not]; exact kg
            have HN : Hid ((q1, q2) = better1 lz0 (Lb.decT S) 0) := by show _ = _; rw [← HQ1.out]; rw [ha1]; unfold better1; simp only; rw [if_neg (fun h => kg h.2)]
            clear ha1 HEA kg
            go_wp2_with fail
            go_roundw
            case rel => exact ⟨1, (q1, q2), da, dc, by decide, by go_num, Lib.hid (.inr (.inl ⟨rfl, HN.out⟩)), HBP, HDP, HX3⟩
            case measure => first | (simp [intOf]; done) | (simp [intOf]; omega)
        · have kp2 : (un A1.gen % 2 == 0) = false := by simpa using kp
          have HN : Hid ((q1, q2) = better1 lz0 (Lb.decT S) 0) := by show _ = _; rw [← HQ1.out]; rw [ha1]; unfold better1; simp only; rw [if_neg (fun h => kp h.1)]
          clear ha1 HEA kp
          go_wp2_with fail
          go_roundw
          case rel => exact ⟨1, (q1, q2), da, dc, by decide, by go_num, Lib.hid (.inr (.inl ⟨rfl, HN.out⟩)), HBP, HDP, HX3⟩
          case measure => first | (simp [intOf]; done) | (simp [intOf]; omega)
    · skip
      have HQ1 : Hid ((q1, q2) = better1 lz0 (Lb.decT S) 0) := by
        rcases HQ.out with ⟨h1, h2⟩ | ⟨h1, h2⟩ | ⟨h1, h2⟩
        · omega
        · exact h2
        · omega
      have hix : ∀ w0 : World, (Instr.index 73 (.agg #[.slice as1 S.length cs1, .slice as2 U.length cs2]) (.int .i64 1)).run Try.prog w0 = .ok ((.slice as2 U.length cs2) : Value) w0 := fun _ => rfl
      go_wp2_with fail
      go_at_call 22
      refine (decode_any _ U _ hU HLK.out (HU.out.ext (HXW.out.trans HX.out))).mono ?_
      rintro e w2 ⟨d2, rfl, hd2, hx2⟩
      have HEA := Lib.hid (err_two (Lb.decT U))
      generalize labD (Lb.decT U) = LA at *
      generalize errD (Lb.decT U) = EA at *
      obtain ⟨A1, A2⟩ := LA
      simp only at hd2 ⊢
      obtain ⟨ad, ac, rfl⟩ := hd2.shape
      have HD2 := Lib.hid hd2
      have HX2 : Hid (Ext W w2) := HX.out.trans hx2
      have HBQ := Lib.hid (HB.out.ext hx2)
      have HDQ := Lib.hid (HD.out.ext hx2)
      clear hd2 hx2 HB HD
      go_upto_region 6 with (refine wpList_store_lab3 (l := A1) (d := .slice ad A2.length ac) _ _ rfl (by rfl) rfl rfl (BoxAt.new _ _ _) rfl rfl ?_; intro w3 hg3 hb3)
      have hx3 : Ext w2 w3 := (Ext.alloc _ _).grown hg3 (Ext.alloc _ _).size (fun q hq => by cases hq; exact Nat.le_refl _)
      have HX3 : Hid (Ext W w3) := HX2.out.trans hx3
      have HBN := Lib.hid hb3
      have HBP := Lib.hid (HBQ.out.ext hx3)
      have HDN := Lib.hid (HD2.out.ext hx3)
      have HDP := Lib.hid (HDQ.out.ext hx3)
      have cn := hb3.cell 2 (v := encU A1.gen) rfl
      have cq := HBP.out.cell 2 (v := encU q1.gen) rfl
      have ln := hb3.lt
      have lq := HBP.out.lt
      have tn := un_tmod A1.gen
      clear hg3 hb3 hx3 HBQ HDQ HD2
      generalize w2.heap.size = gn at *
      rcases HEA.out with ⟨ha1, ha2, ha3⟩ | ⟨qa, ha1, ha2, ha3⟩
      · subst ha2
        have HN : Hid ((q1, q2) = best2 (Lb.decT S) (Lb.decT U)) := by show _ = _; unfold best2; rw [← HQ1.out]; rw [ha1]; rfl
        clear ha1 ha3 HEA
        go_wp2_with fail
        go_roundw
        case rel => exact ⟨2, (q1, q2), da, dc, by decide, by go_num, Lib.hid (.inr (.inr ⟨rfl, HN.out⟩)), HBP, HDP, HX3⟩
        case measure => first | (simp [intOf]; done) | (simp [intOf]; omega)
      · subst ha2 ha3
        by_cases kp : (un A1.gen % 2 == 1) = true
        · by_cases kg : un q1.gen < un A1.gen
          · have dg : decide (un q1.gen < un A1.gen) = true := by rw [decide_eq_true_iff]; exact kg
            have HN : Hid ((A1, A2) = best2 (Lb.decT S) (Lb.decT U)) := by show _ = _; unfold best2; rw [← HQ1.out]; rw [ha1]; unfold better1; simp only; rw [if_pos ⟨kp, kg⟩]
            clear ha1 HEA kg
            go_wp2_with (first | (refine wpList_loadR 29 _ rfl (by rfl) rfl (LabAt.of_box HBN.out).load ?_) | (refine wpList_store_lab3 (l := A1) (d := .slice ad A2.length ac) _ _ rfl (by rfl) rfl rfl HBP.out rfl rfl ?_; intro wf hgf hbf))
            have HXF : Hid (Ext W wf) := HX3.out.grown hgf HX3.out.size (fun q hq => by cases hq; exact Nat.le_of_eq HG.out)
            have HBF := Lib.hid hbf
            have HDF := Lib.hid (HDN.out.turnV (lab_nbv HBP.out) hgf)
            clear hgf hbf
            go_roundw
            case rel => exact ⟨2, (A1, A2), ad, ac, by decide, by go_num, Lib.hid (.inr (.inr ⟨rfl, HN.out⟩)), HBF, HDF, HXF⟩
            case measure => first | (simp [intOf]; done) | (simp [intOf]; omega)
          · have dg : decide (un q1.gen < un A1.gen) = false := by rw [decide_eq_false_iff_not]; exact kg
            have HN : Hid ((q1, q2) = best2 (Lb.decT S) (Lb.decT U)) := by show _ = _; unfold best2; rw [← HQ1.out]; rw [ha1]; unfold better1; simp only; rw [if_neg (fun h => kg h.2)]
            clear ha1 HEA kg
            go_wp2_with fail
            go_roundw
            case rel => exact ⟨2, (q1, q2), da, dc, by decide, by go_num, Lib.hid (.inr (.inr ⟨rfl, HN.out⟩)), HBP, HDP, HX3⟩
            case measure => first | (simp [intOf]; done) | (simp [intOf]; omega)
        · have kp2 : (un A1.gen % 2 == 1) = false := by simpa using kp
          have HN : Hid ((q1, q2) = best2 (Lb.decT S) (Lb.decT U)) := by show _ = _; unfold best2; rw [← HQ1.out]; rw [ha1]; unfold better1; simp only; rw [if_neg (fun h => kp h.1)]
          clear ha1 HEA kp
          go_wp2_with fail
          go_roundw
          case rel => exact ⟨2, (q1, q2), da, dc, by decide, by go_num, Lib.hid (.inr (.inr ⟨rfl, HN.out⟩)), HBP, HDP, HX3⟩
          case measure => first | (simp [intOf]; done) | (simp [intOf]; omega)
    · skip
      have HQ2 : Hid ((q1, q2) = best2 (Lb.decT S) (Lb.decT U)) := by
        rcases HQ.out with ⟨h1, h2⟩ | ⟨h1, h2⟩ | ⟨h1, h2⟩
        · omega
        · omega
        · exact h2
      have cq := HB.out.cell 2 (v := encU q1.gen) rfl
      have lq := HB.out.lt
      by_cases hz : un q1.gen = 0
      · have hz1 : (un q1.gen == 0) = true := by rw [hz]; rfl
        have HRES : Hid (newT (Lb.decT S) (Lb.decT U) = none) := by show _ = _; unfold newT; rw [← HQ2.out, if_pos hz]
        clear hz HQ2 HQ
        go_wp2_with (first | (refine wpList_store_lab3 (l := lz) (d := .slice none 0 0) _ _ rfl (by rfl) rfl rfl (HBR.out.ext HX.out) rfl rfl ?_; intro wf hgf hbf))
        have HXF := (HXW.out.trans HX.out).grown hgf (HXW.out.trans HX.out).size (fun q hq => by cases hq; exact Nat.le_refl _)
        refine bodyPost_ret (results_cell_tmp1 rfl _ _ rfl (lab_result hbf)) rfl ⟨.slice none 0 0, ?_, ?_, HXF⟩
        · rw [HRES.out]; rfl
        · rw [HRES.out]; exact SliceAt.nil
      · have hz1 : (un q1.gen == 0) = false := by rw [beq_eq_false_iff_ne]; exact hz
        have HRES : Hid (newT (Lb.decT S) (Lb.decT U) = some (q1, q2)) := by show _ = _; unfold newT; rw [← HQ2.out, if_neg hz]
        clear hz HQ2 HQ
        go_wp2_with (first | (refine wpList_loadR 29 _ rfl (by rfl) rfl (LabAt.of_box HB.out).load ?_) | (refine wpList_store_lab3 (l := q1) (d := .slice da q2.length dc) _ _ rfl (by rfl) rfl rfl (HBR.out.ext HX.out) rfl rfl ?_; intro wf hgf hbf))
        have HXF := (HXW.out.trans HX.out).grown hgf (HXW.out.trans HX.out).size (fun q hq => by cases hq; exact Nat.le_refl _)
        refine bodyPost_ret (results_cell_tmp1 rfl _ _ rfl (lab_result hbf)) rfl ⟨.slice da q2.length dc, ?_, ?_, HXF⟩
        · rw [HRES.out]; rfl
        · rw [HRES.out]; exact HD.out.turnV (lab_nbv (HBR.out.ext HX.out)) hgf
theorem new_len {S U : List (List (BitVec 8))} : (labD (newT (Lb.decT S) (Lb.decT U))).2.length ≤ 100000 := by
  have key : ∀ (q : Lb.LX) (T : List (List (BitVec 8))) (i : Int), q.2.length ≤ 100000 → (better1 q (Lb.decT T) i).2.length ≤ 100000 := by
    intro q T i hq
    unfold better1
    split
    · rename_i p hp
      split
      · have := (Lb.fine_of (Lb.dec_iff.1 hp).1).len
        omega
      · exact hq
    · exact hq
  unfold newT
  split
  · exact Nat.zero_le _
  · exact key _ _ _ (key _ _ _ (Nat.zero_le _))
set_option maxRecDepth 100000 in
set_option maxHeartbeats 4000000 in
theorem labelNewest_walk (v v2 : Value) (S U : List (List (BitVec 8))) (w : World) (mS : S.length ≤ maxLen) (mT : U.length ≤ maxLen) (qS : ∀ l, l ∈ S → l.length ≤ maxLen) (qT : ∀ l, l ∈ U → l.length ≤ maxLen) (h : RowsB w v S) (h' : RowsB w v2 U) :
    Calls Try.prog 9 #[v, v2] w fun e w' => e = .returned (.bool true) ∧ Below w.heap.size w w' := by
  have HS := Lib.hid h
  have HU := Lib.hid h'
  have HLG := Lib.hid (fun (w' : World) (e : Ext w w') => long_any v S w' mS qS (h.ext e))
  have HLH := Lib.hid (fun (w' : World) (e : Ext w w') => long_any v2 U w' mT qT (h'.ext e))
  clear h h' mS qS mT qT
  go_enter Try.func9, Try.ntmps9
  go_wp2_with fail
  go_at_call 10
  refine (awake_any _).mono ?_
  rintro e w1 ⟨rfl, hb1⟩
  have HX1 : Hid (Ext w w1) := hb1
  clear hb1
  go_wp2_with fail
  go_at_call 21
  refine (HLG.out _ HX1.out).mono ?_
  rintro e w0 ⟨b, rfl, hb, hx2⟩
  have HX0 : Hid (Ext w w0) := HX1.out.trans hx2
  clear hx2
  cases b with
  | true =>
    go_wp2_with fail
    go_ret
    exact ⟨rfl, HX0.out⟩
  | false =>
   obtain ⟨h50, h200⟩ := hb rfl
   have H200 := Lib.hid h200
   clear hb h200
   go_wp2_with fail
   go_at_call 21
   refine (HLH.out _ HX0.out).mono ?_
   rintro e w2 ⟨b, rfl, hb, hx2⟩
   have HX2 : Hid (Ext w w2) := HX0.out.trans hx2
   clear hx2
   cases b with
   | true =>
    go_wp2_with fail
    go_ret
    exact ⟨rfl, HX2.out⟩
   | false =>
    obtain ⟨k50, k200⟩ := hb rfl
    have K200 := Lib.hid k200
    have HLN := Lib.hid (new_len (S := S) (U := U))
    have HSM := Lib.hid (Lb.dec_same S)
    have HSM2 := Lib.hid (Lb.dec_same U)
    have HNS := Lib.hid (new_same (Lb.decT S) (Lb.decT U) dec_gen dec_gen)
    clear hb k200
    go_wp2_with fail
    go_at_call 27
    refine (newest_any _ _ S U _ (by omega) H200.out (by omega) K200.out (HS.out.ext HX2.out) (HU.out.ext HX2.out)).mono ?_
    rintro e w3 ⟨dv, rfl, hd3, hx3⟩
    have HRD := Lib.hid (fun (w' : World) (e : Ext w w') => rnewest_any v v2 S U w' (by omega) H200.out (by omega) K200.out (HS.out.ext e) (HU.out.ext e))
    rw [← HSM.out, ← HSM2.out, HNS.out] at HRD
    unfold NewEnd at HRD
    generalize errW (newT (Lb.decT S) (Lb.decT U)) = E at *
    generalize labD (newT (Lb.decT S) (Lb.decT U)) = L at *
    obtain ⟨L1, L2⟩ := L
    simp only at hd3 HRD HLN ⊢
    obtain ⟨ad, cd, rfl⟩ := hd3.shape
    have HX3 : Hid (Ext w w3) := HX2.out.trans hx3
    have HD3 := Lib.hid hd3
    clear hd3 hx3
    go_upto_region 6 with (refine wpList_store_lab3 (l := L1) (d := .slice ad L2.length cd) _ _ rfl (by rfl) rfl rfl (BoxAt.new _ _ _) rfl rfl ?_; intro w4 hg4 hb4)
    have hx4 : Ext w3 w4 := (Ext.alloc _ _).grown hg4 (Ext.alloc _ _).size (fun q hq => by cases hq; exact Nat.le_refl _)
    have HX4 : Hid (Ext w w4) := HX3.out.trans hx4
    have HB4 := Lib.hid hb4
    have HD4 := Lib.hid (HD3.out.ext hx4)
    clear hg4 hb4 hx4 HD3
    go_wp2_with fail
    go_at_call 28
    refine (HRD.out _ HX4.out).mono ?_
    rintro e w5 ⟨dv5, rfl, hd5, hx5⟩
    obtain ⟨ad5, cd5, rfl⟩ := hd5.shape
    have HX5 : Hid (Ext w w5) := HX4.out.trans hx5
    have HB5 := Lib.hid (HB4.out.ext hx5)
    have HD45 := Lib.hid (HD4.out.ext hx5)
    have HD5 := Lib.hid hd5
    clear hd5 hx5 HB4 HD4
    go_upto_region 7 with (refine wpList_store_lab3 (l := L1) (d := .slice ad5 L2.length cd5) _ _ rfl (by rfl) rfl rfl (BoxAt.new _ _ _) rfl rfl ?_; intro w6 hg6 hb6)
    have hx6 : Ext w5 w6 := (Ext.alloc _ _).grown hg6 (Ext.alloc _ _).size (fun q hq => by cases hq; exact Nat.le_refl _)
    have HX6 : Hid (Ext w w6) := HX5.out.trans hx6
    have HB6 := Lib.hid hb6
    have HB56 := Lib.hid (HB5.out.ext hx6)
    have HSA := Lib.hid (same_any L1 L1 (.slice ad L2.length cd) (.slice ad5 L2.length cd5) L2 L2 w6 HLN.out HLN.out (HD45.out.ext hx6) (HD5.out.ext hx6))
    rw [sameB_refl] at HSA
    have q1 : ((E : Int) == (E : Int)) = true := by simp
    clear hg6 hb6 hx6
    go_wp2_with (first | (refine wpList_loadR 29 _ rfl (by rfl) rfl (LabAt.of_box HB56.out).load ?_) | (refine wpList_loadR 29 _ rfl (by rfl) rfl (LabAt.of_box HB6.out).load ?_))
    go_at_call 24
    refine HSA.out.mono ?_
    rintro e w7 ⟨rfl, hx7⟩
    have HX7 : Hid (Ext w w7) := HX6.out.trans hx7
    clear hx7
    go_wp2_with fail
    go_ret
    exact ⟨rfl, HX7.out⟩
end Go.Proofs.Ythjcdikpomlpmaa
