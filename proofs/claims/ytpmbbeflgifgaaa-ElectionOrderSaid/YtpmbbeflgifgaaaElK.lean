/-
  Chapter 31 (election): the reference's votes.
-/
import Derived.Test.YtpmbbeflgifgaaaElR
import Derived.Test.YtpmbbeflgifgaaaElE
import Derived.Test.YtpmbbeflgifgaaaElT
import Derived.Test.YtpmbbeflgifgaaaLbG
import Derived.Test.YtpmbbeflgifgaaaLbJ
namespace Go.Proofs.Ytpmbbeflgifgaaa
open Go.RowKit
set_option linter.unusedVariables false

def hitN (ls : List LD) (rd : List Bool) (m j : Nat) : Bool := candN ls rd j && eqN ls j m
def votK (ls : List LD) (rd : List Bool) (m k : Nat) : Nat := ((List.range k).filter (hitN ls rd m)).length
def lowK (ls : List LD) (rd : List Bool) (m k : Nat) : Nat := (List.range k).foldl (fun a j => if hitN ls rd m j && decide (diskN ls j < a) then diskN ls j else a) 60
theorem votK_next (ls : List LD) (rd : List Bool) (m k : Nat) : votK ls rd m (k + 1) = votK ls rd m k + if hitN ls rd m k then 1 else 0 := by
  unfold votK
  rw [List.range_succ, List.filter_append, List.length_append]
  cases h : hitN ls rd m k <;> simp [h]
theorem lowK_next (ls : List LD) (rd : List Bool) (m k : Nat) : lowK ls rd m (k + 1) = if hitN ls rd m k && decide (diskN ls k < lowK ls rd m k) then diskN ls k else lowK ls rd m k := by
  unfold lowK
  rw [List.range_succ, List.foldl_append]
  rfl
theorem votK_le (ls : List LD) (rd : List Bool) (m k : Nat) : votK ls rd m k ≤ k := Nat.le_trans (List.length_filter_le _ _) (by rw [List.length_range]; exact Nat.le_refl k)
theorem lowK_le (ls : List LD) (rd : List Bool) (m k : Nat) : lowK ls rd m k ≤ 60 := by
  induction k with
  | zero => exact Nat.le_refl _
  | succ k ih =>
    rw [lowK_next]
    split
    · rename_i h
      rw [Bool.and_eq_true, decide_eq_true_eq] at h
      omega
    · exact ih
def VotesEnd (w : World) (a b : Nat) (e : Ending) (w' : World) : Prop := e = .returned (.tuple #[encN a, encN b]) ∧ Ext w w'
set_option maxRecDepth 100000 in
set_option maxHeartbeats 4000000 in
theorem votes_any (vl vr dv : Value) (ls : List LD) (rd : List Bool) (m : Nat) (w : World) (hn : ls.length ≤ 900) (hr : rd.length = ls.length) (hdl : ∀ i, (ldN ls i).2.length ≤ 100000)
    (h : LabsAt w vl ls) (hrd : SliceAt Value.bool w vr rd) (hm : SliceAt Value.bool w dv (ldN ls m).2) :
    Calls Try.prog 36 #[vl, vr, labV (ldN ls m).1 dv] w (VotesEnd w (votK ls rd m ls.length) (lowK ls rd m ls.length)) := by
  obtain ⟨al, cl, rfl⟩ := h.shape
  obtain ⟨ar, cr, rfl⟩ := hrd.shape
  rw [hr] at hrd ⊢
  have HL := Lib.hid h
  have HR := Lib.hid hrd
  have HM := Lib.hid hm
  obtain ⟨n, hnn⟩ : ∃ n, ls.length = n := ⟨_, rfl⟩
  have HN1 := Lib.hid hnn
  have HN2 := Lib.hid (hr.trans hnn)
  rw [hnn] at HR HL hn ⊢
  clear h hrd hm hnn hr
  go_enter Try.func36, Try.ntmps36
  go_wp2_with fail
  have HB1 : Hid (BoxAt (w.alloc (.cells (labA (ldN ls m).1 dv) 32)) w.heap.size (labA (ldN ls m).1 dv) 32) := BoxAt.new _ _ _
  have HX1 : Hid (Ext w (w.alloc (.cells (labA (ldN ls m).1 dv) 32))) := Ext.alloc _ _
  go_loopw [8, 9, 10] (fun ct lo it wr => ∃ i : Nat, i ≤ n ∧ it = .int .i64 i ∧ ct = .int .i64 (votK ls rd m i) ∧ lo = .int .i64 (lowK ls rd m i) ∧ Hid (BoxAt wr w.heap.size (labA (ldN ls m).1 dv) 32) ∧ Hid (Ext w wr)) (fun _ _ it _ => n - (intOf it).toNat)
  case atStart => exact ⟨0, Nat.zero_le _, rfl, rfl, rfl, HB1, HX1⟩
  case round =>
    obtain ⟨i, hi, rfl, rfl, rfl, HB, HX⟩ := hrel
    have hv := votK_le ls rd m i
    have hlo := lowK_le ls rd m i
    by_cases hlt : i < n
    · have hin : (i : Int) < (n : Int) := by omega
      have hi0 : (0 : Int) ≤ (i : Int) := by omega
      have hil : i < ls.length := by rw [HN1.out]; exact hlt
      have hir : i < rd.length := by rw [HN2.out]; exact hlt
      obtain ⟨bl, ol, rfl, dvi, hA, hD⟩ := (HL.out.ext HX.out).at i hil
      obtain ⟨br, or_, rfl, hbr, hcr⟩ := (HR.out.ext HX.out).get i hir
      rw [← getD_in (d := false) hir] at hcr
      have HV := Lib.hid (fun w' (e : Ext wr w') => rvalid_any (ldN ls i).1 _ _ w' (hdl i) (hD.ext e))
      have HE : Hid (∀ w', Ext wr w' → Calls Try.prog 15 #[labV (ldN ls i).1 dvi, labV (ldN ls m).1 dv] w' (BoolEnd w' (eqN ls i m))) := fun w' e => requal_any _ _ _ _ _ _ w' (hdl i) (hdl m) (hD.ext e) ((HM.out.ext HX.out).ext e)
      have HVN := Lib.hid (votK_next ls rd m i)
      have HLN := Lib.hid (lowK_next ls rd m i)
      have HH : Hid (hitN ls rd m i = ((rd.getD i false && validL (ldN ls i).1 (ldN ls i).2) && eqN ls i m)) := rfl
      have HA := Lib.hid hA
      have hd0 : hitN ls rd m i = true → (ldN ls i).1.disk = (diskN ls i : Int) := fun e => by
        have := cand_disk (ls := ls) (rd := rd) (i := i) (by unfold hitN at e; rw [Bool.and_eq_true] at e; exact e.1)
        unfold diskN; omega
      have HD0 := Lib.hid hd0
      have c1 := hA.cell 1 (v := .int .i64 (ldN ls i).1.disk) rfl
      have hblt := hA.2
      generalize votK ls rd m i = v0 at *
      generalize lowK ls rd m i = lo0 at *
      generalize hitN ls rd m i = hit at *
      generalize eqN ls i m = E at *
      generalize diskN ls i = dk at *
      generalize validL (ldN ls i).1 (ldN ls i).2 = b at *
      generalize rd.getD i false = r at *
      generalize hLi : (ldN ls i).1 = L at *
      clear hA hD hd0 hLi
      go_wp2_with fail
      refine wp_region_ext [(0, true), (1, true), (2, true), (3, true), (4, true), (5, true), (6, true), (7, true), (8, true), (9, false), (10, true), (11, true), (12, true), (13, true), (14, true), (15, true), (16, true), (17, false), (18, true)] (by kernel_rfl) (by kernel_rfl) ?_
      iterate 5 (first
       | (refine ext_move rfl rfl (by rfl) (by rfl) ?_; simp only [Act.put, List.setIfInBounds_toArray, List.set_cons_zero, List.set_cons_succ])
       | (refine ext_assign rfl rfl (by rfl) (by rfl) ?_; simp only [Act.put, List.setIfInBounds_toArray, List.set_cons_zero, List.set_cons_succ])
       | (refine ext_pick_t rfl rfl (by rfl) (by rfl) (by rfl) ?_; simp only [Act.put, List.setIfInBounds_toArray, List.set_cons_zero, List.set_cons_succ])
       | (refine ext_pick_f rfl rfl (by rfl) (by rfl) (by rfl) ?_; simp only [Act.put, List.setIfInBounds_toArray, List.set_cons_zero, List.set_cons_succ])
       | (apply ext_take rfl (by rfl)
          · intro w' hS
            have hSc := hS.cells
            (try simp only [World.size_drew, World.cell?_drew] at hSc)
            go_simp
            (try simp (disch := omega) only [i64_id, u64_id, ↓IntWalk.iteOmega, Int.tdiv_eq_ediv_of_nonneg, Int.tmod_eq_emod_of_nonneg])
            try rfl
          simp only [Act.put, List.setIfInBounds_toArray, List.set_cons_zero, List.set_cons_succ])
       | (refine ext_pass rfl (by rfl) ?_; simp only [Act.put, List.setIfInBounds_toArray, List.set_cons_zero, List.set_cons_succ]))
      cases r with
      | false =>
        iterate 4 (first
         | (refine ext_move rfl rfl (by rfl) (by rfl) ?_; simp only [Act.put, List.setIfInBounds_toArray, List.set_cons_zero, List.set_cons_succ])
         | (refine ext_assign rfl rfl (by rfl) (by rfl) ?_; simp only [Act.put, List.setIfInBounds_toArray, List.set_cons_zero, List.set_cons_succ])
         | (refine ext_pick_t rfl rfl (by rfl) (by rfl) (by rfl) ?_; simp only [Act.put, List.setIfInBounds_toArray, List.set_cons_zero, List.set_cons_succ])
         | (refine ext_pick_f rfl rfl (by rfl) (by rfl) (by rfl) ?_; simp only [Act.put, List.setIfInBounds_toArray, List.set_cons_zero, List.set_cons_succ])
         | (apply ext_take rfl (by rfl)
            · intro w' hS
              have hSc := hS.cells
              (try simp only [World.size_drew, World.cell?_drew] at hSc)
              go_simp
              (try simp (disch := omega) only [i64_id, u64_id, ↓IntWalk.iteOmega, Int.tdiv_eq_ediv_of_nonneg, Int.tmod_eq_emod_of_nonneg])
              try rfl
            simp only [Act.put, List.setIfInBounds_toArray, List.set_cons_zero, List.set_cons_succ])
         | (refine ext_pass rfl (by rfl) ?_; simp only [Act.put, List.setIfInBounds_toArray, List.set_cons_zero, List.set_cons_succ]))
        (refine ext_passE rfl (by rfl) (by first | (with_reducible exact Ext.refl _) | (with_reducible exact Ext.drew _)) ?_; simp only [Act.put, List.setIfInBounds_toArray, List.set_cons_zero, List.set_cons_succ])
        iterate 7 (first
         | (refine ext_move rfl rfl (by rfl) (by rfl) ?_; simp only [Act.put, List.setIfInBounds_toArray, List.set_cons_zero, List.set_cons_succ])
         | (refine ext_assign rfl rfl (by rfl) (by rfl) ?_; simp only [Act.put, List.setIfInBounds_toArray, List.set_cons_zero, List.set_cons_succ])
         | (refine ext_pick_t rfl rfl (by rfl) (by rfl) (by rfl) ?_; simp only [Act.put, List.setIfInBounds_toArray, List.set_cons_zero, List.set_cons_succ])
         | (refine ext_pick_f rfl rfl (by rfl) (by rfl) (by rfl) ?_; simp only [Act.put, List.setIfInBounds_toArray, List.set_cons_zero, List.set_cons_succ])
         | (apply ext_take rfl (by rfl)
            · intro w' hS
              have hSc := hS.cells
              (try simp only [World.size_drew, World.cell?_drew] at hSc)
              go_simp
              (try simp (disch := omega) only [i64_id, u64_id, ↓IntWalk.iteOmega, Int.tdiv_eq_ediv_of_nonneg, Int.tmod_eq_emod_of_nonneg])
              try rfl
            simp only [Act.put, List.setIfInBounds_toArray, List.set_cons_zero, List.set_cons_succ])
         | (refine ext_pass rfl (by rfl) ?_; simp only [Act.put, List.setIfInBounds_toArray, List.set_cons_zero, List.set_cons_succ]))
        (refine ext_passE rfl (by rfl) (by first | (with_reducible exact Ext.refl _) | (with_reducible exact Ext.drew _)) ?_; simp only [Act.put, List.setIfInBounds_toArray, List.set_cons_zero, List.set_cons_succ])
        (first
         | (refine ext_move rfl rfl (by rfl) (by rfl) ?_; simp only [Act.put, List.setIfInBounds_toArray, List.set_cons_zero, List.set_cons_succ])
         | (refine ext_assign rfl rfl (by rfl) (by rfl) ?_; simp only [Act.put, List.setIfInBounds_toArray, List.set_cons_zero, List.set_cons_succ])
         | (refine ext_pick_t rfl rfl (by rfl) (by rfl) (by rfl) ?_; simp only [Act.put, List.setIfInBounds_toArray, List.set_cons_zero, List.set_cons_succ])
         | (refine ext_pick_f rfl rfl (by rfl) (by rfl) (by rfl) ?_; simp only [Act.put, List.setIfInBounds_toArray, List.set_cons_zero, List.set_cons_succ])
         | (apply ext_take rfl (by rfl)
            · intro w' hS
              have hSc := hS.cells
              (try simp only [World.size_drew, World.cell?_drew] at hSc)
              go_simp
              (try simp (disch := omega) only [i64_id, u64_id, ↓IntWalk.iteOmega, Int.tdiv_eq_ediv_of_nonneg, Int.tmod_eq_emod_of_nonneg])
              try rfl
            simp only [Act.put, List.setIfInBounds_toArray, List.set_cons_zero, List.set_cons_succ])
         | (refine ext_pass rfl (by rfl) ?_; simp only [Act.put, List.setIfInBounds_toArray, List.set_cons_zero, List.set_cons_succ]))
        refine ext_nil ?_
        go_wp2_with fail
        go_roundw
        case rel => exact ⟨i + 1, by omega, by go_num, by rw [HVN.out, HH.out]; rfl, by rw [HLN.out, HH.out]; rfl, HB.out.ext (Ext.drew _), HX.out.trans (Ext.drew _)⟩
        case measure => simp [intOf]; omega
      | true =>
        rw [Bool.true_and] at HH
        iterate 3 (first
         | (refine ext_move rfl rfl (by rfl) (by rfl) ?_; simp only [Act.put, List.setIfInBounds_toArray, List.set_cons_zero, List.set_cons_succ])
         | (refine ext_assign rfl rfl (by rfl) (by rfl) ?_; simp only [Act.put, List.setIfInBounds_toArray, List.set_cons_zero, List.set_cons_succ])
         | (refine ext_pick_t rfl rfl (by rfl) (by rfl) (by rfl) ?_; simp only [Act.put, List.setIfInBounds_toArray, List.set_cons_zero, List.set_cons_succ])
         | (refine ext_pick_f rfl rfl (by rfl) (by rfl) (by rfl) ?_; simp only [Act.put, List.setIfInBounds_toArray, List.set_cons_zero, List.set_cons_succ])
         | (apply ext_take rfl (by rfl)
            · intro w' hS
              have hSc := hS.cells
              (try simp only [World.size_drew, World.cell?_drew] at hSc)
              go_simp
              (try simp (disch := omega) only [i64_id, u64_id, ↓IntWalk.iteOmega, Int.tdiv_eq_ediv_of_nonneg, Int.tmod_eq_emod_of_nonneg])
              try rfl
            simp only [Act.put, List.setIfInBounds_toArray, List.set_cons_zero, List.set_cons_succ])
         | (refine ext_pass rfl (by rfl) ?_; simp only [Act.put, List.setIfInBounds_toArray, List.set_cons_zero, List.set_cons_succ]))
        (refine ext_load 32 rfl (by rfl) rfl (by rfl) (fun w' hS => (HA.out.ext hS).load) ?_; simp only [Act.put, List.setIfInBounds_toArray, List.set_cons_zero, List.set_cons_succ])
        refine ext_do rfl (by rfl) (fun K hK => ?_)
        go_simp
        go_at_call 16
        refine (HV.out _ (Ext.drew _)).mono ?_
        rintro e w2 ⟨rfl, hb2⟩
        have HX2 : Hid (Ext wr w2) := (Ext.drew _).trans hb2
        refine hK _ _ HX2.out ?_
        clear hK K hb2
        (try simp only [Act.put, List.setIfInBounds_toArray, List.set_cons_zero, List.set_cons_succ])
        cases b with
        | false =>
          iterate 7 (first
           | (refine ext_move rfl rfl (by rfl) (by rfl) ?_; simp only [Act.put, List.setIfInBounds_toArray, List.set_cons_zero, List.set_cons_succ])
           | (refine ext_assign rfl rfl (by rfl) (by rfl) ?_; simp only [Act.put, List.setIfInBounds_toArray, List.set_cons_zero, List.set_cons_succ])
           | (refine ext_pick_t rfl rfl (by rfl) (by rfl) (by rfl) ?_; simp only [Act.put, List.setIfInBounds_toArray, List.set_cons_zero, List.set_cons_succ])
           | (refine ext_pick_f rfl rfl (by rfl) (by rfl) (by rfl) ?_; simp only [Act.put, List.setIfInBounds_toArray, List.set_cons_zero, List.set_cons_succ])
           | (apply ext_take rfl (by rfl)
              · intro w' hS
                have hSc := hS.cells
                (try simp only [World.size_drew, World.cell?_drew] at hSc)
                go_simp
                (try simp (disch := omega) only [i64_id, u64_id, ↓IntWalk.iteOmega, Int.tdiv_eq_ediv_of_nonneg, Int.tmod_eq_emod_of_nonneg])
                try rfl
              simp only [Act.put, List.setIfInBounds_toArray, List.set_cons_zero, List.set_cons_succ])
           | (refine ext_pass rfl (by rfl) ?_; simp only [Act.put, List.setIfInBounds_toArray, List.set_cons_zero, List.set_cons_succ]))
          (refine ext_passE rfl (by rfl) (by first | (with_reducible exact Ext.refl _) | (with_reducible exact Ext.drew _)) ?_; simp only [Act.put, List.setIfInBounds_toArray, List.set_cons_zero, List.set_cons_succ])
          (first
           | (refine ext_move rfl rfl (by rfl) (by rfl) ?_; simp only [Act.put, List.setIfInBounds_toArray, List.set_cons_zero, List.set_cons_succ])
           | (refine ext_assign rfl rfl (by rfl) (by rfl) ?_; simp only [Act.put, List.setIfInBounds_toArray, List.set_cons_zero, List.set_cons_succ])
           | (refine ext_pick_t rfl rfl (by rfl) (by rfl) (by rfl) ?_; simp only [Act.put, List.setIfInBounds_toArray, List.set_cons_zero, List.set_cons_succ])
           | (refine ext_pick_f rfl rfl (by rfl) (by rfl) (by rfl) ?_; simp only [Act.put, List.setIfInBounds_toArray, List.set_cons_zero, List.set_cons_succ])
           | (apply ext_take rfl (by rfl)
              · intro w' hS
                have hSc := hS.cells
                (try simp only [World.size_drew, World.cell?_drew] at hSc)
                go_simp
                (try simp (disch := omega) only [i64_id, u64_id, ↓IntWalk.iteOmega, Int.tdiv_eq_ediv_of_nonneg, Int.tmod_eq_emod_of_nonneg])
                try rfl
              simp only [Act.put, List.setIfInBounds_toArray, List.set_cons_zero, List.set_cons_succ])
           | (refine ext_pass rfl (by rfl) ?_; simp only [Act.put, List.setIfInBounds_toArray, List.set_cons_zero, List.set_cons_succ]))
          refine ext_nil ?_
          go_wp2_with fail
          go_roundw
          case rel => exact ⟨i + 1, by omega, by go_num, by rw [HVN.out, HH.out]; rfl, by rw [HLN.out, HH.out]; rfl, HB.out.ext HX2.out, HX.out.trans HX2.out⟩
          case measure => simp [intOf]; omega
        | true =>
          rw [Bool.true_and] at HH
          have HA2 := Lib.hid (HA.out.ext HX2.out)
          have HB2 := Lib.hid (HB.out.ext HX2.out)
          iterate 5 (first
           | (refine ext_move rfl rfl (by rfl) (by rfl) ?_; simp only [Act.put, List.setIfInBounds_toArray, List.set_cons_zero, List.set_cons_succ])
           | (refine ext_assign rfl rfl (by rfl) (by rfl) ?_; simp only [Act.put, List.setIfInBounds_toArray, List.set_cons_zero, List.set_cons_succ])
           | (refine ext_pick_t rfl rfl (by rfl) (by rfl) (by rfl) ?_; simp only [Act.put, List.setIfInBounds_toArray, List.set_cons_zero, List.set_cons_succ])
           | (refine ext_pick_f rfl rfl (by rfl) (by rfl) (by rfl) ?_; simp only [Act.put, List.setIfInBounds_toArray, List.set_cons_zero, List.set_cons_succ])
           | (apply ext_take rfl (by rfl)
              · intro w' hS
                have hSc := hS.cells
                (try simp only [World.size_drew, World.cell?_drew] at hSc)
                go_simp
                (try simp (disch := omega) only [i64_id, u64_id, ↓IntWalk.iteOmega, Int.tdiv_eq_ediv_of_nonneg, Int.tmod_eq_emod_of_nonneg])
                try rfl
              simp only [Act.put, List.setIfInBounds_toArray, List.set_cons_zero, List.set_cons_succ])
           | (refine ext_pass rfl (by rfl) ?_; simp only [Act.put, List.setIfInBounds_toArray, List.set_cons_zero, List.set_cons_succ]))
          (refine ext_load 32 rfl (by rfl) rfl (by rfl) (fun w' hS => (HA2.out.ext hS).load) ?_; simp only [Act.put, List.setIfInBounds_toArray, List.set_cons_zero, List.set_cons_succ])
          (refine ext_load 32 rfl (by rfl) rfl (by rfl) (fun w' hS => (LabAt.of_box (HB2.out.ext hS)).load) ?_; simp only [Act.put, List.setIfInBounds_toArray, List.set_cons_zero, List.set_cons_succ])
          refine ext_do rfl (by rfl) (fun K hK => ?_)
          go_simp
          go_at_call 15
          refine (HE.out _ HX2.out).mono ?_
          rintro e w3 ⟨rfl, hb3⟩
          have HX3 : Hid (Ext wr w3) := HX2.out.trans hb3
          refine hK _ _ hb3 ?_
          clear hK K hb3
          (try simp only [Act.put, List.setIfInBounds_toArray, List.set_cons_zero, List.set_cons_succ])
          (first
           | (refine ext_move rfl rfl (by rfl) (by rfl) ?_; simp only [Act.put, List.setIfInBounds_toArray, List.set_cons_zero, List.set_cons_succ])
           | (refine ext_assign rfl rfl (by rfl) (by rfl) ?_; simp only [Act.put, List.setIfInBounds_toArray, List.set_cons_zero, List.set_cons_succ])
           | (refine ext_pick_t rfl rfl (by rfl) (by rfl) (by rfl) ?_; simp only [Act.put, List.setIfInBounds_toArray, List.set_cons_zero, List.set_cons_succ])
           | (refine ext_pick_f rfl rfl (by rfl) (by rfl) (by rfl) ?_; simp only [Act.put, List.setIfInBounds_toArray, List.set_cons_zero, List.set_cons_succ])
           | (apply ext_take rfl (by rfl)
              · intro w' hS
                have hSc := hS.cells
                (try simp only [World.size_drew, World.cell?_drew] at hSc)
                go_simp
                (try simp (disch := omega) only [i64_id, u64_id, ↓IntWalk.iteOmega, Int.tdiv_eq_ediv_of_nonneg, Int.tmod_eq_emod_of_nonneg])
                try rfl
              simp only [Act.put, List.setIfInBounds_toArray, List.set_cons_zero, List.set_cons_succ])
           | (refine ext_pass rfl (by rfl) ?_; simp only [Act.put, List.setIfInBounds_toArray, List.set_cons_zero, List.set_cons_succ]))
          refine ext_nil ?_
          rw [HH.out] at HVN HLN HD0
          clear HH
          cases E with
          | false =>
            go_wp2_with fail
            go_roundw
            case rel => exact ⟨i + 1, by omega, by go_num, by rw [HVN.out]; rfl, by rw [HLN.out]; rfl, HB.out.ext HX3.out, HX.out.trans HX3.out⟩
            case measure => simp [intOf]; omega
          | true =>
            rw [if_pos rfl] at HVN
            rw [Bool.true_and] at HLN
            have hdk := HD0.out rfl
            rw [hdk] at c1
            have c3 := (HX3.out.cell _ _ hblt).trans c1
            have hb3 := Nat.lt_of_lt_of_le hblt HX3.out.size
            by_cases hlk : dk < lo0
            · have hlki : (dk : Int) < (lo0 : Int) := by omega
              rw [if_pos (by simpa using hlk)] at HLN
              go_wp2_with fail
              go_roundw
              case rel => exact ⟨i + 1, by omega, by go_num, by rw [HVN.out]; go_num, by rw [HLN.out], HB.out.ext HX3.out, HX.out.trans HX3.out⟩
              case measure => simp [intOf]; omega
            · have hlki : ¬ (dk : Int) < (lo0 : Int) := by omega
              rw [if_neg (by simpa using hlk)] at HLN
              go_wp2_with fail
              go_roundw
              case rel => exact ⟨i + 1, by omega, by go_num, by rw [HVN.out]; go_num, by rw [HLN.out], HB.out.ext HX3.out, HX.out.trans HX3.out⟩
              case measure => simp [intOf]; omega
    · have hin : i = n := by omega
      subst hin
      have hin2 : ¬ ((i : Int) < (i : Int)) := by omega
      go_wp2_with fail
      go_ret2
      exact ⟨rfl, HX.out⟩
end Go.Proofs.Ytpmbbeflgifgaaa
