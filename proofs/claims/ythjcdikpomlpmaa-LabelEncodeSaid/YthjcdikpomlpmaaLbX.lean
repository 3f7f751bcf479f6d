/-
  Chapter 30 (label): the walks of LabelEncode and LabelValid.
-/
import Derived.Test.YthjcdikpomlpmaaLbW
import Derived.Test.YthjcdikpomlpmaaEq
namespace Go.Proofs.Ythjcdikpomlpmaa
open Go.ChangeShapes Go.WideShapes Go.ChangeAt Go.RowKit
set_option linter.unusedVariables false

theorem enc_short {l : Lab} {x : List Bool} : (encR l x).length ≤ 4 ∧ ∀ i (h : i < (encR l x).length), (encR l x)[i].length ≤ 64 := by
  cases hv : validL l x with
  | false =>
    have e : encR l x = [] := by unfold encR; rw [hv]; rfl
    rw [e]
    exact ⟨by simp, fun i h => by simp at h⟩
  | true =>
    have e : encR l x = Lb.encL l x := by unfold encR; rw [hv]; rfl
    rw [e]
    have F := Lb.fine_of hv
    refine ⟨(Lb.enc_len F).2, fun i h => ?_⟩
    have h2 : i < Lb.partsN (Lb.payL l x) := by
      have := h
      unfold Lb.encL at this
      rwa [Lb.cutL_len] at this
    have h4 : (Lb.encL l x)[i]? = some (Lb.sectorL l.gen.toNat l.disk.toNat i (Lb.partsN (Lb.payL l x)) (Lb.partAt (Lb.payL l x) i)) := Lb.cutL_get (g := l.gen.toNat) (d := l.disk.toNat) h2
    rw [List.getElem?_eq_getElem h] at h4
    rw [Option.some.inj h4]
    exact Lb.sector_len F h2
set_option maxRecDepth 100000 in
set_option maxHeartbeats 4000000 in
theorem labelEncode_walk (l : Lab) (dv : Value) (x : List Bool) (w : World) (hm : x.length ≤ maxLen) (h : SliceAt Value.bool w dv x) :
    Calls Try.prog 3 #[labV l dv] w fun e w' => e = .returned (.bool true) ∧ Below w.heap.size w w' := by
  have HE := Lib.hid (fun (w' : World) (e : Ext w w') (hl : x.length ≤ 100000) => encode_any l dv x w' hl (h.ext e))
  have HR := Lib.hid (fun (w' : World) (e : Ext w w') (hl : x.length ≤ 100000) => rencode_any l dv x w' hl (h.ext e))
  obtain ⟨ad, cd, rfl⟩ := h.shape
  have hes := enc_short (l := l) (x := x)
  unfold maxLen at hm
  obtain ⟨n, hn⟩ : ∃ n, x.length = n := ⟨_, rfl⟩
  rw [hn] at HE HR hm ⊢
  have HB1 : Hid (BoxAt (w.alloc (.cells (labA l (.slice ad n cd)) 29)) w.heap.size (labA l (.slice ad n cd)) 29) := BoxAt.new _ _ _
  have HX1 : Hid (Ext w (w.alloc (.cells (labA l (.slice ad n cd)) 29))) := Ext.alloc _ _
  clear h hn
  go_enter Try.func3, Try.ntmps3
  go_upto_region 1 with fail
  generalize w.alloc (.cells (labA l (.slice ad n cd)) 29) = w1 at *
  go_wp2_with fail
  go_at_call 10
  refine (awake_any _).mono ?_
  rintro e w2 ⟨rfl, hx2⟩
  have HX2 : Hid (Ext w w2) := HX1.out.trans hx2
  have HB2 := Lib.hid (HB1.out.ext hx2)
  clear hx2 HB1 HX1
  have m15 := HB2.out.cell 15 (v := .slice ad n cd) rfl
  have hgl := HB2.out.lt
  by_cases hbig : 100 < n
  · have d1 : decide ((100 : Int) < (n : Int)) = true := by rw [decide_eq_true_iff]; omega
    have d2 : decide (100 < n) = true := by rw [decide_eq_true_iff]; omega
    clear hbig
    go_wp2_with fail
    go_ret
    exact ⟨rfl, HX2.out⟩
  · have d1 : decide ((100 : Int) < (n : Int)) = false := by rw [decide_eq_false_iff_not]; omega
    have d2 : decide (100 < n) = false := by rw [decide_eq_false_iff_not]; omega
    have hn1 : n ≤ 100000 := by omega
    clear hbig
    go_wp2_with (refine wpList_loadR 29 _ rfl (by rfl) rfl (LabAt.of_box HB2.out).load ?_)
    go_at_call 11
    refine (HE.out _ HX2.out hn1).mono ?_
    rintro e w3 ⟨v3, rfl, ho3, hx3⟩
    have HR3 := Lib.hid ho3.rows
    have HX3 : Hid (Ext w w3) := HX2.out.trans hx3
    have HB3 := Lib.hid (HB2.out.ext hx3)
    clear ho3 hx3 m15 hgl
    go_wp2_with (refine wpList_loadR 29 _ rfl (by rfl) rfl (LabAt.of_box HB3.out).load ?_)
    go_at_call 12
    refine (HR.out _ HX3.out hn1).mono ?_
    rintro e w4 ⟨v4, rfl, ho4, hx4⟩
    have HR4 := Lib.hid ho4.rows
    have HQ3 := Lib.hid (HR3.out.ext hx4)
    have HX4 : Hid (Ext w w4) := HX3.out.trans hx4
    clear ho4 hx4
    obtain ⟨a3, c3, rfl, _⟩ := HR3.out.shape
    obtain ⟨a4, c4, rfl, _⟩ := HR4.out.shape
    generalize encN' l x = E at *
    generalize encR l x = S at *
    obtain ⟨N, hN⟩ : ∃ N, S.length = N := ⟨_, rfl⟩
    have HN := Lib.hid hN
    rw [hN] at HR4 HQ3 ⊢
    have HES := Lib.hid hes.2
    have hN4 : N ≤ 4 := by rw [← hN]; exact hes.1
    have e1 : ((E : Int) == (E : Int)) = true := by simp
    have e2 : ((E : Int) != (E : Int)) = false := by simp
    have e3 : ((N : Int) == (N : Int)) = true := by simp
    have e4 : ((N : Int) != (N : Int)) = false := by simp
    have e5 : decide ((6 : Int) < (N : Int)) = false := by rw [decide_eq_false_iff_not]; omega
    have e6 : decide (6 < N) = false := by rw [decide_eq_false_iff_not]; omega
    clear hes hN HR3
    go_wp2_with fail
    clear e1 e2 e3 e4 e5 e6 d1 d2
    go_loopw [41] (fun it wr => ∃ i : Nat, i ≤ N ∧ it = .int .i64 i ∧ Hid (Ext w4 wr)) (fun it _ => N - (intOf it).toNat)
    case atStart => exact ⟨0, Nat.zero_le _, rfl, Lib.hid (Ext.refl _)⟩
    case round =>
      obtain ⟨i, hi, rfl, HX⟩ := hrel
      by_cases hlt : i < N
      · have hin : (i : Int) < (N : Int) := by omega
        have hi0 : (0 : Int) ≤ (i : Int) := by omega
        have hil : i < S.length := by rw [HN.out]; exact hlt
        obtain ⟨b3, o3, rfl, hb3, u3, k3, hc3, hs3⟩ := (HQ3.out.ext HX.out).get i hil
        obtain ⟨b4, o4, rfl, hb4, u4, k4, hc4, hs4⟩ := (HR4.out.ext HX.out).get i hil
        have hq64 := HES.out i hil
        have HS3 := Lib.hid hs3
        have HS4 := Lib.hid hs4
        generalize S[i] = q at *
        have hne : ((strB q).toList != (strB q).toList) = false := by simp
        obtain ⟨z, hz⟩ : ∃ z, q.length = z := ⟨_, rfl⟩
        rw [hz] at HS3 HS4 hc3 hc4 hq64
        have e5 : decide ((64 : Int) < (z : Int)) = false := by rw [decide_eq_false_iff_not]; omega
        have e6 : decide (64 < z) = false := by rw [decide_eq_false_iff_not]; omega
        clear hs3 hs4 hz
        go_wp2_with fail
        refine wp_region_ext [(0, true), (1, true), (2, true), (3, true), (4, true), (5, true), (6, true), (7, true), (8, true), (9, true), (10, true), (11, true), (12, true), (13, true), (14, true), (15, true), (16, true), (17, true), (18, true)] (by kernel_rfl) (by kernel_rfl) ?_
        iterate 4 (first
         | (refine ext_move rfl rfl (by rfl) (by rfl) ?_; simp only [Act.put, List.setIfInBounds_toArray, List.set_cons_zero, List.set_cons_succ])
         | (refine ext_assign rfl rfl (by rfl) (by rfl) ?_; simp only [Act.put, List.setIfInBounds_toArray, List.set_cons_zero, List.set_cons_succ])
         | (refine ext_pick_t rfl rfl (by rfl) (by rfl) (by rfl) ?_; simp only [Act.put, List.setIfInBounds_toArray, List.set_cons_zero, List.set_cons_succ])
         | (refine ext_pick_f rfl rfl (by rfl) (by rfl) (by rfl) ?_; simp only [Act.put, List.setIfInBounds_toArray, List.set_cons_zero, List.set_cons_succ])
         | (apply ext_take rfl (by rfl)
            · intro w' hS
              have hSc := hS.cells
              (try simp only [World.size_drew, World.cell?_drew] at hSc)
              go_simp
              (try simp (disch := omega) only [i64_id, u64_id, ↓IntWalk.iteOmega, Int.tdiv_eq_ediv_of_nonneg, Int.tmod_eq_emod_of_nonneg])
              try rfl
            simp only [Act.put, List.setIfInBounds_toArray, List.set_cons_zero, List.set_cons_succ])
         | (refine ext_pass rfl (by rfl) ?_; simp only [Act.put, List.setIfInBounds_toArray, List.set_cons_zero, List.set_cons_succ]))
        (apply ext_take rfl (by rfl)
         · intro w' hS
           have hcv := run_str (P := Try.prog) Try.underlying35 Try.underlying5 Try.underlying9 w' _ _ (SliceAt.ext HS3.out hS)
           go_simp
           try rfl
         simp only [Act.put, List.setIfInBounds_toArray, List.set_cons_zero, List.set_cons_succ])
        iterate 4 (first
         | (refine ext_move rfl rfl (by rfl) (by rfl) ?_; simp only [Act.put, List.setIfInBounds_toArray, List.set_cons_zero, List.set_cons_succ])
         | (refine ext_assign rfl rfl (by rfl) (by rfl) ?_; simp only [Act.put, List.setIfInBounds_toArray, List.set_cons_zero, List.set_cons_succ])
         | (refine ext_pick_t rfl rfl (by rfl) (by rfl) (by rfl) ?_; simp only [Act.put, List.setIfInBounds_toArray, List.set_cons_zero, List.set_cons_succ])
         | (refine ext_pick_f rfl rfl (by rfl) (by rfl) (by rfl) ?_; simp only [Act.put, List.setIfInBounds_toArray, List.set_cons_zero, List.set_cons_succ])
         | (apply ext_take rfl (by rfl)
            · intro w' hS
              have hSc := hS.cells
              (try simp only [World.size_drew, World.cell?_drew] at hSc)
              go_simp
              (try simp (disch := omega) only [i64_id, u64_id, ↓IntWalk.iteOmega, Int.tdiv_eq_ediv_of_nonneg, Int.tmod_eq_emod_of_nonneg])
              try rfl
            simp only [Act.put, List.setIfInBounds_toArray, List.set_cons_zero, List.set_cons_succ])
         | (refine ext_pass rfl (by rfl) ?_; simp only [Act.put, List.setIfInBounds_toArray, List.set_cons_zero, List.set_cons_succ]))
        (apply ext_take rfl (by rfl)
         · intro w' hS
           have hcv := run_str (P := Try.prog) Try.underlying35 Try.underlying5 Try.underlying9 w' _ _ (SliceAt.ext HS4.out hS)
           go_simp
           try rfl
         simp only [Act.put, List.setIfInBounds_toArray, List.set_cons_zero, List.set_cons_succ])
        iterate 9 (first
         | (refine ext_move rfl rfl (by rfl) (by rfl) ?_; simp only [Act.put, List.setIfInBounds_toArray, List.set_cons_zero, List.set_cons_succ])
         | (refine ext_assign rfl rfl (by rfl) (by rfl) ?_; simp only [Act.put, List.setIfInBounds_toArray, List.set_cons_zero, List.set_cons_succ])
         | (refine ext_pick_t rfl rfl (by rfl) (by rfl) (by rfl) ?_; simp only [Act.put, List.setIfInBounds_toArray, List.set_cons_zero, List.set_cons_succ])
         | (refine ext_pick_f rfl rfl (by rfl) (by rfl) (by rfl) ?_; simp only [Act.put, List.setIfInBounds_toArray, List.set_cons_zero, List.set_cons_succ])
         | (apply ext_take rfl (by rfl)
            · intro w' hS
              have hSc := hS.cells
              (try simp only [World.size_drew, World.cell?_drew] at hSc)
              go_simp
              (try simp (disch := omega) only [i64_id, u64_id, ↓IntWalk.iteOmega, Int.tdiv_eq_ediv_of_nonneg, Int.tmod_eq_emod_of_nonneg])
              try rfl
            simp only [Act.put, List.setIfInBounds_toArray, List.set_cons_zero, List.set_cons_succ])
         | (refine ext_pass rfl (by rfl) ?_; simp only [Act.put, List.setIfInBounds_toArray, List.set_cons_zero, List.set_cons_succ]))
        refine ext_nil ?_
        go_wp2_with fail
        go_roundw
        case rel => exact ⟨i + 1, by omega, by go_num, HX.out.trans (Ext.drew _)⟩
        case measure => simp [intOf]; omega
      · have hin : i = N := by omega
        subst hin
        have hin2 : ¬ ((i : Int) < (i : Int)) := by omega
        go_wp2_with fail
        go_ret
        exact ⟨rfl, HX4.out.trans HX.out⟩
end Go.Proofs.Ythjcdikpomlpmaa
