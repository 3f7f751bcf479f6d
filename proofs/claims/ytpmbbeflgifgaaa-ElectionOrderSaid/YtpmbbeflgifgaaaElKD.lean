/-
  Chapter 31 (election): the walk of ElectionElect.
-/
import Derived.Test.YtpmbbeflgifgaaaElKC
import Derived.Test.YtpmbbeflgifgaaaElY
import Derived.Test.YtpmbbeflgifgaaaLbS
namespace Go.Proofs.Ytpmbbeflgifgaaa
open Go.ChangeShapes Go.WideShapes Go.ChangeAt Go.RowKit
set_option linter.unusedVariables false

theorem labE_short {ls : List LD} {rd : List Bool} {k : Nat} (hdl : ∀ i, (ldN ls i).2.length ≤ k) : (labE ls rd).2.length ≤ k := by
  unfold labE
  split
  · simp [ld0]
  · split
    · exact hdl _
    · simp [ld0]
theorem placesE_short {ls : List LD} {rd : List Bool} : (placesE ls rd).length ≤ 60 := by
  unfold placesE
  split
  · simp
  · rename_i m hb
    split
    · rw [atE_len]
      have := valid_facts (cand_valid (best_facts hb).2)
      unfold disksN; omega
    · simp
theorem eqZ_refl (x : List Int) : eqZ x x = true := eqZ_all rfl rfl
set_option maxRecDepth 100000 in
set_option maxHeartbeats 4000000 in
theorem electionElect_walk (v1 v2 : Value) (ls : List LD) (rd : List Bool) (w : World) (hm : ls.length ≤ maxLen) (hmr : rd.length ≤ maxLen) (hq : ∀ l, l ∈ ls → l.2.length ≤ maxLen ∧ LabI l.1) (h : LabsAt w v1 ls) (hr : SliceAt Value.bool w v2 rd) :
    Calls Try.prog 3 #[v1, v2] w fun e w' => e = .returned (.bool true) ∧ Below w.heap.size w w' := by
  obtain ⟨al, cl, rfl⟩ := h.shape
  obtain ⟨ar, cr, rfl⟩ := hr.shape
  have HL := Lib.hid h
  have HR := Lib.hid hr
  have HLG := Lib.hid (fun (w' : World) (e : Ext w w') => large_any _ ls w' hm (fun l hl => (hq l hl).1) (h.ext e))
  have HLF := Lib.hid (large_facts (ls := ls))
  unfold maxLen at hm hmr
  obtain ⟨n, hn⟩ : ∃ n, ls.length = n := ⟨_, rfl⟩
  obtain ⟨r, hrn⟩ : ∃ r, rd.length = r := ⟨_, rfl⟩
  have HN := Lib.hid hn
  have HRN := Lib.hid hrn
  rw [hn] at HL hm HLF ⊢
  rw [hn] at HLG
  rw [hrn] at HR hmr ⊢
  clear h hr hq hn hrn
  go_enter Try.func3, Try.ntmps3
  go_wp2_with fail
  go_at_call 9
  refine (awake_any _).mono ?_
  rintro e w1 ⟨rfl, hb1⟩
  have HX1 : Hid (Ext w w1) := hb1
  clear hb1
  go_wp2_with fail
  go_at_call 10
  refine (HLG.out _ HX1.out).mono ?_
  rintro e w2 ⟨rfl, rfl⟩
  cases hlg : largeB ls with
  | true =>
    go_wp2_with fail
    go_ret
    exact ⟨rfl, HX1.out⟩
  | false =>
    obtain ⟨hn70, hdl⟩ := HLF.out hlg
    have HDL := Lib.hid hdl
    clear hdl hlg
    by_cases hrl : 100 < r
    · have d1 : decide ((100 : Int) < (r : Int)) = true := by rw [decide_eq_true_iff]; omega
      have d2 : decide (100 < r) = true := by rw [decide_eq_true_iff]; omega
      clear hrl
      go_wp2_with fail
      go_ret
      exact ⟨rfl, HX1.out⟩
    · have d1 : decide ((100 : Int) < (r : Int)) = false := by rw [decide_eq_false_iff_not]; omega
      have d2 : decide (100 < r) = false := by rw [decide_eq_false_iff_not]; omega
      have hr100 : r ≤ 100 := by omega
      clear hrl
      go_wp2_with fail
      go_at_call 11
      refine (elect_any _ _ ls rd _ (by rw [HN.out]; omega) (by rw [HRN.out]; omega) (fun i => Nat.le_trans (HDL.out i) (by decide)) (HL.out.ext HX1.out) (HR.out.ext HX1.out)).mono ?_
      rintro e w3 ⟨dv, av, rfl, hd3, ha3, hx3⟩
      have HX3 : Hid (Ext w w3) := HX1.out.trans hx3
      have HE2 := Lib.hid (fun (w' : World) (e : Ext w w') => rElect_any _ _ ls rd w' (by rw [HN.out]; omega) (by rw [HRN.out]; omega) (fun i => Nat.le_trans (HDL.out i) (by decide)) (HL.out.ext e) (HR.out.ext e))
      have hls := labE_short (rd := rd) HDL.out
      have hps := placesE_short (ls := ls) (rd := rd)
      unfold ElectEnd at HE2
      generalize errE ls rd = E at *
      generalize placesE ls rd = P at *
      generalize hL : labE ls rd = L at *
      obtain ⟨L1, L2⟩ := L
      simp only at hls hd3 HE2 ⊢
      clear hL
      obtain ⟨ad, cd, rfl⟩ := hd3.shape
      obtain ⟨aa, ca, rfl⟩ := ha3.shape
      have HD3 := Lib.hid hd3
      have HA3 := Lib.hid ha3
      clear hd3 ha3 hx3
      go_upto_region 6 with (refine wpList_store_lab (w0 := w3) (l := L1) (d := .slice ad L2.length cd) _ _ rfl (by rfl) rfl rfl (BoxAt.new _ _ _) rfl rfl (Ext.alloc _ _) (Nat.le_refl _) ?_; intro w4 hx4 hb4 hs4)
      have HX4 : Hid (Ext w w4) := HX3.out.trans hx4
      have HB4 := Lib.hid hb4
      have HD4 := Lib.hid (HD3.out.ext hx4)
      have HA4 := Lib.hid (HA3.out.ext hx4)
      clear hb4 hx4 hs4
      go_wp2_with fail
      go_at_call 12
      refine (HE2.out _ HX4.out).mono ?_
      rintro e w5 ⟨dv5, av5, rfl, hd5, ha5, hx5⟩
      obtain ⟨ad5, cd5, rfl⟩ := hd5.shape
      obtain ⟨aa5, ca5, rfl⟩ := ha5.shape
      have HX5 : Hid (Ext w w5) := HX4.out.trans hx5
      have HB5 := Lib.hid (HB4.out.ext hx5)
      have HD5 := Lib.hid hd5
      have HA5 := Lib.hid ha5
      have HD45 := Lib.hid (HD4.out.ext hx5)
      have HA45 := Lib.hid (HA4.out.ext hx5)
      clear hd5 ha5 hx5
      go_upto_region 7 with (refine wpList_store_lab (w0 := w5) (l := L1) (d := .slice ad5 L2.length cd5) _ _ rfl (by rfl) rfl rfl (BoxAt.new _ _ _) rfl rfl (Ext.alloc _ _) (Nat.le_refl _) ?_; intro w6 hx6 hb6 hs6)
      have HX6 : Hid (Ext w w6) := HX5.out.trans hx6
      have HB6 := Lib.hid hb6
      have HB56 := Lib.hid (HB5.out.ext hx6)
      have HSM := Lib.hid (fun (w' : World) (e : Ext w6 w') => same_any L1 L1 (.slice ad L2.length cd) (.slice ad5 L2.length cd5) L2 L2 w' (by omega) (by omega) ((HD45.out.ext hx6).ext e) ((HD5.out.ext hx6).ext e))
      have HSI := Lib.hid (fun (w' : World) (e : Ext w6 w') => sameInts_any (.slice aa P.length ca) (.slice aa5 P.length ca5) P P w' (by omega) (by omega) ((HA45.out.ext hx6).ext e) ((HA5.out.ext hx6).ext e))
      rw [sameB_refl] at HSM
      rw [eqZ_refl] at HSI
      clear hb6 hx6 hs6
      have q1 : ((E : Int) == (E : Int)) = true := by simp
      go_wp2_with (first | (refine wpList_loadR 32 _ rfl (by rfl) rfl (LabAt.of_box HB56.out).load ?_) | (refine wpList_loadR 32 _ rfl (by rfl) rfl (LabAt.of_box HB6.out).load ?_))
      go_at_call 13
      refine (HSM.out _ (Ext.refl _)).mono ?_
      rintro e w7 ⟨rfl, hx7⟩
      have HX7 : Hid (Ext w6 w7) := hx7
      clear hx7
      go_wp2_with fail
      go_at_call 14
      refine (HSI.out _ HX7.out).mono ?_
      rintro e w8 ⟨rfl, hx8⟩
      have HX8 : Hid (Ext w6 w8) := HX7.out.trans hx8
      clear hx8
      go_wp2_with fail
      go_ret
      exact ⟨rfl, HX6.out.trans HX8.out⟩
end Go.Proofs.Ytpmbbeflgifgaaa
