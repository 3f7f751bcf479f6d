/-
  Chapter 30 (label): long lists; the walk of LabelDecode.
-/
import Derived.Test.YthjcdikpomlpmaaLcT
import Derived.Test.YthjcdikpomlpmaaLbS
namespace Go.Proofs.Ythjcdikpomlpmaa
open Go.ChangeShapes Go.WideShapes Go.ChangeAt Go.RowKit
set_option linter.unusedVariables false

theorem dec_len {S : List (List (BitVec 8))} : (labD (Lb.decT S)).2.length ≤ 100000 := by
  cases h : Lb.decT S with
  | none => exact Nat.zero_le _
  | some p =>
    have := (Lb.fine_of (Lb.dec_iff.1 h).1).len
    show p.2.length ≤ _
    omega
def LongEnd (S : List (List (BitVec 8))) (w : World) (e : Ending) (w' : World) : Prop := ∃ b, e = .returned (.bool b) ∧ (b = false → S.length ≤ 50 ∧ ∀ l, l ∈ S → l.length ≤ 200) ∧ Ext w w'
set_option maxRecDepth 100000 in
set_option maxHeartbeats 1000000 in
theorem long_any (v : Value) (S : List (List (BitVec 8))) (w : World) (mS : S.length ≤ maxLen) (qS : ∀ l, l ∈ S → l.length ≤ maxLen) (h : RowsB w v S) :
    Calls Try.prog 21 #[v] w (LongEnd S w) := by
  obtain ⟨ad, cap, rfl, _⟩ := h.shape
  have HS := Lib.hid h
  have HQ := Lib.hid qS
  unfold maxLen at mS
  obtain ⟨n, hn⟩ : ∃ n, S.length = n := ⟨_, rfl⟩
  have HN := Lib.hid hn
  rw [hn] at HS mS ⊢
  have HX0 : Hid (Ext w w) := Ext.refl _
  clear h hn qS
  go_enter Try.func21, Try.ntmps21
  go_wp2_with fail
  go_loopw [6] (fun iv wr => ∃ i : Nat, i ≤ n ∧ iv = .int .i64 i ∧ Hid (∀ l, l ∈ S.take i → l.length ≤ 200) ∧ Hid (Ext w wr)) (fun iv _ => n - (intOf iv).toNat)
  case atStart => exact ⟨0, Nat.zero_le _, rfl, Lib.hid (fun l hl => by simp at hl), HX0⟩
  case round =>
    obtain ⟨i, hi, rfl, HT, HXr⟩ := hrel
    by_cases hlt : i < n
    · have hin : (i : Int) < (n : Int) := by omega
      have hi0 : (0 : Int) ≤ (i : Int) := by omega
      have hix : i < S.length := by rw [HN.out]; exact hlt
      obtain ⟨b1, off1, rfl, hb1, a1, k1, hc1, hs1⟩ := (HS.out.ext HXr.out).get i hix
      have hq := HQ.out _ (List.getElem_mem hix)
      unfold maxLen at hq
      have HTN : Hid (S[i].length ≤ 200 → ∀ l, l ∈ S.take (i + 1) → l.length ≤ 200) := fun h l hl => by
        rw [List.take_succ_eq_append_getElem hix] at hl
        rcases List.mem_append.1 hl with h' | h'
        · exact HT.out l h'
        · rw [List.mem_singleton.1 h']; exact h
      clear hs1
      obtain ⟨z, hz⟩ : ∃ z, S[i].length = z := ⟨_, rfl⟩
      rw [hz] at hc1 hq HTN
      clear hz
      by_cases h2 : 200 < z
      · have d1 : decide ((200 : Int) < (z : Int)) = true := by rw [decide_eq_true_iff]; omega
        have d2 : decide (200 < z) = true := by rw [decide_eq_true_iff]; exact h2
        clear h2
        go_wp2_with fail
        go_ret
        exact ⟨true, rfl, (fun h => by cases h), HXr.out⟩
      · have d1 : decide ((200 : Int) < (z : Int)) = false := by rw [decide_eq_false_iff_not]; omega
        have d2 : decide (200 < z) = false := by rw [decide_eq_false_iff_not]; exact h2
        have HTT := Lib.hid (HTN.out (by omega))
        clear h2
        go_wp2_with fail
        go_roundw
        case rel => exact ⟨i + 1, by omega, by go_num, HTT, HXr⟩
        case measure => simp [intOf]; omega
    · have hin : i = n := by omega
      subst hin
      have hin2 : ¬ ((i : Int) < (i : Int)) := by omega
      have HT2 : Hid (∀ l, l ∈ S → l.length ≤ 200) := fun l hl => HT.out l (by rw [← HN.out, List.take_length]; exact hl)
      go_wp2_with fail
      go_ret
      refine ⟨decide ((50 : Int) < (i : Int)), rfl, fun h => ⟨?_, HT2.out⟩, HXr.out⟩
      rw [decide_eq_false_iff_not] at h
      rw [HN.out]; omega
set_option maxRecDepth 100000 in
set_option maxHeartbeats 4000000 in
theorem labelDecode_walk (v : Value) (S : List (List (BitVec 8))) (w : World) (mS : S.length ≤ maxLen) (qS : ∀ l, l ∈ S → l.length ≤ maxLen) (h : RowsB w v S) :
    Calls Try.prog 6 #[v] w fun e w' => e = .returned (.bool true) ∧ Below w.heap.size w w' := by
  have HS := Lib.hid h
  have HLG := Lib.hid (fun (w' : World) (e : Ext w w') => long_any v S w' mS qS (h.ext e))
  clear h mS qS
  go_enter Try.func6, Try.ntmps6
  go_wp2_with fail
  go_at_call 10
  refine (awake_any _).mono ?_
  rintro e w1 ⟨rfl, hb1⟩
  have HX1 : Hid (Ext w w1) := hb1
  clear hb1
  go_wp2_with fail
  go_at_call 21
  refine (HLG.out _ HX1.out).mono ?_
  rintro e w2 ⟨b, rfl, hb, hx2⟩
  have HX2 : Hid (Ext w w2) := HX1.out.trans hx2
  clear hx2
  cases b with
  | true =>
    go_wp2_with fail
    go_ret
    exact ⟨rfl, HX2.out⟩
  | false =>
    obtain ⟨h50, h200⟩ := hb rfl
    have H200 := Lib.hid h200
    have HLN := Lib.hid (dec_len (S := S))
    have HSM := Lib.hid (Lb.dec_same S)
    clear hb h200
    go_wp2_with fail
    go_at_call 22
    refine (decode_any _ S _ (by omega) H200.out (HS.out.ext HX2.out)).mono ?_
    rintro e w3 ⟨dv, rfl, hd3, hx3⟩
    have HRD := Lib.hid (fun (w' : World) (e : Ext w w') => rdecode_any v S w' (by omega) H200.out (HS.out.ext e))
    rw [← HSM.out] at HRD
    unfold DecEnd at HRD
    generalize errD (Lb.decT S) = E at *
    generalize labD (Lb.decT S) = L at *
    obtain ⟨L1, L2⟩ := L
    simp only at hd3 HRD HLN ⊢
    obtain ⟨ad, cd, rfl⟩ := hd3.shape
    have HX3 : Hid (Ext w w3) := HX2.out.trans hx3
    have HD3 := Lib.hid hd3
    clear hd3 hx3
    go_upto_region 6 with (refine wpList_store_lab3 (l := L1) (d := .slice ad L2.length cd) _ _ rfl (by rfl) rfl rfl (BoxAt.new _ _ _) rfl rfl ?_; intro w4 hg4 hb4)
    have hx4 : Ext w3 w4 := (Ext.alloc _ _).grown hg4 (Ext.alloc _ _).size (fun q hq => by cases hq; exact Nat.le_refl _)
    have HX4 : Hid (Ext w w4) := HX3.out.trans hx4
    have HB4 := Lib.hid hb4
    have HD4 := Lib.hid (HD3.out.ext hx4)
    clear hg4 hb4 hx4 HD3
    go_wp2_with fail
    go_at_call 23
    refine (HRD.out _ HX4.out).mono ?_
    rintro e w5 ⟨dv5, rfl, hd5, hx5⟩
    obtain ⟨ad5, cd5, rfl⟩ := hd5.shape
    have HX5 : Hid (Ext w w5) := HX4.out.trans hx5
    have HB5 := Lib.hid (HB4.out.ext hx5)
    have HD45 := Lib.hid (HD4.out.ext hx5)
    have HD5 := Lib.hid hd5
    clear hd5 hx5 HB4 HD4
    go_upto_region 7 with (refine wpList_store_lab3 (l := L1) (d := .slice ad5 L2.length cd5) _ _ rfl (by rfl) rfl rfl (BoxAt.new _ _ _) rfl rfl ?_; intro w6 hg6 hb6)
    have hx6 : Ext w5 w6 := (Ext.alloc _ _).grown hg6 (Ext.alloc _ _).size (fun q hq => by cases hq; exact Nat.le_refl _)
    have HX6 : Hid (Ext w w6) := HX5.out.trans hx6
    have HB6 := Lib.hid hb6
    have HB56 := Lib.hid (HB5.out.ext hx6)
    have HSA := Lib.hid (same_any L1 L1 (.slice ad L2.length cd) (.slice ad5 L2.length cd5) L2 L2 w6 HLN.out HLN.out (HD45.out.ext hx6) (HD5.out.ext hx6))
    rw [sameB_refl] at HSA
    have q1 : ((E : Int) == (E : Int)) = true := by simp
    clear hg6 hb6 hx6
    go_wp2_with (first | (refine wpList_loadR 29 _ rfl (by rfl) rfl (LabAt.of_box HB56.out).load ?_) | (refine wpList_loadR 29 _ rfl (by rfl) rfl (LabAt.of_box HB6.out).load ?_))
    go_at_call 24
    refine HSA.out.mono ?_
    rintro e w7 ⟨rfl, hx7⟩
    have HX7 : Hid (Ext w w7) := HX6.out.trans hx7
    clear hx7
    go_wp2_with fail
    go_ret
    exact ⟨rfl, HX7.out⟩
end Go.Proofs.Ythjcdikpomlpmaa
