/-
  Chapter 31 (election): Clone of a list of Bools; Count and Out of both packages.
-/
import Derived.Test.YtpmbbeflgifgaaaElH
import Derived.ProofKit
namespace Go.Proofs.Ytpmbbeflgifgaaa
open Go.RowKit
set_option linter.unusedVariables false

theorem infoBo : (Try.prog.info? 4).map (fun i => (i.zero, i.size, i.bytes)) = some (some (.bool false), 1, 1) := by kernel_rfl
set_option maxRecDepth 100000 in
set_option maxHeartbeats 1000000 in
theorem cloneB_any (v : Value) (l : List Bool) (w : World) (hl : l.length ≤ 100000) (h : SliceAt Value.bool w v l) :
    Calls Try.prog 25 #[v] w fun e w' => ∃ v', e = .returned v' ∧ OwnG Value.bool 4 w' w.heap.size v' l ∧ Below w.heap.size w w' := by
  obtain ⟨i0, hi, hz0, hz1, hz2⟩ := info_parts infoBo
  have HA := Lib.hid h
  obtain ⟨ad, cap, rfl, hca, h⟩ := h
  cases ad with
  | none =>
    have hl0 : l = [] ∧ cap = 0 := by
      rcases h with ⟨h1, h2⟩ | ⟨_, _, h1, _⟩
      · exact ⟨h1, h2 rfl⟩
      · cases h1
    obtain ⟨rfl, rfl⟩ := hl0
    clear h
    go_enter Try.func25, Try.ntmps25
    have hq := fun (w : World) => Lib.run_eql_slice_nil (P := Try.prog) w 23 4 none 0 0 0 0 Try.underlying23
    go_wp2
    go_ret
    exact ⟨_, rfl, OwnG.nil, Below.refl _ _⟩
  | some ad =>
    clear h
    have hq := fun (w : World) => Lib.run_eql_slice_nil (P := Try.prog) w 23 4 (some ad) l.length cap 0 0 Try.underlying23
    go_enter Try.func25, Try.ntmps25
    go_wp2_with (at_builtin; refine Classical.byContradiction (fun hN => ?_))
    refine hN ?_
    clear hN
    have hlit : OwnG Value.bool 4 (w.alloc (.cells #[] 4)) w.heap.size (.slice (some ⟨w.heap.size, 0, none⟩) 0 0) [] := OwnG.lit (enc := Value.bool) w [] 4 w.heap.size (Nat.le_refl _) (Nat.zero_le _) #[] rfl
    have hxa : Ext w (w.alloc (.cells #[] 4)) := Ext.alloc _ _
    refine wpList_append_slice (enc := Value.bool) (fun _ => rfl) rfl _ _ 23 rfl w.heap.size 4 i0 (.bool false) 1 Try.underlying23 hi hz0 hz1 hz2 rfl _ _ _ rfl hlit _ l rfl (HA.out.ext hxa) (by unfold maxLen; simp only [List.length_nil]; omega) (by simp only [List.length_nil]; omega) hxa.size ?_
    intro v2 w2 ho2 hg2
    have hx2 : Ext w w2 := hxa.grown hg2 hxa.size (fun q hq => (hlit.lt q hq).1)
    have ho3 := OwnG.app (l := []) ho2
    rw [List.nil_append] at ho3
    have HO := Lib.hid ho3
    have HX := Lib.hid hx2
    clear hlit hxa hg2 ho2 ho3 hx2
    go_wp2
    go_ret
    exact ⟨_, rfl, HO.out, HX.out⟩

/-- how many numbers are negative -/
def cntN (l : List Int) : Nat := (l.filter fun z => decide (z < 0)).length
theorem cntN_le (l : List Int) : cntN l ≤ l.length := List.length_filter_le _ _
theorem cntN_next {l : List Int} {i : Nat} (h : i < l.length) : cntN (l.take (i + 1)) = cntN (l.take i) + if l[i] < 0 then 1 else 0 := by
  unfold cntN
  rw [List.take_succ_eq_append_getElem h, List.filter_append, List.length_append]
  by_cases hz : l[i] < 0 <;> simp [hz]
set_option maxRecDepth 100000 in
set_option maxHeartbeats 1000000 in
theorem count_any (v : Value) (l : List Int) (w : World) (hl : l.length ≤ 100000) (h : SliceAt encI w v l) :
    Calls Try.prog 20 #[v] w fun e w' => e = .returned (.int .i64 (cntN l : Nat)) ∧ w = w' := by
  obtain ⟨ad, cap, rfl⟩ := h.shape
  have HS := Lib.hid h
  have HLE := Lib.hid (fun i => cntN_le (l.take i))
  obtain ⟨n, hn⟩ : ∃ n, l.length = n := ⟨_, rfl⟩
  have HN := Lib.hid hn
  rw [hn] at HS hl ⊢
  clear h hn
  go_enter Try.func20, Try.ntmps20
  go_wp2_with fail
  go_loop [3, 8] (fun ct it => ∃ i : Nat, i ≤ n ∧ it = .int .i64 i ∧ ct = .int .i64 (cntN (l.take i) : Nat)) (fun _ it => n - (intOf it).toNat)
  case atStart => exact ⟨0, Nat.zero_le _, rfl, rfl⟩
  case round =>
    obtain ⟨i, hi, rfl, rfl⟩ := hrel
    by_cases hlt : i < n
    · have hin : (i : Int) < (n : Int) := by omega
      have hil : i < l.length := by rw [HN.out]; exact hlt
      obtain ⟨b, off, rfl, hb, hc⟩ := HS.out.get i hil
      have HCN := Lib.hid (cntN_next hil)
      have hle : cntN (l.take i) ≤ 100000 := Nat.le_trans (HLE.out i) (by rw [List.length_take]; omega)
      generalize l[i] = y at *
      generalize cntN (l.take i) = C at *
      by_cases hy : y < 0
      · have d1 : decide (y < 0) = true := by rw [decide_eq_true_iff]; exact hy
        rw [if_pos hy] at HCN
        go_wp2_with fail
        go_round
        case rel => exact ⟨i + 1, by omega, by go_num, by rw [HCN.out]; go_num⟩
        case measure => simp [intOf]; omega
      · have d1 : decide (y < 0) = false := by rw [decide_eq_false_iff_not]; exact hy
        rw [if_neg hy] at HCN
        go_wp2_with fail
        go_round
        case rel => exact ⟨i + 1, by omega, by go_num, by rw [HCN.out]; rfl⟩
        case measure => simp [intOf]; omega
    · have hin : i = n := by omega
      subst hin
      have hin2 : ¬ ((i : Int) < (i : Int)) := by omega
      go_wp2_with fail
      go_ret
      exact ⟨by rw [show l.take i = l by rw [← HN.out, List.take_length]]; rfl, rfl⟩
set_option maxRecDepth 100000 in
set_option maxHeartbeats 1000000 in
theorem rcount_any (v : Value) (l : List Int) (w : World) (hl : l.length ≤ 100000) (h : SliceAt encI w v l) :
    Calls Try.prog 17 #[v] w fun e w' => e = .returned (.int .i64 (cntN l : Nat)) ∧ w = w' := by
  obtain ⟨ad, cap, rfl⟩ := h.shape
  have HS := Lib.hid h
  have HLE := Lib.hid (fun i => cntN_le (l.take i))
  obtain ⟨n, hn⟩ : ∃ n, l.length = n := ⟨_, rfl⟩
  have HN := Lib.hid hn
  rw [hn] at HS hl ⊢
  clear h hn
  go_enter Try.func17, Try.ntmps17
  go_wp2_with fail
  go_loop [3, 4] (fun ct it => ∃ i : Nat, i ≤ n ∧ it = .int .i64 i ∧ ct = .int .i64 (cntN (l.take i) : Nat)) (fun _ it => n - (intOf it).toNat)
  case atStart => exact ⟨0, Nat.zero_le _, rfl, rfl⟩
  case round =>
    obtain ⟨i, hi, rfl, rfl⟩ := hrel
    by_cases hlt : i < n
    · have hin : (i : Int) < (n : Int) := by omega
      have hil : i < l.length := by rw [HN.out]; exact hlt
      obtain ⟨b, off, rfl, hb, hc⟩ := HS.out.get i hil
      have HCN := Lib.hid (cntN_next hil)
      have hle : cntN (l.take i) ≤ 100000 := Nat.le_trans (HLE.out i) (by rw [List.length_take]; omega)
      generalize l[i] = y at *
      generalize cntN (l.take i) = C at *
      by_cases hy : y < 0
      · have d1 : decide (y < 0) = true := by rw [decide_eq_true_iff]; exact hy
        rw [if_pos hy] at HCN
        go_wp2_with fail
        go_round
        case rel => exact ⟨i + 1, by omega, by go_num, by rw [HCN.out]; go_num⟩
        case measure => simp [intOf]; omega
      · have d1 : decide (y < 0) = false := by rw [decide_eq_false_iff_not]; exact hy
        rw [if_neg hy] at HCN
        go_wp2_with fail
        go_round
        case rel => exact ⟨i + 1, by omega, by go_num, by rw [HCN.out]; rfl⟩
        case measure => simp [intOf]; omega
    · have hin : i = n := by omega
      subst hin
      have hin2 : ¬ ((i : Int) < (i : Int)) := by omega
      go_wp2_with fail
      go_ret
      exact ⟨by rw [show l.take i = l by rw [← HN.out, List.take_length]]; rfl, rfl⟩
end Go.Proofs.Ytpmbbeflgifgaaa
