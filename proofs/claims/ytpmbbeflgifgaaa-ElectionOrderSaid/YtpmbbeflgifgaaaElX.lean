/-
  Chapter 31 (election): Out of both packages; the walk of ElectionCount.
-/
import Derived.Test.YtpmbbeflgifgaaaElW
import Derived.Test.YtpmbbeflgifgaaaElO
namespace Go.Proofs.Ytpmbbeflgifgaaa
open Go.ChangeShapes Go.WideShapes Go.ChangeAt Go.RowKit
set_option linter.unusedVariables false

def outB (l : List Int) : List Bool := l.map fun z => decide (z < 0)
theorem outB_len (l : List Int) : (outB l).length = l.length := List.length_map _
theorem outB_next {l : List Int} {i : Nat} (h : i < l.length) : outB (l.take (i + 1)) = outB (l.take i) ++ [decide (l[i] < 0)] := by
  unfold outB; rw [List.take_succ_eq_append_getElem h, List.map_append]; rfl
set_option maxRecDepth 100000 in
set_option maxHeartbeats 1000000 in
theorem out_any (v : Value) (l : List Int) (w : World) (hl : l.length ≤ 100000) (h : SliceAt encI w v l) :
    Calls Try.prog 18 #[v] w fun e w' => ∃ v', e = .returned v' ∧ OwnG Value.bool 4 w' w.heap.size v' (outB l) ∧ Below w.heap.size w w' := by
  obtain ⟨i0, hI, hI0, hI1, hI2⟩ := info_parts infoBo
  obtain ⟨ad, cap, rfl⟩ := h.shape
  have HS := Lib.hid h
  obtain ⟨n, hn⟩ : ∃ n, l.length = n := ⟨_, rfl⟩
  have HN := Lib.hid hn
  rw [hn] at HS hl ⊢
  clear h hn
  go_enter Try.func18, Try.ntmps18
  go_wp2_with fail
  go_loopw [3, 8] (fun ot it wr => ∃ i : Nat, i ≤ n ∧ it = .int .i64 i ∧ Hid (OwnG Value.bool 4 wr w.heap.size ot (outB (l.take i))) ∧ Hid (Ext w wr)) (fun _ it _ => n - (intOf it).toNat)
  case atStart => exact ⟨0, Nat.zero_le _, rfl, Lib.hid OwnG.nil, Lib.hid (Ext.refl _)⟩
  case round =>
    obtain ⟨i, hi, rfl, HO, HX⟩ := hrel
    by_cases hlt : i < n
    · have hin : (i : Int) < (n : Int) := by omega
      have hil : i < l.length := by rw [HN.out]; exact hlt
      obtain ⟨b, off, rfl, hb, hc⟩ := (HS.out.ext HX.out).get i hil
      have HNX := Lib.hid (outB_next hil)
      have hlen : (outB (l.take i)).length = i := by rw [outB_len, List.length_take]; omega
      have HLEN := Lib.hid hlen
      obtain ⟨av, cv, rfl⟩ := HO.out.shape
      rw [hlen] at HO ⊢
      generalize l[i] = y at *
      generalize outB (l.take i) = L at *
      obtain ⟨u, hu⟩ : ∃ u, decide (y < 0) = u := ⟨_, rfl⟩
      rw [hu] at HNX
      clear hlen
      go_wp2_with (at_builtin; refine Classical.byContradiction (fun hN => ?_))
      refine hN ?_
      clear hN
      have e1 : Ext wr (wr.alloc (.cells #[.bool u] 4)) := Ext.alloc _ _
      have hown := HO.out.ext e1
      have hsz := HX.out.size
      refine wpList_append_one rfl _ _ _ rfl w.heap.size 4 i0 (.bool false) 1 Try.underlying23 hI hI0 hI1 hI2 rfl _ _ _ rfl hown _ (.bool u) rfl rfl (cell_new1 _ _ _) (by rw [HLEN.out]; unfold maxLen; omega) (by rw [HLEN.out]; omega) (by simp; omega) ?_
      intro v6 w6 ho6 hg6 _
      have HO6 : Hid (OwnG Value.bool 4 w6 w.heap.size v6 (L ++ [u])) := OwnG.snoc (enc := Value.bool) (x := u) ho6
      have HX6 : Hid (Ext w w6) := (HX.out.trans e1).grown hg6 (by simp; omega) (fun q hq => (hown.lt q hq).1)
      clear ho6 hg6 hown e1
      go_wp2
      go_roundw
      case rel => exact ⟨i + 1, by omega, by go_num, by rw [HNX.out]; exact HO6, HX6⟩
      case measure => simp [intOf]; omega
    · have hin : i = n := by omega
      subst hin
      have hin2 : ¬ ((i : Int) < (i : Int)) := by omega
      go_wp2_with fail
      rw [show l.take i = l by rw [← HN.out, List.take_length]] at HO
      refine bodyPost_ret ?_ rfl ⟨_, rfl, HO.out, HX.out⟩
      simp only [results, Try.results18]
      go_simp
set_option maxRecDepth 100000 in
set_option maxHeartbeats 1000000 in
theorem rout_any (v : Value) (l : List Int) (w : World) (hl : l.length ≤ 100000) (h : SliceAt encI w v l) :
    Calls Try.prog 19 #[v] w fun e w' => ∃ v', e = .returned v' ∧ OwnG Value.bool 4 w' w.heap.size v' (outB l) ∧ Below w.heap.size w w' := by
  obtain ⟨i0, hI, hI0, hI1, hI2⟩ := info_parts infoBo
  obtain ⟨ad, cap, rfl⟩ := h.shape
  have HS := Lib.hid h
  obtain ⟨n, hn⟩ : ∃ n, l.length = n := ⟨_, rfl⟩
  have HN := Lib.hid hn
  rw [hn] at HS hl ⊢
  clear h hn
  go_enter Try.func19, Try.ntmps19
  go_wp2_with fail
  go_loopw [3, 4] (fun ot it wr => ∃ i : Nat, i ≤ n ∧ it = .int .i64 i ∧ Hid (OwnG Value.bool 4 wr w.heap.size ot (outB (l.take i))) ∧ Hid (Ext w wr)) (fun _ it _ => n - (intOf it).toNat)
  case atStart => exact ⟨0, Nat.zero_le _, rfl, Lib.hid OwnG.nil, Lib.hid (Ext.refl _)⟩
  case round =>
    obtain ⟨i, hi, rfl, HO, HX⟩ := hrel
    by_cases hlt : i < n
    · have hin : (i : Int) < (n : Int) := by omega
      have hil : i < l.length := by rw [HN.out]; exact hlt
      obtain ⟨b, off, rfl, hb, hc⟩ := (HS.out.ext HX.out).get i hil
      have HNX := Lib.hid (outB_next hil)
      have hlen : (outB (l.take i)).length = i := by rw [outB_len, List.length_take]; omega
      have HLEN := Lib.hid hlen
      obtain ⟨av, cv, rfl⟩ := HO.out.shape
      rw [hlen] at HO ⊢
      generalize l[i] = y at *
      generalize outB (l.take i) = L at *
      obtain ⟨u, hu⟩ : ∃ u, decide (y < 0) = u := ⟨_, rfl⟩
      rw [hu] at HNX
      clear hlen
      go_wp2_with (at_builtin; refine Classical.byContradiction (fun hN => ?_))
      refine hN ?_
      clear hN
      have e1 : Ext wr (wr.alloc (.cells #[.bool u] 4)) := Ext.alloc _ _
      have hown := HO.out.ext e1
      have hsz := HX.out.size
      refine wpList_append_one rfl _ _ _ rfl w.heap.size 4 i0 (.bool false) 1 Try.underlying23 hI hI0 hI1 hI2 rfl _ _ _ rfl hown _ (.bool u) rfl rfl (cell_new1 _ _ _) (by rw [HLEN.out]; unfold maxLen; omega) (by rw [HLEN.out]; omega) (by simp; omega) ?_
      intro v6 w6 ho6 hg6 _
      have HO6 : Hid (OwnG Value.bool 4 w6 w.heap.size v6 (L ++ [u])) := OwnG.snoc (enc := Value.bool) (x := u) ho6
      have HX6 : Hid (Ext w w6) := (HX.out.trans e1).grown hg6 (by simp; omega) (fun q hq => (hown.lt q hq).1)
      clear ho6 hg6 hown e1
      go_wp2
      go_roundw
      case rel => exact ⟨i + 1, by omega, by go_num, by rw [HNX.out]; exact HO6, HX6⟩
      case measure => simp [intOf]; omega
    · have hin : i = n := by omega
      subst hin
      have hin2 : ¬ ((i : Int) < (i : Int)) := by omega
      go_wp2_with fail
      rw [show l.take i = l by rw [← HN.out, List.take_length]] at HO
      refine bodyPost_ret ?_ rfl ⟨_, rfl, HO.out, HX.out⟩
      simp only [results, Try.results19]
      go_simp

set_option maxRecDepth 100000 in
set_option maxHeartbeats 2000000 in
theorem electionCount_walk (v : Value) (l : List Int) (w : World) (hm : l.length ≤ maxLen) (h : SliceAt encI w v l) :
    Calls Try.prog 8 #[v] w fun e w' => e = .returned (.bool true) ∧ Below w.heap.size w w' := by
  obtain ⟨ad, cap, rfl⟩ := h.shape
  have HS := Lib.hid h
  unfold maxLen at hm
  obtain ⟨n, hn⟩ : ∃ n, l.length = n := ⟨_, rfl⟩
  have HN := Lib.hid hn
  rw [hn] at HS hm ⊢
  clear h hn
  go_enter Try.func8, Try.ntmps8
  go_wp2_with fail
  go_at_call 9
  refine (awake_any _).mono ?_
  rintro e w1 ⟨rfl, hb1⟩
  have HX1 : Hid (Ext w w1) := hb1
  clear hb1
  by_cases hc : 200 < n
  · have d1 : decide ((200 : Int) < (n : Int)) = true := by rw [decide_eq_true_iff]; omega
    have d2 : decide (200 < n) = true := by rw [decide_eq_true_iff]; exact hc
    go_wp2_with fail
    go_ret
    exact ⟨rfl, HX1.out⟩
  · have d1 : decide ((200 : Int) < (n : Int)) = false := by rw [decide_eq_false_iff_not]; omega
    have d2 : decide (200 < n) = false := by rw [decide_eq_false_iff_not]; exact hc
    have hlo : (outB l).length = n := by rw [outB_len, HN.out]
    have HLO := Lib.hid hlo
    clear hlo hm
    go_wp2_with fail
    go_at_call 18
    refine (out_any _ l _ (by rw [HN.out]; omega) (HS.out.ext HX1.out)).mono ?_
    rintro e w2 ⟨v2, rfl, ho2, hb2⟩
    have HX2 : Hid (Ext w w2) := HX1.out.trans hb2
    obtain ⟨a2, c2, rfl⟩ := ho2.shape
    have HO2 := Lib.hid ho2.slice
    rw [HLO.out] at HO2 ⊢
    clear ho2 hb2
    go_wp2_with fail
    go_at_call 19
    refine (rout_any _ l _ (by rw [HN.out]; omega) (HS.out.ext HX2.out)).mono ?_
    rintro e w3 ⟨v3, rfl, ho3, hb3⟩
    have HX3 : Hid (Ext w w3) := HX2.out.trans hb3
    have HO2' := Lib.hid (HO2.out.ext hb3)
    obtain ⟨a3, c3, rfl⟩ := ho3.shape
    have HO3 := Lib.hid ho3.slice
    rw [HLO.out] at HO3 ⊢
    have hq1 : ((n : Int) == n) = true := by simp
    have hq2 : ((n : Int) != n) = false := by simp
    obtain ⟨N, hNc⟩ : ∃ N, cntN l = N := ⟨_, rfl⟩
    have HC1 := Lib.hid (count_any _ l w3 (by rw [HN.out]; omega) (HS.out.ext HX3.out))
    have HC2 := Lib.hid (rcount_any _ l w3 (by rw [HN.out]; omega) (HS.out.ext HX3.out))
    rw [hNc] at HC1 HC2
    have hq3 : ((N : Int) == N) = true := by simp
    have hq4 : ((N : Int) != N) = false := by simp
    rw [HN.out] at *
    clear ho3 hb3 hNc
    go_wp2_with fail
    go_at_call 20
    refine HC1.out.mono ?_
    rintro e w4 ⟨rfl, rfl⟩
    go_wp2_with fail
    go_at_call 17
    refine HC2.out.mono ?_
    rintro e w4 ⟨rfl, rfl⟩
    go_wp2_with fail
    go_loopw [29] (fun it wr => ∃ i : Nat, i ≤ n ∧ it = .int .i64 i ∧ Hid (Ext w3 wr)) (fun it _ => n - (intOf it).toNat)
    case atStart => exact ⟨0, Nat.zero_le _, rfl, Lib.hid (Ext.refl _)⟩
    case round =>
      obtain ⟨i, hi, rfl, HXr⟩ := hrel
      by_cases hlt : i < n
      · have hin : (i : Int) < (n : Int) := by omega
        have hi0 : (0 : Int) ≤ (i : Int) := by omega
        have hil : i < (outB l).length := by rw [HLO.out]; exact hlt
        obtain ⟨b1, off1, rfl, hb1, hc1⟩ := (HO2'.out.ext HXr.out).get i hil
        obtain ⟨b2, off2, rfl, hb2, hc2⟩ := (HO3.out.ext HXr.out).get i hil
        generalize (outB l)[i] = u at *
        have hu : (u == u) = true := by simp
        have hu2 : (u != u) = false := by simp
        go_wp2_with fail
        refine wp_region_ext [(0, true), (1, true), (2, true), (3, true), (4, true), (5, true), (6, true), (7, true), (8, true)] (by kernel_rfl) (by kernel_rfl) ?_
        iterate 9 (first
         | (refine ext_move rfl rfl (by rfl) (by rfl) ?_; simp only [Act.put, List.setIfInBounds_toArray, List.set_cons_zero, List.set_cons_succ])
         | (refine ext_assign rfl rfl (by rfl) (by rfl) ?_; simp only [Act.put, List.setIfInBounds_toArray, List.set_cons_zero, List.set_cons_succ])
         | (refine ext_pick_t rfl rfl (by rfl) (by rfl) (by rfl) ?_; simp only [Act.put, List.setIfInBounds_toArray, List.set_cons_zero, List.set_cons_succ])
         | (refine ext_pick_f rfl rfl (by rfl) (by rfl) (by rfl) ?_; simp only [Act.put, List.setIfInBounds_toArray, List.set_cons_zero, List.set_cons_succ])
         | (apply ext_take rfl (by rfl)
            · intro w' hS
              have hSc := hS.cells
              (try simp only [World.size_drew, World.cell?_drew] at hSc)
              go_simp
              (try simp (disch := omega) only [i64_id, u64_id, ↓IntWalk.iteOmega, Int.tdiv_eq_ediv_of_nonneg, Int.tmod_eq_emod_of_nonneg])
              try rfl
            simp only [Act.put, List.setIfInBounds_toArray, List.set_cons_zero, List.set_cons_succ])
         | (refine ext_pass rfl (by rfl) ?_; simp only [Act.put, List.setIfInBounds_toArray, List.set_cons_zero, List.set_cons_succ]))
        refine ext_nil ?_
        go_wp2_with fail
        go_roundw
        case rel => exact ⟨i + 1, by omega, by go_num, HXr.out.trans (Ext.drew _)⟩
        case measure => simp [intOf]; omega
      · have hin : i = n := by omega
        subst hin
        have hin2 : ¬ ((i : Int) < (i : Int)) := by omega
        go_wp2_with fail
        go_ret
        exact ⟨rfl, HX3.out.trans HXr.out⟩
end Go.Proofs.Ytpmbbeflgifgaaa
