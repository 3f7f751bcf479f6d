/-
  Chapter 31 (election): the walk of ElectionMissing.
-/
import Derived.Test.YtpmbbeflgifgaaaElN
import Derived.Test.YtpmbbeflgifgaaaElZ
namespace Go.Proofs.Ytpmbbeflgifgaaa
open Go.ChangeShapes Go.WideShapes Go.ChangeAt Go.RowKit
set_option linter.unusedVariables false

def missPs (l : Lab) (dv : Value) (k : Nat) : List LP := (List.range k).map fun d => (oneL l d, dv)
theorem missPs_len (l : Lab) (dv : Value) (k : Nat) : (missPs l dv k).length = k := by unfold missPs; simp
theorem missPs_next (l : Lab) (dv : Value) (k : Nat) : missPs l dv (k + 1) = missPs l dv k ++ [(oneL l k, dv)] := by unfold missPs; rw [List.range_succ, List.map_append]; rfl
def missBs (ms : List Bool) (k : Nat) : List Bool := (List.range k).map fun d => !(ms.getD d false)
theorem missBs_len (ms : List Bool) (k : Nat) : (missBs ms k).length = k := by unfold missBs; simp
theorem missBs_next (ms : List Bool) (k : Nat) : missBs ms (k + 1) = missBs ms k ++ [!(ms.getD k false)] := by unfold missBs; rw [List.range_succ, List.map_append]; rfl
theorem missRd_eq (x ms : List Bool) : missRd x ms = missBs ms x.length := rfl
set_option maxRecDepth 100000 in
set_option maxHeartbeats 4000000 in
theorem electionMissing_walk (l : Lab) (dv vm : Value) (x ms : List Bool) (w : World) (hmx : x.length ≤ maxLen) (hmm : ms.length ≤ maxLen) (hx : SliceAt Value.bool w dv x) (hms : SliceAt Value.bool w vm ms) :
    Calls Try.prog 7 #[labV l dv, vm] w fun e w' => e = .returned (.bool true) ∧ Below w.heap.size w w' := by
  obtain ⟨i0, hI, hI0, hI1, hI2⟩ := info_parts infoBo
  obtain ⟨ad, cd, rfl⟩ := hx.shape
  obtain ⟨am, cm, rfl⟩ := hms.shape
  unfold maxLen at hmx hmm
  have HX := Lib.hid hx
  have HM := Lib.hid hms
  obtain ⟨n, hn⟩ : ∃ n, x.length = n := ⟨_, rfl⟩
  obtain ⟨r, hr⟩ : ∃ r, ms.length = r := ⟨_, rfl⟩
  have HN := Lib.hid hn
  have HRN := Lib.hid hr
  rw [hn] at HX hmx ⊢
  rw [hr] at HM hmm ⊢
  have HB0 : Hid (BoxAt (w.alloc (.cells (labA l (.slice ad n cd)) 32)) w.heap.size (labA l (.slice ad n cd)) 32) := BoxAt.new _ _ _
  have HE0 : Hid (Ext w (w.alloc (.cells (labA l (.slice ad n cd)) 32))) := Ext.alloc _ _
  clear hx hms hn hr
  go_enter Try.func7, Try.ntmps7
  go_wp2_with fail
  go_at_call 9
  refine (awake_any _).mono ?_
  rintro e w1 ⟨rfl, hb1⟩
  have HX1 : Hid (Ext w w1) := HE0.out.trans hb1
  have hbx := HB0.out.ext hb1
  have HB1 := Lib.hid hbx
  have c15 := hbx.cell 15 (v := .slice ad n cd) rfl
  have hl1 := hbx.lt
  clear hb1 hbx
  by_cases h60 : 60 < n
  · have d1 : decide ((60 : Int) < (n : Int)) = true := by rw [decide_eq_true_iff]; omega
    have d2 : decide (60 < n) = true := by rw [decide_eq_true_iff]; exact h60
    go_wp2_with fail
    go_ret
    exact ⟨rfl, HX1.out⟩
  · have d1 : decide ((60 : Int) < (n : Int)) = false := by rw [decide_eq_false_iff_not]; omega
    have d2 : decide (60 < n) = false := by rw [decide_eq_false_iff_not]; exact h60
    have HV := Lib.hid (rvalid_any l (.slice ad n cd) x w1 (by rw [HN.out]; omega) (HX.out.ext HX1.out))
    clear hmx
    go_wp2_with (refine wpList_loadR 32 _ rfl (by rfl) rfl (LabAt.of_box HB1.out).load ?_)
    go_at_call 16
    refine HV.out.mono ?_
    rintro e w2 ⟨rfl, hb2⟩
    have HX2 : Hid (Ext w w2) := HX1.out.trans hb2
    have hbx := HB1.out.ext hb2
    have HB2 := Lib.hid hbx
    clear c15 hl1
    have c15 := hbx.cell 15 (v := .slice ad n cd) rfl
    have hl2 := hbx.lt
    clear hb2 hbx
    cases hvl : validL l x with
    | false =>
      go_wp2_with fail
      go_ret
      exact ⟨rfl, HX2.out⟩
    | true =>
      by_cases hrn : r < n
      · have d3 : decide ((r : Int) < (n : Int)) = true := by rw [decide_eq_true_iff]; omega
        have d4 : decide (r < n) = true := by rw [decide_eq_true_iff]; exact hrn
        go_wp2_with fail
        go_ret
        exact ⟨rfl, HX2.out⟩
      · have d3 : decide ((r : Int) < (n : Int)) = false := by rw [decide_eq_false_iff_not]; omega
        have d4 : decide (r < n) = false := by rw [decide_eq_false_iff_not]; exact hrn
        have HLAW := Lib.hid (miss_law (l := l) (x := x) (ms := ms) hvl (by rw [HN.out, HRN.out]; omega))
        rw [HN.out] at HLAW
        have HNL := Lib.hid (fun k => missN_le x ms k)
        clear hvl d1 d2
        go_wp2_with fail
        clear d3 d4
        go_loopw [5, 6, 7, 35] (fun lt rt ct it wr => ∃ d : Nat, d ≤ n ∧ it = .int .i64 d ∧ ct = .int .i64 (missN x ms d : Nat) ∧ Hid (OwnLs wr w2.heap.size lt (missPs l (.slice ad n cd) d)) ∧ Hid (OwnG Value.bool 4 wr w2.heap.size rt (missBs ms d)) ∧ Hid (Ext w2 wr)) (fun _ _ _ it _ => n - (intOf it).toNat)
        case atStart => exact ⟨0, Nat.zero_le _, rfl, rfl, Lib.hid OwnLs.nil, Lib.hid OwnG.nil, Lib.hid (Ext.refl _)⟩
        case round =>
          obtain ⟨d, hd, rfl, rfl, HL, HR, HXr⟩ := hrel
          by_cases hlt : d < n
          · have hdI : (d : Int) < (n : Int) := by omega
            have hd0 : (0 : Int) ≤ (d : Int) := by omega
            have hdr : d < ms.length := by rw [HRN.out]; omega
            have hdx : d < x.length := by rw [HN.out]; exact hlt
            have hdrI : (d : Int) < (r : Int) := by omega
            obtain ⟨b1, o1, rfl, hb1, hc1⟩ := (HM.out.ext (HX2.out.trans HXr.out)).get d hdr
            rw [← getD_in (d := false) hdr] at hc1
            obtain ⟨b2, o2, rfl, hb2, hc2⟩ := (HX.out.ext (HX2.out.trans HXr.out)).get d hdx
            rw [← getD_in (d := false) hdx] at hc2
            have HNX := Lib.hid (missN_next x ms d)
            have HBX := Lib.hid (missBs_next ms d)
            have HPX := Lib.hid (missPs_next l (.slice (some ⟨b2, o2, none⟩) n cd) d)
            have hnl := HNL.out d
            obtain ⟨al, cl, rfl, _⟩ := HL.out.shape
            obtain ⟨ar, cr, rfl⟩ := HR.out.shape
            rw [missPs_len] at HL ⊢
            rw [missBs_len] at HR ⊢
            obtain ⟨u, hu⟩ : ∃ u, ms.getD d false = u := ⟨_, rfl⟩
            obtain ⟨z, hz⟩ : ∃ z, x.getD d false = z := ⟨_, rfl⟩
            rw [hu] at hc1 HNX HBX
            rw [hz] at hc2 HNX
            have HUU := Lib.hid hu
            have HZZ := Lib.hid hz
            clear hu hz
            have HBr := Lib.hid (HB2.out.ext HXr.out)
            have hsz := HXr.out.size
            generalize missN x ms d = N at *
            have HDR := Lib.hid hdr
            have HDX := Lib.hid hdx
            clear hdr hdx c15 hl2
            go_upto_region 12 with (first | (refine wpList_loadR 32 _ rfl (by rfl) rfl (LabAt.of_box HBr.out).load ?_) | (refine wpList_store_lab (w0 := wr) (l := l) (d := .slice (some ⟨b2, o2, none⟩) n cd) _ _ rfl (by rfl) rfl rfl (BoxAt.new _ _ _) rfl rfl (Ext.alloc _ _) (Nat.le_refl _) ?_; intro w4 hx4 hb4 hs4))
            have c41 := hb4.cell 1 (v := .int .i64 l.disk) rfl
            have f41 := hb4.free 1
            have l41 := hb4.lt
            have HB5 : Hid (BoxAt (w4.setCell ⟨wr.heap.size, 1, none⟩ (.int .i64 d)) wr.heap.size (labA (oneL l d) (.slice (some ⟨b2, o2, none⟩) n cd)) 32) := hb4.set 1 (.int .i64 d)
            have HX5 : Hid (Ext wr (w4.setCell ⟨wr.heap.size, 1, none⟩ (.int .i64 d))) := Ext.setOwn hx4 (Nat.le_refl _)
            clear hb4 hx4 hs4
            go_upto_region 13 with fail
            generalize w4.setCell ⟨wr.heap.size, 1, none⟩ (.int .i64 d) = w5 at *
            clear c41 f41 l41
            go_wp2_with (first | (refine wpList_loadR 32 _ rfl (by rfl) rfl (LabAt.of_box HB5.out).load ?_) | (at_builtin; refine Classical.byContradiction (fun hN => ?_)))
            refine hN ?_
            clear hN
            have e6 : Ext w5 (w5.alloc (.cells (labA (oneL l d) (.slice (some ⟨b2, o2, none⟩) n cd)) 32)) := Ext.alloc _ _
            have hown := (HL.out.ext HX5.out).ext e6
            have hrow := (HR.out.ext HX5.out).ext e6
            have hx25 := (HXr.out.trans HX5.out).trans e6
            refine wpList_append_lab rfl _ _ rfl w2.heap.size _ _ rfl hown rfl (BoxAt.new _ _ _) rfl (by rw [missPs_len]; omega) hx25.size ?_
            intro v7 w7 ho7 hg7
            have HX7 : Hid (Ext w2 w7) := hx25.grown hg7 hx25.size (fun q hq => (hown.lt q hq).1)
            have HO7 : Hid (OwnLs w7 w2.heap.size v7 (missPs l (.slice (some ⟨b2, o2, none⟩) n cd) (d + 1))) := by show OwnLs _ _ _ _; rw [HPX.out]; exact ho7
            have HR7 := Lib.hid (hrow.keptL hown (by decide) hg7)
            have hg1 := fun (w' : World) (e : Ext w2 w') => (HM.out.ext (HX2.out.trans e)).get d HDR.out
            have HG1 : Hid (∀ w', Ext w2 w' → b1 < w'.heap.size ∧ w'.cell? ⟨b1, o1 + d, none⟩ = some (.bool u)) := fun w' e => by
              obtain ⟨b', o', hbe, hb', hc'⟩ := hg1 w' e
              cases hbe
              rw [← getD_in (d := false) HDR.out, HUU.out] at hc'
              exact ⟨hb', hc'⟩
            have HG2 : Hid (∀ w', Ext w2 w' → b2 < w'.heap.size ∧ w'.cell? ⟨b2, o2 + d, none⟩ = some (.bool z)) := fun w' e => by
              obtain ⟨b', o', hbe, hb', hc'⟩ := (HX.out.ext (HX2.out.trans e)).get d HDX.out
              cases hbe
              rw [← getD_in (d := false) HDX.out, HZZ.out] at hc'
              exact ⟨hb', hc'⟩
            clear hg1
            obtain ⟨q17, c17⟩ := HG1.out w7 HX7.out
            clear ho7 hg7 hrow hown hx25 e6 hb1 hb2 hc1 hc2
            go_wp2_with (at_builtin; refine Classical.byContradiction (fun hN => ?_))
            refine hN ?_
            clear hN
            have e8 : Ext w7 (w7.alloc (.cells #[.bool (!u)] 4)) := Ext.alloc _ _
            have hrow8 := HR7.out.ext e8
            have hlow8 := HO7.out.ext e8
            have hx28 := HX7.out.trans e8
            refine wpList_append_one rfl _ _ _ rfl w2.heap.size 4 i0 (.bool false) 1 Try.underlying23 hI hI0 hI1 hI2 rfl _ _ _ rfl hrow8 _ (.bool (!u)) rfl rfl (cell_new1 _ _ _) (by rw [missBs_len]; unfold maxLen; omega) (by rw [missBs_len]; omega) hx28.size ?_
            intro v9 w9 ho9 hg9 _
            have HX9 : Hid (Ext w2 w9) := hx28.grown hg9 hx28.size (fun q hq => (hrow8.lt q hq).1)
            have HO9 := Lib.hid (hlow8.kept hrow8 (by decide) hg9)
            have HR9 : Hid (OwnG Value.bool 4 w9 w2.heap.size v9 (missBs ms (d + 1))) := by show OwnG _ _ _ _ _ _; rw [HBX.out]; exact OwnG.snoc (enc := Value.bool) (x := !u) ho9
            obtain ⟨q19, c19⟩ := HG1.out w9 HX9.out
            obtain ⟨q29, c29⟩ := HG2.out w9 HX9.out
            have hb9 := HB2.out.ext HX9.out
            have m15 := hb9.cell 15 (v := .slice (some ⟨b2, o2, none⟩) n cd) rfl
            have ml := hb9.lt
            clear ho9 hg9 hrow8 hlow8 hx28 e8 hb9 q17 c17
            cases u with
            | true =>
              go_wp2_with fail
              go_roundw
              case rel => exact ⟨d + 1, by omega, by go_num, by rw [HNX.out]; simp, HO9, HR9, HX9⟩
              case measure => simp [intOf]; omega
            | false =>
              cases z with
              | true =>
                go_wp2_with fail
                go_roundw
                case rel => exact ⟨d + 1, by omega, by go_num, by rw [HNX.out]; simp, HO9, HR9, HX9⟩
                case measure => simp [intOf]; omega
              | false =>
                go_wp2_with fail
                go_roundw
                case rel => exact ⟨d + 1, by omega, by go_num, by rw [HNX.out]; simp, HO9, HR9, HX9⟩
                case measure => simp [intOf]; omega
          · have hdn : d = n := by omega
            subst hdn
            have hin2 : ¬ ((d : Int) < (d : Int)) := by omega
            have hnl := HNL.out d
            have hlabs := HL.out.labs (ls := missLs l x) (by rw [miss_len, missPs_len]; exact HN.out) (fun i h1 h2 => by
              have hi : i < d := by rw [missPs_len] at h2; exact h2
              have e1 : (missLs l x)[i] = (oneL l i, x) := by simp [missLs]
              have e2 : (missPs l (.slice ad d cd) d)[i] = (oneL l i, .slice ad d cd) := by simp [missPs]
              rw [e1, e2]
              exact ⟨rfl, HX.out.ext (HX2.out.trans HXr.out)⟩)
            obtain ⟨al, cl, rfl, _⟩ := HL.out.shape
            obtain ⟨ar, cr, rfl⟩ := HR.out.shape
            rw [missPs_len] at HL hlabs ⊢
            rw [missBs_len] at HR ⊢
            have HLB := Lib.hid hlabs
            have HRB : Hid (SliceAt Value.bool wr (.slice ar d cr) (missRd x ms)) := by show SliceAt _ _ _ _; rw [missRd_eq, HN.out]; exact HR.out.slice
            have HDLL : Hid (∀ i, (ldN (missLs l x) i).2.length ≤ 100000) := fun i => by
              by_cases hi : i < x.length
              · rw [miss_ld hi]; show x.length ≤ _; rw [HN.out]; omega
              · unfold ldN; rw [getD_out (by rw [miss_len]; exact hi)]; decide
            clear hlabs
            go_wp2_with fail
            go_at_call 11
            refine (elect_any _ _ (missLs l x) (missRd x ms) _ (by rw [miss_len, HN.out]; omega) (by rw [missRd_eq, missBs_len, HN.out]; omega) HDLL.out HLB.out HRB.out).mono ?_
            rintro e w3 ⟨d3, a3, rfl, hd3, ha3, hx3⟩
            have HX3 : Hid (Ext w2 w3) := HXr.out.trans hx3
            obtain ⟨p3, q3, rfl⟩ := hd3.shape
            obtain ⟨s3, t3, rfl⟩ := ha3.shape
            have HD3 := Lib.hid hd3
            have HA3 := Lib.hid ha3
            have hl3 : (labE (missLs l x) (missRd x ms)).2.length ≤ 100000 := by
              unfold labE
              split
              · decide
              · split
                · exact HDLL.out _
                · decide
            have ha3l : (placesE (missLs l x) (missRd x ms)).length ≤ 100000 := by
              unfold placesE
              split
              · decide
              · split
                · rw [atE_len]
                  unfold disksN
                  rename_i m hb _
                  obtain ⟨hb1, hb2⟩ := best_facts hb
                  have := valid_facts (cand_valid hb2)
                  omega
                · decide
            have HLA := Lib.hid HLAW.out
            generalize errE (missLs l x) (missRd x ms) = E at *
            generalize (labE (missLs l x) (missRd x ms)).2 = X3 at *
            generalize (labE (missLs l x) (missRd x ms)).1 = L3 at *
            generalize placesE (missLs l x) (missRd x ms) = P3 at *
            obtain ⟨N, hN⟩ : ∃ N, missN x ms d = N := ⟨_, rfl⟩
            rw [hN] at HLA hnl ⊢
            clear hd3 ha3 hx3 HLAW hN HDLL
            go_upto_region 19 with (refine wpList_store_lab (w0 := w3) (l := L3) (d := .slice p3 X3.length q3) _ _ rfl (by rfl) rfl rfl (BoxAt.new _ _ _) rfl rfl (Ext.alloc _ _) (Nat.le_refl _) ?_; intro w4 hx4 hb4 hs4)
            have HX4 : Hid (Ext w2 w4) := HX3.out.trans hx4
            have HB4 := Lib.hid hb4
            have HD4 := Lib.hid (HD3.out.ext hx4)
            have HA4 := Lib.hid (HA3.out.ext hx4)
            clear hx4 hb4 hs4
            by_cases h3 : 3 < N
            · have d1 : decide ((3 : Int) < (N : Int)) = true := by rw [decide_eq_true_iff]; omega
              have d2 : decide (3 < N) = true := by rw [decide_eq_true_iff]; exact h3
              rcases HLA.out.1 h3 with he | ⟨he, hNd⟩
              · subst he
                clear h3
                go_wp2_with fail
                go_ret
                exact ⟨rfl, HX2.out.trans HX4.out⟩
              · subst he
                have hq : ((N : Int) == (d : Int)) = true := by rw [beq_iff_eq]; omega
                clear h3 hNd
                go_wp2_with fail
                go_ret
                exact ⟨rfl, HX2.out.trans HX4.out⟩
            · have d1 : decide ((3 : Int) < (N : Int)) = false := by rw [decide_eq_false_iff_not]; omega
              have d2 : decide (3 < N) = false := by rw [decide_eq_false_iff_not]; exact h3
              obtain ⟨he, hel, hct⟩ := HLA.out.2 (by omega)
              subst he
              have HB5 := Lib.hid (HB2.out.ext HX4.out)
              have HEQ := Lib.hid (requal_any L3 l _ _ X3 x w4 hl3 (by rw [HN.out]; omega) HD4.out (HX.out.ext (HX2.out.trans HX4.out)))
              rw [hel] at HEQ
              have HC := Lib.hid (fun (w' : World) (e : Ext w4 w') => rcount_any _ P3 w' ha3l (HA4.out.ext e))
              have hq : ((N : Int) == (N : Int)) = true := by simp
              rw [hct] at HC
              clear h3 hel hct
              go_wp2_with (first | (refine wpList_loadR 32 _ rfl (by rfl) rfl (LabAt.of_box HB4.out).load ?_) | (refine wpList_loadR 32 _ rfl (by rfl) rfl (LabAt.of_box HB5.out).load ?_))
              go_at_call 15
              refine HEQ.out.mono ?_
              rintro e w5 ⟨rfl, hx5⟩
              have HX5 : Hid (Ext w4 w5) := hx5
              clear hx5
              go_wp2_with fail
              go_at_call 17
              refine (HC.out _ HX5.out).mono ?_
              rintro e w6 ⟨rfl, rfl⟩
              go_wp2_with fail
              go_ret
              exact ⟨rfl, (HX2.out.trans HX4.out).trans HX5.out⟩
end Go.Proofs.Ytpmbbeflgifgaaa
