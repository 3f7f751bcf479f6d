/-
  Chapter 26 (sumtree): Path of the reference; the walk of SumtreePath.
-/
import Derived.Test.YtdhlikjdcnfkpaaStL
namespace Go.Proofs.Ytdhlikjdcnfkpaa
open Go.RowKit
set_option linter.unusedVariables false

theorem others_take {l : List (BitVec 64)} {i k : Nat} : ((grp (lvl l k) (i / 4 ^ k / 4)).take (kidN l.length k (i / 4 ^ k / 4))).eraseIdx (i / 4 ^ k % 4) = others (lvl l k) (i / 4 ^ k) := by
  rw [List.take_of_length_le (by rw [grp_len]; exact Nat.le_refl _)]; rfl

set_option maxRecDepth 100000 in
set_option maxHeartbeats 2000000 in
theorem rpath_in (v : Value) (l : List (BitVec 64)) (i0 : Nat) (w : World) (hl : l.length ≤ 100000) (hi0 : i0 < l.length) (h : SliceAt encU w v l) :
    Calls Try.prog 14 #[v, .int .i64 i0] w fun e w' => ∃ v', e = .returned (.tuple #[v', .int .i64 0]) ∧ SliceAt encU w' v' (pathL l i0) ∧ Below w.heap.size w w' := by
  obtain ⟨j0, hj, hj0, hj1, hj2⟩ := info_parts infoU
  obtain ⟨ad, cap, rfl⟩ := h.shape
  have HS := Lib.hid h
  have hh := hgt_small hl
  have hd1 : decide ((i0 : Int) < 0) = false := by rw [decide_eq_false_iff_not]; omega
  have hd2 : decide ((l.length : Int) ≤ (i0 : Int)) = false := by rw [decide_eq_false_iff_not]; omega
  have hd3 : decide (l.length ≤ i0) = false := by rw [decide_eq_false_iff_not]; omega
  clear h
  go_enter Try.func14, Try.ntmps14
  go_wp2_with fail
  go_at_call 30
  refine (levels_any _ l _ hl HS.out).mono ?_
  rintro e w1 ⟨v1, rfl, hl1, hb1⟩
  have HX1 : Hid (Ext w w1) := hb1
  obtain ⟨g, c, rfl, hg1, hg2⟩ := hl1.form
  have HL := Lib.hid hl1
  obtain ⟨H, hH⟩ : ∃ H, hgt l.length = H := ⟨_, rfl⟩
  have HH := Lib.hid hH
  rw [hH] at HL hh ⊢
  clear hl1 hb1 hH hg1
  go_wp2_with fail
  go_loopw [8, 7, 1] (fun x vo iv wr => ∃ k : Nat, k ≤ H ∧ x = .int .i64 k ∧ iv = .int .i64 (i0 / 4 ^ k : Nat) ∧ Hid (OwnG encU 34 wr w1.heap.size vo (pathK l i0 0 k)) ∧ Hid (Ext w1 wr)) (fun x _ _ _ => H - (intOf x).toNat)
  case atStart => exact ⟨0, Nat.zero_le _, rfl, by simp, Lib.hid (by rw [pathK_zero]; exact OwnG.nil), Lib.hid (Ext.refl _)⟩
  case round =>
    obtain ⟨k, hk, rfl, rfl, HO, HX⟩ := hrel
    generalize wr = wo at *
    by_cases hlt : k < H
    · have hin : ((k : Int) + 1) < ((H : Int) + 1) := by omega
      have hin2 : (k : Int) + 1 < ((H + 1 : Nat) : Int) := by omega
      obtain ⟨p, hp⟩ : ∃ p, i0 / 4 ^ k = p := ⟨_, rfl⟩
      have hpl : p < sz l.length k := by rw [← hp]; exact up_lt hi0 k
      have hpn : p ≤ 100000 := Nat.le_trans (Nat.le_of_lt hpl) (Nat.le_trans (sz_le _ _) hl)
      have HP := Lib.hid hp
      have HSN : Hid (pathK l i0 0 (k + 1) = pathK l i0 0 k ++ ((grp (lvl l k) (p / 4)).take (kidN l.length k (p / 4))).eraseIdx (p % 4)) := by
        show _ = _
        rw [pathK_snoc, Nat.zero_add, ← hp, others_take]
      have HUP : Hid (i0 / 4 ^ (k + 1) = p / 4) := by show _ = _; rw [up_step, hp]
      rw [hp]
      obtain ⟨fr, hfr⟩ : ∃ fr, 4 * (p / 4) = fr := ⟨_, rfl⟩
      have hfr2 : (p : Int) / 4 * 4 = (fr : Int) := by omega
      have hfrb : fr ≤ 100000 := by omega
      obtain ⟨a, d, hcK, hoK⟩ := (HL.out.ext HX.out).elem k (by omega)
      have HOK := Lib.hid hoK
      have hgo : g < wo.heap.size := Nat.lt_of_lt_of_le hg2 HX.out.size
      obtain ⟨m, hm⟩ : ∃ m, sz l.length k = m := ⟨_, rfl⟩
      have HM := Lib.hid hm
      obtain ⟨N, hN⟩ : ∃ N, kidN l.length k (p / 4) = N := ⟨_, rfl⟩
      have hN2 : N = min 4 (m - fr) := by rw [← hN, ← hm, ← hfr]; rfl
      have HN := Lib.hid hN
      rw [hN] at HSN
      rw [hm] at hcK HOK hpl
      have hplen : (pathK l i0 0 k).length ≤ 40 := Nat.le_trans (pathK_le l i0 k 0) (by omega)
      have HFR := Lib.hid hfr
      have HN2 := Lib.hid hN2
      have hm5 : m ≤ 100000 := by rw [← hm]; exact Nat.le_trans (sz_le _ _) hl
      clear hp hoK hm hN hfr hN2
      go_wp2_with fail
      go_loopw [10, 7] (fun x vo wr => ∃ t : Nat, t ≤ N ∧ x = .int .i64 (fr + t : Nat) ∧ Hid (OwnG encU 34 wr w1.heap.size vo (pathK l i0 0 k ++ ((grp (lvl l k) (p / 4)).take t).eraseIdx (p % 4))) ∧ Hid (Ext w1 wr)) (fun x _ _ => fr + 5 - (intOf x).toNat)
      case atStart => exact ⟨0, Nat.zero_le _, rfl, Lib.hid (by rw [List.take_zero]; simpa using HO.out), HX⟩
      case round =>
        obtain ⟨t, ht, rfl, HQ, HX4⟩ := hrel
        obtain ⟨a', d', hcK', hoK'⟩ := (HL.out.ext HX4.out).elem k (by omega)
        have hgr : g < wr.heap.size := Nat.lt_of_lt_of_le hg2 HX4.out.size
        rw [HM.out] at hcK' hoK'
        have HOK' := Lib.hid hoK'
        have hN4 : N ≤ 4 := by have := HN2.out; omega
        clear hoK'
        by_cases htN : t < N
        · have hc1 : decide (((fr : Int) + (t : Int)) < (fr : Int) + 4) = true := by rw [decide_eq_true_eq]; omega
          have hc2 : decide (fr + t < fr + 4) = true := by rw [decide_eq_true_eq]; omega
          have hc3 : decide (((fr : Int) + (t : Int)) < (m : Int)) = true := by rw [decide_eq_true_eq]; have := HN2.out; omega
          have hc4 : decide (fr + t < m) = true := by rw [decide_eq_true_eq]; have := HN2.out; omega
          have hc5 : ((fr : Int) + (t : Int)) < (m : Int) := by have := HN2.out; omega
          have hc6 : fr + t < m := by have := HN2.out; omega
          have hgl : (grp (lvl l k) (p / 4)).length = N := by rw [grp_len]; exact HN.out
          have htg : t < (grp (lvl l k) (p / 4)).length := by rw [hgl]; exact htN
          obtain ⟨b, off, hab, hb, hcc⟩ := (HOK'.out.slice).get (fr + t) (by rw [lvl_len, HM.out]; exact hc6)
          subst hab
          by_cases htp : t = p % 4
          · have hne : ((fr : Int) + (t : Int) != (p : Int)) = false := by rw [bne_eq_false_iff_eq]; have := HFR.out; omega
            have hne2 : (fr + t == p) = true := by rw [beq_iff_eq]; have := HFR.out; omega
            have hne3 : (fr + t != p) = false := by rw [bne, hne2]; rfl
            have hne4 : ((fr : Int) + (t : Int) == (p : Int)) = true := by rw [beq_iff_eq]; have := HFR.out; omega
            have HE : Hid (((grp (lvl l k) (p / 4)).take (t + 1)).eraseIdx (p % 4) = ((grp (lvl l k) (p / 4)).take t).eraseIdx (p % 4)) := by show _ = _; rw [← htp]; exact erase_step_on htg
            rw [← HE.out] at HQ
            clear htp htg hgl
            go_wp2_with fail
            go_roundw
            case rel => exact ⟨t + 1, by omega, by congr 1, HQ, HX4⟩
            case measure => show fr + 5 - (intOf (.int .i64 ((fr : Int) + (t : Int) + 1))).toNat < fr + 5 - (intOf (.int .i64 ((fr : Int) + (t : Int)))).toNat; unfold intOf; simp only; omega
          · have hne : ((fr : Int) + (t : Int) != (p : Int)) = true := by rw [bne_iff_ne]; have := HFR.out; omega
            have hne2 : (fr + t == p) = false := by rw [beq_eq_false_iff_ne]; have := HFR.out; omega
            have hne3 : (fr + t != p) = true := by rw [bne, hne2]; rfl
            have hne4 : ((fr : Int) + (t : Int) == (p : Int)) = false := by rw [beq_eq_false_iff_ne]; have := HFR.out; omega
            have HE : Hid (((grp (lvl l k) (p / 4)).take (t + 1)).eraseIdx (p % 4) = ((grp (lvl l k) (p / 4)).take t).eraseIdx (p % 4) ++ [(grp (lvl l k) (p / 4))[t]]) := erase_step_off htg htp
            have hgx : (lvl l k)[fr + t]'(by rw [lvl_len, HM.out]; exact hc6) = (grp (lvl l k) (p / 4))[t] := by
              rw [grp_get]
              simp only [HFR.out]
            rw [hgx] at hcc
            have hql : (pathK l i0 0 k ++ ((grp (lvl l k) (p / 4)).take t).eraseIdx (p % 4)).length ≤ 100 := by
              rw [List.length_append]
              have h1 := List.length_eraseIdx_le ((grp (lvl l k) (p / 4)).take t) (p % 4)
              have h2 : ((grp (lvl l k) (p / 4)).take t).length ≤ 4 := by rw [List.length_take]; omega
              omega
            have HQL := Lib.hid hql
            generalize (grp (lvl l k) (p / 4))[t] = s at *
            have hsx := HX4.out.size
            clear htp htg hgl hgx hql
            go_wp2_with (at_builtin; refine Classical.byContradiction (fun hN => ?_))
            refine hN ?_
            clear hN
            refine wpList_append_one rfl _ _ _ rfl w1.heap.size 34 j0 (.int .u64 0) 8 Try.underlying22 hj hj0 hj1 hj2 rfl _ _ _ rfl (World.ownsRow.alloc HQ.out _) _ (encU s) rfl rfl (cell_new1 _ _ _) (by have := HQL.out; unfold maxLen; omega) (by have := HQL.out; omega) (by simp; omega) ?_
            intro v2 w2 ho2 hg2' _
            have HO2 : Hid (OwnG encU 34 w2 w1.heap.size v2 (pathK l i0 0 k ++ ((grp (lvl l k) (p / 4)).take (t + 1)).eraseIdx (p % 4))) := by
              show OwnG _ _ _ _ _ _
              rw [HE.out, ← List.append_assoc]
              exact OwnG.snoc (enc := encU) (x := s) ho2
            have HX5 : Hid (Ext w1 w2) := (Below.alloc HX4.out hsx _).grown hg2' (by simp; omega) (fun q hq => (HQ.out.lt q hq).1)
            clear ho2 hg2'
            go_wp2
            go_roundw
            case rel => exact ⟨t + 1, by omega, by congr 1, HO2, HX5⟩
            case measure => show fr + 5 - (intOf (.int .i64 ((fr : Int) + (t : Int) + 1))).toNat < fr + 5 - (intOf (.int .i64 ((fr : Int) + (t : Int)))).toNat; unfold intOf; simp only; omega
        · have htN : t = N := by omega
          subst htN
          rw [← HSN.out] at HQ
          have hcz : (4 ≤ t ∨ m ≤ fr + t) := by have := HN2.out; omega
          by_cases h4 : 4 ≤ t
          · have hc1 : decide (((fr : Int) + (t : Int)) < (fr : Int) + 4) = false := by rw [decide_eq_false_iff_not]; omega
            have hc2 : decide (fr + t < fr + 4) = false := by rw [decide_eq_false_iff_not]; omega
            clear hcz
            go_wp2_with fail
            go_roundw
            case rel => exact ⟨k + 1, by omega, by go_num, by rw [HUP.out]; congr 1, HQ, HX4⟩
            case measure => simp [intOf]; omega
          · have hc1 : decide (((fr : Int) + (t : Int)) < (fr : Int) + 4) = true := by rw [decide_eq_true_eq]; omega
            have hc2 : decide (fr + t < fr + 4) = true := by rw [decide_eq_true_eq]; omega
            have hc3 : decide (((fr : Int) + (t : Int)) < (m : Int)) = false := by rw [decide_eq_false_iff_not]; omega
            have hc4 : decide (fr + t < m) = false := by rw [decide_eq_false_iff_not]; omega
            clear hcz
            go_wp2_with fail
            go_roundw
            case rel => exact ⟨k + 1, by omega, by go_num, by rw [HUP.out]; congr 1, HQ, HX4⟩
            case measure => simp [intOf]; omega
    · have hkH : k = H := by omega
      subst hkH
      have hin : ¬ (((k : Int) + 1) < ((k : Int) + 1)) := by omega
      have HPE : Hid (pathK l i0 0 k = pathL l i0) := by show _ = _; unfold pathL; rw [HH.out]
      rw [HPE.out] at HO
      go_wp2_with fail
      go_ret2
      exact ⟨_, rfl, HO.out.slice, HX1.out.trans HX.out⟩
theorem rpath_any (v : Value) (l : List (BitVec 64)) (i : Int) (w : World) (hl : l.length ≤ 100000) (h : SliceAt encU w v l) :
    Calls Try.prog 14 #[v, .int .i64 i] w (PathEnd w (pathO l i)) := by
  have hX : (0 ≤ i ∧ i < l.length) ∨ ¬ (0 ≤ i ∧ i < l.length) := Decidable.em _
  rcases hX with hi | hi
  · obtain ⟨n, rfl⟩ := Int.eq_ofNat_of_zero_le hi.1
    have HE : pathO l n = some (pathL l n) := if_pos hi
    rw [HE]
    refine (rpath_in v l n w hl (by omega) h).mono ?_
    rintro e w' ⟨v', rfl, hs, hb⟩
    exact ⟨v', rfl, hs, hb⟩
  · have HE : Hid (pathO l i = none) := if_neg hi
    obtain ⟨ad, cap, rfl⟩ := h.shape
    clear h
    by_cases h1 : i < 0
    · have hd1 : decide (i < 0) = true := decide_eq_true h1
      go_enter Try.func14, Try.ntmps14
      go_wp2_with fail
      go_ret2
      rw [HE.out]
      exact ⟨_, rfl, SliceAt.nil, Below.refl _ _⟩
    · have hd1 : decide (i < 0) = false := decide_eq_false h1
      have hd2 : decide ((l.length : Int) ≤ i) = true := by rw [decide_eq_true_eq]; omega
      clear hi
      go_enter Try.func14, Try.ntmps14
      go_wp2_with fail
      go_ret2
      rw [HE.out]
      exact ⟨_, rfl, SliceAt.nil, Below.refl _ _⟩
theorem pathO_len {l : List (BitVec 64)} {i : Int} (hl : l.length ≤ 100000) : ((pathO l i).getD []).length ≤ 100000 := by
  unfold pathO
  split
  · have h1 := pathK_le l i.toNat (hgt l.length) 0
    have h2 := hgt_small hl
    show (pathK l i.toNat 0 (hgt l.length)).length ≤ _
    omega
  · simp
/-- the answer's second part -/
def errN (o : Option (List (BitVec 64))) : Int := if o.isSome then 0 else 2

set_option maxRecDepth 100000 in
set_option maxHeartbeats 1000000 in
theorem sumtreePath_walk (vl : Value) (l : List (BitVec 64)) (i : Int) (w : World) (hi : I64 i) (hm : l.length ≤ maxLen) (h : SliceAt encU w vl l) :
    Calls Try.prog 3 #[vl, .int .i64 i] w fun e w' => e = .returned (.bool true) ∧ Below w.heap.size w w' := by
  obtain ⟨ad, cap, rfl⟩ := h.shape
  have HS := Lib.hid h
  clear h
  unfold maxLen at hm
  go_enter Try.func3, Try.ntmps3
  go_wp2_with fail
  go_at_call 11
  refine (awake_any _).mono ?_
  rintro e w1 ⟨rfl, hb1⟩
  have HX1 : Hid (Ext w w1) := hb1
  clear hb1
  by_cases hl : l.length ≤ 100
  · have hd : decide ((100 : Int) < (l.length : Int)) = false := by rw [decide_eq_false_iff_not]; omega
    go_wp2_with fail
    go_at_call 13
    refine (build_any _ l _ (by omega) (HS.out.ext HX1.out)).mono ?_
    rintro e w2 ⟨P, rfl, ht, hb2⟩
    obtain ⟨ap, hTV⟩ := treeV_ptr l.length P
    have HX2 : Hid (Ext w w2) := HX1.out.trans hb2
    have HT2 := Lib.hid ht
    have HTV := Lib.hid hTV
    rw [hTV]
    clear ht hb2 hTV
    go_wp2_with fail
    go_at_call 12
    have hpa := path_any l P i w2 (by omega) HT2.out
    rw [HTV.out] at hpa
    obtain ⟨o, ho⟩ : ∃ o, pathO l i = o := ⟨_, rfl⟩
    have HOo := Lib.hid ho
    have hol := pathO_len (i := i) (show l.length ≤ 100000 by omega)
    rw [ho] at hpa hol
    refine hpa.mono ?_
    rintro e w3 ⟨v3, rfl, hs3, hb3⟩
    have HX3 : Hid (Ext w w3) := HX2.out.trans hb3
    have HS3 := Lib.hid hs3
    obtain ⟨a3, c3, rfl⟩ := hs3.shape
    obtain ⟨x, hx⟩ : ∃ x : Int, (if o.isSome then (0 : Int) else 2) = x := ⟨_, rfl⟩
    rw [hx]
    have HEx := Lib.hid hx
    clear hpa hb3 hs3 ho hx
    go_wp2_with fail
    go_at_call 14
    have hpr := rpath_any (.slice ad l.length cap) l i w3 (by omega) (HS.out.ext HX3.out)
    rw [HOo.out] at hpr
    refine hpr.mono ?_
    rintro e w4 ⟨v4, rfl, hs4, hb4⟩
    rw [HEx.out]
    have HX4 : Hid (Ext w w4) := HX3.out.trans hb4
    have HS4 := Lib.hid hs4
    have HS34 := Lib.hid (HS3.out.ext hb4)
    obtain ⟨a4, c4, rfl⟩ := hs4.shape
    have hxx : (x == x) = true := by simp
    clear hpr hb4 hs4
    generalize o.getD [] = q at *
    go_wp2_with fail
    go_at_call 15
    refine (uints_any _ _ q q _ HS34.out HS4.out (by omega) (by omega)).mono ?_
    rintro e w5 ⟨rfl, hb5⟩
    have HX5 : Hid (Ext w w5) := HX4.out.trans hb5
    rw [decide_eq_true rfl]
    clear hb5
    go_wp2_with fail
    go_ret
    exact ⟨rfl, HX5.out⟩
  · have hd : decide ((100 : Int) < (l.length : Int)) = true := by rw [decide_eq_true_eq]; omega
    go_wp2_with fail
    go_at_call 11
    refine (awake_any _).mono ?_
    rintro e w3 ⟨rfl, hb3⟩
    have HX3 : Hid (Ext w1 w3) := hb3
    clear hb3
    go_wp2_with fail
    go_ret
    exact ⟨rfl, HX1.out.trans HX3.out⟩
end Go.Proofs.Ytdhlikjdcnfkpaa
