/-
  Chapter 10 (geometry): the shadow of a sector, in package geometry and in its reference.
-/
import Derived.Test.YtfoelkpnhhfgaaaGeoD
namespace Go.Proofs.Ytfoelkpnhhfgaaa
open Go.RowKit
set_option linter.unusedVariables false

theorem infoI : (Try.prog.info? 3).map (fun i => (i.zero, i.size, i.bytes)) = some (some (.int .i64 0), 1, 8) := by kernel_rfl

/-- the first n sectors of a shadow -/
def shwN (s a : Int) (n : Nat) : List Int := (List.range n).map (fun j : Nat => a + ((j : Int) + 1) * s)
theorem shwN_succ (s a : Int) (n : Nat) : shwN s a (n + 1) = shwN s a n ++ [a + ((n : Int) + 1) * s] := by
  simp [shwN, List.range_succ]
theorem shwN_length (s a : Int) (n : Nat) : (shwN s a n).length = n := by simp [shwN]
/-- how many sectors a shadow has -/
def shwC (r b t s o a : Int) : Nat := if (loc r b t s o a).err = 0 then min o.toNat (t - 1 - (loc r b t s o a).track).toNat else 0
def shw (r b t s o a : Int) : List Int := shwN s a (shwC r b t s o a)

/-- a bound on what is added -/
theorem shw_bound {k s : Int} (hk : 0 ≤ k) (hk2 : k ≤ 4) (hs : 1 ≤ s) (hs2 : s ≤ 64) : 0 ≤ k * s ∧ k * s ≤ 256 := by
  have h1 := Int.mul_nonneg hk (show 0 ≤ s by omega)
  have h2 : k * s ≤ 4 * 64 := Int.mul_le_mul hk2 hs2 (by omega) (by omega)
  omega

set_option maxHeartbeats 1000000 in
theorem shadow_any (r b t s o a : Int) (w : World) :
    Calls Try.prog 18 #[geoV r b t s o, .int .i64 a] w fun e w' => ∃ v, e = .returned v ∧ SliceAt encI w' v (shw r b t s o a) ∧ Below w.heap.size w w' := by
  obtain ⟨i0, hi, hz0, hz1, hz2⟩ := info_parts infoI
  by_cases he : (loc r b t s o a).err = 0
  · have HE := Lib.hid he
    have hv : validB r b t s o = true := by
      rcases h : validB r b t s o with _ | _
      · rw [loc_no h] at he; exact absurd he (by decide)
      · rfl
    have hin : inB r b t s o a = true := by
      rcases h : inB r b t s o a with _ | _
      · rw [loc_out hv h] at he; exact absurd he (by decide)
      · rfl
    have hb := bounds hv
    have hp := prod_bounds hv
    have hj : r ≤ a ∧ a < r + b * (t * s) := by simpa only [inB, decide_eq_true_eq] using hin
    have hab : 0 ≤ a ∧ a ≤ 100000 := by omega
    have HL := Lib.hid (loc_in hv hin)
    have htr : 0 ≤ (loc r b t s o a).track ∧ (loc r b t s o a).track < t := by
      rw [HL.out]; have hn : 0 ≤ a - r := by omega
      have hd := div_bounds hn (show 1 ≤ s by omega)
      have hd2 := div_bounds hd.1 (show 1 ≤ t by omega)
      exact ⟨hd2.2.2.1, hd2.2.2.2⟩
    have hef : ((loc r b t s o a).err != 0) = false := by rw [HE.out]; rfl
    have HS : Hid (shw r b t s o a = shwN s a (min o.toNat (t - 1 - (loc r b t s o a).track).toNat)) := by
      show _ = _; unfold shw shwC; rw [if_pos HE.out]
    generalize hlo : loc r b t s o a = L at *
    have HLO := Lib.hid hlo
    clear hlo he hv hin hj HL
    go_enter Try.func18, Try.ntmps18
    go_wp2_with (go_at_call 21; refine (locate_any _ _ _ _ _ _ _).mono ?_; rintro e w1 ⟨rfl, hb1⟩; rw [HLO.out]; have hc1 := below_cells hb1)
    have hz : w.heap.size < w1.heap.size := by have := hb1.size; simp at this; omega
    go_loopw [9, 10] (fun v i wr => ∃ n : Nat, i = .int .i64 ((n : Int) + 1) ∧ (n : Int) ≤ o ∧ L.track + n < t ∧ wr.ownsRow w1.heap.size 3 1 v n ((shwN s a n).map encI) ∧ Below w1.heap.size w1 wr) (fun _ i _ => (t - intOf i).toNat)
    case atStart => exact ⟨0, rfl, by omega, by omega, World.ownsRow_nil _ _ _ _, Below.refl _ _⟩
    case round =>
      obtain ⟨n, rfl, hno, hnt, hown, hx⟩ := hrel
      have hxc := below_cells hx
      have hwb := shw_bound (k := (n : Int) + 1) (s := s) (by omega) (by omega) (by omega) (by omega)
      by_cases hc : (n : Int) + 1 ≤ o ∧ L.track + ((n : Int) + 1) < t
      · obtain ⟨hc1', hc2'⟩ := hc
        go_wp2_with (at_builtin; refine wpList_append_own _ rfl _ _ 28 rfl w1.heap.size 3 i0 (.int .i64 0) 1 8 Try.underlying28 hi hz0 hz1 hz2 rfl (by decide) _ _ _ rfl (hown.alloc _) ⟨wr.heap.size, 0, none⟩ 1 1 [.int .i64 (a + ((n : Int) + 1) * s)] rfl rfl ?c1 ?c2 ?c3 ?c4 ?c5 ?_)
        case c1 =>
          intro j u hj
          match j, hj with
          | 0, hj => simp at hj; subst hj; simp [Addr.add]
        case c2 => intro u hu; simp at hu; subst hu; rfl
        case c3 => unfold maxLen; omega
        case c4 => omega
        case c5 => have := hx.size; simp; omega
        intro v' w2 hown' hgrow _
        have hx2 : Below w1.heap.size w1 w2 := (hx.alloc hx.size _).grown hgrow (by have := hx.size; simp; omega) (fun k hk => (hown.lt k hk).1)
        have hown2 : w2.ownsRow w1.heap.size 3 1 v' (n + 1) ((shwN s a (n + 1)).map encI) := by rw [shwN_succ, List.map_append]; exact hown'
        clear hown' hgrow hown hx hxc
        go_wp2
        go_roundw
        case rel => exact ⟨n + 1, by go_num, by omega, by omega, hown2, hx2⟩
        case measure => simp [intOf]; omega
      · have hst : n = min o.toNat (t - 1 - L.track).toNat := by omega
        have HST := Lib.hid hst
        clear hst
        go_wp2
        all_goals go_ret
        all_goals exact ⟨_, rfl, by rw [HS.out, ← HST.out]; exact SliceAt.of_owns hown, ((Ext.alloc _ _).trans hb1).trans hx⟩
  · have hef : ((loc r b t s o a).err != 0) = true := by rw [bne_iff_ne]; exact he
    have HS : Hid (shw r b t s o a = []) := by
      show _ = _; unfold shw shwC; rw [if_neg he]; rfl
    clear he
    generalize hlo : loc r b t s o a = L at *
    have HLO := Lib.hid hlo
    clear hlo
    go_enter Try.func18, Try.ntmps18
    go_wp2_with (go_at_call 21; refine (locate_any _ _ _ _ _ _ _).mono ?_; rintro e w1 ⟨rfl, hb1⟩; rw [HLO.out]; have hc1 := below_cells hb1)
    go_ret
    exact ⟨_, rfl, HS.out ▸ SliceAt.nil, (Ext.alloc _ _).trans hb1⟩

/-- what a place says of its address -/
theorem loc_back {r b t s o a : Int} (hv : validB r b t s o = true) (hin : inB r b t s o a = true) :
    0 ≤ (loc r b t s o a).band ∧ (loc r b t s o a).band < b ∧ 0 ≤ (loc r b t s o a).track ∧ (loc r b t s o a).track < t ∧ 0 ≤ (loc r b t s o a).pos ∧ (loc r b t s o a).pos < s ∧
      r + ((loc r b t s o a).band * t + (loc r b t s o a).track) * s + (loc r b t s o a).pos = a := by
  have hb := bounds hv
  have hp := prod_bounds hv
  have hj : r ≤ a ∧ a < r + b * (t * s) := by simpa only [inB, decide_eq_true_eq] using hin
  have hn : 0 ≤ a - r := by omega
  have hd := div_bounds hn (show 1 ≤ s by omega)
  have hd2 := div_bounds hd.1 (show 1 ≤ t by omega)
  rw [loc_in hv hin]
  have h1 : (a - r) / s / t * t + (a - r) / s % t = (a - r) / s := Int.ediv_mul_add_emod _ _
  have h2 : (a - r) / s * s + (a - r) % s = a - r := Int.ediv_mul_add_emod _ _
  refine ⟨hd2.1, ?_, hd2.2.2.1, hd2.2.2.2, hd.2.2.1, hd.2.2.2, ?_⟩
  · show (a - r) / s / t < b
    rw [← quo_comm (by omega)]
    exact Int.ediv_lt_of_lt_mul (by omega) (by omega)
  · show r + ((a - r) / s / t * t + (a - r) / s % t) * s + (a - r) % s = a
    rw [h1]; omega

theorem adr_shadow {r b t s o a : Int} (hv : validB r b t s o = true) (hin : inB r b t s o a = true) (m : Int) (hm : 0 ≤ m) (hmt : (loc r b t s o a).track + m < t) :
    adr r b t s o (loc r b t s o a).band ((loc r b t s o a).track + m) (loc r b t s o a).pos = ⟨a + m * s, 0⟩ := by
  obtain ⟨h1, h2, h3, h4, h5, h6, h7⟩ := loc_back hv hin
  rw [adr_in hv (by simp only [inS, decide_eq_true_eq]; omega)]
  congr 1
  rw [← Int.add_assoc, Int.add_mul _ m s]; omega
theorem adr_beyond {r b t s o a : Int} (hv : validB r b t s o = true) (hin : inB r b t s o a = true) (m : Int) (hmt : ¬ (loc r b t s o a).track + m < t) :
    adr r b t s o (loc r b t s o a).band ((loc r b t s o a).track + m) (loc r b t s o a).pos = ⟨0, 2⟩ := by
  rw [adr_out hv (by simp only [inS, decide_eq_false_iff_not]; omega)]

set_option maxHeartbeats 1000000 in
theorem rshadow_any (r b t s o a : Int) (w : World) :
    Calls Try.prog 19 #[geoV r b t s o, .int .i64 a] w fun e w' => ∃ v, e = .returned v ∧ SliceAt encI w' v (shw r b t s o a) ∧ Below w.heap.size w w' := by
  obtain ⟨i0, hi, hz0, hz1, hz2⟩ := info_parts infoI
  by_cases he : (loc r b t s o a).err = 0
  · have HE := Lib.hid he
    have hv : validB r b t s o = true := by
      rcases h : validB r b t s o with _ | _
      · rw [loc_no h] at he; exact absurd he (by decide)
      · rfl
    have hin : inB r b t s o a = true := by
      rcases h : inB r b t s o a with _ | _
      · rw [loc_out hv h] at he; exact absurd he (by decide)
      · rfl
    have HIN := Lib.hid hin
    have HV := Lib.hid hv
    have hb := bounds hv
    have hp := prod_bounds hv
    have hj : r ≤ a ∧ a < r + b * (t * s) := by simpa only [inB, decide_eq_true_eq] using hin
    have hab : 0 ≤ a ∧ a ≤ 100000 := by omega
    have htr := loc_back hv hin
    have hef : ((loc r b t s o a).err == 0) = true := by rw [HE.out]; rfl
    have HS : Hid (shw r b t s o a = shwN s a (min o.toNat (t - 1 - (loc r b t s o a).track).toNat)) := by
      show _ = _; unfold shw shwC; rw [if_pos HE.out]
    have HA : Hid (∀ m : Int, 0 ≤ m → (loc r b t s o a).track + m < t → adr r b t s o (loc r b t s o a).band ((loc r b t s o a).track + m) (loc r b t s o a).pos = ⟨a + m * s, 0⟩) := adr_shadow hv hin
    have HB : Hid (∀ m : Int, ¬ (loc r b t s o a).track + m < t → adr r b t s o (loc r b t s o a).band ((loc r b t s o a).track + m) (loc r b t s o a).pos = ⟨0, 2⟩) := adr_beyond hv hin
    generalize hlo : loc r b t s o a = L at *
    have HLO := Lib.hid hlo
    obtain ⟨ht1, ht2, ht3, ht4, ht5, ht6, _⟩ := htr
    clear hlo he hv hin hj
    go_enter Try.func19, Try.ntmps19
    go_wp2_with (go_at_call 20; refine (rlocate_any _ _ _ _ _ _ _).mono ?_; rintro e w1 ⟨rfl, hb1⟩; rw [HLO.out]; have hc1 := below_cells hb1)
    have hz : w.heap.size < w1.heap.size := by have := hb1.size; simp at this; omega
    go_loopw [9, 10, 11, 12] (fun v i _ _ wr => ∃ n : Nat, i = .int .i64 ((n : Int) + 1) ∧ (n : Int) ≤ o ∧ wr.ownsRow w1.heap.size 3 1 v (min n (t - 1 - L.track).toNat) ((shwN s a (min n (t - 1 - L.track).toNat)).map encI) ∧ Below w1.heap.size w1 wr) (fun _ i _ _ _ => (o + 1 - intOf i).toNat)
    case atStart => exact ⟨0, rfl, by omega, by rw [Nat.zero_min]; exact World.ownsRow_nil _ _ _ _, Below.refl _ _⟩
    case round =>
      obtain ⟨n, rfl, hno, hown, hx⟩ := hrel
      have hxc := below_cells hx
      have hwb := shw_bound (k := (n : Int) + 1) (s := s) (by omega) (by omega) (by omega) (by omega)
      by_cases hc : (n : Int) + 1 ≤ o
      · by_cases hc2 : L.track + ((n : Int) + 1) < t
        · have hmn : min n (t - 1 - L.track).toNat = n := by omega
          have hmn1 : min (n + 1) (t - 1 - L.track).toNat = n + 1 := by omega
          rw [hmn] at hown
          have HM := Lib.hid hmn1
          clear hmn hmn1
          go_wp2_with (first
            | (at_builtin; refine wpList_append_own _ rfl _ _ 28 rfl w1.heap.size 3 i0 (.int .i64 0) 1 8 Try.underlying28 hi hz0 hz1 hz2 rfl (by decide) _ _ _ rfl (hown2.alloc _) ⟨w2.heap.size, 0, none⟩ 1 1 [.int .i64 (a + ((n : Int) + 1) * s)] rfl rfl ?c1 ?c2 ?c3 ?c4 ?c5 ?_)
            | (go_at_call 25; refine (raddress_any _ _ _ _ _ _ _ _ _).mono ?_; rintro e w2 ⟨rfl, hb2⟩; rw [HA.out _ (by omega) hc2]; have hx2 := hx.trans (hb2.mono hx.size); have hxc2 := below_cells hx2; have hown2 := hown.kept (row := none) ⟨hb2.os, hb2.tape, hb2.output, hb2.size, fun k hk _ => hb2.block k hk⟩ (by rcases hown.2 with ⟨rfl, _⟩ | ⟨g, cap, cur, rfl, _⟩ <;> simp [Value.ownBlock])))
          case c1 =>
            intro j u hj
            match j, hj with
            | 0, hj => simp at hj; subst hj; simp [Addr.add]
          case c2 => intro u hu; simp at hu; subst hu; rfl
          case c3 => unfold maxLen; omega
          case c4 => omega
          case c5 => have := hx2.size; simp; omega
          intro v' w3 hown' hgrow _
          have hx3 : Below w1.heap.size w1 w3 := (hx2.alloc hx2.size _).grown hgrow (by have := hx2.size; simp; omega) (fun k hk => (hown2.lt k hk).1)
          have hown3 : w3.ownsRow w1.heap.size 3 1 v' (n + 1) ((shwN s a (n + 1)).map encI) := by rw [shwN_succ, List.map_append]; exact hown'
          clear hown' hgrow hown hown2 hx hxc hxc2 hx2
          go_wp2
          go_roundw
          case rel => exact ⟨n + 1, by go_num, by omega, by rw [HM.out]; exact hown3, hx3⟩
          case measure => simp [intOf]; omega
        · have hmn : min n (t - 1 - L.track).toNat = min (n + 1) (t - 1 - L.track).toNat := by omega
          rw [hmn] at hown
          clear hmn
          go_wp2_with (go_at_call 25; refine (raddress_any _ _ _ _ _ _ _ _ _).mono ?_; rintro e w2 ⟨rfl, hb2⟩; rw [HB.out _ hc2]; have hx2 := hx.trans (hb2.mono hx.size); have hown2 := hown.kept (row := none) ⟨hb2.os, hb2.tape, hb2.output, hb2.size, fun k hk _ => hb2.block k hk⟩ (by rcases hown.2 with ⟨rfl, _⟩ | ⟨g, cap, cur, rfl, _⟩ <;> simp [Value.ownBlock]))
          go_roundw
          case rel => exact ⟨n + 1, by go_num, by omega, hown2, hx2⟩
          case measure => simp [intOf]; omega
      · have hst : min n (t - 1 - L.track).toNat = min o.toNat (t - 1 - L.track).toNat := by omega
        rw [hst] at hown
        clear hst
        go_wp2
        all_goals go_ret
        all_goals exact ⟨_, rfl, by rw [HS.out]; exact SliceAt.of_owns hown, ((Ext.alloc _ _).trans hb1).trans hx⟩
  · have hef : ((loc r b t s o a).err == 0) = false := by rw [beq_eq_false_iff_ne]; exact he
    have HS : Hid (shw r b t s o a = []) := by
      show _ = _; unfold shw shwC; rw [if_neg he]; rfl
    clear he
    generalize hlo : loc r b t s o a = L at *
    have HLO := Lib.hid hlo
    clear hlo
    go_enter Try.func19, Try.ntmps19
    go_wp2_with (go_at_call 20; refine (rlocate_any _ _ _ _ _ _ _).mono ?_; rintro e w1 ⟨rfl, hb1⟩; rw [HLO.out]; have hc1 := below_cells hb1)
    refine wp_loop_rounds 1 ?_
    rw [rounds_succ]
    go_wp2
    go_ret
    exact ⟨_, rfl, HS.out ▸ SliceAt.nil, (Ext.alloc _ _).trans hb1⟩
end Go.Proofs.Ytfoelkpnhhfgaaa
