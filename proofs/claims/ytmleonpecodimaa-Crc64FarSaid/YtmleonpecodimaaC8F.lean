/-
  Chapter 8 (crc64): the walks of Crc64Update, Crc64Combine, Crc64Steps, Crc64Far.
-/
import Derived.Test.YtmleonpecodimaaC8E
namespace Go.Proofs.Ytmleonpecodimaa
open Go.ChangeShapes Go.WideShapes Go.ChangeAt Go.RowKit
set_option linter.unusedVariables false

set_option maxHeartbeats 400000 in
theorem crc64Update_walk (va vb : Value) (la lb : List (BitVec 8)) (w : World) (hla : la.length ≤ maxLen) (hlb : lb.length ≤ maxLen) (ha : SliceAt encB w va la) (hb : SliceAt encB w vb lb) :
    Calls Try.prog 4 #[va, vb] w fun e w' => e = .returned (.bool true) ∧ Below w.heap.size w w' := by
  have HA0 := Lib.hid ha
  have HB0 := Lib.hid hb
  have HLA := Lib.hid hla
  have HLB := Lib.hid hlb
  obtain ⟨ada, capa, rfl, _⟩ := ha
  obtain ⟨adb, capb, rfl, _⟩ := hb
  unfold maxLen at hla hlb
  have HJ : Hid (Crc.sum (la ++ lb) = Crc.update (Crc.sum la) lb) := (Crc.update_sum la lb).symm
  by_cases hlen : la.length ≤ 300
  · by_cases hlen2 : lb.length ≤ 300
    · go_enter Try.func4, Try.ntmps4
      go_wp2_with (first
        | (go_at_call 11; refine (awake_any _).mono ?_; rintro e w1 ⟨rfl, hb1⟩; have HA1 := Lib.hid (HA0.out.ext hb1); have HB1 := Lib.hid (HB0.out.ext hb1))
        | (go_at_call 12; (with_reducible refine (sum_any _ _ _ HLA.out HA1.out).mono ?_); rintro e w2 ⟨rfl, rfl⟩)
        | (go_at_call 14; refine (update_any _ _ _ _ HLB.out HB1.out).mono ?_; rintro e w2 ⟨rfl, rfl⟩)
        | (go_at_call 16; refine (joined_any _ _ _ _ _ (by omega) (by omega) HA1.out HB1.out).mono ?_; rintro e w3 ⟨v3, rfl, hs3, hb3⟩; have HS3 := Lib.hid hs3; clear hs3)
        | (go_at_call 12; (with_reducible refine (sum_any _ _ _ (by rw [List.length_append]; unfold maxLen; omega) HS3.out).mono ?_); rintro e w2 ⟨rfl, rfl⟩; rw [HJ.out]))
      go_ret
      exact ⟨rfl, Ext.trans hb1 hb3⟩
    · go_enter Try.func4, Try.ntmps4
      go_wp2_with (go_at_call 11; refine (awake_any _).mono ?_; rintro e w1 ⟨rfl, hb1⟩)
      go_ret
      exact ⟨rfl, hb1⟩
  · go_enter Try.func4, Try.ntmps4
    go_wp2_with (go_at_call 11; refine (awake_any _).mono ?_; rintro e w1 ⟨rfl, hb1⟩)
    go_ret
    exact ⟨rfl, hb1⟩

set_option maxHeartbeats 400000 in
theorem crc64Combine_walk (va vb : Value) (la lb : List (BitVec 8)) (w : World) (hla : la.length ≤ maxLen) (hlb : lb.length ≤ maxLen) (ha : SliceAt encB w va la) (hb : SliceAt encB w vb lb) :
    Calls Try.prog 5 #[va, vb] w fun e w' => e = .returned (.bool true) ∧ Below w.heap.size w w' := by
  have HA0 := Lib.hid ha
  have HB0 := Lib.hid hb
  have HLA := Lib.hid hla
  have HLB := Lib.hid hlb
  obtain ⟨ada, capa, rfl, _⟩ := ha
  obtain ⟨adb, capb, rfl, _⟩ := hb
  unfold maxLen at hla hlb
  have HJ : Hid (Crc.sum (la ++ lb) = Crc.combine (Crc.sum la) (Crc.sum lb) lb.length) := (Crc.combine_sum la lb).symm
  by_cases hlen : la.length ≤ 300
  · by_cases hlen2 : lb.length ≤ 300
    · go_enter Try.func5, Try.ntmps5
      go_wp2_with (first
        | (go_at_call 11; refine (awake_any _).mono ?_; rintro e w1 ⟨rfl, hb1⟩; have HA1 := Lib.hid (HA0.out.ext hb1); have HB1 := Lib.hid (HB0.out.ext hb1))
        | (go_at_call 12; (with_reducible refine (sum_any _ _ _ HLA.out HA1.out).mono ?_); rintro e w2 ⟨rfl, rfl⟩)
        | (go_at_call 12; (with_reducible refine (sum_any _ _ _ HLB.out HB1.out).mono ?_); rintro e w2 ⟨rfl, rfl⟩)
        | (go_at_call 17; refine (combine_any _ _ _ (by omega) _).mono ?_; rintro e w2 ⟨rfl, hb2⟩; rw [Int.toNat_natCast]; have HA2 := Lib.hid (HA1.out.ext hb2); have HB2 := Lib.hid (HB1.out.ext hb2))
        | (go_at_call 16; refine (joined_any _ _ _ _ _ (by omega) (by omega) HA2.out HB2.out).mono ?_; rintro e w3 ⟨v3, rfl, hs3, hb3⟩; have HS3 := Lib.hid hs3; clear hs3)
        | (go_at_call 12; (with_reducible refine (sum_any _ _ _ (by rw [List.length_append]; unfold maxLen; omega) HS3.out).mono ?_); rintro e w2 ⟨rfl, rfl⟩; rw [HJ.out]))
      go_ret
      exact ⟨rfl, (Ext.trans hb1 hb2).trans hb3⟩
    · go_enter Try.func5, Try.ntmps5
      go_wp2_with (go_at_call 11; refine (awake_any _).mono ?_; rintro e w1 ⟨rfl, hb1⟩)
      go_ret
      exact ⟨rfl, hb1⟩
  · go_enter Try.func5, Try.ntmps5
    go_wp2_with (go_at_call 11; refine (awake_any _).mono ?_; rintro e w1 ⟨rfl, hb1⟩)
    go_ret
    exact ⟨rfl, hb1⟩

set_option maxHeartbeats 400000 in
theorem crc64Steps_walk (a b : BitVec 64) (n : Int) (w : World) (h0 : -9223372036854775808 ≤ n) (h1 : n ≤ 9223372036854775807) :
    Calls Try.prog 6 #[encU a, encU b, .int .i64 n] w fun e w' => e = .returned (.bool true) ∧ Below w.heap.size w w' := by
  by_cases hn : n ≤ 1000
  · by_cases hz : 0 ≤ n
    · obtain ⟨k, rfl⟩ := Int.eq_ofNat_of_zero_le hz
      go_enter Try.func6, Try.ntmps6
      go_wp2_with (first
        | (go_at_call 11; refine (awake_any _).mono ?_; rintro e w1 ⟨rfl, hb1⟩)
        | (go_at_call 17; refine (combine_any _ _ _ (by omega) _).mono ?_; rintro e w2 ⟨rfl, hb2⟩; rw [Int.toNat_natCast])
        | (go_at_call 18; refine (rcombine_any _ _ k (by omega) _).mono ?_; rintro e w3 ⟨rfl, rfl⟩))
      go_ret
      exact ⟨rfl, Ext.trans hb1 hb2⟩
    · have hk : n.toNat = 0 := by omega
      have HK := Lib.hid hk
      clear hk
      go_enter Try.func6, Try.ntmps6
      go_wp2_with (first
        | (go_at_call 11; refine (awake_any _).mono ?_; rintro e w1 ⟨rfl, hb1⟩)
        | (go_at_call 17; refine (combine_any _ _ _ (by omega) _).mono ?_; rintro e w2 ⟨rfl, hb2⟩; rw [HK.out])
        | (go_at_call 18; refine (rcombine_any _ _ 0 (by omega) _).mono ?_; rintro e w3 ⟨rfl, rfl⟩))
      go_ret
      exact ⟨rfl, Ext.trans hb1 hb2⟩
  · go_enter Try.func6, Try.ntmps6
    go_wp2_with (go_at_call 11; refine (awake_any _).mono ?_; rintro e w1 ⟨rfl, hb1⟩)
    go_ret
    exact ⟨rfl, hb1⟩

set_option maxHeartbeats 400000 in
theorem crc64Far_walk (a m n : BitVec 64) (w : World) :
    Calls Try.prog 7 #[encU a, encU m, encU n] w fun e w' => e = .returned (.bool true) ∧ Below w.heap.size w w' := by
  have hm := (un_bound m).1
  have hn := (un_bound n).1
  have HF : Hid (Crc.combine a 0#64 (un m % 1099511627776 + un n % 1099511627776).toNat = Crc.combine (Crc.combine a 0#64 (un m % 1099511627776).toNat) 0#64 (un n % 1099511627776).toNat) := by
    show _ = _
    rw [Crc.combine_far]; congr 1 <;> omega
  go_enter Try.func7, Try.ntmps7
  go_wp2_with (first
    | (go_at_call 11; refine (awake_any _).mono ?_; rintro e w1 ⟨rfl, hb1⟩; have tok1 := True.intro)
    | (go_at_call 17; have _t := tok1; refine (combine_any _ 0#64 _ (by omega) _).mono ?_; rintro e w2 ⟨rfl, hb2⟩; clear tok1 _t; have tok2 := True.intro)
    | (go_at_call 17; have _t := tok2; refine (combine_any _ 0#64 _ (by omega) _).mono ?_; rintro e w3 ⟨rfl, hb3⟩; clear tok2 _t)
    | (go_at_call 17; refine (combine_any _ 0#64 _ (by omega) _).mono ?_; rintro e w4 ⟨rfl, hb4⟩; rw [HF.out]))
  go_ret
  exact ⟨rfl, ((Ext.trans hb1 hb2).trans hb3).trans hb4⟩
end Go.Proofs.Ytmleonpecodimaa
