/-
  Chapter 9 (codec): the walk of CodecCount.
-/
import Derived.Test.YtbegghodjfllnaaK9P
import Derived.Test.YtbegghodjfllnaaK9E
namespace Go.Proofs.Ytbegghodjfllnaa
open Go.RowKit
set_option linter.unusedVariables false

theorem rdC_yes (m : Nat) (most : Int) (r : List (BitVec 8)) (h : m < 18446744073709551616) (h1 : (m : Int) ≤ most) : rdC most false (uv m ++ r) = some ((m : Int), r) := by
  unfold rdC
  have e : un (BitVec.ofNat 64 m) = (m : Int) := by unfold un; rw [BitVec.toNat_ofNat]; omega
  rw [rd_uv _ _ h]
  simp only [e]
  rw [if_pos ⟨by omega, h1⟩]
theorem rdC_no (m : Nat) (most : Int) (r : List (BitVec 8)) (h : m < 18446744073709551616) (h1 : most < (m : Int)) : rdC most false (uv m ++ r) = none := by
  unfold rdC
  have e : un (BitVec.ofNat 64 m) = (m : Int) := by unfold un; rw [BitVec.toNat_ofNat]; omega
  rw [rd_uv _ _ h]
  simp only [e]
  rw [if_neg (by omega)]
theorem rd_one : rd false (uv 1) = some (1#64, []) := by
  have := rd_uv 1 [] (by decide)
  rwa [List.append_nil] at this

set_option maxHeartbeats 800000 in
theorem codecCount_walk (m : Nat) (most : Int) (w : World) (hm : m < 18446744073709551616) (hmo : -9223372036854775808 ≤ most ∧ most ≤ 9223372036854775807) :
    Calls Try.prog 6 #[.int .u64 m, .int .i64 most] w fun e w' => e = .returned (.bool true) ∧ Below w.heap.size w w' := by
  have HM := Lib.hid hm
  have l1 := (uv_len m hm).2
  have l2 := (uv_len 1 (by decide)).2
  have hmi : (m : Int) ≤ 18446744073709551615 := by omega
  clear hm
  by_cases hneg : most < 0
  · go_enter Try.func6, Try.ntmps6
    go_wp2_with fail
    go_at_call 10
    refine (awake_any _).mono ?_
    rintro e w1 ⟨rfl, hb1⟩
    go_wp2_with fail
    go_ret
    exact ⟨rfl, hb1⟩
  · have hpos : 0 ≤ most := by omega
    clear hneg
    go_enter Try.func6, Try.ntmps6
    go_wp2_with fail
    go_at_call 10
    refine (awake_any _).mono ?_
    rintro e w1 ⟨rfl, hb1⟩
    go_wp2_with fail
    go_at_call 11
    refine (appendUint_any _ [] m _ (by simp) HM.out SliceAt.nil).mono ?_
    rintro e w2 ⟨v2, rfl, ho2, hb2⟩
    rw [List.nil_append] at ho2
    have HS2 := Lib.hid (OwnB.slice ho2)
    clear ho2
    go_wp2_with fail
    go_at_call 11
    refine (appendUint_any _ (uv m) 1 _ (by omega) (by decide) HS2.out).mono ?_
    rintro e w3 ⟨v3, rfl, ho3, hb3⟩
    have HS3 := Lib.hid (OwnB.slice ho3)
    clear ho3
    go_wp2_with fail
    go_at_call 20
    refine (new_any _ (uv m ++ uv 1) _ (by rw [List.length_append]; omega) HS3.out).mono ?_
    rintro e w4 ⟨b, rfl, hb, hr4, hb4⟩
    have HR4 := Lib.hid hr4
    have hx4 : Ext w w4 := Ext.trans (Ext.trans (Ext.trans hb1 hb2) hb3) hb4
    have hb : w.heap.size ≤ b := by have := Ext.size (Ext.trans (Ext.trans hb1 hb2) hb3); omega
    clear hr4
    go_wp2_with fail
    go_at_call 25
    refine (count_any _ _ (uv m ++ uv 1) false _ hmo (by rw [List.length_append]; omega) HR4.out).mono ?_
    intro e w5 hp
    by_cases hle : (m : Int) ≤ most
    · rw [rdC_yes m most _ HM.out hle] at hp
      obtain ⟨v, rfl, hv, hr5, hg5⟩ := hp
      have hv : v = .int .i64 m := hv
      subst hv
      have HR5 := Lib.hid hr5
      have HG5 := Lib.hid hg5
      clear hr5 hg5
      go_wp2_with fail
      go_at_call 21
      refine (uint_any _ _ (uv 1) false (by omega) HR5.out).mono ?_
      intro e w6 hp
      rw [rd_one] at hp
      obtain ⟨rfl, hr6, hg6⟩ := hp
      have HR6 := Lib.hid hr6
      have HG6 := Lib.hid (turn_trans HG5.out hg6)
      have hone : (un 1#64 == 1) = true := rfl
      clear hr6 hg6
      go_wp2_with fail
      go_at_call 26
      refine (done_any _ _ [] false (by simp) HR6.out).mono ?_
      rintro e w7 ⟨rfl, rfl⟩
      rw [show fin false [] = 0 from rfl]
      go_wp2_with fail
      go_ret
      exact ⟨rfl, Below.grown hx4 HG6.out hx4.size (fun k hk => by cases hk; exact hb)⟩
    · have hlt : most < (m : Int) := by omega
      clear hle
      rw [rdC_no m most _ HM.out hlt] at hp
      obtain ⟨rfl, hr5, hg5⟩ := hp
      have HR5 := Lib.hid hr5
      have HG5 := Lib.hid hg5
      clear hr5 hg5
      go_wp2_with fail
      go_at_call 21
      refine (uint_any _ _ [] true (by simp) HR5.out).mono ?_
      intro e w6 hp
      rw [show rd true [] = none from rfl] at hp
      obtain ⟨rfl, hr6, hg6⟩ := hp
      have HR6 := Lib.hid hr6
      have HG6 := Lib.hid (turn_trans HG5.out hg6)
      clear hr6 hg6
      go_wp2_with fail
      go_at_call 24
      refine (left_any _ _ [] true (by simp) HR6.out).mono ?_
      rintro e w7 ⟨rfl, rfl⟩
      go_wp2_with fail
      go_at_call 26
      refine (done_any _ _ [] true (by simp) HR6.out).mono ?_
      rintro e w8 ⟨rfl, rfl⟩
      rw [show fin true [] = 5 from rfl]
      go_wp2_with fail
      go_ret
      exact ⟨rfl, Below.grown hx4 HG6.out hx4.size (fun k hk => by cases hk; exact hb)⟩
end Go.Proofs.Ytbegghodjfllnaa
