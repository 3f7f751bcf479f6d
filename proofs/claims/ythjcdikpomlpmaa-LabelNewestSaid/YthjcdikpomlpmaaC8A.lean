/-
  Chapter 8 (crc64): steps of the register, in package crc64 and in its reference; Update, Sum.
-/
import Derived.Test.YthjcdikpomlpmaaRows
import Derived.Test.YthjcdikpomlpmaaU64
import Derived.ProofKit
import Derived.WalkSpells
import Derived.WalkLawsBesides
namespace Go.Proofs.Ythjcdikpomlpmaa
open Go.RowKit
set_option linter.unusedVariables false
attribute [local go_sem] xor_un and_un and_one_un xor_poly_un half_un or_un not_un unsigned64 wrap_ub

theorem one_yes {x : BitVec 64} (h : x &&& 1#64 = 1#64) : (un (x &&& 1#64) == 1) = true := by rw [eq_one_un, h]; rfl
theorem one_no {x : BitVec 64} (h : ¬ x &&& 1#64 = 1#64) : (un (x &&& 1#64) == 1) = false := by rw [eq_one_un]; simpa using h
theorem step_yes {x : BitVec 64} (h : x &&& 1#64 = 1#64) : Crc.step x = x >>> 1 ^^^ Crc.poly := by unfold Crc.step; rw [if_pos h]
theorem step_no {x : BitVec 64} (h : ¬ x &&& 1#64 = 1#64) : Crc.step x = x >>> 1 := by unfold Crc.step; rw [if_neg h]

theorem step_any (x : BitVec 64) (w : World) :
    Calls Try.prog 73 #[encU x] w fun e w' => e = .returned (encU (Crc.step x)) ∧ w = w' := by
  by_cases h : x &&& 1#64 = 1#64
  · have HS := Lib.hid (step_yes h)
    have hb := one_yes h
    clear h
    go_enter Try.func73, Try.ntmps73
    go_wp2
    go_ret
    exact ⟨by rw [HS.out]; rfl, rfl⟩
  · have HS := Lib.hid (step_no h)
    have hb := one_no h
    clear h
    go_enter Try.func73, Try.ntmps73
    go_wp2
    go_ret
    exact ⟨by rw [HS.out]; rfl, rfl⟩

set_option maxHeartbeats 400000 in
theorem steps_any (x : BitVec 64) (n : Int) (hn : n ≤ 9223372036854775807) (w : World) :
    Calls Try.prog 74 #[encU x, .int .i64 n] w fun e w' => e = .returned (encU (Crc.stepN n.toNat x)) ∧ w = w' := by
  go_enter Try.func74, Try.ntmps74
  go_wp2
  go_loop [0, 5, 6] (fun v i l => ∃ (k : Nat) (y : BitVec 64), k ≤ n.toNat ∧ i = .int .i64 k ∧ v = encU y ∧ Crc.stepN (n.toNat - k) y = Crc.stepN n.toNat x) (fun _ i _ => n.toNat - (intOf i).toNat)
  case atStart => exact ⟨0, x, Nat.zero_le _, rfl, rfl, rfl⟩
  case round =>
    obtain ⟨k, y, hk, rfl, rfl, he⟩ := hrel
    by_cases hlt : (k : Int) < n
    · obtain ⟨m, hm⟩ : ∃ m, n.toNat - k = m + 1 := ⟨n.toNat - k - 1, by omega⟩
      have hm2 : n.toNat - (k + 1) = m := by omega
      rw [hm] at he
      have HE := Lib.hid he
      have HM := Lib.hid hm2
      clear he hm hm2
      by_cases h : y &&& 1#64 = 1#64
      · have HS := Lib.hid (step_yes h)
        have hb := one_yes h
        clear h
        go_wp2
        go_round
        case rel => exact ⟨k + 1, Crc.step y, by omega, by go_num, by rw [HS.out], by rw [HM.out]; exact HE.out⟩
        case measure => simp [intOf]; omega
      · have HS := Lib.hid (step_no h)
        have hb := one_no h
        clear h
        go_wp2
        go_round
        case rel => exact ⟨k + 1, Crc.step y, by omega, by go_num, by rw [HS.out], by rw [HM.out]; exact HE.out⟩
        case measure => simp [intOf]; omega
    · have hz : n.toNat - k = 0 := by omega
      rw [hz] at he
      have HE := Lib.hid he
      clear he hz
      go_wp2
      go_ret
      exact ⟨by rw [← HE.out]; rfl, rfl⟩

set_option maxHeartbeats 400000 in
theorem rupdate_any (x : BitVec 64) (v : Value) (l : List (BitVec 8)) (w : World) (hl : l.length ≤ maxLen) (h : SliceAt encB w v l) :
    Calls Try.prog 72 #[encU x, v] w fun e w' => e = .returned (encU (Crc.update x l)) ∧ w = w' := by
  obtain ⟨ad, cap, rfl, _, ha⟩ := h
  unfold maxLen at hl
  go_enter Try.func72, Try.ntmps72
  go_wp2
  go_loop [5, 6] (fun v i => ∃ (k : Nat) (y : BitVec 64), k ≤ l.length ∧ i = .int .i64 k ∧ v = encU y ∧ Crc.foldB y (l.drop k) = Crc.foldB (~~~x) l) (fun _ i => l.length - (intOf i).toNat)
  case atStart => exact ⟨0, ~~~x, Nat.zero_le _, rfl, rfl, rfl⟩
  case round =>
    obtain ⟨k, y, hk, rfl, rfl, he⟩ := hrel
    by_cases hlt : k < l.length
    · rw [List.drop_eq_getElem_cons hlt] at he
      have HE := Lib.hid he
      clear he
      rcases ha with ⟨ha, _⟩ | ⟨b, o, rfl, hb, ha⟩
      · subst ha; simp at hlt
      have hc := ha k hlt
      generalize l[k] = c at *
      clear ha
      go_wp2_with (go_at_call 74; refine (steps_any _ _ (by decide) _).mono ?_; rintro e w' ⟨rfl, rfl⟩)
      go_round
      case rel => exact ⟨k + 1, _, by omega, by go_num, rfl, HE.out⟩
      case measure => simp [intOf]; omega
    · have HE : Hid (y = Crc.foldB (~~~x) l) := by
        rw [List.drop_eq_nil_of_le (by omega)] at he; exact he
      clear he
      go_wp2
      go_ret
      exact ⟨by rw [HE.out]; rfl, rfl⟩

theorem rsum_any (v : Value) (l : List (BitVec 8)) (w : World) (hl : l.length ≤ maxLen) (h : SliceAt encB w v l) :
    Calls Try.prog 67 #[v] w fun e w' => e = .returned (encU (Crc.sum l)) ∧ w = w' := by
  go_enter Try.func67, Try.ntmps67
  go_wp2_with (go_at_call 72; refine (rupdate_any 0#64 _ l _ hl h).mono ?_; rintro e w' ⟨rfl, rfl⟩)
  go_ret
  exact ⟨rfl, rfl⟩

set_option maxHeartbeats 400000 in
theorem update_any (x : BitVec 64) (v : Value) (l : List (BitVec 8)) (w : World) (hl : l.length ≤ maxLen) (h : SliceAt encB w v l) :
    Calls Try.prog 68 #[encU x, v] w fun e w' => e = .returned (encU (Crc.update x l)) ∧ w = w' := by
  obtain ⟨ad, cap, rfl, _, ha⟩ := h
  unfold maxLen at hl
  go_enter Try.func68, Try.ntmps68
  go_wp2
  go_loop [5, 7, 12, 20] (fun v _ i _ => ∃ (k : Nat) (y : BitVec 64), k ≤ l.length ∧ i = .int .i64 k ∧ v = encU y ∧ Crc.foldB y (l.drop k) = Crc.foldB (~~~x) l) (fun _ _ i _ => l.length - (intOf i).toNat)
  case atStart => exact ⟨0, ~~~x, Nat.zero_le _, rfl, rfl, rfl⟩
  case round =>
    obtain ⟨k, y, hk, rfl, rfl, he⟩ := hrel
    by_cases hlt : k < l.length
    · rw [List.drop_eq_getElem_cons hlt] at he
      have HE := Lib.hid he
      clear he
      rcases ha with ⟨ha, _⟩ | ⟨b, o, rfl, hb, ha⟩
      · subst ha; simp at hlt
      have hc := ha k hlt
      generalize l[k] = c at *
      clear ha
      go_wp2
      go_loop [5, 20] (fun v i => ∃ (j : Nat) (z : BitVec 64), j ≤ 8 ∧ i = .int .i64 j ∧ v = encU z ∧ Crc.stepN (8 - j) z = Crc.stepN 8 (y ^^^ Crc.reg c)) (fun _ i => 8 - (intOf i).toNat)
      case atStart => exact ⟨0, y ^^^ Crc.reg c, by omega, rfl, rfl, rfl⟩
      case round =>
        obtain ⟨j, z, hj, rfl, rfl, hz⟩ := hrel
        by_cases hjl : j < 8
        · obtain ⟨m, hm⟩ : ∃ m, 8 - j = m + 1 := ⟨8 - j - 1, by omega⟩
          have hm2 : 8 - (j + 1) = m := by omega
          rw [hm] at hz
          have HZ := Lib.hid hz
          have HM := Lib.hid hm2
          clear hz hm hm2
          go_wp2_with (go_at_call 73; refine (step_any _ _).mono ?_; rintro e w' ⟨rfl, rfl⟩)
          go_round
          case rel => exact ⟨j + 1, _, by omega, by go_num, rfl, by rw [HM.out]; exact HZ.out⟩
          case measure => simp [intOf]; omega
        · have h8 : j = 8 := by omega
          subst h8
          have HZ : Hid (z = Crc.stepN 8 (y ^^^ Crc.reg c)) := hz
          clear hz
          go_wp2
          go_round
          case rel => exact ⟨k + 1, z, by omega, by go_num, rfl, by rw [HZ.out]; exact HE.out⟩
          case measure => simp [intOf]; omega
    · have HE : Hid (y = Crc.foldB (~~~x) l) := by
        rw [List.drop_eq_nil_of_le (by omega)] at he; exact he
      clear he
      go_wp2
      go_ret
      exact ⟨by rw [HE.out]; rfl, rfl⟩

theorem sum_any (v : Value) (l : List (BitVec 8)) (w : World) (hl : l.length ≤ maxLen) (h : SliceAt encB w v l) :
    Calls Try.prog 55 #[v] w fun e w' => e = .returned (encU (Crc.sum l)) ∧ w = w' := by
  go_enter Try.func55, Try.ntmps55
  go_wp2_with (go_at_call 68; refine (update_any 0#64 _ l _ hl h).mono ?_; rintro e w' ⟨rfl, rfl⟩)
  go_ret
  exact ⟨rfl, rfl⟩
end Go.Proofs.Ythjcdikpomlpmaa
