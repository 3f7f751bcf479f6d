/-
  Chapter 8 (crc64): Combine, in package crc64 and in its reference.
-/
import Derived.Test.YtmleonpecodimaaC8B
namespace Go.Proofs.Ytmleonpecodimaa
open Go.RowKit
set_option linter.unusedVariables false
attribute [local go_sem] xor_un and_un and_one_un xor_poly_un half_un or_un not_un unsigned64 wrap_ub

theorem and_one_i64 (m : Nat) : bits .and .i64 (m : Int) 1 = ((m % 2 : Nat) : Int) := by
  show IntKind.i64.wrap ((BitVec.ofInt 64 (m : Int) &&& BitVec.ofInt 64 1).toNat : Int) = _
  have h : (BitVec.ofInt 64 (m : Int) &&& BitVec.ofInt 64 1).toNat = m % 2 := by
    rw [BitVec.toNat_and, show BitVec.ofInt 64 1 = 1#64 from rfl, show (1#64).toNat = 1 from rfl, Nat.and_one_is_mod, BitVec.ofInt_natCast, BitVec.toNat_ofNat]
    omega
  rw [h, i64_id _ (by omega)]

theorem sq_fun (p : Nat) : (fun x => Crc.stepN p (Crc.stepN p x)) = Crc.stepN (2 * p) := by
  funext x; rw [← Crc.stepN_add]; congr 1; omega
theorem step_lin : Crc.Lin Crc.step := Crc.step_xor
theorem shl_one {k : Nat} (hk : k < 64) : IntKind.u64.wrap (2 ^ k) = un (1#64 <<< k) := by
  have hlt : (2 : Nat) ^ k < 2 ^ 64 := Nat.pow_lt_pow_right (by omega) hk
  have h : un (1#64 <<< k) = ((2 ^ k : Nat) : Int) := by
    unfold un; rw [BitVec.toNat_shiftLeft]
    simp only [Nat.shiftLeft_eq]
    rw [show (1#64).toNat = 1 from rfl, Nat.one_mul, Nat.mod_eq_of_lt hlt]
  rw [h]
  have : ((2 ^ k : Nat) : Int) = (2 : Int) ^ k := by simp
  rw [← this]
  rw [← h]; exact wrap_un _

set_option maxHeartbeats 1000000 in
theorem combine_any (a b : BitVec 64) (n : Int) (hn : n ≤ 9223372036854775807) (w : World) :
    Calls Try.prog 17 #[encU a, encU b, .int .i64 n] w fun e w' => e = .returned (encU (Crc.combine a b n.toNat)) ∧ Below w.heap.size w w' := by
  go_enter Try.func17, Try.ntmps17
  go_wp2
  change Code.wp _ _ _ _ (w.alloc (.cells (Array.replicate 64 (.int .u64 0)) 42))
  go_loopw [8, 11] (fun _ i wr => ∃ k : Nat, k ≤ 64 ∧ i = .int .i64 k ∧ Below w.heap.size w wr ∧ Filling wr w.heap.size Crc.step k) (fun _ i _ => 64 - (intOf i).toNat)
  case atStart => exact ⟨0, Nat.zero_le _, rfl, (Below.refl _ _).alloc (Nat.le_refl _) _, Filling.start _ _ _⟩
  case round =>
    obtain ⟨k, hk, rfl, hx, hfl⟩ := hrel
    by_cases hlt : k < 64
    · obtain ⟨v0, hv0⟩ := hfl.2.1 k hlt
      have hfz := hfl.2.2.1 k
      have i0 : (0 : Int) ≤ (k : Int) := by omega
      have i1 : (k : Int) < 64 := by omega
      have i2 : min k 64 = k := by omega
      have hs := shl_one hlt
      have HFL := Lib.hid hfl
      clear hfl
      go_wp2
      refine wp_region_tru [(0, true), (1, true), (2, true), (3, true), (5, true), (4, false), (6, true), (7, false)] (by kernel_rfl) (by kernel_rfl) ?_
      iterate 5 (first
       | (refine tru_move rfl rfl (by rfl) (by rfl) ?_; simp only [Act.put, List.setIfInBounds_toArray, List.set_cons_zero, List.set_cons_succ])
       | (apply tru_take rfl (by rfl)
          · intro w'
            go_simp
            (try simp (disch := omega) only [i64_id, ↓IntWalk.iteOmega, Int.tdiv_eq_ediv_of_nonneg, Int.tmod_eq_emod_of_nonneg])
            try rfl
          simp only [Act.put, List.setIfInBounds_toArray, List.set_cons_zero, List.set_cons_succ])
       | (refine tru_pass rfl (by rfl) ?_; simp only [Act.put, List.setIfInBounds_toArray, List.set_cons_zero, List.set_cons_succ]))
      (refine tru_do rfl (by rfl) (fun K hK => ?_)
       go_simp
       go_at_call 19
       refine (step_any _ _).mono ?_
       rintro e w1 ⟨rfl, rfl⟩
       refine hK _ _ ?_
       clear hK K
       (try simp only [Act.put, List.setIfInBounds_toArray, List.set_cons_zero, List.set_cons_succ]))
      iterate 1 (first
       | (refine tru_move rfl rfl (by rfl) (by rfl) ?_; simp only [Act.put, List.setIfInBounds_toArray, List.set_cons_zero, List.set_cons_succ])
       | (apply tru_take rfl (by rfl)
          · intro w'
            go_simp
            (try simp (disch := omega) only [i64_id, ↓IntWalk.iteOmega, Int.tdiv_eq_ediv_of_nonneg, Int.tmod_eq_emod_of_nonneg])
            try rfl
          simp only [Act.put, List.setIfInBounds_toArray, List.set_cons_zero, List.set_cons_succ])
       | (refine tru_pass rfl (by rfl) ?_; simp only [Act.put, List.setIfInBounds_toArray, List.set_cons_zero, List.set_cons_succ]))
      (refine tru_do rfl (by rfl) (fun K hK => ?_)
       go_simp
       refine hK _ _ ?_
       clear hK K
       (try simp only [Act.put, List.setIfInBounds_toArray, List.set_cons_zero, List.set_cons_succ]))
      refine tru_nil ?_
      clear hs
      go_wp2
      go_roundw
      case rel => exact ⟨k + 1, by omega, by go_num, (hx.setCell (by simp) _).drew, (HFL.out.put hlt).drew⟩
      case measure => simp [intOf]; omega
    · have h64 : k = 64 := by omega
      subst h64
      have hsz : w.heap.size < wr.heap.size := hfl.1
      have hm0 := hfl.mat
      have HM0 := Lib.hid hm0
      clear hm0 hfl
      rw [show ((64 : Nat) : Int) = 64 from rfl]
      go_wp2
      go_loopw [7, 22] (fun v i wq => ∃ (j b' : Nat), j ≤ 3 ∧ i = .int .i64 j ∧ v = .pointer (some ⟨b', 0, none⟩) ∧ b' < wq.heap.size ∧ MatAt wq b' (Crc.stepN (2 ^ j)) ∧ Below w.heap.size w wq ∧ w.heap.size ≤ b') (fun _ i _ => 3 - (intOf i).toNat)
      case atStart => exact ⟨0, _, Nat.zero_le _, rfl, rfl, hsz, HM0.out, hx, Nat.le_refl _⟩
      case round =>
        obtain ⟨j, b', hj, rfl, rfl, hb', hm, hx2, hge⟩ := hrel
        have HM := Lib.hid hm
        clear hm hx hsz HM0
        by_cases hj3 : j < 3
        · go_wp2_with (go_at_call 21; refine (square_any _ _ (Crc.lin_stepN _) _ hb' HM.out).mono ?_; rintro e wz ⟨b2, rfl, h1, h2, h3, h4⟩; have H3 := Lib.hid h3; clear h3)
          go_roundw
          case rel => exact ⟨j + 1, _, by omega, by go_num, rfl, h1, (by have h := H3.out; rw [sq_fun] at h; rw [Nat.pow_succ, Nat.mul_comm]; exact h), hx2.trans (h4.mono hx2.size), Nat.le_trans hx2.size h2⟩
          case measure => simp [intOf]; omega
        · have h3 : j = 3 := by omega
          subst h3
          rw [show ((3 : Nat) : Int) = 3 from rfl]
          go_wp2
          go_loopw [0, 2, 7] (fun x nn v wq => ∃ (p b1 : Nat) (m : Int) (y : BitVec 64), nn = .int .i64 m ∧ x = encU y ∧ v = .pointer (some ⟨b1, 0, none⟩) ∧ b1 < wq.heap.size ∧ MatAt wq b1 (Crc.stepN p) ∧ Below w.heap.size w wq ∧ w.heap.size ≤ b1 ∧ m ≤ n ∧ Crc.stepN (p * m.toNat) y = Crc.stepN (8 * n.toNat) a) (fun _ nn _ _ => (intOf nn).toNat)
          case atStart => exact ⟨8, b', n, a, rfl, rfl, rfl, hb', HM.out, hx2, hge, Int.le_refl _, rfl⟩
          case round =>
            obtain ⟨p, b1, m, y, rfl, rfl, rfl, hb1, hm1, hx3, hge1, hmn, hstep⟩ := hrel
            have HM1 := Lib.hid hm1
            have HS := Lib.hid hstep
            clear hm1 hx2 hge hb' HM hstep
            by_cases hm0 : 0 < m
            · obtain ⟨q, rfl⟩ : ∃ q : Nat, m = (q : Int) := ⟨m.toNat, by omega⟩
              have hand := and_one_i64 q
              rcases Nat.mod_two_eq_zero_or_one q with hq | hq
              · rw [hq] at hand
                have HQ := Lib.hid hq
                clear hq
                go_wp2_with (go_at_call 21; refine (square_any _ _ (Crc.lin_stepN _) _ hb1 HM1.out).mono ?_; rintro e wz ⟨b2, rfl, h1, h2, h3, h4⟩; have H3 := Lib.hid h3; clear h3)
                go_roundw
                case rel => exact ⟨2 * p, b2, ((q / 2 : Nat) : Int), _, by go_num, rfl, rfl, h1, (by have h := H3.out; rw [sq_fun] at h; exact h), hx3.trans (h4.mono hx3.size), Nat.le_trans hx3.size h2, by omega, (by have h := HS.out; rw [Int.toNat_natCast] at h ⊢; rw [Crc.combine_round_even p q _ HQ.out]; exact h)⟩
                case measure => simp [intOf]; omega
              · rw [hq] at hand
                have HQ := Lib.hid hq
                clear hq
                go_wp2_with (first
                  | (go_at_call 22; refine (apply_any _ _ (Crc.lin_stepN _) _ _ HM1.out).mono ?_; rintro e wy ⟨rfl, rfl⟩)
                  | (go_at_call 21; refine (square_any _ _ (Crc.lin_stepN _) _ hb1 HM1.out).mono ?_; rintro e wz ⟨b2, rfl, h1, h2, h3, h4⟩; have H3 := Lib.hid h3; clear h3))
                go_roundw
                case rel => exact ⟨2 * p, b2, ((q / 2 : Nat) : Int), _, by go_num, rfl, rfl, h1, (by have h := H3.out; rw [sq_fun] at h; exact h), hx3.trans (h4.mono hx3.size), Nat.le_trans hx3.size h2, by omega, (by have h := HS.out; rw [Int.toNat_natCast] at h ⊢; rw [Crc.combine_round_odd p q _ HQ.out]; exact h)⟩
                case measure => simp [intOf]; omega
            · have hz : m.toNat = 0 := by omega
              have HA : Hid (y = Crc.stepN (8 * n.toNat) a) := by rw [hz] at HS; exact HS.out
              clear hz HS
              go_wp2
              go_ret
              exact ⟨by rw [HA.out]; rfl, hx3⟩
end Go.Proofs.Ytmleonpecodimaa
