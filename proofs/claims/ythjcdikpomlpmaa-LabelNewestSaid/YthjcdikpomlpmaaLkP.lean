/-
  Chapter 9 (codec): what is read of an encoding, and what an encoding is read from. Plain.
-/
import Derived.Test.YthjcdikpomlpmaaLkO
namespace Go.Proofs.Ythjcdikpomlpmaa
open Go.RowKit

theorem grp (a b : Nat) (h : a < 128) : BitVec.ofNat 64 a ||| BitVec.ofNat 64 b <<< 7 = BitVec.ofNat 64 (a + 128 * b) := by
  apply BitVec.eq_of_getLsbD_eq
  intro i hi
  rw [BitVec.getLsbD_or, BitVec.getLsbD_shiftLeft, BitVec.getLsbD_ofNat, BitVec.getLsbD_ofNat, BitVec.getLsbD_ofNat]
  have e : (a + 128 * b).testBit i = if i < 7 then a.testBit i else b.testBit (i - 7) := by
    rw [Nat.add_comm]; exact Nat.testBit_two_pow_mul_add b (show a < 2 ^ 7 from h) i
  rw [e]
  by_cases h7 : i < 7
  · simp [h7, hi]
  · have ha : a.testBit i = false := Nat.testBit_lt_two_pow (Nat.lt_of_lt_of_le h (by
      have : 2 ^ 7 ≤ 2 ^ i := Nat.pow_le_pow_right (by decide) (by omega)
      omega))
    simp [h7, hi, ha]
    omega
theorem reg_low (c : BitVec 8) : Crc.reg c &&& 127#64 = BitVec.ofNat 64 (c.toNat % 128) := by
  apply BitVec.eq_of_toNat_eq
  have h := low7 c
  unfold un ub at h
  rw [BitVec.toNat_ofNat]
  omega
theorem grp_shift (x : BitVec 64) (c : BitVec 8) (m k : Nat) : (x ||| (Crc.reg c &&& 127#64) <<< (7 * k)) ||| BitVec.ofNat 64 m <<< (7 * (k + 1)) = x ||| BitVec.ofNat 64 (c.toNat % 128 + 128 * m) <<< (7 * k) := by
  rw [← grp _ _ (Nat.mod_lt _ (by decide)), reg_low, BitVec.or_assoc, BitVec.shiftLeft_or_distrib, ← BitVec.shiftLeft_add, show 7 + 7 * k = 7 * (k + 1) by omega]
theorem high_byte (m : Nat) (c : BitVec 8) (h : m % 128 = c.toNat % 128) (hc : ¬ c.toNat < 128) : BitVec.ofNat 8 m ||| 128#8 = c := by
  apply BitVec.eq_of_toNat_eq
  rw [BitVec.toNat_or, BitVec.toNat_ofNat]
  have h1 := or_table ⟨m % 2 ^ 8, Nat.mod_lt _ (by decide)⟩
  simp only at h1
  rw [show (128#8).toNat = 128 from rfl, h1]
  have := c.isLt
  omega
/-- what is read is an encoding -/
theorem rdU_inv : ∀ (f k : Nat) (x : BitVec 64) (l : List (BitVec 8)) (y : BitVec 64) (r : List (BitVec 8)), f + k = 10 → rdU f k x l = some (y, r) →
    ∃ m, l = uv m ++ r ∧ m < 2 ^ (64 - 7 * k) ∧ (k = 0 ∨ m ≠ 0) ∧ y = x ||| BitVec.ofNat 64 m <<< (7 * k)
  | 0, _, _, _, _, _, _, h => by simp [rdU] at h
  | f + 1, k, x, [], _, _, _, h => by simp [rdU] at h
  | f + 1, k, x, c :: l, y, r, hf, h => by
    unfold rdU at h
    split at h
    · cases h
    rename_i h9
    split at h
    · rename_i h128
      split at h
      · cases h
      rename_i h0
      cases h
      refine ⟨c.toNat, ?_, ?_, ?_, ?_⟩
      · rw [uv_low h128]
        simp
      · rcases (show k = 9 ∨ k ≤ 8 by omega) with e | e
        · subst e; show c.toNat < 2; omega
        · exact Nat.lt_of_lt_of_le h128 (Nat.le_trans (show 128 ≤ 2 ^ 8 by decide) (Nat.pow_le_pow_right (by decide) (by omega)))
      · rcases Nat.eq_zero_or_pos k with e | e
        · exact .inl e
        · exact .inr fun e2 => h0 ⟨BitVec.eq_of_toNat_eq e2, e⟩
      · rw [reg_low, Nat.mod_eq_of_lt h128]
    · rename_i h128
      obtain ⟨m, rfl, hm, hk, rfl⟩ := rdU_inv f (k + 1) _ l y r (by omega) h
      have hm0 : m ≠ 0 := by rcases hk with h | h <;> omega
      have hk9 : k ≤ 8 := by
        rcases (show k = 9 ∨ k ≤ 8 by omega) with e | e
        · subst e; omega
        · exact e
      refine ⟨c.toNat % 128 + 128 * m, ?_, ?_, .inr (by omega), grp_shift x c m k⟩
      · rw [uv_high (n := c.toNat % 128 + 128 * m) (by omega), high_byte _ c (by omega) h128, show (c.toNat % 128 + 128 * m) / 128 = m by omega]; rfl
      · have e : 2 ^ (64 - 7 * k) = 128 * 2 ^ (64 - 7 * (k + 1)) := by
          rw [show 64 - 7 * k = 7 + (64 - 7 * (k + 1)) by omega, Nat.pow_add]
        omega
/-- what is encoded is read -/
theorem rdU_uv : ∀ (f k : Nat) (x : BitVec 64) (m : Nat) (r : List (BitVec 8)), f + k = 10 → m < 2 ^ (64 - 7 * k) → (k = 0 ∨ m ≠ 0) → k ≤ 9 →
    rdU f k x (uv m ++ r) = some (x ||| BitVec.ofNat 64 m <<< (7 * k), r)
  | 0, k, x, m, r, hf, hm, h0, hk => by omega
  | f + 1, k, x, m, r, hf, hm, h0, hk => by
    by_cases h128 : m < 128
    · rw [uv_low h128, List.singleton_append]
      have hc : (BitVec.ofNat 8 m).toNat = m := by rw [BitVec.toNat_ofNat]; omega
      unfold rdU
      rw [if_neg, if_pos (by omega), if_neg, reg_low, hc, Nat.mod_eq_of_lt h128]
      · rintro ⟨e, h⟩
        have := congrArg BitVec.toNat e
        rw [hc] at this
        rcases h0 with h0 | h0
        · omega
        · exact h0 this
      · rintro ⟨e, h⟩
        subst e
        have : m < 2 := hm
        omega
    · rw [uv_high h128, List.cons_append]
      have hc : (BitVec.ofNat 8 m ||| 128#8).toNat = m % 128 + 128 := by
        rw [BitVec.toNat_or, BitVec.toNat_ofNat]
        have h1 := or_table ⟨m % 2 ^ 8, Nat.mod_lt _ (by decide)⟩
        simp only at h1
        rw [show (128#8).toNat = 128 from rfl, h1]
        omega
      have hk9 : k ≠ 9 := by
        rintro rfl
        have : m < 2 := hm
        omega
      unfold rdU
      rw [if_neg (fun h => hk9 h.1), if_neg (by omega)]
      have e : 2 ^ (64 - 7 * k) = 128 * 2 ^ (64 - 7 * (k + 1)) := by
        rw [show 64 - 7 * k = 7 + (64 - 7 * (k + 1)) by omega, Nat.pow_add]
      rw [rdU_uv f (k + 1) _ (m / 128) r (by omega) (by omega) (.inr (by omega)) (by omega), grp_shift, hc]
      rw [show (m % 128 + 128) % 128 + 128 * (m / 128) = m by omega]
theorem rd_uv (m : Nat) (r : List (BitVec 8)) (h : m < 18446744073709551616) : rd false (uv m ++ r) = some (BitVec.ofNat 64 m, r) := by
  unfold rd
  rw [if_neg (by simp), rdU_uv 10 0 0#64 m r rfl h (.inl rfl) (by omega)]
  simp
theorem rd_inv {l : List (BitVec 8)} {x : BitVec 64} {r : List (BitVec 8)} (h : rd false l = some (x, r)) : l = uv x.toNat ++ r := by
  unfold rd at h
  rw [if_neg (by simp)] at h
  obtain ⟨m, rfl, hm, _, rfl⟩ := rdU_inv 10 0 _ _ _ _ rfl h
  have hm : m < 18446744073709551616 := hm
  simp [Nat.mod_eq_of_lt hm]
theorem unz_zz (n : Int) (h1 : -9223372036854775808 ≤ n) (h2 : n ≤ 9223372036854775807) : unz (BitVec.ofNat 64 (zz n)) = n := by
  have hz := zz_lt h1 h2
  have e : (BitVec.ofNat 64 (zz n)).toNat = zz n := by rw [BitVec.toNat_ofNat]; omega
  unfold unz
  rw [e]
  unfold zz
  by_cases h : 0 ≤ n
  · rw [if_pos h, if_pos (by omega)]; omega
  · rw [if_neg h, if_neg (by omega)]; omega
theorem zz_unz (x : BitVec 64) : zz (unz x) = x.toNat := by
  unfold unz
  by_cases h : x.toNat % 2 = 0
  · rw [if_pos h]; unfold zz; rw [if_pos (by omega)]; omega
  · rw [if_neg h]; unfold zz; rw [if_neg (by omega)]; omega
theorem rdI_zz (n : Int) (r : List (BitVec 8)) (h1 : -9223372036854775808 ≤ n) (h2 : n ≤ 9223372036854775807) : rdI false (uv (zz n) ++ r) = some (n, r) := by
  unfold rdI
  rw [rd_uv _ _ (zz_lt h1 h2)]
  simp [unz_zz n h1 h2]
theorem rdB_uv (l r : List (BitVec 8)) (h : l.length < 18446744073709551616) : rdB false (uv l.length ++ (l ++ r)) = some (l, r) := by
  unfold rdB
  rw [rd_uv _ _ h]
  simp only [BitVec.toNat_ofNat]
  rw [Nat.mod_eq_of_lt (by omega), if_pos (by simp)]
  simp
theorem rdX_eq (l r : List (BitVec 8)) (h : l.length = 8) : rdX false (l ++ r) = some (l, r) := by
  unfold rdX
  rw [if_neg (by simp), if_pos (by simp [h]), List.take_left' h, List.drop_left' h]
end Go.Proofs.Ythjcdikpomlpmaa
