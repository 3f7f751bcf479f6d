/-
  Numbers as bytes, the least significant byte first. No program is named here.
-/
import Derived.Test.YtdhlikjdcnfkpaaKit
namespace Go.Proofs.Ytdhlikjdcnfkpaa
open Go.RowKit

/-- the first n bytes of a number -/
def le : Nat → BitVec 64 → List (BitVec 8)
  | 0, _ => []
  | n + 1, x => x.setWidth 8 :: le n (x >>> 8)
theorem le_length (n : Nat) (x : BitVec 64) : (le n x).length = n := by
  induction n generalizing x with
  | zero => rfl
  | succ n ih => simp [le, ih]
theorem le_step {n k : Nat} (x : BitVec 64) (h : k < n) : le (n - k) (x >>> (8 * k)) = (x >>> (8 * k)).setWidth 8 :: le (n - (k + 1)) (x >>> (8 * (k + 1))) := by
  rw [show n - k = (n - (k + 1)) + 1 by omega, le, ← BitVec.shiftRight_add, show 8 * k + 8 = 8 * (k + 1) by omega]
/-- the number of some bytes -/
def unle : List (BitVec 8) → BitVec 64
  | [] => 0#64
  | c :: r => Crc.reg c ||| unle r <<< 8
theorem unle_step (c : BitVec 8) (r : List (BitVec 8)) (k : Nat) : unle (c :: r) <<< (8 * k) = Crc.reg c <<< (8 * k) ||| unle r <<< (8 * (k + 1)) := by
  rw [unle, BitVec.shiftLeft_or_distrib, ← BitVec.shiftLeft_add, show 8 + 8 * k = 8 * (k + 1) by omega]
theorem reg_bit (c : BitVec 8) (i : Nat) (h : i < 64) : (Crc.reg c).getLsbD i = c.getLsbD i := by
  unfold Crc.reg; rw [BitVec.getLsbD_setWidth]; simp [h]
theorem unle_bit (l : List (BitVec 8)) (i : Nat) (h : i < 64) : (unle l).getLsbD i = (l.getD (i / 8) 0#8).getLsbD (i % 8) := by
  induction l generalizing i with
  | nil => simp [unle]
  | cons c r ih =>
    rw [unle, BitVec.getLsbD_or, reg_bit c i h, BitVec.getLsbD_shiftLeft]
    by_cases h8 : i < 8
    · rw [show i / 8 = 0 by omega, show i % 8 = i by omega]; simp [h8]
    · rw [ih (i - 8) (by omega), show i / 8 = (i - 8) / 8 + 1 by omega, show i % 8 = (i - 8) % 8 by omega]
      have : c.getLsbD i = false := BitVec.getLsbD_of_ge _ _ (by omega)
      simp [h8, h, this]
theorem le_get (n : Nat) (x : BitVec 64) (i : Nat) (h : i < n) : (le n x).getD i 0#8 = (x >>> (8 * i)).setWidth 8 := by
  induction n generalizing x i with
  | zero => omega
  | succ n ih =>
    cases i with
    | zero => simp [le]
    | succ i =>
      rw [le]
      simp only [List.getD_cons_succ]
      rw [ih _ _ (by omega), ← BitVec.shiftRight_add, show 8 + 8 * i = 8 * (i + 1) by omega]
theorem unle_le (x : BitVec 64) : unle (le 8 x) = x := by
  apply BitVec.eq_of_getLsbD_eq
  intro i hi
  rw [unle_bit _ _ hi, le_get 8 x _ (by omega), BitVec.getLsbD_setWidth, BitVec.getLsbD_ushiftRight]
  rw [show 8 * (i / 8) + i % 8 = i by omega]
  simp [show i % 8 < 8 by omega]
theorem le_unle (l : List (BitVec 8)) (h : l.length ≤ 8) : le l.length (unle l) = l := by
  apply List.ext_getElem (le_length _ _)
  intro i h1 h2
  have e1 : (le l.length (unle l))[i] = (le l.length (unle l)).getD i 0#8 := by simp [List.getD, h1]
  rw [e1, le_get _ _ _ h2]
  apply BitVec.eq_of_getLsbD_eq
  intro j hj
  rw [BitVec.getLsbD_setWidth, BitVec.getLsbD_ushiftRight, unle_bit _ _ (by omega), show (8 * i + j) / 8 = i by omega, show (8 * i + j) % 8 = j by omega]
  simp [hj, h2]
theorem le_inj {n : Nat} {x y : BitVec 64} (hx : x.toNat < 2 ^ (8 * n)) (hy : y.toNat < 2 ^ (8 * n)) (h : le n x = le n y) : x = y := by
  apply BitVec.eq_of_getLsbD_eq
  intro i hi
  by_cases hn : i < 8 * n
  · have h1 := congrArg (fun l : List (BitVec 8) => (l.getD (i / 8) 0#8).getLsbD (i % 8)) h
    rw [le_get n x _ (by omega), le_get n y _ (by omega), BitVec.getLsbD_setWidth, BitVec.getLsbD_ushiftRight, BitVec.getLsbD_setWidth, BitVec.getLsbD_ushiftRight, show 8 * (i / 8) + i % 8 = i by omega] at h1
    simpa [show i % 8 < 8 by omega] using h1
  · have hp : 2 ^ (8 * n) ≤ 2 ^ i := Nat.pow_le_pow_right (by decide) (by omega)
    rw [BitVec.getLsbD, Nat.testBit_lt_two_pow (by omega), BitVec.getLsbD, Nat.testBit_lt_two_pow (by omega)]
/-- the number of the first n bytes of a number -/
theorem unle_low (n : Nat) (x : BitVec 64) (hn : n ≤ 8) (hx : x.toNat < 2 ^ (8 * n)) : unle (le n x) = x := by
  apply BitVec.eq_of_getLsbD_eq
  intro i hi
  rw [unle_bit _ _ hi]
  by_cases h : i < 8 * n
  · rw [le_get n x _ (by omega), BitVec.getLsbD_setWidth, BitVec.getLsbD_ushiftRight, show 8 * (i / 8) + i % 8 = i by omega]
    simp [show i % 8 < 8 by omega]
  · have hp : 2 ^ (8 * n) ≤ 2 ^ i := Nat.pow_le_pow_right (by decide) (by omega)
    have : (le n x).getD (i / 8) 0#8 = 0#8 := by
      rw [List.getD_eq_getElem?_getD, List.getElem?_eq_none (by rw [le_length]; omega)]; rfl
    rw [this, BitVec.getLsbD, BitVec.getLsbD, Nat.testBit_lt_two_pow (by omega : x.toNat < 2 ^ i)]; simp
theorem unle_lt (l : List (BitVec 8)) (n : Nat) (h : l.length ≤ n) (hn : n ≤ 7) : (unle l).toNat < 2 ^ (8 * n) := by
  have : unle l = ((unle l).setWidth (8 * n)).setWidth 64 := by
    apply BitVec.eq_of_getLsbD_eq
    intro i hi
    rw [BitVec.getLsbD_setWidth, BitVec.getLsbD_setWidth, unle_bit _ _ hi]
    by_cases h8 : i < 8 * n
    · simp [h8, hi]
    · have : l.getD (i / 8) 0#8 = 0#8 := by
        rw [List.getD_eq_getElem?_getD, List.getElem?_eq_none (by omega)]; rfl
      rw [this]; simp [h8]
  rw [this, BitVec.toNat_setWidth, BitVec.toNat_setWidth]
  exact Nat.lt_of_le_of_lt (Nat.mod_le _ _) (Nat.mod_lt _ (Nat.two_pow_pos _))
end Go.Proofs.Ytdhlikjdcnfkpaa
