/-
  Sums that differ in up to eight bytes at one place. No program is named here.
-/
import Derived.Test.YtknpdoepjihceaaCrc
namespace Go.Proofs.Ytknpdoepjihceaa

theorem foldB_inj {x y : BitVec 64} {l : List (BitVec 8)} (h : Crc.foldB x l = Crc.foldB y l) : x = y := by
  have h1 := Crc.foldB_xor 0#64 x l
  have h2 := Crc.foldB_xor 0#64 y l
  rw [BitVec.zero_xor] at h1 h2
  rw [h1, h2] at h
  exact Crc.stepN_inj (BitVec.xor_right_inj _ |>.1 h)
theorem foldB_inj_short {x : BitVec 64} {a b : List (BitVec 8)} (h : a.length = b.length) (hl : a.length ≤ 8) (h2 : Crc.foldB x a = Crc.foldB x b) : a = b := by
  rw [Crc.foldB_bits, Crc.foldB_bits] at h2
  have l1 := Crc.bitsOf_length a
  have l2 := Crc.bitsOf_length b
  rw [Crc.foldBits_pack _ _ (by omega), Crc.foldBits_pack _ _ (by omega), l1, l2, ← h] at h2
  exact Crc.bitsOf_inj h (Crc.packBits_inj (by omega) (by omega) (BitVec.xor_right_inj _ |>.1 (Crc.stepN_inj h2)))
theorem sum_mid {p q a b : List (BitVec 8)} (h : a.length = b.length) (hl : a.length ≤ 8) (e : Crc.sum (p ++ a ++ q) = Crc.sum (p ++ b ++ q)) : a = b := by
  unfold Crc.sum Crc.update at e
  have e2 := congrArg (fun x : BitVec 64 => ~~~x) e
  simp only [BitVec.not_not] at e2
  rw [Crc.foldB_append, Crc.foldB_append, Crc.foldB_append, Crc.foldB_append] at e2
  exact foldB_inj_short h hl (foldB_inj e2)
end Go.Proofs.Ytknpdoepjihceaa
