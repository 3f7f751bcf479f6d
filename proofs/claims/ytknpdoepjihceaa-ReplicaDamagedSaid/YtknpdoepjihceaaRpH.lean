/-
  Chapter 29 (replica): a sector is usable if it is the sector of its chunk.
-/
import Derived.Test.YtknpdoepjihceaaRpG
namespace Go.Proofs.Ytknpdoepjihceaa
open Go.RowKit
set_option linter.unusedVariables false

theorem split_b {b : List (BitVec 8)} {e : Nat} (he : b.length = e + 8) (h17 : 17 ≤ e) : b.take e = b.take 8 ++ (b.drop 8).take 4 ++ (b.drop 12).take 4 ++ [b.getD 16 0#8] ++ (b.drop 17).take (e - 17) := by
  have h1 : (b.drop 16).take 1 = [b.getD 16 0#8] := by
    rw [List.drop_eq_getElem_cons (by omega : 16 < b.length), List.getD_eq_getElem?_getD, List.getElem?_eq_getElem (by omega : 16 < b.length)]; rfl
  have h2 : b.take e = b.take (8 + 4 + 4 + 1 + (e - 17)) := by congr 1; omega
  rw [h2, List.take_add, List.take_add, List.take_add, List.take_add, h1]
theorem gP_eq {b : List (BitVec 8)} (h : 25 ≤ b.length) : gP b = unle (b.take 8) := if_neg (by omega)
theorem iP_eq {b : List (BitVec 8)} (h : 25 ≤ b.length) : iP b = unle ((b.drop 8).take 4) := if_neg (by omega)
theorem mP_eq {b : List (BitVec 8)} (h : 25 ≤ b.length) : mP b = unle ((b.drop 12).take 4) := if_neg (by omega)
theorem cP_eq {b : List (BitVec 8)} (h : 25 ≤ b.length) : cP b = (b.drop 17).take (b.length - 25) := if_neg (by omega)
theorem mP_lt (b : List (BitVec 8)) : (mP b).toNat < 4294967296 := by
  unfold mP
  split
  · decide
  · exact unle_lt _ 4 (by rw [List.length_take]; omega) (by omega)
theorem us_len {b : List (BitVec 8)} {gen : BitVec 64} {i : Nat} (h : b.length < 25 ∨ 57 < b.length) : usB b gen i = false := by
  unfold usB okP
  rcases h with h | h
  · rw [decide_eq_false (by omega : ¬ 25 ≤ b.length)]; simp
  · rw [decide_eq_false (by omega : ¬ b.length - 25 ≤ 32)]; simp
theorem us_ref {b : List (BitVec 8)} {gen : BitVec 64} {i : Nat} (h25 : 25 ≤ b.length) (h57 : b.length ≤ 57) (hi : i < 4294967296) :
    usB b gen i = (decide (i < (mP b).toNat) && decide (sectorL gen (BitVec.ofNat 64 i) (mP b) (cP b) = b)) := by
  obtain ⟨e, he⟩ : ∃ e, b.length = e + 8 := ⟨b.length - 8, by omega⟩
  have hi2 : (BitVec.ofNat 64 i).toNat = i := by rw [BitVec.toNat_ofNat]; omega
  have hc : cP b = (b.drop 17).take (e - 17) := by rw [cP_eq h25, he]; rfl
  have hcl : (cP b).length = e - 17 := by rw [hc, List.length_take, List.length_drop]; omega
  have l8 : (b.take 8).length = 8 := by rw [List.length_take]; omega
  have l4 : ((b.drop 8).take 4).length = 4 := by rw [List.length_take, List.length_drop]; omega
  have m4 : ((b.drop 12).take 4).length = 4 := by rw [List.length_take, List.length_drop]; omega
  have d8 : (b.drop e).length = 8 := by rw [List.length_drop]; omega
  have hm : le 4 (mP b) = (b.drop 12).take 4 := by rw [mP_eq h25]; have := le_unle _ (by omega : ((b.drop 12).take 4).length ≤ 8); rwa [m4] at this
  have hbe : b = b.take e ++ b.drop e := (List.take_append_drop e b).symm
  have key : sectorL gen (BitVec.ofNat 64 i) (mP b) (cP b) = b ↔ (gP b = gen ∧ iP b = BitVec.ofNat 64 i ∧ (b.getD 16 0#8).toNat = e - 17 ∧ unle (b.drop e) = Crc.sum (b.take e)) := by
    have hbody : bodyL gen (BitVec.ofNat 64 i) (mP b) (cP b) = b.take e ↔ (gP b = gen ∧ iP b = BitVec.ofNat 64 i ∧ (b.getD 16 0#8).toNat = e - 17) := by
      rw [split_b he (by omega), bodyL, hcl, hm, hc]
      constructor
      · intro h
        obtain ⟨h, _⟩ := List.append_inj h (by simp [le_length, l8, l4, m4])
        obtain ⟨h, h4⟩ := List.append_inj h (by simp [le_length, l8, l4, m4])
        obtain ⟨h, _⟩ := List.append_inj h (by simp [le_length, l8, l4])
        obtain ⟨h1, h2⟩ := List.append_inj h (by simp [le_length, l8])
        refine ⟨by rw [gP_eq h25, ← h1, unle_le], by rw [iP_eq h25, ← h2, unle_low 4 _ (by omega) (by rw [hi2]; omega)], ?_⟩
        injection h4 with h4 _
        rw [← h4, BitVec.toNat_ofNat]; omega
      · rintro ⟨h1, h2, h3⟩
        have e1 : le 8 gen = b.take 8 := by rw [← h1, gP_eq h25]; have := le_unle _ (by omega : (b.take 8).length ≤ 8); rwa [l8] at this
        have e2 : le 4 (BitVec.ofNat 64 i) = (b.drop 8).take 4 := by rw [← h2, iP_eq h25]; have := le_unle _ (by omega : ((b.drop 8).take 4).length ≤ 8); rwa [l4] at this
        have e3 : BitVec.ofNat 8 (e - 17) = b.getD 16 0#8 := by apply BitVec.eq_of_toNat_eq; rw [h3, BitVec.toNat_ofNat]; omega
        rw [e1, e2, e3]
    unfold sectorL seal8
    constructor
    · intro h
      have hl : (bodyL gen (BitVec.ofNat 64 i) (mP b) (cP b)).length = (b.take e).length := by rw [bodyL_len, hcl, List.length_take]; omega
      obtain ⟨h1, h2⟩ := List.append_inj (h.trans hbe) hl
      obtain ⟨a1, a2, a3⟩ := hbody.1 h1
      refine ⟨a1, a2, a3, ?_⟩
      rw [← h2, unle_le, h1]
    · rintro ⟨h1, h2, h3, h4⟩
      rw [hbody.2 ⟨h1, h2, h3⟩, ← h4]
      have := le_unle _ (by omega : (b.drop e).length ≤ 8)
      rw [d8] at this
      rw [this, List.take_append_drop]
  have e1 : (decide (25 ≤ b.length)) = true := decide_eq_true h25
  have e2 : (decide (b.length - 25 ≤ 32)) = true := decide_eq_true (by omega)
  unfold usB okP
  rw [e1, e2, show b.length - 8 = e by omega, show b.length - 25 = e - 17 by omega]
  rw [Bool.eq_iff_iff]
  simp only [Bool.true_and, Bool.and_true, Bool.and_eq_true, decide_eq_true_eq, key]
  constructor
  · rintro ⟨⟨⟨⟨h1, h2⟩, h3⟩, h4⟩, h5⟩
    exact ⟨by rw [h4, hi2] at h5; exact h5, h3, h4, h1, h2⟩
  · rintro ⟨h5, h3, h4, h1, h2⟩
    exact ⟨⟨⟨⟨h1, h2⟩, h3⟩, h4⟩, by rw [h4, hi2]; exact h5⟩
end Go.Proofs.Ytknpdoepjihceaa
