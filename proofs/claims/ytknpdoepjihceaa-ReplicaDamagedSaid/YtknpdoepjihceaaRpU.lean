/-
  Chapter 29 (replica): a damaged sector has no influence (plain).
-/
import Derived.Test.YtknpdoepjihceaaRpT
namespace Go.Proofs.Ytknpdoepjihceaa
open Go.RowKit
set_option linter.unusedVariables false

theorem us_gi {b : List (BitVec 8)} {gen : BitVec 64} {i : Nat} (h : usB b gen i = true) : gP b = gen ∧ iP b = BitVec.ofNat 64 i ∧ okP b = true := by
  unfold usB at h
  simp only [Bool.and_eq_true, decide_eq_true_eq] at h
  exact ⟨h.1.1.2, h.1.2, h.1.1.1⟩
theorem us_old {b : List (BitVec 8)} {gen gen' : BitVec 64} {i k : Nat} (h : usB b gen' k = true) (hg : gen' ≠ gen) : usB b gen i = false := by
  cases hu : usB b gen i with
  | false => rfl
  | true => exact absurd ((us_gi h).1.symm.trans (us_gi hu).1) hg
theorem us_place {b : List (BitVec 8)} {gen : BitVec 64} {i k : Nat} (h : usB b gen k = true) (hk : k < 2 ^ 64) (hi : i < 2 ^ 64) (hg : k ≠ i) : usB b gen i = false := by
  cases hu : usB b gen i with
  | false => rfl
  | true =>
    have h1 := congrArg BitVec.toNat ((us_gi h).2.1.symm.trans (us_gi hu).2.1)
    rw [BitVec.toNat_ofNat, BitVec.toNat_ofNat, Nat.mod_eq_of_lt hk, Nat.mod_eq_of_lt hi] at h1
    exact absurd h1 hg
theorem set_split {α : Type} {l : List α} {j : Nat} (h : j < l.length) (y : α) : l.set j y = l.take j ++ [y] ++ l.drop (j + 1) := by
  rw [List.set_eq_take_append_cons_drop, if_pos h]
  simp
theorem okP_sum {b : List (BitVec 8)} (h : okP b = true) : unle (b.drop (b.length - 8)) = Crc.sum (b.take (b.length - 8)) := by
  unfold okP at h
  simp only [Bool.and_eq_true, decide_eq_true_eq] at h
  exact h.2
theorem us_set {gen i m gen' : BitVec 64} {c : List (BitVec 8)} {j k : Nat} {y : BitVec 8} (hj : j < (sectorL gen i m c).length) (hy : y ≠ (sectorL gen i m c)[j]) : usB ((sectorL gen i m c).set j y) gen' k = false := by
  cases hu : usB ((sectorL gen i m c).set j y) gen' k with
  | false => rfl
  | true =>
    exfalso
    have hs := okP_sum (us_gi hu).2.2
    rw [List.length_set] at hs
    obtain ⟨bd, hbd⟩ : ∃ bd, bodyL gen i m c = bd := ⟨_, rfl⟩
    have hse : sectorL gen i m c = bd ++ le 8 (Crc.sum bd) := by rw [← hbd]; rfl
    rw [sectorL_len] at hj
    have hbl : bd.length = 17 + c.length := by rw [← hbd, bodyL_len]
    have hlen : (sectorL gen i m c).length - 8 = bd.length := by rw [sectorL_len]; omega
    rw [hlen] at hs
    simp only [hse] at hy hs
    by_cases h : j < bd.length
    · rw [List.set_append_left _ _ h, List.drop_left' (by rw [List.length_set]), List.take_left' (by rw [List.length_set]), unle_le] at hs
      rw [List.getElem_append_left h] at hy
      have hb : bd = bd.take j ++ [bd[j]] ++ bd.drop (j + 1) := by rw [← set_split h, List.set_getElem_self]
      rw [set_split h] at hs
      have h2 : Crc.sum (bd.take j ++ [bd[j]] ++ bd.drop (j + 1)) = Crc.sum (bd.take j ++ [y] ++ bd.drop (j + 1)) := by rw [← hb]; exact hs
      have := sum_mid (by simp) (by simp) h2
      simp at this
      exact hy this.symm
    · rw [List.set_append_right _ _ (by omega), List.drop_left' rfl, List.take_left' rfl] at hs
      have hlt : j - bd.length < (le 8 (Crc.sum bd)).length := by rw [le_length]; omega
      rw [List.getElem_append_right (by omega)] at hy
      have h3 := le_unle ((le 8 (Crc.sum bd)).set (j - bd.length) y) (by rw [List.length_set, le_length]; omega)
      rw [List.length_set, le_length, hs] at h3
      have h4 : ((le 8 (Crc.sum bd)).set (j - bd.length) y)[j - bd.length]'(by rw [List.length_set]; exact hlt) = (le 8 (Crc.sum bd))[j - bd.length] := by simp only [← h3]
      rw [List.getElem_set_self] at h4
      exact hy h4
/-- the damaged sector i -/
def dmgL (gen : BitVec 64) (l : List (BitVec 8)) (k : Nat) (a1 a2 : BitVec 8) (i : Nat) : List (BitVec 8) :=
  if k = 0 then (chunksL (gen + 1#64) (l ++ [111#8, 108#8, 100#8])).getD i []
  else if k = 1 then (if numL l.length = 1 then [] else (chunksL gen l).getD ((i + 1) % numL l.length) [])
  else (secL gen l i).set (a1.toNat % (secL gen l i).length) ((secL gen l i).getD (a1.toNat % (secL gen l i).length) 0#8 + a2)
def dmgK (gen : BitVec 64) (l : List (BitVec 8)) (k : Nat) (a1 a2 : BitVec 8) (n : Nat) : List (List (BitVec 8)) := (List.range n).map (dmgL gen l k a1 a2)
theorem dmgK_len (gen : BitVec 64) (l : List (BitVec 8)) (k : Nat) (a1 a2 : BitVec 8) (n : Nat) : (dmgK gen l k a1 a2 n).length = n := by simp [dmgK]
theorem dmgK_succ (gen : BitVec 64) (l : List (BitVec 8)) (k : Nat) (a1 a2 : BitVec 8) (n : Nat) : dmgK gen l k a1 a2 (n + 1) = dmgK gen l k a1 a2 n ++ [dmgL gen l k a1 a2 n] := by simp [dmgK, List.range_succ]
theorem add_ne {x a : BitVec 8} (h : a ≠ 0#8) : x + a ≠ x := by
  intro e
  apply h
  have h2 := congrArg BitVec.toNat e
  apply BitVec.eq_of_toNat_eq
  rw [BitVec.toNat_add] at h2
  have := x.isLt
  have := a.isLt
  simp
  omega
theorem dmg_us {gen : BitVec 64} {l : List (BitVec 8)} {k : Nat} {a1 a2 : BitVec 8} {i : Nat} (hl : l.length ≤ 600) (ha : a2 ≠ 0#8) (hi : i < numL l.length) : usB (dmgL gen l k a1 a2 i) gen i = false := by
  have hn := numL_lt (n := l.length) (by omega)
  unfold dmgL
  by_cases h0 : k = 0
  · rw [if_pos h0]
    have hi2 : i < numL (l ++ [111#8, 108#8, 100#8]).length := by
      have : numL l.length ≤ numL (l ++ [111#8, 108#8, 100#8]).length := by rw [List.length_append]; unfold numL; simp only [List.length_cons, List.length_nil]; omega
      omega
    rw [chunksL_getD hi2]
    refine us_old (secL_us (by simp; omega) hi2).1 ?_
    intro e
    have h2 := congrArg BitVec.toNat e
    rw [BitVec.toNat_add] at h2
    have := gen.isLt
    simp at h2
    omega
  · rw [if_neg h0]
    by_cases h1 : k = 1
    · rw [if_pos h1]
      by_cases hn1 : numL l.length = 1
      · rw [if_pos hn1, usB_nil]
      · rw [if_neg hn1]
        have hp := (numL_ge l.length).1
        have hlt : (i + 1) % numL l.length < numL l.length := Nat.mod_lt _ (by omega)
        rw [chunksL_getD hlt]
        refine us_place (secL_us (by omega) hlt).1 (by omega) (by omega) ?_
        rcases Nat.lt_or_ge (i + 1) (numL l.length) with h | h
        · rw [Nat.mod_eq_of_lt h]; omega
        · rw [show i + 1 = numL l.length by omega, Nat.mod_self]; omega
    · rw [if_neg h1]
      have hlt : a1.toNat % (secL gen l i).length < (secL gen l i).length := Nat.mod_lt _ (by unfold secL; rw [sectorL_len]; omega)
      have hne : (secL gen l i).getD (a1.toNat % (secL gen l i).length) 0#8 + a2 ≠ (secL gen l i)[a1.toNat % (secL gen l i).length] := by
        rw [getD_in hlt]; exact add_ne ha
      exact us_set (by exact hlt) (by exact hne)
theorem dmgK_us {gen : BitVec 64} {l : List (BitVec 8)} {k : Nat} {a1 a2 : BitVec 8} (hl : l.length ≤ 600) (ha : a2 ≠ 0#8) (i : Nat) : usB ((dmgK gen l k a1 a2 (numL l.length)).getD i []) gen i = false := by
  by_cases hi : i < numL l.length
  · rw [getD_in (by rw [dmgK_len]; exact hi)]
    unfold dmgK
    rw [List.getElem_map, List.getElem_range]
    exact dmg_us hl ha hi
  · rw [getD_out (by rw [dmgK_len]; exact hi), usB_nil]
theorem dmg_restore {gen : BitVec 64} {l : List (BitVec 8)} {k : Nat} {a1 a2 : BitVec 8} (hl : l.length ≤ 600) (ha : a2 ≠ 0#8) : gatL [dmgK gen l k a1 a2 (numL l.length), chunksL gen l] gen = some l := by
  refine restore (by omega) ?_ ?_
  · intro c hc i hu
    simp only [List.mem_cons, List.not_mem_nil, or_false] at hc
    rcases hc with rfl | rfl
    · rw [dmgK_us hl ha] at hu; cases hu
    · by_cases hi : i < numL l.length
      · exact ⟨hi, chunksL_getD hi⟩
      · rw [getD_out (by rw [chunksL_len]; exact hi), usB_nil] at hu; cases hu
  · intro i hi
    exact ⟨_, by simp, chunksL_getD hi⟩
theorem dmg_none {gen : BitVec 64} {l : List (BitVec 8)} {k : Nat} {a1 a2 : BitVec 8} (hl : l.length ≤ 600) (ha : a2 ≠ 0#8) : gatL [dmgK gen l k a1 a2 (numL l.length)] gen = none := by
  refine gatL_none fun c hc i => ?_
  simp only [List.mem_cons, List.not_mem_nil, or_false] at hc
  rw [hc]
  exact dmgK_us hl ha i
theorem dmgK_mem {gen : BitVec 64} {l : List (BitVec 8)} {k : Nat} {a1 a2 : BitVec 8} {n : Nat} : ∀ x ∈ dmgK gen l k a1 a2 n, x.length ≤ 57 := by
  intro x hx
  obtain ⟨i, _, rfl⟩ := List.mem_map.1 hx
  have hg : ∀ (g : BitVec 64) (l : List (BitVec 8)) (i : Nat), ((chunksL g l).getD i []).length ≤ 57 := by
    intro g l i
    by_cases h : i < (chunksL g l).length
    · rw [getD_in h]; exact (chunksL_mem g l _ (List.getElem_mem h)).2
    · rw [getD_out h]; simp
  unfold dmgL
  split
  · exact hg _ _ _
  · split
    · split
      · simp
      · exact hg _ _ _
    · rw [List.length_set]
      unfold secL
      rw [sectorL_len]
      have := chunkL_len l i
      omega
end Go.Proofs.Ytknpdoepjihceaa
