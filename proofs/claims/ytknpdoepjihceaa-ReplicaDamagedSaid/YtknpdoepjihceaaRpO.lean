/-
  Chapter 29 (replica): a blob is restored from its sectors (plain).
-/
import Derived.Test.YtknpdoepjihceaaRpN
namespace Go.Proofs.Ytknpdoepjihceaa
open Go.RowKit
set_option linter.unusedVariables false

theorem sec_us (gen : BitVec 64) (i m : Nat) (c : List (BitVec 8)) (hi : i < m) (hm : m < 4294967296) (hc : c.length ≤ 32) :
    usB (sectorL gen (BitVec.ofNat 64 i) (BitVec.ofNat 64 m) c) gen i = true ∧ mP (sectorL gen (BitVec.ofNat 64 i) (BitVec.ofNat 64 m) c) = BitVec.ofNat 64 m ∧ cP (sectorL gen (BitVec.ofNat 64 i) (BitVec.ofNat 64 m) c) = c := by
  obtain ⟨b, hb⟩ : ∃ b, sectorL gen (BitVec.ofNat 64 i) (BitVec.ofNat 64 m) c = b := ⟨_, rfl⟩
  have hlen : b.length = 25 + c.length := by rw [← hb, sectorL_len]
  have hm2 : (BitVec.ofNat 64 m).toNat = m := by rw [BitVec.toNat_ofNat]; omega
  obtain ⟨t, ht⟩ : ∃ t, le 8 (Crc.sum (bodyL gen (BitVec.ofNat 64 i) (BitVec.ofNat 64 m) c)) = t := ⟨_, rfl⟩
  have hs : b = (le 8 gen ++ le 4 (BitVec.ofNat 64 i)) ++ (le 4 (BitVec.ofNat 64 m) ++ ([BitVec.ofNat 8 c.length] ++ (c ++ t))) := by
    rw [← hb, ← ht]; unfold sectorL seal8; generalize le 8 (Crc.sum (bodyL gen (BitVec.ofNat 64 i) (BitVec.ofNat 64 m) c)) = t; unfold bodyL; simp only [List.append_assoc]
  have d12 : b.drop 12 = le 4 (BitVec.ofNat 64 m) ++ ([BitVec.ofNat 8 c.length] ++ (c ++ t)) := by rw [hs]; exact List.drop_left' (by simp [le_length])
  have hmP : mP b = BitVec.ofNat 64 m := by
    rw [mP_eq (by omega), d12, List.take_left' (by simp [le_length])]
    exact unle_low 4 _ (by omega) (by rw [hm2]; omega)
  have d17 : b.drop 17 = c ++ t := by
    rw [show b.drop 17 = (b.drop 12).drop 5 by rw [List.drop_drop], d12, ← List.append_assoc]
    exact List.drop_left' (by simp [le_length])
  have hcP : cP b = c := by
    rw [cP_eq (by omega), d17, hlen, show 25 + c.length - 25 = c.length by omega]
    exact List.take_left' rfl
  rw [hb]
  refine ⟨?_, hmP, hcP⟩
  rw [us_ref (by omega) (by omega) (by omega), hmP, hcP, hm2, hb]
  simp [hi]
/-- sector i of a blob -/
def secL (gen : BitVec 64) (l : List (BitVec 8)) (i : Nat) : List (BitVec 8) := sectorL gen (BitVec.ofNat 64 i) (BitVec.ofNat 64 (numL l.length)) (chunkL l i)
theorem numL_ge (n : Nat) : 1 ≤ numL n ∧ n ≤ 32 * numL n := by unfold numL; omega
theorem numL_lt {n : Nat} (h : n ≤ 1048576) : numL n ≤ 32768 := by unfold numL; omega
theorem secL_us {gen : BitVec 64} {l : List (BitVec 8)} {i : Nat} (hl : l.length ≤ 1048576) (hi : i < numL l.length) : usB (secL gen l i) gen i = true ∧ mP (secL gen l i) = BitVec.ofNat 64 (numL l.length) ∧ cP (secL gen l i) = chunkL l i :=
  sec_us gen i _ _ hi (by have := numL_lt hl; omega) (chunkL_len l i)
theorem fit_of {gen m : BitVec 64} {i : Nat} {b : List (BitVec 8)} (h : usB b gen i = true) (hm : m = 0#64 ∨ mP b = m) : fitB gen m i b = true := by
  unfold fitB
  rw [h, Bool.true_and, Bool.or_eq_true]
  exact hm.imp decide_eq_true decide_eq_true
theorem firstL_sec {cs : List (List (List (BitVec 8)))} {gen : BitVec 64} {l : List (BitVec 8)} (hl : l.length ≤ 1048576)
    (A : ∀ c ∈ cs, ∀ i, usB (c.getD i []) gen i = true → i < numL l.length ∧ c.getD i [] = secL gen l i) {i : Nat} (hi : i < numL l.length) (B : ∃ c ∈ cs, c.getD i [] = secL gen l i) {m : BitVec 64} (hm : m = 0#64 ∨ m = BitVec.ofNat 64 (numL l.length)) :
    firstL cs gen m i = some (secL gen l i) := by
  obtain ⟨c, hc, hce⟩ := B
  obtain ⟨h1, h2, h3⟩ := secL_us (gen := gen) hl hi
  cases hf : firstL cs gen m i with
  | none =>
    unfold firstL at hf
    rw [List.find?_eq_none] at hf
    exact absurd (fit_of h1 (hm.imp id fun e => by rw [h2, e])) (hf _ (List.mem_map.2 ⟨c, hc, hce⟩))
  | some x =>
    have hx := List.mem_of_find?_eq_some hf
    obtain ⟨c', hc', rfl⟩ := List.mem_map.1 hx
    rw [(A c' hc' i (fit_us (firstL_fit hf))).2]
theorem restore {cs : List (List (List (BitVec 8)))} {gen : BitVec 64} {l : List (BitVec 8)} (hl : l.length ≤ 1048576)
    (A : ∀ c ∈ cs, ∀ i, usB (c.getD i []) gen i = true → i < numL l.length ∧ c.getD i [] = secL gen l i)
    (B : ∀ i, i < numL l.length → ∃ c ∈ cs, c.getD i [] = secL gen l i) : gatL cs gen = some l := by
  have hn := numL_ge l.length
  have hn2 := numL_lt hl
  have hm2 : (BitVec.ofNat 64 (numL l.length)).toNat = numL l.length := by rw [BitVec.toNat_ofNat]; omega
  have h0 := firstL_sec hl A (by omega) (B 0 (by omega)) (m := 0#64) (.inl rfl)
  have hc : cntL cs gen = some (BitVec.ofNat 64 (numL l.length)) := by
    rw [cntL_some (firstL_lt h0) (fun j hj => by omega) h0, (secL_us hl (by omega)).2.1]
  have hk : ∀ k, k ≤ numL l.length → gatK cs gen (BitVec.ofNat 64 (numL l.length)) k = some (l.take (32 * k)) := by
    intro k
    induction k with
    | zero => intro _; rfl
    | succ k ih =>
      intro hk
      rw [gatK_some (ih (by omega)) (firstL_sec hl A (by omega) (B k (by omega)) (.inr rfl)), (secL_us hl (by omega)).2.2]
      rw [show 32 * (k + 1) = 32 * k + 32 by omega, List.take_add]; rfl
  unfold gatL
  rw [hc]
  show gatK cs gen _ _ = _
  rw [hm2, hk _ (Nat.le_refl _), List.take_of_length_le hn.2]
theorem restore_no {cs : List (List (List (BitVec 8)))} {gen : BitVec 64} {l : List (BitVec 8)} (hl : l.length ≤ 1048576)
    (A : ∀ c ∈ cs, ∀ i, usB (c.getD i []) gen i = true → i < numL l.length ∧ c.getD i [] = secL gen l i) {k : Nat} (hk : k < numL l.length) (N : ∀ c ∈ cs, usB (c.getD k []) gen k = false) : gatL cs gen = none := by
  have hn2 := numL_lt hl
  have hm2 : (BitVec.ofNat 64 (numL l.length)).toNat = numL l.length := by rw [BitVec.toNat_ofNat]; omega
  unfold gatL
  cases hc : cntL cs gen with
  | none => rfl
  | some M =>
    have hM : M = BitVec.ofNat 64 (numL l.length) := by
      unfold cntL at hc
      obtain ⟨i, _, hi⟩ := List.exists_of_findSome?_eq_some hc
      cases hf : firstL cs gen 0#64 i with
      | none => rw [hf] at hi; cases hi
      | some x =>
        rw [hf] at hi
        injection hi with hi
        obtain ⟨c', hc', hx⟩ := List.mem_map.1 (List.mem_of_find?_eq_some hf)
        have hu := fit_us (firstL_fit hf)
        rw [← hx] at hu
        obtain ⟨h1, h2⟩ := A c' hc' i hu
        rw [← hi, ← hx, h2, (secL_us hl h1).2.1]
    show gatK cs gen _ _ = _
    rw [hM, hm2]
    refine gatK_no ?_ _ hk
    apply firstL_none
    intro j hj
    unfold fitB
    rw [N _ (List.getElem_mem hj)]; rfl
theorem gatL_none {cs : List (List (List (BitVec 8)))} {gen : BitVec 64} (N : ∀ c ∈ cs, ∀ i, usB (c.getD i []) gen i = false) : gatL cs gen = none := by
  unfold gatL
  rw [cntL_none fun i _ => firstL_none fun j hj => by unfold fitB; rw [N _ (List.getElem_mem hj)]; rfl]
end Go.Proofs.Ytknpdoepjihceaa
