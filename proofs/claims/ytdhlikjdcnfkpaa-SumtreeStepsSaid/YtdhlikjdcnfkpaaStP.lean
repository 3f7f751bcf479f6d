/-
  Chapter 26 (sumtree): levels, paths, differences of a tree of sums. No program is named here.
-/
import Derived.Test.YtdhlikjdcnfkpaaLe
namespace Go.Proofs.Ytdhlikjdcnfkpaa
set_option linter.unusedVariables false

/-! ### levels -/
def bytesL (l : List (BitVec 64)) : List (BitVec 8) := l.flatMap (le 8)
theorem bytesL_len (l : List (BitVec 64)) : (bytesL l).length = 8 * l.length := by
  induction l with
  | nil => rfl
  | cons x l ih => simp only [bytesL, List.flatMap_cons, List.length_append, le_length, List.length_cons] at ih ⊢; omega
theorem bytesL_app (a b : List (BitVec 64)) : bytesL (a ++ b) = bytesL a ++ bytesL b := by simp [bytesL]
theorem bytesL_one (x : BitVec 64) : bytesL [x] = le 8 x := by simp [bytesL]
/-- the sum of a run -/
def runL (l : List (BitVec 64)) : BitVec 64 := Crc.sum (BitVec.ofNat 8 l.length :: bytesL l)
/-- the root of a tree of n sums with a last node -/
def topL (n : Nat) (x : BitVec 64) : BitVec 64 := Crc.sum (le 8 (BitVec.ofNat 64 n) ++ le 8 x)
def grp (l : List (BitVec 64)) (j : Nat) : List (BitVec 64) := (l.drop (4 * j)).take 4
def parK (l : List (BitVec 64)) (k : Nat) : List (BitVec 64) := (List.range k).map fun j => runL (grp l j)
def par (l : List (BitVec 64)) : List (BitVec 64) := parK l ((l.length + 3) / 4)
def lvl (l : List (BitVec 64)) : Nat → List (BitVec 64)
  | 0 => l
  | k + 1 => par (lvl l k)
def sz (n : Nat) : Nat → Nat
  | 0 => n
  | k + 1 => (sz n k + 3) / 4
/-- the number of levels above level 0 -/
def hgt (n : Nat) : Nat := if h : n ≤ 1 then 0 else hgt ((n + 3) / 4) + 1
termination_by n
decreasing_by omega
theorem parK_len (l : List (BitVec 64)) (k : Nat) : (parK l k).length = k := by simp [parK]
theorem parK_succ (l : List (BitVec 64)) (k : Nat) : parK l (k + 1) = parK l k ++ [runL (grp l k)] := by simp [parK, List.range_succ]
theorem par_len (l : List (BitVec 64)) : (par l).length = (l.length + 3) / 4 := parK_len _ _
theorem lvl_len (l : List (BitVec 64)) : ∀ k, (lvl l k).length = sz l.length k
  | 0 => rfl
  | k + 1 => by rw [lvl, par_len, lvl_len l k, sz]
theorem par_get (l : List (BitVec 64)) (j : Nat) (h : j < (par l).length) : (par l)[j] = runL (grp l j) := by simp [par, parK]
theorem sz_shift (n : Nat) : ∀ k, sz n (k + 1) = sz ((n + 3) / 4) k
  | 0 => rfl
  | k + 1 => by rw [sz, sz_shift n k, sz]
theorem sz_le (n : Nat) : ∀ k, sz n k ≤ n
  | 0 => Nat.le_refl _
  | k + 1 => by have := sz_le n k; rw [sz]; omega
theorem sz_pos {n : Nat} (h : 0 < n) : ∀ k, 0 < sz n k
  | 0 => h
  | k + 1 => by have := sz_pos h k; rw [sz]; omega
theorem hgt_low {n : Nat} (h : n ≤ 1) : hgt n = 0 := by rw [hgt, dif_pos h]
theorem hgt_high {n : Nat} (h : ¬ n ≤ 1) : hgt n = hgt ((n + 3) / 4) + 1 := by rw [hgt, dif_neg h]
theorem sz_hgt (n : Nat) : sz n (hgt n) ≤ 1 := by
  induction n using Nat.strongRecOn with
  | ind n ih =>
    by_cases h : n ≤ 1
    · rw [hgt_low h]; exact h
    · rw [hgt_high h, sz_shift]
      exact ih _ (by omega)
theorem sz_below {n k : Nat} (h : k < hgt n) : 1 < sz n k := by
  induction n using Nat.strongRecOn generalizing k with
  | ind n ih =>
    by_cases hn : n ≤ 1
    · rw [hgt_low hn] at h; omega
    · rw [hgt_high hn] at h
      cases k with
      | zero => simp only [sz]; omega
      | succ k => rw [sz_shift]; exact ih _ (by omega) (by omega)
theorem hgt_eq {n k : Nat} (h : ∀ j, j < k → 1 < sz n j) (h1 : sz n k ≤ 1) : hgt n = k := by
  rcases Nat.lt_trichotomy (hgt n) k with h2 | h2 | h2
  · have := h _ h2; have := sz_hgt n; omega
  · exact h2
  · have := sz_below h2; omega
theorem hgt_le {n : Nat} : ∀ {k}, n ≤ 4 ^ k → hgt n ≤ k
  | 0, h => by rw [hgt_low (by simpa using h)]; omega
  | k + 1, h => by
    by_cases hn : n ≤ 1
    · rw [hgt_low hn]; omega
    · rw [hgt_high hn]
      have : (n + 3) / 4 ≤ 4 ^ k := by rw [Nat.pow_succ] at h; omega
      have := hgt_le this
      omega
/-- the place above a place -/
theorem up_lt {n i : Nat} (h : i < n) : ∀ k, i / 4 ^ k < sz n k
  | 0 => by simpa [sz] using h
  | k + 1 => by
    have := up_lt h k
    rw [sz, Nat.pow_succ, ← Nat.div_div_eq_div_mul]
    omega
theorem up_step (i k : Nat) : i / 4 ^ (k + 1) = i / 4 ^ k / 4 := by rw [Nat.pow_succ, Nat.div_div_eq_div_mul]
theorem up_top {n i : Nat} (h : i < n) : i / 4 ^ hgt n = 0 := Nat.lt_one_iff.1 (Nat.lt_of_lt_of_le (up_lt h _) (sz_hgt n))
/-- the number of kids of a place -/
def kidN (n k j : Nat) : Nat := min 4 (sz n k - 4 * j)
theorem grp_len (l : List (BitVec 64)) (k j : Nat) : (grp (lvl l k) j).length = kidN l.length k j := by unfold grp kidN; rw [List.length_take, List.length_drop, lvl_len]
theorem kidN_pos {n k j : Nat} (h : j < sz n (k + 1)) : 0 < kidN n k j := by rw [sz] at h; unfold kidN; omega
theorem kid_lt {n k j t : Nat} (h : t < kidN n k j) : 4 * j + t < sz n k := by unfold kidN at h; omega
theorem kid_up {n k i : Nat} (h : i < n) : i / 4 ^ k % 4 < kidN n k (i / 4 ^ (k + 1)) := by
  have := up_lt h k
  unfold kidN
  rw [up_step]
  omega
theorem grp_get {l : List (BitVec 64)} {j t : Nat} (h : t < (grp l j).length) : (grp l j)[t] = l[4 * j + t]'(by unfold grp at h; rw [List.length_take, List.length_drop] at h; omega) := by
  simp [grp]
/-- the root -/
def rootL (l : List (BitVec 64)) : BitVec 64 := topL l.length ((lvl l (hgt l.length)).getD 0 0#64)

/-! ### a sum is replaced -/
def setV (l : List (BitVec 64)) (i : Nat) (x : BitVec 64) : Nat → BitVec 64
  | 0 => x
  | k + 1 => runL (grp ((lvl l k).set (i / 4 ^ k) (setV l i x k)) (i / 4 ^ (k + 1)))
theorem grp_set_off {l : List (BitVec 64)} {p j : Nat} {x : BitVec 64} (h : p / 4 ≠ j) : grp (l.set p x) j = grp l j := by
  unfold grp
  apply List.ext_getElem (by simp)
  intro t h1 h2
  simp only [List.getElem_take, List.getElem_drop]
  rw [List.getElem_set_ne]
  simp at h1
  omega
theorem lvl_set (l : List (BitVec 64)) (i : Nat) (x : BitVec 64) : ∀ k, lvl (l.set i x) k = (lvl l k).set (i / 4 ^ k) (setV l i x k)
  | 0 => by simp [lvl, setV]
  | k + 1 => by
    rw [lvl, lvl_set l i x k, lvl]
    apply List.ext_getElem (by simp [par_len])
    intro j h1 h2
    rw [par_get, List.getElem_set]
    by_cases hj : i / 4 ^ (k + 1) = j
    · rw [if_pos hj, setV, hj]
    · rw [if_neg hj, par_get, grp_set_off (by rw [← up_step]; exact hj)]

/-! ### paths -/
def others (l : List (BitVec 64)) (p : Nat) : List (BitVec 64) := (grp l (p / 4)).eraseIdx (p % 4)
def pathK (l : List (BitVec 64)) (i a b : Nat) : List (BitVec 64) := (List.range' a b).flatMap fun k => others (lvl l k) (i / 4 ^ k)
def pathL (l : List (BitVec 64)) (i : Nat) : List (BitVec 64) := pathK l i 0 (hgt l.length)
theorem pathK_zero (l : List (BitVec 64)) (i a : Nat) : pathK l i a 0 = [] := by simp [pathK]
theorem pathK_snoc (l : List (BitVec 64)) (i a b : Nat) : pathK l i a (b + 1) = pathK l i a b ++ others (lvl l (a + b)) (i / 4 ^ (a + b)) := by
  unfold pathK
  rw [List.range'_concat]
  simp
theorem pathK_cons (l : List (BitVec 64)) (i a b : Nat) : pathK l i a (b + 1) = others (lvl l a) (i / 4 ^ a) ++ pathK l i (a + 1) b := by
  unfold pathK
  rw [List.range'_succ]
  simp
theorem others_len {l : List (BitVec 64)} {i k : Nat} (h : i < l.length) : (others (lvl l k) (i / 4 ^ k)).length = kidN l.length k (i / 4 ^ (k + 1)) - 1 := by
  have h1 := kid_up (k := k) h
  unfold others
  rw [List.length_eraseIdx, ← up_step, grp_len, if_pos h1]

/-! ### what Check computes -/
def chk (size i : Nat) (s : BitVec 64) (p : List (BitVec 64)) : Option (BitVec 64) :=
  if h : size ≤ 1 then (if p = [] then some s else none)
  else if p.length < min 4 (size - 4 * (i / 4)) - 1 then none
  else chk ((size + 3) / 4) (i / 4) (runL (p.take (i % 4) ++ [s] ++ (p.take (min 4 (size - 4 * (i / 4)) - 1)).drop (i % 4))) (p.drop (min 4 (size - 4 * (i / 4)) - 1))
termination_by size
decreasing_by omega
def checkB (r : BitVec 64) (n i : Int) (s : BitVec 64) (p : List (BitVec 64)) : Bool :=
  if 1 ≤ n ∧ n ≤ 1048576 ∧ 0 ≤ i ∧ i < n then (match chk n.toNat i.toNat s p with | some x => decide (topL n.toNat x = r) | none => false) else false
theorem erase_ins {l : List (BitVec 64)} {t : Nat} (h : t < l.length) : (l.eraseIdx t).take t ++ [l[t]] ++ (l.eraseIdx t).drop t = l := by
  rw [List.eraseIdx_eq_take_drop_succ, List.take_left' (by simp; omega), List.drop_left' (by simp; omega)]
  simp
theorem chk_path {l : List (BitVec 64)} {i : Nat} (h : i < l.length) : ∀ m k, k + m = hgt l.length → chk (sz l.length k) (i / 4 ^ k) ((lvl l k).getD (i / 4 ^ k) 0#64) (pathK l i k m) = some ((lvl l (hgt l.length)).getD 0 0#64)
  | 0, k, hk => by
    have hk' : k = hgt l.length := by omega
    subst hk'
    rw [chk, dif_pos (sz_hgt _), if_pos (pathK_zero _ _ _), up_top h]
  | m + 1, k, hk => by
    have h1 := sz_below (n := l.length) (k := k) (by omega)
    have hu := up_lt h k
    have hkn := kid_up (k := k) h
    have ho := others_len (k := k) h
    have hmin : min 4 (sz l.length k - 4 * (i / 4 ^ k / 4)) = kidN l.length k (i / 4 ^ (k + 1)) := by rw [up_step]; rfl
    rw [chk, dif_neg (by omega), hmin, pathK_cons, if_neg (by rw [List.length_append, ho]; omega), List.take_left' ho, List.drop_left' ho, ← up_step]
    have ht : (others (lvl l k) (i / 4 ^ k)).take (i / 4 ^ k % 4) = (others (lvl l k) (i / 4 ^ k) ++ pathK l i (k + 1) m).take (i / 4 ^ k % 4) := by
      rw [List.take_append_of_le_length (by rw [ho]; omega)]
    have hl : i / 4 ^ k % 4 < (grp (lvl l k) (i / 4 ^ k / 4)).length := by rw [grp_len, ← up_step]; exact hkn
    have hg : (lvl l k).getD (i / 4 ^ k) 0#64 = (grp (lvl l k) (i / 4 ^ k / 4))[i / 4 ^ k % 4] := by
      rw [grp_get, List.getD_eq_getElem?_getD, List.getElem?_eq_getElem (by rw [lvl_len]; exact hu)]
      have : 4 * (i / 4 ^ k / 4) + i / 4 ^ k % 4 = i / 4 ^ k := by omega
      simp only [this, Option.getD_some]
    rw [← ht, hg]
    unfold others
    rw [erase_ins hl]
    have hup : i / 4 ^ (k + 1) < (lvl l (k + 1)).length := by rw [lvl_len]; exact up_lt h (k + 1)
    have hr : runL (grp (lvl l k) (i / 4 ^ k / 4)) = (lvl l (k + 1)).getD (i / 4 ^ (k + 1)) 0#64 := by
      rw [List.getD_eq_getElem?_getD, List.getElem?_eq_getElem hup]
      simp only [lvl, Option.getD_some]
      rw [par_get, ← up_step]
    rw [hr]
    exact chk_path h m (k + 1) (by omega)

/-! ### differences -/
def dK (a b : List (BitVec 64)) : Nat → Nat → List Nat
  | 0, j => if a.getD j 0#64 = b.getD j 0#64 then [] else [j]
  | k + 1, j => if (lvl a (k + 1)).getD j 0#64 = (lvl b (k + 1)).getD j 0#64 then [] else (List.range (kidN a.length k j)).flatMap fun t => dK a b k (4 * j + t)
def dOk (a b : List (BitVec 64)) (k i : Nat) : Bool := (List.range (k + 1)).all fun m => decide ((lvl a m).getD (i / 4 ^ m) 0#64 ≠ (lvl b m).getD (i / 4 ^ m) 0#64)
def diffL (a b : List (BitVec 64)) : List Nat := (List.range a.length).filter (dOk a b (hgt a.length))
theorem dOk_succ (a b : List (BitVec 64)) (k i : Nat) : dOk a b (k + 1) i = (dOk a b k i && decide ((lvl a (k + 1)).getD (i / 4 ^ (k + 1)) 0#64 ≠ (lvl b (k + 1)).getD (i / 4 ^ (k + 1)) 0#64)) := by
  unfold dOk
  rw [List.range_succ, List.all_append]
  simp

theorem split_range (c n m : Nat) : ∀ T, (List.range T).flatMap (fun t => List.range' ((m + t) * c) (min c (n - (m + t) * c))) = List.range' (m * c) (min (T * c) (n - m * c))
  | 0 => by simp
  | T + 1 => by
    rw [List.range_succ, List.flatMap_append, split_range c n m T]
    simp only [List.flatMap_cons, List.flatMap_nil, List.append_nil]
    have e1 : (m + T) * c = m * c + T * c := Nat.add_mul ..
    have e2 : (T + 1) * c = T * c + c := Nat.succ_mul ..
    rw [e1, e2]
    generalize m * c = X
    generalize T * c = Y
    rcases Nat.le_total Y (n - X) with h | h
    · rw [Nat.min_eq_left h, List.range'_append_1]
      congr 1
      omega
    · rw [Nat.min_eq_right h, show n - (X + Y) = 0 by omega, Nat.min_zero, List.range'_zero, List.append_nil]
      congr 1
      omega
theorem sz_mul (n : Nat) : ∀ k, n ≤ sz n k * 4 ^ k
  | 0 => by simp [sz]
  | k + 1 => by
    have h := sz_mul n k
    have h2 : sz n k ≤ (sz n k + 3) / 4 * 4 := by omega
    have h3 := Nat.mul_le_mul_right (4 ^ k) h2
    rw [sz, Nat.pow_succ, Nat.mul_comm (4 ^ k) 4, ← Nat.mul_assoc]
    omega
theorem filter_none {α : Type} {p : α → Bool} {l : List α} (h : ∀ x ∈ l, p x = false) : l.filter p = [] := by
  rw [List.filter_eq_nil_iff]
  intro x hx
  rw [h x hx]
  simp
theorem filter_flat {α β : Type} (p : β → Bool) (f : α → List β) (l : List α) : (l.flatMap f).filter p = l.flatMap fun x => (f x).filter p := by
  induction l with
  | nil => rfl
  | cons x l ih => simp only [List.flatMap_cons, List.filter_append, ih]
theorem flat_congr {α β : Type} {f g : α → List β} {l : List α} (h : ∀ x ∈ l, f x = g x) : l.flatMap f = l.flatMap g := by
  induction l with
  | nil => rfl
  | cons x l ih =>
    simp only [List.flatMap_cons]
    rw [h x (by simp), ih fun y hy => h y (by simp [hy])]
theorem kid_mul (n k j : Nat) : min (kidN n k j * 4 ^ k) (n - 4 * j * 4 ^ k) = min (4 ^ (k + 1)) (n - j * 4 ^ (k + 1)) := by
  have h := sz_mul n k
  have e1 : j * 4 ^ (k + 1) = 4 * j * 4 ^ k := by rw [Nat.pow_succ, Nat.mul_comm (4 ^ k) 4, ← Nat.mul_assoc, Nat.mul_comm j 4]
  have e2 : 4 ^ (k + 1) = 4 * 4 ^ k := by rw [Nat.pow_succ, Nat.mul_comm]
  rw [e1, e2]
  unfold kidN
  rcases Nat.le_total 4 (sz n k - 4 * j) with h2 | h2
  · rw [Nat.min_eq_left h2]
  · rw [Nat.min_eq_right h2, Nat.sub_mul]
    have h3 : (sz n k - 4 * j) * 4 ^ k ≤ 4 * 4 ^ k := Nat.mul_le_mul_right _ h2
    rw [Nat.sub_mul] at h3
    generalize 4 * j * 4 ^ k = X at *
    generalize sz n k * 4 ^ k = Y at *
    omega
theorem dK_eq (a b : List (BitVec 64)) : ∀ k j, j < sz a.length k → dK a b k j = (List.range' (j * 4 ^ k) (min (4 ^ k) (a.length - j * 4 ^ k))).filter (dOk a b k)
  | 0, j, hj => by
    simp only [sz] at hj
    rw [dK, Nat.pow_zero, Nat.mul_one, Nat.min_eq_left (by omega)]
    simp only [List.range'_one]
    have hd : dOk a b 0 j = !decide (a.getD j 0#64 = b.getD j 0#64) := by unfold dOk; simp [lvl]
    rw [List.filter_cons, hd]
    by_cases h : a.getD j 0#64 = b.getD j 0#64
    · rw [if_pos h, decide_eq_true h]; rfl
    · rw [if_neg h, decide_eq_false h]; rfl
  | k + 1, j, hj => by
    rw [dK]
    by_cases he : (lvl a (k + 1)).getD j 0#64 = (lvl b (k + 1)).getD j 0#64
    · rw [if_pos he, filter_none]
      intro i hi
      rw [List.mem_range'_1] at hi
      have hd : i / 4 ^ (k + 1) = j := by
        have : 0 < 4 ^ (k + 1) := Nat.pow_pos (by omega)
        refine (Nat.div_eq_iff this).2 ⟨?_, ?_⟩
        · omega
        · have := hi.2; omega
      rw [dOk_succ, hd]
      simp only [he, ne_eq, not_true, decide_false, Bool.and_false]
    · rw [if_neg he]
      have hs := split_range (4 ^ k) a.length (4 * j) (kidN a.length k j)
      rw [kid_mul] at hs
      have e1 : 4 * j * 4 ^ k = j * 4 ^ (k + 1) := by rw [Nat.pow_succ, Nat.mul_comm (4 ^ k) 4, ← Nat.mul_assoc, Nat.mul_comm j 4]
      rw [e1] at hs
      rw [← hs, filter_flat]
      refine flat_congr fun t ht => ?_
      rw [List.mem_range] at ht
      rw [dK_eq a b k (4 * j + t) (kid_lt ht)]
      refine List.filter_congr fun i hi => ?_
      rw [List.mem_range'_1] at hi
      have hd : i / 4 ^ k = 4 * j + t := by
        have : 0 < 4 ^ k := Nat.pow_pos (by omega)
        refine (Nat.div_eq_iff this).2 ⟨?_, ?_⟩
        · omega
        · have := hi.2; omega
      have hd2 : i / 4 ^ (k + 1) = j := by rw [up_step, hd]; unfold kidN at ht; omega
      rw [dOk_succ, hd2]
      simp only [ne_eq, he, not_false_eq_true, decide_true, Bool.and_true]
theorem diffL_eq (a b : List (BitVec 64)) (h : 0 < a.length) : diffL a b = dK a b (hgt a.length) 0 := by
  rw [dK_eq a b _ 0 (sz_pos h _), Nat.zero_mul]
  unfold diffL
  have h1 := sz_mul a.length (hgt a.length)
  have h2 := sz_hgt a.length
  have h3 := sz_pos h (hgt a.length)
  have h4 : sz a.length (hgt a.length) = 1 := by omega
  rw [h4, Nat.one_mul] at h1
  rw [Nat.sub_zero, Nat.min_eq_right h1, List.range_eq_range']

/-! ### the number of nodes -/
def sumR (f : Nat → Nat) : Nat → Nat
  | 0 => 0
  | n + 1 => sumR f n + f n
theorem sumR_add (f : Nat → Nat) (a : Nat) : ∀ b, sumR f (a + b) = sumR f a + sumR (fun t => f (a + t)) b
  | 0 => rfl
  | b + 1 => by rw [← Nat.add_assoc, sumR, sumR_add f a b, sumR]; omega
theorem sumR_congr {f g : Nat → Nat} : ∀ {n}, (∀ t, t < n → f t = g t) → sumR f n = sumR g n
  | 0, _ => rfl
  | n + 1, h => by rw [sumR, sumR, sumR_congr (fun t ht => h t (by omega)), h n (by omega)]
theorem sumR_plus (f g : Nat → Nat) : ∀ n, sumR (fun t => f t + g t) n = sumR f n + sumR g n
  | 0 => rfl
  | n + 1 => by rw [sumR, sumR, sumR, sumR_plus f g n]; omega
theorem sumR_one (p c : Nat) : ∀ n, sumR (fun t => if t = p then c else 0) n = if p < n then c else 0
  | 0 => by simp [sumR]
  | n + 1 => by
    rw [sumR, sumR_one p c n]
    by_cases h1 : p < n
    · rw [if_pos h1, if_neg (by omega), if_pos (by omega)]; omega
    · by_cases h2 : n = p
      · rw [if_neg h1, if_pos h2, if_pos (by omega)]; omega
      · rw [if_neg h1, if_neg h2, if_neg (by omega)]
theorem sumR_const (c : Nat) : ∀ n, sumR (fun _ => c) n = n * c
  | 0 => by simp [sumR]
  | n + 1 => by rw [sumR, sumR_const c n, Nat.succ_mul]
theorem sumR_kids (f : Nat → Nat) (S : Nat) : ∀ J, sumR (fun j => sumR (fun t => f (4 * j + t)) (min 4 (S - 4 * j))) J = sumR f (min (4 * J) S)
  | 0 => by simp [sumR]
  | J + 1 => by
    rw [sumR, sumR_kids f S J]
    rcases Nat.le_total (4 * J) S with h | h
    · rw [Nat.min_eq_left h, ← sumR_add]
      congr 1
      omega
    · rw [Nat.min_eq_right h, show S - 4 * J = 0 by omega, Nat.min_zero, sumR, Nat.add_zero]
      congr 1
      omega
/-- the number of nodes above level 0 at and below a place -/
def cnt (n : Nat) : Nat → Nat → Nat
  | 0, _ => 0
  | k + 1, j => 1 + sumR (fun t => cnt n k (4 * j + t)) (kidN n k j)
/-- the number of nodes of the levels 1 to k -/
def allK (n : Nat) (k : Nat) : Nat := sumR (fun m => sz n (m + 1)) k
def allN (n : Nat) : Nat := allK n (hgt n)
theorem cnt_level (n : Nat) : ∀ k, sumR (cnt n k) (sz n k) = allK n k
  | 0 => by
    rw [allK, sumR, show cnt n 0 = fun _ => 0 from funext fun _ => rfl, sumR_const]; simp
  | k + 1 => by
    have h := cnt_level n k
    rw [show cnt n (k + 1) = fun j => 1 + sumR (fun t => cnt n k (4 * j + t)) (min 4 (sz n k - 4 * j)) from funext fun _ => rfl, sumR_plus, sumR_const, sumR_kids, Nat.min_eq_right (by rw [sz]; omega), h]
    unfold allK
    rw [sumR]
    omega
theorem cnt_top {n : Nat} (h : 0 < n) : cnt n (hgt n) 0 = allN n := by
  have h1 := cnt_level n (hgt n)
  have h2 := sz_hgt n
  have h3 := sz_pos h (hgt n)
  rw [show sz n (hgt n) = 1 by omega, sumR, sumR, Nat.zero_add] at h1
  exact h1
/-- the number of places above level 0 at which two trees have the same node -/
def sameN (P Q : Nat → Nat → Nat) (n : Nat) : Nat → Nat → Nat
  | 0, _ => 0
  | k + 1, j => if P (k + 1) j = Q (k + 1) j then cnt n (k + 1) j else sumR (fun t => sameN P Q n k (4 * j + t)) (kidN n k j)
theorem same_self (P : Nat → Nat → Nat) (n : Nat) : ∀ k j, sameN P P n k j = cnt n k j
  | 0, _ => rfl
  | k + 1, j => by rw [sameN, if_pos rfl]
theorem same_path {P Q : Nat → Nat → Nat} {n i : Nat} (hi : i < n) (ho : ∀ k j, j ≠ i / 4 ^ k → P k j = Q k j) (hp : ∀ k, k ≤ hgt n → P k (i / 4 ^ k) ≠ Q k (i / 4 ^ k)) :
    ∀ k j, k ≤ hgt n → sameN P Q n k j + (if j = i / 4 ^ k then k else 0) = cnt n k j
  | 0, j, _ => by rw [sameN, cnt]; split <;> rfl
  | k + 1, j, hk => by
    by_cases hj : j = i / 4 ^ (k + 1)
    · subst hj
      rw [if_pos rfl, sameN, if_neg (hp (k + 1) hk), cnt]
      have hkn := kid_up (k := k) hi
      have h1 : sumR (fun t => sameN P Q n k (4 * (i / 4 ^ (k + 1)) + t) + (if 4 * (i / 4 ^ (k + 1)) + t = i / 4 ^ k then k else 0)) (kidN n k (i / 4 ^ (k + 1))) = sumR (fun t => cnt n k (4 * (i / 4 ^ (k + 1)) + t)) (kidN n k (i / 4 ^ (k + 1))) :=
        sumR_congr fun t _ => same_path hi ho hp k _ (by omega)
      have h2 : sumR (fun t => if 4 * (i / 4 ^ (k + 1)) + t = i / 4 ^ k then k else 0) (kidN n k (i / 4 ^ (k + 1))) = k := by
        rw [sumR_congr (g := fun t => if t = i / 4 ^ k % 4 then k else 0) fun t _ => ?_, sumR_one, if_pos hkn]
        rw [up_step]
        by_cases h : 4 * (i / 4 ^ k / 4) + t = i / 4 ^ k
        · rw [if_pos h, if_pos (by omega)]
        · rw [if_neg h, if_neg (by omega)]
      rw [sumR_plus, h2] at h1
      omega
    · rw [if_neg hj, sameN, if_pos (ho (k + 1) j hj), Nat.add_zero]
end Go.Proofs.Ytdhlikjdcnfkpaa
