/-
  Chapter 31 (election): the plain law of the reference: the step of its loop over the labels is the step of bestTo; its descending loops find the place. No program is named here.
-/
import Derived.Test.YtpmbbeflgifgaaaElQ
import Derived.Test.YtpmbbeflgifgaaaElP
namespace Go.Proofs.Ytpmbbeflgifgaaa.El
set_option linter.unusedVariables false
section law
variable {n : Nat} {cand : Nat → Bool} {gen : Nat → Nat} {eq : Nat → Nat → Bool} {disk : Nat → Nat} {dead : Nat → List Bool}
/-- the reference's 'better' -/
def betterN (n : Nat) (cand : Nat → Bool) (gen : Nat → Nat) (eq : Nat → Nat → Bool) (disk : Nat → Nat) (dead : Nat → List Bool) (a b : Nat) : Bool :=
  if outN n cand gen eq disk dead a = outN n cand gen eq disk dead b then decide (votesN n cand eq b < votesN n cand eq a) || (votesN n cand eq a == votesN n cand eq b && decide (lowN n cand eq disk a < lowN n cand eq disk b))
  else outN n cand gen eq disk dead a
/-- the reference's step -/
def takeN (n : Nat) (cand : Nat → Bool) (gen : Nat → Nat) (eq : Nat → Nat → Bool) (disk : Nat → Nat) (dead : Nat → List Bool) (b k : Nat) : Bool :=
  decide (gen b < gen k) || (gen k == gen b && betterN n cand gen eq disk dead k b)
theorem take_key (L : Labels n cand gen eq disk dead) (b k : Nat) : takeN n cand gen eq disk dead b k = decide (keyN n cand gen eq disk dead b < keyN n cand gen eq disk dead k) := by
  unfold takeN
  rcases Nat.lt_trichotomy (gen b) (gen k) with h | h | h
  · rw [decide_eq_true h, decide_eq_true (key_gen L h)]; rfl
  · rw [decide_eq_false (by omega), Bool.eq_iff_iff, Bool.false_or, decide_eq_true_eq, key_lt L h, Bool.and_eq_true, beq_iff_eq]
    unfold betterN
    split
    · rw [Bool.or_eq_true, Bool.and_eq_true, decide_eq_true_eq, decide_eq_true_eq, beq_iff_eq]
      exact ⟨fun e => e.2, fun e => ⟨h.symm, e⟩⟩
    · exact ⟨fun e => e.2, fun e => ⟨h.symm, e⟩⟩
  · have hk := key_gen L h
    rw [decide_eq_false (by omega), decide_eq_false (by omega), Bool.false_or, Bool.and_eq_false_imp]
    intro e; rw [beq_iff_eq] at e; omega
theorem best_step (L : Labels n cand gen eq disk dead) (k : Nat) : bestTo cand (keyN n cand gen eq disk dead) (k + 1) = match bestTo cand (keyN n cand gen eq disk dead) k with
    | none => if cand k then some k else none
    | some b => if cand k && takeN n cand gen eq disk dead b k then some k else some b := by
  rw [bestTo]
  cases bestTo cand (keyN n cand gen eq disk dead) k with
  | none => rfl
  | some b => simp only; rw [take_key L]
end law
/-- the value of a place after a loop from n - 1 down to j, that stores every index at which p holds -/
def downN (p : Nat → Bool) (a : Int) (n : Nat) : Nat → Int
  | 0 => a
  | k + 1 => if p (n - 1 - k) then ((n - 1 - k : Nat) : Int) else downN p a n k
theorem down_none {p : Nat → Bool} {a : Int} {n : Nat} : ∀ k, k ≤ n → (∀ i, n - k ≤ i → i < n → p i = false) → downN p a n k = a
  | 0, _, _ => rfl
  | k + 1, hk, h => by
    rw [downN, h (n - 1 - k) (by omega) (by omega), if_neg Bool.false_ne_true]
    exact down_none k (by omega) fun i h1 h2 => h i (by omega) h2
theorem down_some {p : Nat → Bool} {a : Int} {n i : Nat} (hi : p i = true) (hn : i < n) : ∀ k, k ≤ n → n - k ≤ i → (∀ j, n - k ≤ j → j < i → p j = false) → downN p a n k = i
  | 0, _, h, _ => by omega
  | k + 1, hk, h, hf => by
    rw [downN]
    by_cases e : n - 1 - k = i
    · rw [e, hi, if_pos rfl]
    · rw [hf (n - 1 - k) (by omega) (by omega), if_neg Bool.false_ne_true]
      exact down_some hi hn k (by omega) (by omega) fun j h1 h2 => hf j (by omega) h2
theorem firstN_first {p : Nat → Bool} {k i : Nat} (h : firstN p k = some i) : ∀ j, j < i → p j = false := by
  induction k with
  | zero => cases h
  | succ k ih =>
    rw [firstN_succ] at h
    cases e : firstN p k with
    | some i' => rw [e] at h; exact ih (by rw [e]; exact h)
    | none =>
      rw [e] at h
      simp only at h
      split at h
      · obtain rfl := Option.some.inj h; exact firstN_none e
      · cases h
theorem down_first {p : Nat → Bool} {a : Int} {n : Nat} : downN p a n n = match firstN p n with
    | some i => (i : Int)
    | none => a := by
  cases e : firstN p n with
  | some i => exact down_some (firstN_some e).2 (firstN_some e).1 n (Nat.le_refl n) (by omega) fun j _ h => firstN_first e j h
  | none => exact down_none n (Nat.le_refl n) fun i _ h => firstN_none e i h
/-- the two loops of the reference find the place -/
theorem down_place {c o : Nat → Bool} {n : Nat} : downN c (downN o (-1) n n) n n = place c o n := by
  rw [down_first, down_first]; rfl
end Go.Proofs.Ytpmbbeflgifgaaa.El
