/-
  Chapter 31 (election): the plain law: the places of the disks in service. No program is named here.
-/
import Derived.Test.YtpmbbeflgifgaaaElP
namespace Go.Proofs.Ytpmbbeflgifgaaa.El
set_option linter.unusedVariables false
def firstN (p : Nat → Bool) (k : Nat) : Option Nat := (List.range k).find? p
theorem firstN_succ (p : Nat → Bool) (k : Nat) : firstN p (k + 1) = match firstN p k with | some i => some i | none => if p k then some k else none := by
  unfold firstN
  rw [List.range_succ, List.find?_append]
  cases (List.range k).find? p with
  | some i => rfl
  | none => simp [List.find?_cons]; cases p k <;> rfl
theorem firstN_some {p : Nat → Bool} {k i : Nat} (h : firstN p k = some i) : i < k ∧ p i = true := by
  have h1 := List.mem_of_find?_eq_some h
  exact ⟨List.mem_range.1 h1, List.find?_some h⟩
theorem firstN_none {p : Nat → Bool} {k : Nat} (h : firstN p k = none) : ∀ i, i < k → p i = false := fun i hi => by
  have := List.find?_eq_none.1 h i (List.mem_range.2 hi)
  simpa using this
def place (c o : Nat → Bool) (k : Nat) : Int := match firstN c k with
  | some i => i
  | none => match firstN o k with
    | some i => i
    | none => -1
section
variable (cand : Nat → Bool) (gen disk : Nat → Nat) (c o : Nat → Bool)
def stepA (at_ : List Int) (i : Nat) : List Int :=
  if c i || o i then (if at_.getD (disk i) (-1) < 0 ∨ gen (at_.getD (disk i) (-1)).toNat < gen i then at_.set (disk i) i else at_) else at_
def Inv (D k : Nat) (at_ : List Int) : Prop := at_.length = D ∧ ∀ d, d < D → at_.getD d (-1) = place (fun i => cand i && (disk i == d && c i)) (fun i => cand i && (disk i == d && o i)) k
end
theorem place_skip {c o : Nat → Bool} {k : Nat} (hc : c k = false) (ho : o k = false) : place c o (k + 1) = place c o k := by
  unfold place
  rw [firstN_succ, firstN_succ, hc, ho]
  cases firstN c k <;> cases firstN o k <;> rfl
theorem getD_set {α : Type} {l : List α} {i j : Nat} {x d : α} (h : i < l.length) : (l.set i x).getD j d = if i = j then x else l.getD j d := by
  rw [List.getD_eq_getElem?_getD, List.getD_eq_getElem?_getD]
  by_cases e : i = j
  · subst e
    rw [if_pos rfl, List.getElem?_set_self h]; rfl
  · rw [if_neg e, List.getElem?_set_ne e]
section
variable {cand : Nat → Bool} {gen disk : Nat → Nat} {c o : Nat → Bool} {D k G P : Nat} {at_ : List Int}
theorem Inv.skip (h : Inv cand disk c o D k at_) (hc : cand k = false) : Inv cand disk c o D (k + 1) at_ :=
  ⟨h.1, fun d hd => by rw [place_skip (by simp [hc]) (by simp [hc])]; exact h.2 d hd⟩
theorem Inv.step (h : Inv cand disk c o D k at_) (hcand : cand k = true) (hg : ∀ i, c i = true → gen i = G) (hp : ∀ i, o i = true → gen i = P) (hPG : P < G) (hD : (c k || o k) = true → disk k < D) : Inv cand disk c o D (k + 1) (stepA gen disk c o at_ k) := by
  unfold stepA
  by_cases hco : (c k || o k) = true
  · rw [if_pos hco]
    have hd := hD hco
    have hv := h.2 (disk k) hd
    have hother : ∀ d, disk k ≠ d → place (fun i => cand i && (disk i == d && c i)) (fun i => cand i && (disk i == d && o i)) (k + 1) = place (fun i => cand i && (disk i == d && c i)) (fun i => cand i && (disk i == d && o i)) k := fun d e =>
      place_skip (by simp [e]) (by simp [e])
    -- the value at this disk behind this label
    have key : place (fun i => cand i && (disk i == disk k && c i)) (fun i => cand i && (disk i == disk k && o i)) (k + 1) =
        if at_.getD (disk k) (-1) < 0 ∨ gen (at_.getD (disk k) (-1)).toNat < gen k then (k : Int) else at_.getD (disk k) (-1) := by
      rw [hv]
      unfold place
      rw [firstN_succ, firstN_succ]
      simp only [hcand, Bool.true_and, beq_self_eq_true]
      cases hfc : firstN (fun i => cand i && (disk i == disk k && c i)) k with
      | some i =>
        have hi := (firstN_some hfc).2
        simp only [Bool.and_eq_true] at hi
        have hgi := hg i hi.2.2
        have hgk : gen k ≤ G := by
          rw [Bool.or_eq_true] at hco
          rcases hco with e | e
          · rw [hg k e]; exact Nat.le_refl _
          · rw [hp k e]; omega
        simp only
        rw [if_neg]
        rw [Int.toNat_natCast]
        omega
      | none =>
        cases hfo : firstN (fun i => cand i && (disk i == disk k && o i)) k with
        | some i =>
          have hi := (firstN_some hfo).2
          simp only [Bool.and_eq_true] at hi
          have hgi := hp i hi.2.2
          simp only
          by_cases hck : c k = true
          · rw [if_pos hck, if_pos]
            right
            rw [Int.toNat_natCast, hgi, hg k hck]
            exact hPG
          · rw [if_neg hck, if_neg]
            have hok : o k = true := by simpa [hck] using hco
            rw [Int.toNat_natCast, hgi, hp k hok]
            omega
        | none =>
          simp only
          rw [if_pos (Or.inl (show (-1 : Int) < 0 by decide))]
          by_cases hck : c k = true
          · rw [if_pos hck]
          · rw [if_neg hck, if_pos (show o k = true by simpa [hck] using hco)]
    by_cases hs : at_.getD (disk k) (-1) < 0 ∨ gen (at_.getD (disk k) (-1)).toNat < gen k
    · rw [if_pos hs]
      refine ⟨by rw [List.length_set]; exact h.1, fun d hdD => ?_⟩
      rw [getD_set (by rw [h.1]; exact hd)]
      by_cases e : disk k = d
      · subst e
        rw [if_pos rfl, key, if_pos hs]
      · rw [if_neg e, hother d e]
        exact h.2 d hdD
    · rw [if_neg hs]
      refine ⟨h.1, fun d hdD => ?_⟩
      by_cases e : disk k = d
      · subst e
        rw [key, if_neg hs]
      · rw [hother d e]
        exact h.2 d hdD
  · rw [if_neg hco]
    have h1 : c k = false ∧ o k = false := by
      rw [Bool.or_eq_true] at hco
      constructor
      · cases hc : c k with
        | false => rfl
        | true => exact absurd (Or.inl hc) hco
      · cases ho : o k with
        | false => rfl
        | true => exact absurd (Or.inr ho) hco
    exact ⟨h.1, fun d hd => by rw [place_skip (by simp [h1]) (by simp [h1])]; exact h.2 d hd⟩
/-- all candidates, one behind the other -/
theorem Inv.all (hg : ∀ i, c i = true → gen i = G) (hp : ∀ i, o i = true → gen i = P) (hPG : P < G) : ∀ k, (∀ i, i < k → cand i = true → (c i || o i) = true → disk i < D) → Inv cand disk c o D k (((List.range k).filter cand).foldl (stepA gen disk c o) (List.replicate D (-1)))
  | 0, _ => by
    refine ⟨by simp, fun d hd => ?_⟩
    show (List.replicate D (-1 : Int)).getD d (-1) = place _ _ 0
    rw [List.getD_eq_getElem?_getD, List.getElem?_replicate, if_pos hd]; rfl
  | k + 1, hD => by
    have ih := Inv.all hg hp hPG k fun i hi => hD i (by omega)
    rw [List.range_succ, List.filter_append, List.foldl_append]
    by_cases hc : cand k = true
    · rw [show [k].filter cand = [k] by simp [hc]]
      exact ih.step hc hg hp hPG (hD k (by omega) hc)
    · rw [show [k].filter cand = [] by simp [hc]]
      exact ih.skip (by simpa using hc)
end
theorem Inv.eq {cand : Nat → Bool} {disk : Nat → Nat} {c o : Nat → Bool} {D k : Nat} {at_ : List Int} (h : Inv cand disk c o D k at_) :
    at_ = (List.range D).map fun d => place (fun i => cand i && (disk i == d && c i)) (fun i => cand i && (disk i == d && o i)) k := by
  apply List.ext_getElem
  · rw [List.length_map, List.length_range]; exact h.1
  · intro i h1 h2
    have := h.2 i (by rw [← h.1]; exact h1)
    rw [List.getD_eq_getElem?_getD, List.getElem?_eq_getElem h1] at this
    rw [List.getElem_map, List.getElem_range]
    exact this
end Go.Proofs.Ytpmbbeflgifgaaa.El
