/-
  Parts of slices of bytes: the address as one word that the walk does not open.
-/
import Derived.Test.YthjcdikpomlpmaaBox
namespace Go.Proofs.Ythjcdikpomlpmaa
open Go.RowKit
set_option linter.unusedVariables false

/-- where a part of a slice begins -/
def subA (a : Option Addr) (lo cap : Nat) : Option Addr := if cap = lo then a else a.map (·.add lo)
theorem SliceAt.cut {α : Type} {enc : α → Value} {w : World} {a : Option Addr} {n cap : Nat} {l : List α} (h : SliceAt enc w (.slice a n cap) l) (lo hi : Nat) (h1 : lo ≤ hi) (h2 : hi ≤ l.length) :
    SliceAt enc w (.slice (subA a lo cap) (hi - lo) (cap - lo)) ((l.drop lo).take (hi - lo)) := by
  have hl : ((l.drop lo).take (hi - lo)).length = hi - lo := by rw [List.length_take, List.length_drop]; omega
  obtain ⟨ad, c, hv, hca, h⟩ := h
  injection hv with e1 e2 e3
  subst e1 e2 e3
  refine ⟨_, _, by rw [hl], by rw [hl]; omega, ?_⟩
  rcases h with ⟨h0, hc⟩ | ⟨b, off, e4, e5, e6⟩
  · subst h0
    have hlo : lo = 0 := by simp at h2; omega
    subst hlo
    left
    refine ⟨by simp, fun hn => ?_⟩
    unfold subA at hn
    split at hn
    · rw [hc hn]
    · cases a with
      | none => rw [hc rfl]
      | some a => simp at hn
  · by_cases hz : hi - lo = 0
    · left
      refine ⟨List.eq_nil_of_length_eq_zero (by rw [hl]; exact hz), fun hn => ?_⟩
      unfold subA at hn
      rw [e4] at hn
      split at hn <;> simp at hn
    · right
      refine ⟨b, off + lo, ?_, e5, fun i hi' => ?_⟩
      · unfold subA
        rw [if_neg (by omega), e4, Option.map_some, add_plain]
      · rw [hl] at hi'
        rw [Nat.add_assoc, e6 (lo + i) (by omega), List.getElem_take, List.getElem_drop]

/-- the same, the beginning under a name of its own: the equation folds what the walk finds -/
theorem SliceAt.cutA {α : Type} {enc : α → Value} {w : World} {a : Option Addr} {n cap : Nat} {l : List α} (h : SliceAt enc w (.slice a n cap) l) (lo hi : Nat) (h1 : lo ≤ hi) (h2 : hi ≤ l.length) :
    ∃ A, (if cap = lo then a else Option.map (fun x => x.add lo) a) = A ∧ SliceAt enc w (.slice A (hi - lo) (cap - lo)) ((l.drop lo).take (hi - lo)) :=
  ⟨_, rfl, h.cut lo hi h1 h2⟩
end Go.Proofs.Ythjcdikpomlpmaa
