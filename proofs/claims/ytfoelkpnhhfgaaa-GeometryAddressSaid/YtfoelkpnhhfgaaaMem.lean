/-
  A slice that reads as a list, in words that stand under new memory. No program is named here.
-/
import Derived.Test.YtfoelkpnhhfgaaaOrd
import Derived.Lib.Hide
namespace Go.Proofs.Ytfoelkpnhhfgaaa
open Go.RowKit

theorem ret_bool {a b : Bool} (h : a = b) : Ending.returned (.bool a) = .returned (.bool b) := by rw [h]
theorem ret_iff {a b : Bool} (h : a = true ↔ b = true) : Ending.returned (.bool a) = .returned (.bool b) := by rw [Bool.eq_iff_iff.2 h]
theorem ret_int {k : IntKind} {a b : Int} (h : a = b) : Ending.returned (.int k a) = .returned (.int k b) := by rw [h]

/-- v is a slice of elements of one cell each that reads as l -/
def SliceAt {α : Type} (enc : α → Value) (w : World) (v : Value) (l : List α) : Prop :=
  ∃ ad cap, v = .slice ad l.length cap ∧ (l = [] ∨ ∃ b off, ad = some ⟨b, off, none⟩ ∧ b < w.heap.size ∧ ∀ i (h : i < l.length), w.cell? ⟨b, off + i, none⟩ = some (enc l[i]))

theorem SliceAt.ext {α : Type} {enc : α → Value} {w w' : World} {v : Value} {l : List α} (h : SliceAt enc w v l) (e : Ext w w') : SliceAt enc w' v l := by
  obtain ⟨ad, cap, hv, h⟩ := h
  refine ⟨ad, cap, hv, h.imp id ?_⟩
  rintro ⟨b, off, ha, hb, hc⟩
  exact ⟨b, off, ha, Nat.lt_of_lt_of_le hb e.below.size, fun i hi => (e.cell b _ hb).trans (hc i hi)⟩

theorem SliceAt.nil {α : Type} {enc : α → Value} {w : World} : SliceAt enc w (.slice none 0 0) ([] : List α) := ⟨none, 0, rfl, .inl rfl⟩

theorem SliceAt.of_owns {α : Type} {enc : α → Value} {w : World} {v : Value} {l : List α} {base n : Nat} {e : TypeId}
    (h : w.ownsRow base e 1 v n (l.map enc)) : SliceAt enc w v l := by
  obtain ⟨hl, h⟩ := h
  have hn : n = l.length := by simpa using hl.symm
  subst hn
  rcases h with ⟨rfl, hz⟩ | ⟨g, cap, cur, rfl, hb, hh, hc, hm, hs, ht⟩
  · have : l = [] := List.eq_nil_of_length_eq_zero hz
    subst this; exact SliceAt.nil
  · refine ⟨_, cap, rfl, .inr ⟨g, 0, rfl, ?_, fun i hi => ?_⟩⟩
    · exact (Array.getElem?_eq_some_iff.1 hh).1
    · have := World.ownsRow.cellAt (w := w) (base := base) (e := e) (size := 1) (g := g) (n := l.length) (cap := cap) (xs := l.map enc) ⟨by simp, .inr ⟨g, cap, cur, rfl, hb, hh, hc, hm, hs, ht⟩⟩ i (by omega)
      rw [Nat.zero_add, this]; simp [hi]

theorem get_step {α : Type} {l r : List α} {k : Nat} (h : ∀ j, j < k → l[j]? = r[j]?) (hk : l[k]? = r[k]?) : ∀ j, j < k + 1 → l[j]? = r[j]? := by
  intro j hj
  rcases Nat.lt_succ_iff_lt_or_eq.1 hj with h' | h'
  · exact h j h'
  · subst h'; exact hk
theorem get_all {α : Type} {l r : List α} (hl : l.length = r.length) (h : ∀ j, j < l.length → l[j]? = r[j]?) : l = r := by
  refine List.ext_getElem hl fun i h1 h2 => ?_
  have := h i h1
  rw [List.getElem?_eq_getElem h1, List.getElem?_eq_getElem h2] at this
  exact Option.some.inj this

abbrev encI (n : Int) : Value := .int .i64 n
end Go.Proofs.Ytfoelkpnhhfgaaa
