/-
  A slice that reads as a list, in words that stand under new memory. No program is named here.
-/
import Derived.Test.YthjcdikpomlpmaaOrd
import Derived.Lib.Hide
import Derived.Laws.AppendOwnNone
namespace Go.Proofs.Ythjcdikpomlpmaa
open Go.RowKit

theorem ret_bool {a b : Bool} (h : a = b) : Ending.returned (.bool a) = .returned (.bool b) := by rw [h]
theorem ret_iff {a b : Bool} (h : a = true ↔ b = true) : Ending.returned (.bool a) = .returned (.bool b) := by rw [Bool.eq_iff_iff.2 h]
theorem ret_int {k : IntKind} {a b : Int} (h : a = b) : Ending.returned (.int k a) = .returned (.int k b) := by rw [h]

/-- v is a slice of elements of one cell each that reads as l -/
def SliceAt {α : Type} (enc : α → Value) (w : World) (v : Value) (l : List α) : Prop :=
  ∃ ad cap, v = .slice ad l.length cap ∧ l.length ≤ cap ∧ (l = [] ∧ (ad = none → cap = 0) ∨ ∃ b off, ad = some ⟨b, off, none⟩ ∧ b < w.heap.size ∧ ∀ i (h : i < l.length), w.cell? ⟨b, off + i, none⟩ = some (enc l[i]))

theorem SliceAt.ext {α : Type} {enc : α → Value} {w w' : World} {v : Value} {l : List α} (h : SliceAt enc w v l) (e : Ext w w') : SliceAt enc w' v l := by
  obtain ⟨ad, cap, hv, hca, h⟩ := h
  refine ⟨ad, cap, hv, hca, h.imp id ?_⟩
  rintro ⟨b, off, ha, hb, hc⟩
  exact ⟨b, off, ha, Nat.lt_of_lt_of_le hb e.below.size, fun i hi => (e.cell b _ hb).trans (hc i hi)⟩

/-- the first n elements -/
theorem SliceAt.take {α : Type} {enc : α → Value} {w : World} {ad : Option Addr} {m cap : Nat} {l : List α} (h : SliceAt enc w (.slice ad m cap) l) (n : Nat) (hn : n ≤ m) : SliceAt enc w (.slice ad n cap) (l.take n) := by
  obtain ⟨ad', cap', hv, hca, h⟩ := h
  cases hv
  have hl : (l.take n).length = n := by rw [List.length_take]; omega
  refine ⟨ad, cap, by rw [hl], by omega, ?_⟩
  rcases h with ⟨h1, h2⟩ | ⟨b, off, h1, h2, h3⟩
  · left; exact ⟨by rw [h1]; simp, h2⟩
  · right
    refine ⟨b, off, h1, h2, fun i hi => ?_⟩
    rw [hl] at hi
    rw [h3 i (by omega), List.getElem_take]

theorem SliceAt.nil {α : Type} {enc : α → Value} {w : World} : SliceAt enc w (.slice none 0 0) ([] : List α) := ⟨none, 0, rfl, Nat.le_refl _, .inl ⟨rfl, fun _ => rfl⟩⟩

theorem SliceAt.of_owns {α : Type} {enc : α → Value} {w : World} {v : Value} {l : List α} {base n : Nat} {e : TypeId}
    (h : w.ownsRow base e 1 v n (l.map enc)) : SliceAt enc w v l := by
  obtain ⟨hl, h⟩ := h
  have hn : n = l.length := by simpa using hl.symm
  subst hn
  rcases h with ⟨rfl, hz⟩ | ⟨g, cap, cur, rfl, hb, hh, hc, hm, hs, ht⟩
  · have : l = [] := List.eq_nil_of_length_eq_zero hz
    subst this; exact SliceAt.nil
  · refine ⟨_, cap, rfl, hc, .inr ⟨g, 0, rfl, ?_, fun i hi => ?_⟩⟩
    · exact (Array.getElem?_eq_some_iff.1 hh).1
    · have := World.ownsRow.cellAt (w := w) (base := base) (e := e) (size := 1) (g := g) (n := l.length) (cap := cap) (xs := l.map enc) ⟨by simp, .inr ⟨g, cap, cur, rfl, hb, hh, hc, hm, hs, ht⟩⟩ i (by omega)
      rw [Nat.zero_add, this]; simp [hi]

theorem add_plain (b off j : Nat) : (⟨b, off, none⟩ : Addr).add j = ⟨b, off + j, none⟩ := by
  by_cases h : j = 0
  · subst h; simp [Addr.add]
  · simp [Addr.add, h]

/-- what is appended is a slice that reads as a list (nil, empty or not), onto a slice of the call's own -/
theorem wpList_append_slice {P : Program} {w : World} {α : Type} {enc : α → Value} (henc : ∀ x, (enc x).oneCell' = true) {ops : Array Oper} {rest : List Oper} {o : Oper} {a : Act} {Q : Exit → Act → World → Prop} (hgd : o.guard = none) (s x : Operand) (t : TypeId)
    (ho : o.op = .call { callee := .builtin .append, args := #[s, x], argTypes := #[t, t] })
    (base : Nat) (e : TypeId) (i : TypeInfo) (z : Value) (bytes : Nat) (ht : P.underlying t = some (.slice e)) (hi : P.info? e = some i) (hz : i.zero = some z)
    (hsize : i.size = 1) (hby : i.bytes = bytes) (hzs : z.cells.size = 1)
    (v : Value) (n : Nat) (xs : List Value) (hs : a.eval s = v) (hown : w.ownsRow base e 1 v n xs) (vx : Value) (l : List α) (hx : a.eval x = vx) (hsrc : SliceAt enc w vx l)
    (h63 : n + l.length ≤ maxLen) (hbytes : (n + l.length) * bytes ≤ 140737488355328) (hbase : base ≤ w.heap.size)
    (h : ∀ v' w', w'.ownsRow base e 1 v' (n + l.length) (xs ++ l.map enc) → w.grownBy w' v.ownBlock → wpList P ops Q rest (a.put o.dst v') w') : wpList P ops Q (o :: rest) a w := by
  obtain ⟨ad, cap, rfl, _, hsrc⟩ := hsrc
  cases ad with
  | none =>
    rcases hsrc with ⟨rfl, hc⟩ | ⟨b, off, hn, _⟩
    · rw [hc rfl] at hx
      refine wpList_append_own_none hgd s x t ho base e i 1 ht hi v n xs hs hown (by simpa using hx) ?_
      exact h v w (by simpa using hown) ⟨rfl, rfl, rfl, Nat.le_refl _, fun _ _ _ => rfl⟩
    · cases hn
  | some ad =>
    refine wpList_append_own w hgd s x t ho base e i z 1 bytes ht hi hz hsize hby hzs (by decide) v n xs hs hown ad l.length cap (l.map enc) hx (by simp) ?_ ?_ h63 hbytes hbase (fun v' w' h1 h2 _ => h v' w' h1 h2)
    · intro j u hj
      rcases hsrc with ⟨rfl, _⟩ | ⟨b, off, hb, _, hc⟩
      · simp at hj
      · cases hb
        have hjl : j < l.length := by
          rcases Nat.lt_or_ge j l.length with h' | h'
          · exact h'
          · rw [List.getElem?_eq_none (by simpa using h')] at hj; cases hj
        have : u = enc l[j] := by simpa [hjl] using hj.symm
        rw [this, add_plain]; exact hc j hjl
    · intro u hu
      obtain ⟨y, _, rfl⟩ := List.mem_map.1 hu
      exact henc y

theorem get_step {α : Type} {l r : List α} {k : Nat} (h : ∀ j, j < k → l[j]? = r[j]?) (hk : l[k]? = r[k]?) : ∀ j, j < k + 1 → l[j]? = r[j]? := by
  intro j hj
  rcases Nat.lt_succ_iff_lt_or_eq.1 hj with h' | h'
  · exact h j h'
  · subst h'; exact hk
theorem get_all {α : Type} {l r : List α} (hl : l.length = r.length) (h : ∀ j, j < l.length → l[j]? = r[j]?) : l = r := by
  refine List.ext_getElem hl fun i h1 h2 => ?_
  have := h i h1
  rw [List.getElem?_eq_getElem h1, List.getElem?_eq_getElem h2] at this
  exact Option.some.inj this

theorem set_same {w : World} {b o : Nat} {u v : Value} (h : w.cell? ⟨b, o, none⟩ = some u) : (w.setCell ⟨b, o, none⟩ v).cell? ⟨b, o, none⟩ = some v := by
  apply World.cell?_setCell_same; exact h
theorem set_off {w : World} {b o o' : Nat} {v : Value} (h : o ≠ o') : (w.setCell ⟨b, o, none⟩ v).cell? ⟨b, o', none⟩ = w.cell? ⟨b, o', none⟩ := by
  apply World.cell?_setCell_other; intro e; cases e; exact h rfl
theorem set_block {w : World} {b b' o o' : Nat} {v : Value} (h : b ≠ b') : (w.setCell ⟨b, o, none⟩ v).cell? ⟨b', o', none⟩ = w.cell? ⟨b', o', none⟩ := by
  apply World.cell?_setCell_other; intro e; cases e; exact h rfl

abbrev encI (n : Int) : Value := .int .i64 n
end Go.Proofs.Ythjcdikpomlpmaa
