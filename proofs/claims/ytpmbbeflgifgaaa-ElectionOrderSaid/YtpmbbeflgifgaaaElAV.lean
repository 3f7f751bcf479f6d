/-
  Chapter 31 (election): slices of labels appended to a row of one's own.
-/
import Derived.Test.YtpmbbeflgifgaaaElAO
import Derived.Test.YtpmbbeflgifgaaaElN
import Derived.Test.YtpmbbeflgifgaaaCut
import Derived.Test.YtpmbbeflgifgaaaElO
namespace Go.Proofs.Ytpmbbeflgifgaaa
open Go.ChangeShapes Go.WideShapes Go.ChangeAt Go.RowKit
set_option linter.unusedVariables false

/-- labels lie in block b from cell off on -/
def LabsIn (w : World) (b off : Nat) (ls : List LD) : Prop := ∀ i (h : i < ls.length), ∃ dv, LabAt w b (off + i * 19) ls[i].1 dv ∧ SliceAt Value.bool w dv ls[i].2
theorem LabsAt.inn {w : World} {ad : Option Addr} {n cap : Nat} {ls : List LD} (h : LabsAt w (.slice ad n cap) ls) (h0 : 0 < ls.length) : n ≤ cap ∧ ∃ b off, ad = some ⟨b, off, none⟩ ∧ LabsIn w b off ls := by
  obtain ⟨ad', cap', hv, hc, h⟩ := h
  injection hv with e1 e2 e3
  subst e1 e2 e3
  refine ⟨hc, ?_⟩
  rcases h with rfl | ⟨b, off, ha, hi⟩
  · simp at h0
  · exact ⟨b, off, ha, hi⟩
theorem LabsIn.drop {w : World} {b off : Nat} {ls : List LD} (h : LabsIn w b off ls) (s : Nat) : LabsIn w b (off + s * 19) (ls.drop s) := by
  intro i hi
  have hi2 : s + i < ls.length := by rw [List.length_drop] at hi; omega
  obtain ⟨dv, h1, h2⟩ := h (s + i) hi2
  refine ⟨dv, ?_, ?_⟩
  · rw [List.getElem_drop, show off + s * 19 + i * 19 = off + (s + i) * 19 by omega]; exact h1
  · rw [List.getElem_drop]; exact h2
theorem LabsIn.take {w : World} {b off : Nat} {ls : List LD} (h : LabsIn w b off ls) (s : Nat) : LabsIn w b off (ls.take s) := by
  intro i hi
  have hi2 : i < ls.length := by rw [List.length_take] at hi; omega
  obtain ⟨dv, h1, h2⟩ := h i hi2
  refine ⟨dv, ?_, ?_⟩
  · rw [List.getElem_take]; exact h1
  · rw [List.getElem_take]; exact h2
theorem LabsIn.pairs {w : World} {b off : Nat} {ls : List LD} (h : LabsIn w b off ls) : ∃ ps : List LP, ps.length = ls.length ∧ ∀ i (h1 : i < ls.length) (h2 : i < ps.length), ls[i].1 = ps[i].1 ∧ LabAt w b (off + i * 19) ps[i].1 ps[i].2 ∧ SliceAt Value.bool w ps[i].2 ls[i].2 := by
  have h' : ∀ i, ∃ dv, ∀ h : i < ls.length, LabAt w b (off + i * 19) ls[i].1 dv ∧ SliceAt Value.bool w dv ls[i].2 := by
    intro i
    by_cases hi : i < ls.length
    · obtain ⟨dv, h1⟩ := h i hi
      exact ⟨dv, fun _ => h1⟩
    · exact ⟨.slice none 0 0, fun h => absurd h hi⟩
  obtain ⟨f, hf⟩ := Classical.skolem.1 h'
  refine ⟨(List.range ls.length).map fun i => ((ldN ls i).1, f i), by simp, fun i h1 h2 => ?_⟩
  rw [List.getElem_map, List.getElem_range, ldN_in h1]
  exact ⟨rfl, hf i h1⟩
theorem SliceAt.inn {α : Type} {enc : α → Value} {w : World} {ad : Option Addr} {n cap : Nat} {l : List α} (h : SliceAt enc w (.slice ad n cap) l) (h0 : 0 < l.length) : n ≤ cap ∧ ∃ b off, ad = some ⟨b, off, none⟩ := by
  obtain ⟨ad', cap', hv, hc, h⟩ := h
  injection hv with e1 e2 e3
  subst e1 e2 e3
  refine ⟨hc, ?_⟩
  rcases h with ⟨rfl, _⟩ | ⟨b, off, ha, _⟩
  · simp at h0
  · exact ⟨b, off, ha⟩
theorem SliceAt.dropS {α : Type} {enc : α → Value} {w : World} {b off n cap lo : Nat} {l : List α} (h : SliceAt enc w (.slice (some ⟨b, off, none⟩) n cap) l) (h1 : lo ≤ l.length) (h2 : lo < cap) : SliceAt enc w (.slice (some ⟨b, off + lo, none⟩) (n - lo) (cap - lo)) (l.drop lo) := by
  obtain ⟨ad, c, hsh⟩ := h.shape
  have hn : n = l.length := by injection hsh
  have := h.cut lo l.length h1 (Nat.le_refl _)
  rw [subA, if_neg (by omega), Option.map_some, add_plain, List.take_of_length_le (by rw [List.length_drop]; omega)] at this
  rw [hn]; exact this
theorem SliceAt.takeS {α : Type} {enc : α → Value} {w : World} {b off n cap lo : Nat} {l : List α} (h : SliceAt enc w (.slice (some ⟨b, off, none⟩) n cap) l) (h1 : lo ≤ l.length) (h2 : 0 < cap) : SliceAt enc w (.slice (some ⟨b, off, none⟩) lo cap) (l.take lo) := by
  have := h.cut 0 lo (Nat.zero_le _) h1
  rw [subA, if_neg (by omega), Option.map_some, add_plain, List.drop_zero, Nat.sub_zero, Nat.sub_zero, Nat.add_zero] at this
  exact this
/-- an own row of labels, their lists in the world W -/
def OwnLD (W w : World) (v : Value) (ls : List LD) : Prop :=
  ∃ ps : List LP, ps.length = ls.length ∧ OwnLs w W.heap.size v ps ∧ Ext W w ∧ ∀ i (h1 : i < ls.length) (h2 : i < ps.length), ls[i].1 = ps[i].1 ∧ SliceAt Value.bool W ps[i].2 ls[i].2
theorem OwnLD.labs {W w : World} {v : Value} {ls : List LD} (h : OwnLD W w v ls) : LabsAt w v ls := by
  obtain ⟨ps, h1, h2, h3, h4⟩ := h
  exact h2.labs h1.symm fun i a b => ⟨(h4 i a b).1, (h4 i a b).2.ext h3⟩
theorem OwnLD.lt {W w : World} {v : Value} {ls : List LD} (h : OwnLD W w v ls) : ∀ g, v.ownBlock = some g → W.heap.size ≤ g ∧ g < w.heap.size := by
  obtain ⟨ps, h1, h2, h3, h4⟩ := h
  exact h2.lt
theorem OwnLD.ext1 {W w : World} {v : Value} {ls : List LD} (h : OwnLD W w v ls) : Ext W w := by
  obtain ⟨ps, h1, h2, h3, h4⟩ := h
  exact h3
theorem OwnLD.ext {W w w' : World} {v : Value} {ls : List LD} (h : OwnLD W w v ls) (e : Ext w w') : OwnLD W w' v ls := by
  obtain ⟨ps, h1, h2, h3, h4⟩ := h
  exact ⟨ps, h1, h2.ext e, h3.trans e, h4⟩
theorem OwnLD.lit {W w : World} (e : Ext W w) : OwnLD W (w.alloc (.cells #[] 32)) (.slice (some ⟨w.heap.size, 0, none⟩) 0 0) [] :=
  ⟨[], rfl, World.ownsRow_lit w #[] 0 e.size (by decide) (by simp), e.trans (Ext.alloc _ _), fun i h1 _ => absurd h1 (by simp)⟩
theorem flat_at {α : Type} (f : α → List Value) (k : Nat) (hk0 : 0 < k) (hk : ∀ x, (f x).length = k) (l : List α) (j : Nat) (u : Value) (h : (l.flatMap f)[j]? = some u) : ∃ i r, j = i * k + r ∧ r < k ∧ ∃ hi : i < l.length, (f l[i])[r]? = some u := by
  have hj : j < l.length * k := by
    have := (List.getElem?_eq_some_iff.1 h).1
    rwa [flat_len f k hk] at this
  have hr : j % k < k := Nat.mod_lt _ hk0
  have hi : j / k < l.length := Nat.div_lt_of_lt_mul (by rw [Nat.mul_comm]; exact hj)
  have he : j = j / k * k + j % k := by rw [Nat.mul_comm]; exact (Nat.div_add_mod j k).symm
  refine ⟨j / k, j % k, he, hr, hi, ?_⟩
  rw [he, flat_get f k hk l (j / k) hi (j % k) hr] at h
  exact h
theorem wpList_append_labs {ops : Array Oper} {rest : List Oper} {o : Oper} {a : Act} {w : World} {Q : Exit → Act → World → Prop} (hgd : o.guard = none) (s x : Operand)
    (ho : o.op = .call { callee := .builtin .append, args := #[s, x], argTypes := #[22, 22] })
    (W : World) (v : Value) (l1 l2 : List LD) (hs : a.eval s = v) (hown : OwnLD W w v l1) {b off m c : Nat} (hx : a.eval x = .slice (some ⟨b, off, none⟩) m c) (hm : l2.length = m) (hsrc : LabsIn W b off l2)
    (hl : l1.length + l2.length ≤ 1000)
    (h : ∀ v' w', OwnLD W w' v' (l1 ++ l2) → Ext W w' → wpList Try.prog ops Q rest (a.put o.dst v') w') : wpList Try.prog ops Q (o :: rest) a w := by
  obtain ⟨i0, hi, hz0, hz1, hz2⟩ := info_parts infoL
  have hlt := hown.lt
  obtain ⟨ps, e1, e2, e3, e4⟩ := hown
  obtain ⟨qs, f1, f2⟩ := hsrc.pairs
  refine wpList_append_own_at w hgd s x _ ho W.heap.size 32 i0 _ 19 168 Try.underlying22 hi hz0 hz1 hz2 rfl (by decide) v ps.length _ hs e2 ⟨b, off, none⟩ m c (qs.flatMap lpCells) hx (by rw [flat_len lpCells 19 lpCells_len, f1, hm]) ?_ ?_ (by unfold maxLen; omega) (by omega) e3.size (fun v' w' h1 h2 _ _ => ?_)
  · intro j u hj
    obtain ⟨i, r, rfl, hr, hiq, hu⟩ := flat_at lpCells 19 (by decide) lpCells_len qs j u hj
    obtain ⟨g1, g2, g3⟩ := f2 i (by omega) hiq
    rw [Addr.add_mid]
    have hc := g2.cell r (v := u) (by simpa [lpCells] using hu)
    rw [Below.cell (p := ⟨b, off + (i * 19 + r), none⟩) e3 g2.2, ← Nat.add_assoc]
    exact hc
  · intro u hu
    obtain ⟨j, hj, rfl⟩ := List.mem_iff_getElem.1 hu
    obtain ⟨i, r, rfl, hr, hiq, hu'⟩ := flat_at lpCells 19 (by decide) lpCells_len qs j _ (List.getElem?_eq_getElem hj)
    obtain ⟨g1, g2, g3⟩ := f2 i (by omega) hiq
    obtain ⟨ad, cap, hsh⟩ := g3.shape
    have := labA_one (l := qs[i].1) (d := qs[i].2) (by rw [hsh]; rfl)
    rw [Array.all_eq_true_iff_forall_mem] at this
    refine this _ ?_
    have := List.mem_of_getElem? hu'
    simpa [lpCells] using this
  · have hx2 : Ext W w' := e3.grown h2 e3.size (fun k hk => (hlt k hk).1)
    refine h v' w' ⟨ps ++ qs, by rw [List.length_append, List.length_append, e1, f1], ?_, hx2, ?_⟩ hx2
    · unfold OwnLs
      rw [List.length_append, List.flatMap_append, f1, hm]
      exact h1
    · intro i a1 a2
      rw [List.length_append] at a1 a2
      by_cases hi1 : i < l1.length
      · rw [List.getElem_append_left hi1, List.getElem_append_left (by omega)]
        exact e4 i hi1 (by omega)
      · rw [List.getElem_append_right (by omega), List.getElem_append_right (by omega)]
        obtain ⟨g1, g2, g3⟩ := f2 (i - l1.length) (by omega) (by omega)
        simp only [e1]
        exact ⟨g1, g3⟩
theorem opU8 : Opens Try.prog 5 Pat.u8 := Opens.u8 Try.underlying5 (by kernel_rfl)
section
variable {H : Type} {enc : TypeId × Value → H} {w : World} {r : Reach} {b0 : Nat} {v : Value} {d : DataW H} {ps : List MemPlace}
set_option maxRecDepth 100000 in
theorem open_u8 (hval : Value.okWide Try.prog w r b0 5 v) (h : DataW.Trod enc Try.prog w 0 (fun _ => true) true 5 v d ps) : ∃ x, v = encB x := by
  obtain ⟨x, hx⟩ := opU8.cell (by kernel_rfl) hval h
  exact ⟨x, holds_u8 hx⟩
end
end Go.Proofs.Ytpmbbeflgifgaaa
