/-
  Slices of rows of bytes: as they read; own rows of own rows.
-/
import Derived.Test.YthjcdikpomlpmaaCut
import Derived.Test.YthjcdikpomlpmaaLkG
namespace Go.Proofs.Ythjcdikpomlpmaa
open Go.RowKit
set_option linter.unusedVariables false

/-- a slice's value -/
abbrev SV := Option Addr × Nat × Nat
abbrev encS (s : SV) : Value := .slice s.1 s.2.1 s.2.2
theorem SliceAt.get0 {α : Type} {enc : α → Value} {w : World} {ad : Option Addr} {n cap : Nat} {l : List α} (h : SliceAt enc w (.slice ad n cap) l) (i : Nat) (hi : i < l.length) :
    ∃ b off, ad = some ⟨b, off, none⟩ ∧ b < w.heap.size ∧ w.cell? ⟨b, off + i, none⟩ = some (enc l[i]) := by
  obtain ⟨ad', cap', hv, _, h⟩ := h
  injection hv with h1 _ _
  rcases h with ⟨h0, _⟩ | ⟨b, off, h2, h3, h4⟩
  · subst h0; exact absurd hi (by simp)
  · exact ⟨b, off, h1.trans h2, h3, h4 i hi⟩
/-- v is a slice of slices of bytes that reads as S -/
def RowsB (w : World) (v : Value) (S : List (List (BitVec 8))) : Prop :=
  ∃ vs : List SV, SliceAt encS w v vs ∧ vs.length = S.length ∧ ∀ i (h1 : i < vs.length) (h2 : i < S.length), SliceAt encB w (encS vs[i]) S[i]
theorem RowsB.ext {w w' : World} {v : Value} {S : List (List (BitVec 8))} (h : RowsB w v S) (e : Ext w w') : RowsB w' v S := by
  obtain ⟨vs, h1, h2, h3⟩ := h
  exact ⟨vs, h1.ext e, h2, fun i a b => (h3 i a b).ext e⟩
theorem RowsB.nil {w : World} : RowsB w (.slice none 0 0) [] := ⟨[], SliceAt.nil, rfl, fun i h => absurd h (by simp)⟩
theorem RowsB.shape {w : World} {v : Value} {S : List (List (BitVec 8))} (h : RowsB w v S) : ∃ ad cap, v = .slice ad S.length cap ∧ S.length ≤ cap := by
  obtain ⟨vs, ⟨ad, cap, hv, hc, _⟩, h2, _⟩ := h
  exact ⟨ad, cap, by rw [hv, h2], by rw [← h2]; exact hc⟩
theorem RowsB.get {w : World} {ad : Option Addr} {n cap : Nat} {S : List (List (BitVec 8))} (h : RowsB w (.slice ad n cap) S) (i : Nat) (hi : i < S.length) :
    ∃ b off, ad = some ⟨b, off, none⟩ ∧ b < w.heap.size ∧ ∃ a c, w.cell? ⟨b, off + i, none⟩ = some (.slice a S[i].length c) ∧ SliceAt encB w (.slice a S[i].length c) S[i] := by
  obtain ⟨vs, h1, h2, h3⟩ := h
  have hi2 : i < vs.length := by rw [h2]; exact hi
  obtain ⟨b, off, e1, e2, e3⟩ := h1.get0 i hi2
  have h4 := h3 i hi2 hi
  obtain ⟨a, c, hv, hc, hr⟩ := h4
  refine ⟨b, off, e1, e2, a, c, ?_, ⟨a, c, rfl, hc, hr⟩⟩
  rw [e3, hv]
/-- an own row of own rows of bytes -/
def OwnL (w : World) (base : Nat) (v : Value) (S : List (List (BitVec 8))) : Prop :=
  ∃ vs : List SV, OwnG encS 35 w base v vs ∧ vs.length = S.length ∧ ∀ i (h1 : i < vs.length) (h2 : i < S.length), OwnG encB 5 w base (encS vs[i]) S[i]
theorem OwnL.nil {w : World} {base : Nat} : OwnL w base (.slice none 0 0) [] := ⟨[], OwnG.nil, rfl, fun i h => absurd h (by simp)⟩
theorem OwnL.ext {w w' : World} {base : Nat} {v : Value} {S : List (List (BitVec 8))} (h : OwnL w base v S) (e : Ext w w') : OwnL w' base v S := by
  obtain ⟨vs, h1, h2, h3⟩ := h
  exact ⟨vs, h1.ext e, h2, fun i a b => (h3 i a b).ext e⟩
theorem OwnL.lower {w : World} {base b' : Nat} {v : Value} {S : List (List (BitVec 8))} (h : OwnL w base v S) (hb : b' ≤ base) : OwnL w b' v S := by
  obtain ⟨vs, h1, h2, h3⟩ := h
  exact ⟨vs, h1.lower hb, h2, fun i a b => (h3 i a b).lower hb⟩
theorem OwnL.rows {w : World} {base : Nat} {v : Value} {S : List (List (BitVec 8))} (h : OwnL w base v S) : RowsB w v S := by
  obtain ⟨vs, h1, h2, h3⟩ := h
  exact ⟨vs, h1.slice, h2, fun i a b => (h3 i a b).slice⟩
theorem OwnL.shape {w : World} {base : Nat} {v : Value} {S : List (List (BitVec 8))} (h : OwnL w base v S) : ∃ a c, v = .slice a S.length c := by
  obtain ⟨a, c, e, _⟩ := h.rows.shape
  exact ⟨a, c, e⟩
theorem OwnL.lt {w : World} {base : Nat} {v : Value} {S : List (List (BitVec 8))} (h : OwnL w base v S) : ∀ g, v.ownBlock = some g → base ≤ g ∧ g < w.heap.size := by
  obtain ⟨vs, h1, _⟩ := h
  exact h1.lt
theorem rows_apart {α β : Type} {enc : α → Value} {enc' : β → Value} {e e' : TypeId} {w : World} {b b' : Nat} {v v' : Value} {l : List α} {l' : List β} (h : OwnG enc e w b v l) (h' : OwnG enc' e' w b' v' l') (hne : e ≠ e') : ∀ g, v.ownBlock = some g → v'.ownBlock ≠ some g := by
  intro g hg
  rcases h.2 with ⟨h1, _⟩ | ⟨g', cap, cur, h1, h2, h3, _⟩
  · rw [h1] at hg; simp [Value.ownBlock] at hg
  · rw [h1] at hg; simp [Value.ownBlock] at hg
    subst hg
    exact h'.not_box (show BoxAt w g' cur e from h3) hne
/-- a row of bytes is appended -/
theorem wpList_append_row {ops : Array Oper} {rest : List Oper} {o : Oper} {a : Act} {w : World} {Q : Exit → Act → World → Prop} (hgd : o.guard = none) (s x : Operand)
    (ho : o.op = .call { callee := .builtin .append, args := #[s, x], argTypes := #[31, 31] })
    (B : Nat) (v : Value) (S : List (List (BitVec 8))) (hs : a.eval s = v) (hown : OwnL w B v S) {g n c : Nat} {ad : Option Addr} {l : List (BitVec 8)} (hx : a.eval x = .slice (some ⟨g, 0, none⟩) 1 1) (hc : w.cell? ⟨g, 0, none⟩ = some (.slice ad n c)) (hl : OwnG encB 5 w B (.slice ad n c) l)
    (hn : S.length ≤ 100000) (hbase : B ≤ w.heap.size)
    (h : ∀ v' w', OwnL w' B v' (S ++ [l]) → w.grownBy w' v.ownBlock → wpList Try.prog ops Q rest (a.put o.dst v') w') : wpList Try.prog ops Q (o :: rest) a w := by
  have hi0 : (Try.prog.info? 35).map (fun i => (i.zero, i.size, i.bytes)) = some (some (.slice none 0 0), 1, 24) := by kernel_rfl
  obtain ⟨i0, hi, hz0, hz1, hz2⟩ := info_parts hi0
  obtain ⟨vs, h1, h2, h3⟩ := hown
  refine wpList_append_one hgd s x _ ho B 35 i0 (.slice none 0 0) 24 Try.underlying31 hi hz0 hz1 hz2 rfl v _ _ hs h1 _ (.slice ad n c) rfl hx hc (by unfold maxLen; omega) (by omega) hbase (fun v' w' ho' hg' _ => h v' w' ?_ hg')
  have keep : ∀ {u : Value} {l : List (BitVec 8)}, OwnG encB 5 w B u l → OwnG encB 5 w' B u l := by
    intro u l hu
    refine OwnG.kept hu hg' ?_
    cases hv : u.ownBlock with
    | none => exact .inr rfl
    | some g => exact .inl fun e => rows_apart hu h1 (by decide) g hv e.symm
  refine ⟨vs ++ [(ad, n, c)], OwnG.snoc (enc := encS) (x := (ad, n, c)) ho', by simp [h2], fun i a b => ?_⟩
  by_cases hi : i < vs.length
  · rw [List.getElem_append_left hi, List.getElem_append_left (by omega)]
    exact keep (h3 i hi (by omega))
  · have : i = vs.length := by simp at a; omega
    subst this
    rw [List.getElem_append_right (by omega), List.getElem_append_right (by omega)]
    simp only [Nat.sub_self, List.getElem_singleton, h2]
    exact keep hl
end Go.Proofs.Ythjcdikpomlpmaa
