/-
  Chapter 31 (election): own rows of labels.
-/
import Derived.Test.YtpmbbeflgifgaaaElA
import Derived.Maps.AppendAt
namespace Go.Proofs.Ytpmbbeflgifgaaa
open Go.RowKit
set_option linter.unusedVariables false

theorem infoL : (Try.prog.info? 32).map (fun i => (i.zero, i.size, i.bytes)) = some (some (.agg (labA ⟨0#64, 0, 0#64, 0#64, ⟨0, 0, 0, 0, 0, 0, 0, 0, 0, 0, 0⟩, 0, 0#64, 0#64⟩ (.slice none 0 0))), 19, 168) := by kernel_rfl
theorem flat_get {α : Type} (f : α → List Value) (k : Nat) (hk : ∀ x, (f x).length = k) : ∀ (l : List α) (i : Nat) (h : i < l.length) (j : Nat), j < k → (l.flatMap f)[i * k + j]? = (f l[i])[j]?
  | [], i, h, _, _ => absurd h (by simp)
  | x :: l, 0, _, j, hj => by
    rw [List.flatMap_cons, Nat.zero_mul, Nat.zero_add, List.getElem?_append_left (by rw [hk]; exact hj)]; rfl
  | x :: l, i + 1, h, j, hj => by
    rw [List.flatMap_cons, List.getElem?_append_right (by rw [hk, Nat.succ_mul]; omega), hk]
    rw [show (i + 1) * k + j - k = i * k + j by rw [Nat.succ_mul]; omega]
    rw [flat_get f k hk l i (by simpa using h) j hj]; rfl
theorem flat_len {α : Type} (f : α → List Value) (k : Nat) (hk : ∀ x, (f x).length = k) : ∀ l : List α, (l.flatMap f).length = l.length * k
  | [] => by simp
  | x :: l => by rw [List.flatMap_cons, List.length_append, hk, flat_len f k hk l, List.length_cons, Nat.succ_mul]; omega
abbrev LP := Lab × Value
def lpCells (p : LP) : List Value := (labA p.1 p.2).toList
theorem lpCells_len (p : LP) : (lpCells p).length = 19 := rfl
/-- an own row of labels, each with its list's value -/
def OwnLs (w : World) (B : Nat) (v : Value) (ps : List LP) : Prop := w.ownsRow B 32 19 v ps.length (ps.flatMap lpCells)
theorem OwnLs.nil {w : World} {B : Nat} : OwnLs w B (.slice none 0 0) [] := World.ownsRow_nil _ _ _ _
theorem OwnLs.ext {w w' : World} {B : Nat} {v : Value} {ps : List LP} (h : OwnLs w B v ps) (x : Ext w w') : OwnLs w' B v ps := World.ownsRow.kept h (grown_ext x none) (by cases v.ownBlock <;> simp)
theorem OwnLs.shape {w : World} {B : Nat} {v : Value} {ps : List LP} (h : OwnLs w B v ps) : ∃ a c, v = .slice a ps.length c ∧ ps.length ≤ c := by
  rcases h.2 with ⟨h1, h2⟩ | ⟨g, cap, cur, h1, _, _, h4, _⟩
  · exact ⟨none, 0, by rw [h1, h2], by rw [h2]; exact Nat.le_refl _⟩
  · exact ⟨_, _, h1, h4⟩
theorem OwnLs.lt {w : World} {B : Nat} {v : Value} {ps : List LP} (h : OwnLs w B v ps) : ∀ g, v.ownBlock = some g → B ≤ g ∧ g < w.heap.size := World.ownsRow.lt h
theorem OwnLs.labs {w : World} {B : Nat} {v : Value} {ps : List LP} {ls : List LD} (h : OwnLs w B v ps) (hl : ls.length = ps.length) (he : ∀ i (h1 : i < ls.length) (h2 : i < ps.length), ls[i].1 = ps[i].1 ∧ SliceAt Value.bool w ps[i].2 ls[i].2) : LabsAt w v ls := by
  have hx := h.2
  rcases hx with ⟨h1, h2⟩ | ⟨g, cap, cur, h1, _, h3, h4, _⟩
  · have : ls = [] := List.eq_nil_of_length_eq_zero (by rw [hl, h2])
    subst this
    exact ⟨none, 0, h1, Nat.le_refl _, .inl rfl⟩
  · refine ⟨_, cap, by rw [hl]; exact h1, by rw [hl]; exact h4, .inr ⟨g, 0, rfl, fun i hi => ?_⟩⟩
    have hi2 : i < ps.length := by rw [← hl]; exact hi
    obtain ⟨e1, e2⟩ := he i hi hi2
    refine ⟨ps[i].2, ⟨fun j u hj => ?_, (Array.getElem?_eq_some_iff.1 h3).1⟩, e2⟩
    have hj19 : j < 19 := by
      have := (List.getElem?_eq_some_iff.1 hj).1
      exact this
    have hc := World.ownsRow.cells h (g := g) (by rw [h1]; rfl) (i * 19 + j) u (by
      rw [flat_get lpCells 19 lpCells_len ps i hi2 j hj19]
      unfold lpCells
      rw [← e1]; exact hj)
    rw [Addr.add_mid] at hc
    rw [Nat.zero_add]
    rw [Nat.zero_add] at hc
    exact hc
theorem rows_apart {w : World} {B B' : Nat} {e e' : TypeId} {s s' : Nat} {v v' : Value} {n n' : Nat} {xs xs' : List Value} (h : w.ownsRow B e s v n xs) (h' : w.ownsRow B' e' s' v' n' xs') (ne : e ≠ e') : ∀ g, v.ownBlock = some g → v'.ownBlock ≠ some g := by
  intro g hg hg'
  rcases h.2 with ⟨h1, _⟩ | ⟨q, cap, cur, h1, _, h3, _⟩
  · rw [h1] at hg; simp [Value.ownBlock] at hg
  · rcases h'.2 with ⟨k1, _⟩ | ⟨q', cap', cur', k1, _, k3, _⟩
    · rw [k1] at hg'; simp [Value.ownBlock] at hg'
    · rw [h1] at hg; rw [k1] at hg'
      simp [Value.ownBlock] at hg hg'
      rw [hg] at h3; rw [hg'] at k3
      rw [h3] at k3
      cases k3; exact ne rfl
theorem OwnLs.kept {w w' : World} {B B' : Nat} {v v' : Value} {ps : List LP} {e : TypeId} {s n : Nat} {xs : List Value} (h : OwnLs w B v ps) (h' : w.ownsRow B' e s v' n xs) (ne : 32 ≠ e) (hg : w.grownBy w' v'.ownBlock) : OwnLs w' B v ps :=
  World.ownsRow.kept h hg (by
    cases hq : v.ownBlock with
    | none => exact .inl rfl
    | some q => exact .inr fun e2 => rows_apart h h' ne q hq e2.symm)
theorem OwnG.keptL {α : Type} {enc : α → Value} {e : TypeId} {w w' : World} {B B' : Nat} {v v' : Value} {l : List α} {ps : List LP} (h : OwnG enc e w B v l) (h' : OwnLs w B' v' ps) (ne : e ≠ 32) (hg : w.grownBy w' v'.ownBlock) : OwnG enc e w' B v l :=
  h.kept hg (by
    cases hq : v.ownBlock with
    | none => exact .inr rfl
    | some q => exact .inl fun e2 => rows_apart h h' ne q hq e2.symm)
/-- a label is appended to an own row of labels -/
theorem wpList_append_lab {ops : Array Oper} {rest : List Oper} {o : Oper} {a : Act} {w : World} {Q : Exit → Act → World → Prop} (hgd : o.guard = none) (s x : Operand)
    (ho : o.op = .call { callee := .builtin .append, args := #[s, x], argTypes := #[22, 22] })
    (B : Nat) (v : Value) (ps : List LP) (hs : a.eval s = v) (hown : OwnLs w B v ps) {g : Nat} {l : Lab} {d : Value} {t : TypeId} (hx : a.eval x = .slice (some ⟨g, 0, none⟩) 1 1) (hb : BoxAt w g (labA l d) t) (hd : d.oneCell' = true)
    (hl : ps.length ≤ 1000) (hbase : B ≤ w.heap.size)
    (h : ∀ v' w', OwnLs w' B v' (ps ++ [(l, d)]) → w.grownBy w' v.ownBlock → wpList Try.prog ops Q rest (a.put o.dst v') w') : wpList Try.prog ops Q (o :: rest) a w := by
  obtain ⟨i0, hi, hz0, hz1, hz2⟩ := info_parts infoL
  refine wpList_append_own_at w hgd s x _ ho B 32 i0 _ 19 168 Try.underlying22 hi hz0 hz1 hz2 rfl (by decide) v ps.length _ hs hown ⟨g, 0, none⟩ 1 1 (labA l d).toList hx rfl ?_ ?_ (by unfold maxLen; omega) (by omega) hbase (fun v' w' h1 h2 _ _ => h v' w' ?_ h2)
  · intro j u hj
    rw [Addr.add_mid, Nat.zero_add]
    exact hb.cell j (by simpa using hj)
  · intro u hu
    have := labA_one (l := l) hd
    rw [Array.all_eq_true_iff_forall_mem] at this
    exact this u (by simpa using hu)
  · unfold OwnLs
    rw [List.length_append, List.flatMap_append]
    have : [(l, d)].flatMap lpCells = (labA l d).toList := by simp [lpCells]
    rw [this]; exact h1
end Go.Proofs.Ytpmbbeflgifgaaa
