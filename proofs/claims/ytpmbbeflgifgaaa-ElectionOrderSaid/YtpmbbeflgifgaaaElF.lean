/-
  Chapter 31 (election): growing rows of growing rows of places; a map of numbers.
-/
import Derived.Test.YtpmbbeflgifgaaaElE
import Derived.Maps.OwnOps
import Derived.Maps.Views
namespace Go.Proofs.Ytpmbbeflgifgaaa
open Go.RowKit
set_option linter.unusedVariables false

theorem own_apart {α β : Type} {enc : α → Value} {enc' : β → Value} {e e' : TypeId} {w : World} {B B' : Nat} {v v' : Value} {l : List α} {l' : List β} (h : OwnG enc e w B v l) (h' : OwnG enc' e' w B' v' l') (ne : e ≠ e') : ∀ g, v.ownBlock = some g → v'.ownBlock ≠ some g := by
  intro g hg hg'
  rcases h.2 with ⟨h1, _⟩ | ⟨q, cap, cur, h1, _, h3, _⟩
  · rw [h1] at hg; simp [Value.ownBlock] at hg
  · rcases h'.2 with ⟨k1, _⟩ | ⟨q', cap', cur', k1, _, k3, _⟩
    · rw [k1] at hg'; simp [Value.ownBlock] at hg'
    · rw [h1] at hg; rw [k1] at hg'
      simp [Value.ownBlock] at hg hg'
      rw [hg] at h3; rw [hg'] at k3
      rw [h3] at k3
      cases k3; exact ne rfl
theorem own_not_map {α : Type} {enc : α → Value} {e k : TypeId} {w : World} {B : Nat} {v : Value} {l : List α} {P : Program} {H : Type} {R : Value → Option (DataW H × List MemPlace)} {b n : Nat} {D : DataW H} (h : OwnG enc e w B v l) (hm : w.ownsMap P k R b n D) : v.ownBlock ≠ some b := by
  intro hg
  obtain ⟨es, clock, hb, _⟩ := hm
  rcases h.2 with ⟨h1, _⟩ | ⟨q, cap, cur, h1, _, h3, _⟩
  · rw [h1] at hg; simp [Value.ownBlock] at hg
  · rw [h1] at hg
    simp [Value.ownBlock] at hg
    rw [hg, hb] at h3
    cases h3
theorem map_ext {w w' : World} {P : Program} {k : TypeId} {H : Type} {R : Value → Option (DataW H × List MemPlace)} {b n : Nat} {D : DataW H} (h : w.ownsMap P k R b n D) (e : Ext w w') : w'.ownsMap P k R b n D := by
  have hlt := h.lt
  obtain ⟨es, clock, hb, F, hs, hD⟩ := h
  exact ⟨es, clock, (e.block b hlt).trans hb, F, hs, hD⟩

/-- the values vs lie in the own row v; each is an own row that reads as a group; no two share a block -/
def GrowV (w : World) (B : Nat) (v : Value) (vs : List Value) (gs : List (List Nat)) : Prop :=
  OwnG id 56 w B v vs ∧ vs.length = gs.length ∧ (∀ i (h1 : i < vs.length) (h2 : i < gs.length), OwnG encN 3 w B vs[i] gs[i]) ∧ ∀ i j (h1 : i < vs.length) (h2 : j < vs.length), i ≠ j → ∀ g, vs[i].ownBlock = some g → vs[j].ownBlock ≠ some g
section
variable {w w' : World} {B : Nat} {v : Value} {vs : List Value} {gs : List (List Nat)}
theorem side_ne : (3 : TypeId) ≠ 56 := by decide
theorem GrowV.ext (h : GrowV w B v vs gs) (e : Ext w w') : GrowV w' B v vs gs := ⟨h.1.ext e, h.2.1, fun i a b => (h.2.2.1 i a b).ext e, h.2.2.2⟩
theorem GrowV.start : GrowV w B (.slice none 0 0) [] [] := ⟨OwnG.nil, rfl, fun i h => absurd h (by simp), fun i j h => absurd h (by simp)⟩
theorem GrowV.rows (h : GrowV w B v vs gs) : RowsAt w v gs := ⟨vs, h.1.slice, h.2.1, fun i a b => (h.2.2.1 i a b).slice⟩
theorem GrowV.map {P : Program} {k : TypeId} {H : Type} {R : Value → Option (DataW H × List MemPlace)} {b n : Nat} {D : DataW H} (h : GrowV w B v vs gs) (hm : w.ownsMap P k R b n D) (hg : w.grownBy w' (some b)) : GrowV w' B v vs gs :=
  ⟨h.1.kept hg (.inl (own_not_map h.1 hm)), h.2.1, fun i a c => (h.2.2.1 i a c).kept hg (.inl (own_not_map (h.2.2.1 i a c) hm)), h.2.2.2⟩
/-- an empty group is added -/
theorem GrowV.nil {v' : Value} (h : GrowV w B v vs gs) (h1 : w'.ownsRow B 56 1 v' (vs.length + 1) (vs.map id ++ [.slice none 0 0])) (hg : w.grownBy w' v.ownBlock) : GrowV w' B v' (vs ++ [.slice none 0 0]) (gs ++ [[]]) := by
  refine ⟨OwnG.snoc (enc := id) (x := .slice none 0 0) h1, by simp [h.2.1], fun i a b => ?_, fun i j a b hne g hgi => ?_⟩
  · by_cases hi : i < vs.length
    · have hi2 : i < gs.length := by rw [← h.2.1]; exact hi
      rw [List.getElem_append_left hi, List.getElem_append_left hi2]
      refine (h.2.2.1 i hi hi2).kept hg ?_
      cases hq : vs[i].ownBlock with
      | none => exact .inr rfl
      | some g => exact .inl fun e => own_apart (h.2.2.1 i hi hi2) h.1 side_ne g hq e.symm
    · have hi2 : i = vs.length := by simp at a; omega
      subst hi2
      rw [List.getElem_append_right (Nat.le_refl _), List.getElem_append_right (by rw [h.2.1]; exact Nat.le_refl _)]
      simp only [Nat.sub_self, List.getElem_singleton]
      exact OwnG.nil
  · by_cases hi : i < vs.length
    · rw [List.getElem_append_left hi] at hgi
      by_cases hj : j < vs.length
      · rw [List.getElem_append_left hj]; exact h.2.2.2 i j hi hj hne g hgi
      · have hj2 : j = vs.length := by simp at b; omega
        subst hj2
        rw [List.getElem_append_right (Nat.le_refl _)]
        simp [Value.ownBlock]
    · have hi2 : i = vs.length := by simp at a; omega
      subst hi2
      rw [List.getElem_append_right (Nat.le_refl _)] at hgi
      simp [Value.ownBlock] at hgi
/-- a place is added to a group -/
theorem GrowV.put {w1 w2 : World} (h : GrowV w B v vs gs) {k x g c n : Nat} (hk : k < vs.length) (hk2 : k < gs.length) (hv : v = .slice (some ⟨g, 0, none⟩) n c) (e1 : Ext w w1) {v2 : Value}
    (h2 : w2.ownsRow B 3 1 v2 (gs[k].length + 1) (gs[k].map encN ++ [encN x])) (hg : w1.grownBy w2 vs[k].ownBlock) (hat : v2.ownBlock = vs[k].ownBlock ∨ v2.ownBlock = some w1.heap.size) :
    OwnG id 56 w2 B v vs ∧ GrowV (w2.setCell ⟨g, k, none⟩ v2) B v (vs.set k v2) (gs.set k (gs[k] ++ [x])) := by
  have hw1 := h.ext e1
  have hn : n = vs.length := by
    obtain ⟨a', c', e⟩ := h.1.shape
    rw [hv] at e; injection e
  have hvk : OwnG encN 3 w2 B v2 (gs[k] ++ [x]) := OwnG.snoc (enc := encN) (x := x) h2
  have hout : OwnG id 56 w2 B v vs := hw1.1.kept hg (by
    cases hq : v.ownBlock with
    | none => exact .inr rfl
    | some q => exact .inl fun e => own_apart (hw1.2.2.1 k hk hk2) hw1.1 side_ne q e.symm hq)
  have hoth : ∀ i (a : i < vs.length) (b : i < gs.length), i ≠ k → OwnG encN 3 w2 B vs[i] gs[i] := fun i a b hik => (hw1.2.2.1 i a b).kept hg (by
    cases hq : vs[i].ownBlock with
    | none => exact .inr rfl
    | some q => exact .inl fun e => h.2.2.2 i k a hk hik q hq e.symm)
  have hgb : v.ownBlock = some g := by rw [hv]; simp [Value.ownBlock]
  have hset : OwnG id 56 (w2.setCell ⟨g, k, none⟩ v2) B v (vs.set k v2) := by
    rw [hv] at hout ⊢
    exact hout.put hn k v2
  refine ⟨hout, hset, by simp [h.2.1], fun i a b => ?_, fun i j a b hne q hq => ?_⟩
  · rw [List.length_set] at a b
    by_cases hik : k = i
    · subst hik
      rw [List.getElem_set_self, List.getElem_set_self]
      exact hvk.off (fun e => own_apart hvk hout side_ne g e hgb) _ _
    · rw [List.getElem_set_ne hik, List.getElem_set_ne hik]
      have ho := hoth i a b (Ne.symm hik)
      exact ho.off (fun e => own_apart ho hout side_ne g e hgb) _ _
  · rw [List.length_set] at a b
    have hfresh : ∀ i (a : i < vs.length), i ≠ k → ∀ q, vs[i].ownBlock = some q → v2.ownBlock ≠ some q := fun i a hik q hq e => by
      rcases hat with e2 | e2
      · rw [e2] at e; exact h.2.2.2 i k a hk hik q hq e
      · rw [e2] at e
        have := (OwnG.lt (hw1.2.2.1 i a (by rw [← h.2.1]; exact a)) q hq).2
        injection e with e
        omega
    by_cases hik : k = i
    · subst hik
      rw [List.getElem_set_self] at hq
      rw [List.getElem_set_ne hne]
      exact fun e => hfresh j b (Ne.symm hne) q e hq
    · rw [List.getElem_set_ne hik] at hq
      by_cases hjk : k = j
      · subst hjk
        rw [List.getElem_set_self]
        exact hfresh i a (Ne.symm hik) q hq
      · rw [List.getElem_set_ne hjk]
        exact h.2.2.2 i j a b hne q hq
end

/-- a look-up whose run is known wherever all that was there is there still, in a region that draws its order -/
theorem ext_lookup {P : Program} {l : List Oper} {Q : Exit → Act → World → Prop} {i : Nat} {o : Oper} {r : List (Nat × Bool)} {a : Act} {b w : World} {m x v : Value} {t : TypeId} {om ox : Operand}
    (ho : nth l i = some o) (hw : Region.wanted o (yielded l.toArray a.tmps) = true) (hop : o.op = .lookup t om ox false) (hm : evalL a om = some m) (hx : evalL a ox = some x) (h : ∀ w', Ext b w' → (Instr.lookup t m x false).run P w' = .ok v w')
    (k : wpExt P l Q r b (a.put o.dst v) w) : wpExt P l Q ((i, true) :: r) b a w :=
  ext_take ho hw (fun w' hS => by
    unfold execOp
    simp only [hop, evalL_eq hm, evalL_eq hx, Sem.run_bind, Sem.run_pure, Result.andThen_ok, h w' hS]) k
/-- the map of numbers: a number that has just been laid is found again -/
theorem keyed_int : Maps.Keyed Try.prog 3 := Maps.int_keyed Try.underlying3
theorem key_place {i : Nat} (h : i ≤ 1000000) : keyOf Try.prog 3 (encN i) = some (Lit.int .i64 i) := Maps.keyOf_int_mk Try.underlying3 (by simp [Lit.wf, IntKind.min, IntKind.max, IntKind.signed, IntKind.bits]; omega)
abbrev MapAt (w : World) (b n : Nat) (D : DataW Unit) : Prop := w.ownsMap Try.prog 3 (plainElem Try.prog 3) b n D
theorem look_put {w : World} {b n : Nat} {D : DataW Unit} {i k : Nat} (hi : i ≤ 1000000) (hk : k ≤ 1000000) (hD : Maps.IsMap D) (h : MapAt w b n (D.put (.int .i64 i) (.lit (.int .i64 k)))) :
    ∀ w', Ext w w' → (Instr.lookup 64 (.map (some b)) (encN i) false).run Try.prog w' = .ok (encN k) w' := by
  intro w' e
  obtain ⟨c, hrun, hat, _⟩ := (map_ext h e).lookup_int keyed_int Try.underlying64 Try.underlying3 (Try.zeroValue3 _) (key_place hi)
  rw [Maps.atKey_put_same hD (by trivial)] at hat
  injection hat with hat
  injection hat with _ hat
  rw [hrun, ← hat]
end Go.Proofs.Ytpmbbeflgifgaaa
