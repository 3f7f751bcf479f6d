/-
  Chapter 25 (piecesum): slices.Clone of numbers, and own rows of numbers.
-/
import Derived.Maps.AppendAt
import Derived.Test.YtinnikbjphkkiaaPsE
import Derived.ProofKit
import Derived.WalkSpells
import Derived.WalkLawsBesides
namespace Go.Proofs.Ytinnikbjphkkiaa
open Go.RowKit
set_option linter.unusedVariables false

theorem infoU : (Try.prog.info? 22).map (fun i => (i.zero, i.size, i.bytes)) = some (some (.int .u64 0), 1, 8) := by kernel_rfl

/-- a new row of bytes -/
abbrev OwnU (w : World) (base : Nat) (v : Value) (l : List (BitVec 64)) : Prop := w.ownsRow base 22 1 v l.length (l.map encU)
theorem OwnU.slice {w : World} {base : Nat} {v : Value} {l : List (BitVec 64)} (h : OwnU w base v l) : SliceAt encU w v l := SliceAt.of_owns h

theorem clone_u (v : Value) (l : List (BitVec 64)) (w : World) (hl : l.length ≤ 100000) (h : SliceAt encU w v l) :
    Calls Try.prog 32 #[v] w fun e w' => ∃ v', e = .returned v' ∧ OwnU w' w.heap.size v' l ∧ Below w.heap.size w w' := by
  obtain ⟨i0, hi, hz0, hz1, hz2⟩ := info_parts infoU
  have HA := Lib.hid h
  obtain ⟨ad, cap, rfl, hca, h⟩ := h
  cases ad with
  | none =>
    have hl0 : l = [] ∧ cap = 0 := by
      rcases h with ⟨h1, h2⟩ | ⟨_, _, h1, _⟩
      · exact ⟨h1, h2 rfl⟩
      · cases h1
    obtain ⟨rfl, rfl⟩ := hl0
    clear h
    go_enter Try.func32, Try.ntmps32
    have hq := fun (w : World) => Lib.run_eql_slice_nil (P := Try.prog) w 30 22 none 0 0 0 0 Try.underlying30
    go_wp2
    go_ret
    exact ⟨_, rfl, World.ownsRow_nil _ _ _ _, Below.refl _ _⟩
  | some ad =>
    clear h
    have hq := fun (w : World) => Lib.run_eql_slice_nil (P := Try.prog) w 30 22 (some ad) l.length cap 0 0 Try.underlying30
    go_enter Try.func32, Try.ntmps32
    go_wp2_with (at_builtin; refine wpList_append_slice (enc := encU) (fun _ => rfl) rfl (.tmp 5) (.tmp 6) 30 rfl w.heap.size 22 i0 (.int .u64 0) 8 Try.underlying30 hi hz0 hz1 hz2 rfl _ 0 [] rfl (World.ownsRow_lit w #[] 0 (Nat.le_refl _) (by decide) rfl) _ l rfl (HA.out.ext (Ext.alloc _ _)) (by unfold maxLen; omega) (by omega) (by simp) ?_; intro v1 w1 hown1 hgrow1; simp only [Nat.zero_add, List.nil_append] at hown1; have hx1 : Ext w w1 := ((Below.refl _ _).alloc (Nat.le_refl _) _).grown hgrow1 (by simp) (fun k hk => (by cases hk; exact Nat.le_refl _)))
    go_ret
    exact ⟨_, rfl, hown1, hx1⟩

theorem OwnU.nil (w : World) (base : Nat) : OwnU w base (.slice none 0 0) [] := World.ownsRow_nil _ _ _ _
theorem OwnU.mk {w : World} {base : Nat} {v : Value} {l lx : List (BitVec 64)} (h : w.ownsRow base 22 1 v (l.length + lx.length) (l.map encU ++ lx.map encU)) : OwnU w base v (l ++ lx) := by
  show World.ownsRow _ _ _ _ _ _ _
  rw [List.length_append, List.map_append]
  exact h
theorem OwnU.lower {w : World} {b b' : Nat} {v : Value} {l : List (BitVec 64)} (h : OwnU w b v l) (hb : b' ≤ b) : OwnU w b' v l :=
  ⟨h.1, h.2.imp id (fun ⟨g, cap, cur, hv, hg, r⟩ => ⟨g, cap, cur, hv, Nat.le_trans hb hg, r⟩)⟩

/-- append of a literal of one number to an own row: where the new row lies -/
theorem wpList_append_u {P : Program} {w : World} {ops : Array Oper} {rest : List Oper} {o : Oper} {a : Act} {Q : Exit → Act → World → Prop} (hgd : o.guard = none) (s x : Operand) (t : TypeId)
    (ho : o.op = .call { callee := .builtin .append, args := #[s, x], argTypes := #[t, t] })
    (base : Nat) (e : TypeId) (i : TypeInfo) (z : Value) (bytes : Nat) (ht : P.underlying t = some (.slice e)) (hi : P.info? e = some i) (hz : i.zero = some z)
    (hsize : i.size = 1) (hby : i.bytes = bytes) (hzs : z.cells.size = 1)
    (v : Value) (n : Nat) (xs : List Value) (hs : a.eval s = v) (hown : w.ownsRow base e 1 v n xs) (ad : Addr) (y : BitVec 64) (hx : a.eval x = .slice (some ad) 1 1) (hsrc : w.cell? ad = some (encU y))
    (h63 : n + 1 ≤ maxLen) (hbytes : (n + 1) * bytes ≤ 140737488355328) (hbase : base ≤ w.heap.size)
    (h : ∀ v' w', w'.ownsRow base e 1 v' (n + 1) (xs ++ [encU y]) → w.grownBy w' v.ownBlock → (v'.ownBlock = v.ownBlock ∨ v'.ownBlock = some w.heap.size) → wpList P ops Q rest (a.put o.dst v') w') : wpList P ops Q (o :: rest) a w := by
  refine wpList_append_own_at w hgd s x t ho base e i z 1 bytes ht hi hz hsize hby hzs (by decide) v n xs hs hown ad 1 1 [encU y] hx rfl ?_ ?_ h63 hbytes hbase (fun v' w' h1 h2 _ h4 => h v' w' h1 h2 h4)
  · intro j u hj
    match j, hj with
    | 0, hj =>
      simp at hj
      subst hj
      exact hsrc
  · intro u hu
    simp at hu
    subst hu
    rfl

/-- the last operation of a region whose reads are of what lies below B -/
theorem bel_last {P : Program} {l : List Oper} {Q : Exit → Act → World → Prop} {i : Nat} {o : Oper} {B : Nat} {b : World} {a : Act} {w : World} (ho : nth l i = some o) (hw : Region.wanted o (yielded l.toArray a.tmps) = true) (hc : coversB .any l.toArray i = true)
    (k : ∀ K : Act → World → Prop, (∀ a' w', Q .normal a' w' → K a' w') → o.wp P a w K (Calm Q)) : wpBel P l Q [(i, false)] B b a w :=
  ord_do (nth_get ho) hw fun K hK => k K fun a' w' h2 => hK (fun _ => True) a' w' (.inr hc) trivial h2

/-- a block of cells, whole -/
def BoxAt (w : World) (g : Nat) (cs : Array Value) (t : TypeId) : Prop := w.heap[g]? = some (.cells cs t (0, 0))
theorem BoxAt.lt {w : World} {g : Nat} {cs : Array Value} {t : TypeId} (h : BoxAt w g cs t) : g < w.heap.size := (Array.getElem?_eq_some_iff.1 h).1
theorem BoxAt.cell {w : World} {g : Nat} {cs : Array Value} {t : TypeId} (h : BoxAt w g cs t) (i : Nat) {v : Value} (hv : cs[i]? = some v) : w.cell? ⟨g, i, none⟩ = some v := by
  unfold World.cell?
  simp only [show w.heap[g]? = _ from h, Option.isSome_none, Bool.false_eq_true, if_false]
  simp [hv]
theorem BoxAt.free {w : World} {g : Nat} {cs : Array Value} {t : TypeId} (h : BoxAt w g cs t) (i : Nat) : w.frozen? ⟨g, i, none⟩ = false := frozen_of_row w g i _ t h
theorem BoxAt.set {w : World} {g : Nat} {cs : Array Value} {t : TypeId} (h : BoxAt w g cs t) (i : Nat) (v : Value) : BoxAt (w.setCell ⟨g, i, none⟩ v) g (cs.setIfInBounds i v) t := heap_setCell_same w g i _ t v h
theorem BoxAt.set_off {w : World} {g b : Nat} {cs : Array Value} {t : TypeId} (h : BoxAt w g cs t) (hb : g ≠ b) (i : Nat) (v : Value) : BoxAt (w.setCell ⟨b, i, none⟩ v) g cs t := (Below.heap_setCell _ _ _ g hb).trans h
theorem BoxAt.grown {w w' : World} {g : Nat} {cs : Array Value} {t : TypeId} (h : BoxAt w g cs t) {row : Option Nat} (hg : w.grownBy w' row) (hne : some g ≠ row) : BoxAt w' g cs t := (hg.block g h.lt hne).trans h
theorem BoxAt.ext {w w' : World} {g : Nat} {cs : Array Value} {t : TypeId} (h : BoxAt w g cs t) (e : Ext w w') : BoxAt w' g cs t := (e.block g h.lt).trans h

/-- two own rows of numbers in a leaf's block behind block B -/
structure Two (B : Nat) (w : World) (t : TypeId) (l1 l2 : List (BitVec 64)) (v1 v2 : Value) (wr : World) : Prop where
  o1 : OwnU wr (B + 2) v1 l1
  o2 : OwnU wr (B + 2) v2 l2
  ap : ∀ k, v1.ownBlock = some k → v2.ownBlock ≠ some k
  b0 : BoxAt wr B #[.slice none 0 0, .slice none 0 0] t
  b1 : BoxAt wr (B + 1) #[v1, v2] t
  bl : Below B w wr
theorem Two.ext {B : Nat} {w wr w' : World} {t : TypeId} {l1 l2 : List (BitVec 64)} {v1 v2 : Value} (h : Two B w t l1 l2 v1 v2 wr) (e : Ext wr w') : Two B w t l1 l2 v1 v2 w' := by
  have hB := h.b1.lt
  refine ⟨?_, ?_, h.ap, h.b0.ext e, h.b1.ext e, Below.trans h.bl (Below.mono e (by omega))⟩
  · exact h.o1.kept (row := none) ⟨e.os, e.tape, e.output, e.size, fun k hk _ => e.block k hk⟩ (by cases v1.ownBlock <;> simp)
  · exact h.o2.kept (row := none) ⟨e.os, e.tape, e.output, e.size, fun k hk _ => e.block k hk⟩ (by cases v2.ownBlock <;> simp)
theorem Two.first {B : Nat} {w wr w' : World} {t : TypeId} {l1 l2 : List (BitVec 64)} {v1 v2 v' : Value} {x : BitVec 64} (h : Two B w t l1 l2 v1 v2 wr) (ho : w'.ownsRow (B + 2) 22 1 v' (l1.length + 1) (l1.map encU ++ [encU x])) (hg : wr.grownBy w' v1.ownBlock) (hat : v'.ownBlock = v1.ownBlock ∨ v'.ownBlock = some wr.heap.size) :
    Two B w t (l1 ++ [x]) l2 v' v2 (w'.setCell ⟨B + 1, 0, none⟩ v') := by
  have hB := h.b1.lt
  have hn : ∀ g, g < B + 2 → some g ≠ v1.ownBlock := fun g hg e => by have := (World.ownsRow.lt h.o1 g e.symm).1; omega
  refine ⟨ownsRow_setCell_below (OwnU.mk (lx := [x]) ho) (by simp) _, ownsRow_setCell_below (h.o2.kept hg ?_) (by simp) _, ?_, (h.b0.grown hg (hn B (by omega))).set_off (by omega) _ _, (h.b1.grown hg (hn _ (by omega))).set 0 v', (h.bl.grown hg (by omega) (fun k hk => by have := (World.ownsRow.lt h.o1 k hk).1; omega)).setCell (by simp) _⟩
  · cases hv : v2.ownBlock with
    | none => exact .inl rfl
    | some k => exact .inr (fun e => h.ap k e.symm hv)
  · intro k hk e
    rcases hat with hat | hat
    · exact h.ap k (hat.symm.trans hk) e
    · have := (World.ownsRow.lt h.o2 k e).2
      rw [hat] at hk; cases hk; omega
theorem Two.second {B : Nat} {w wr w' : World} {t : TypeId} {l1 l2 : List (BitVec 64)} {v1 v2 v' : Value} {x : BitVec 64} (h : Two B w t l1 l2 v1 v2 wr) (ho : w'.ownsRow (B + 2) 22 1 v' (l2.length + 1) (l2.map encU ++ [encU x])) (hg : wr.grownBy w' v2.ownBlock) (hat : v'.ownBlock = v2.ownBlock ∨ v'.ownBlock = some wr.heap.size) :
    Two B w t l1 (l2 ++ [x]) v1 v' (w'.setCell ⟨B + 1, 1, none⟩ v') := by
  have hB := h.b1.lt
  have hn : ∀ g, g < B + 2 → some g ≠ v2.ownBlock := fun g hg e => by have := (World.ownsRow.lt h.o2 g e.symm).1; omega
  refine ⟨ownsRow_setCell_below (h.o1.kept hg ?_) (by simp) _, ownsRow_setCell_below (OwnU.mk (lx := [x]) ho) (by simp) _, ?_, (h.b0.grown hg (hn B (by omega))).set_off (by omega) _ _, (h.b1.grown hg (hn _ (by omega))).set 1 v', (h.bl.grown hg (by omega) (fun k hk => by have := (World.ownsRow.lt h.o2 k hk).1; omega)).setCell (by simp) _⟩
  · cases hv : v1.ownBlock with
    | none => exact .inl rfl
    | some k => exact .inr (fun e => h.ap k hv e.symm)
  · intro k hk e
    rcases hat with hat | hat
    · exact h.ap k hk (hat.symm.trans e)
    · have := (World.ownsRow.lt h.o1 k hk).2
      rw [hat] at e; cases e; omega
theorem Two.start (w : World) (t : TypeId) : Two w.heap.size w t [] [] (.slice none 0 0) (.slice none 0 0) ((w.alloc (.cells #[.slice none 0 0, .slice none 0 0] t)).alloc (.cells #[.slice none 0 0, .slice none 0 0] t)) := by
  refine ⟨OwnU.nil _ _, OwnU.nil _ _, fun k hk => by simp [Value.ownBlock] at hk, ?_, ?_, (Ext.alloc _ _).trans (Ext.alloc _ _)⟩
  · have h := heap_alloc_new w (.cells #[.slice none 0 0, .slice none 0 0] t)
    exact BoxAt.ext (w := w.alloc (.cells #[.slice none 0 0, .slice none 0 0] t)) h (Ext.alloc _ _)
  · have h := heap_alloc_new (w.alloc (.cells #[.slice none 0 0, .slice none 0 0] t)) (.cells #[.slice none 0 0, .slice none 0 0] t)
    have e : (w.alloc (.cells #[.slice none 0 0, .slice none 0 0] t)).heap.size = w.heap.size + 1 := by simp
    rw [e] at h
    exact h
end Go.Proofs.Ytinnikbjphkkiaa
