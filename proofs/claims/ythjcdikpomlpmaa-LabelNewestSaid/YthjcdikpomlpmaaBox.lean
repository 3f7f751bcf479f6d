/-
  Blocks that are known whole, and own rows of elements of one cell. No program is named here.
-/
import Derived.Test.YthjcdikpomlpmaaPar
import Derived.Test.YthjcdikpomlpmaaKit
import Derived.Test.YthjcdikpomlpmaaArg
import Derived.ArgAppend
import Derived.Maps.AppendAt
import Derived.Laws.AppendOwnNone
import Derived.Deep.OwnRows
namespace Go.Proofs.Ythjcdikpomlpmaa
open Go.RowKit
set_option linter.unusedVariables false

theorem grown_refl (w : World) (o : Option Nat) : w.grownBy w o := ⟨rfl, rfl, rfl, Nat.le_refl _, fun _ _ _ => rfl⟩
theorem grown_trans {w w1 w2 : World} {o : Option Nat} (h : w.grownBy w1 o) (k : w1.grownBy w2 o) : w.grownBy w2 o :=
  ⟨k.os.trans h.os, k.tape.trans h.tape, k.output.trans h.output, Nat.le_trans h.size k.size, fun i hi hne => (k.block i (Nat.lt_of_lt_of_le hi h.size) hne).trans (h.block i hi hne)⟩
theorem grown_set (w : World) (b o : Nat) (v : Value) : w.grownBy (w.setCell ⟨b, o, none⟩ v) (some b) :=
  ⟨rfl, rfl, rfl, by simp, fun k _ hk => Below.heap_setCell _ _ _ k (fun e => hk (by rw [e]))⟩
theorem grown_drew {w w' : World} {o : Option Nat} (h : w.grownBy w' o) : w.grownBy w'.drew o := ⟨h.os, h.tape, h.output, h.size, h.block⟩
theorem grown_ext {w w' : World} (h : Ext w w') (o : Option Nat) : w.grownBy w' o := ⟨h.os, h.tape, h.output, h.size, fun k hk _ => h.block k hk⟩
theorem bel_set {B : Nat} {w w' : World} {b : Nat} (h : Below B w w') (hb : B ≤ b) (o : Nat) (v : Value) : Below B w (w'.setCell ⟨b, o, none⟩ v) := Below.setCell h hb _
theorem own_shape {w : World} {base : Nat} {e : TypeId} {size : Nat} {v : Value} {n : Nat} {xs : List Value} (h : w.ownsRow base e size v n xs) : ∃ a c, v = .slice a n c := by
  rcases h.2 with ⟨rfl, h2⟩ | ⟨g, cap, cur, rfl, _⟩
  · obtain ⟨h1, _⟩ := h
    exact ⟨none, 0, by simp_all⟩
  · exact ⟨_, _, rfl⟩
theorem cell_new1 (w : World) (x : Value) (t : TypeId) : (w.alloc (.cells #[x] t)).cell? ⟨w.heap.size, 0, none⟩ = some x := by
  simp
theorem getD_in {α : Type} {l : List α} {k : Nat} {d : α} (h : k < l.length) : l.getD k d = l[k] := by
  rw [List.getD_eq_getElem?_getD, List.getElem?_eq_getElem h]; rfl
theorem getD_out {α : Type} {l : List α} {k : Nat} {d : α} (h : ¬ k < l.length) : l.getD k d = d := by
  rw [List.getD_eq_getElem?_getD, List.getElem?_eq_none (by omega)]; rfl

/-- a block of cells, whole -/
def BoxAt (w : World) (g : Nat) (cs : Array Value) (t : TypeId) : Prop := w.heap[g]? = some (.cells cs t (0, 0))
theorem BoxAt.lt {w : World} {g : Nat} {cs : Array Value} {t : TypeId} (h : BoxAt w g cs t) : g < w.heap.size := (Array.getElem?_eq_some_iff.1 h).1
theorem BoxAt.cell {w : World} {g : Nat} {cs : Array Value} {t : TypeId} (h : BoxAt w g cs t) (i : Nat) {v : Value} (hv : cs[i]? = some v) : w.cell? ⟨g, i, none⟩ = some v := by
  unfold World.cell?
  simp only [show w.heap[g]? = _ from h, Option.isSome_none, Bool.false_eq_true, if_false]
  simp [hv]
theorem BoxAt.free {w : World} {g : Nat} {cs : Array Value} {t : TypeId} (h : BoxAt w g cs t) (i : Nat) : w.frozen? ⟨g, i, none⟩ = false := frozen_of_row w g i _ t h
theorem BoxAt.set {w : World} {g : Nat} {cs : Array Value} {t : TypeId} (h : BoxAt w g cs t) (i : Nat) (v : Value) : BoxAt (w.setCell ⟨g, i, none⟩ v) g (cs.setIfInBounds i v) t := heap_setCell_same w g i _ t v h
theorem BoxAt.set_off {w : World} {g b : Nat} {cs : Array Value} {t : TypeId} (h : BoxAt w g cs t) (hb : g ≠ b) (i : Nat) (v : Value) : BoxAt (w.setCell ⟨b, i, none⟩ v) g cs t := (Below.heap_setCell _ _ _ g hb).trans h
theorem BoxAt.grown {w w' : World} {g : Nat} {cs : Array Value} {t : TypeId} (h : BoxAt w g cs t) {row : Option Nat} (hg : w.grownBy w' row) (hne : some g ≠ row) : BoxAt w' g cs t := (hg.block g h.lt hne).trans h
theorem BoxAt.ext {w w' : World} {g : Nat} {cs : Array Value} {t : TypeId} (h : BoxAt w g cs t) (e : Ext w w') : BoxAt w' g cs t := (e.block g h.lt).trans h
theorem BoxAt.bel {w w' : World} {g B : Nat} {cs : Array Value} {t : TypeId} (h : BoxAt w g cs t) (e : Below B w w') (hg : g < B) : BoxAt w' g cs t := (e.block g hg).trans h
theorem BoxAt.new (w : World) (cs : Array Value) (t : TypeId) : BoxAt (w.alloc (.cells cs t)) w.heap.size cs t := heap_alloc_new _ _

/-- an own row of elements of type e, each of one cell -/
def OwnG {α : Type} (enc : α → Value) (e : TypeId) (w : World) (base : Nat) (v : Value) (l : List α) : Prop := w.ownsRow base e 1 v l.length (l.map enc)
section
variable {α : Type} {enc : α → Value} {e : TypeId} {w w' : World} {base : Nat} {v : Value} {l : List α}
theorem OwnG.slice (h : OwnG enc e w base v l) : SliceAt enc w v l := SliceAt.of_owns h
theorem OwnG.nil : OwnG enc e w base (.slice none 0 0) ([] : List α) := World.ownsRow_nil _ _ _ _
theorem OwnG.kept (h : OwnG enc e w base v l) {row : Option Nat} (hg : w.grownBy w' row) (hne : v.ownBlock ≠ row ∨ v.ownBlock = none) : OwnG enc e w' base v l := World.ownsRow.kept h hg hne.symm
theorem OwnG.ext (h : OwnG enc e w base v l) (x : Ext w w') : OwnG enc e w' base v l :=
  World.ownsRow.kept h (grown_ext x none) (by cases v.ownBlock <;> simp)
theorem OwnG.bel (h : OwnG enc e w base v l) {B : Nat} (x : Below B w w') (hb : ∀ g, v.ownBlock = some g → g < B) : OwnG enc e w' base v l := by
  refine ⟨h.1, h.2.imp id ?_⟩
  rintro ⟨g, cap, cur, hv, hg, hh, r⟩
  exact ⟨g, cap, cur, hv, hg, (x.block g (hb g (by rw [hv]; rfl))).trans hh, r⟩
theorem OwnG.lower {b' : Nat} (h : OwnG enc e w base v l) (hb : b' ≤ base) : OwnG enc e w b' v l :=
  ⟨h.1, h.2.imp id (fun ⟨g, cap, cur, hv, hg, r⟩ => ⟨g, cap, cur, hv, Nat.le_trans hb hg, r⟩)⟩
theorem OwnG.shape (h : OwnG enc e w base v l) : ∃ a c, v = .slice a l.length c := own_shape h
theorem OwnG.form (h : OwnG enc e w base v l) (hl : 0 < l.length) : ∃ g cap, v = .slice (some ⟨g, 0, none⟩) l.length (cap + 1) ∧ base ≤ g ∧ g < w.heap.size := by
  rcases h.2 with ⟨_, h2⟩ | ⟨g, cap, cur, h1, h2, h3, h4, _⟩
  · omega
  · obtain ⟨c, rfl⟩ : ∃ c, cap = c + 1 := ⟨cap - 1, by omega⟩
    exact ⟨g, c, h1, h2, (Array.getElem?_eq_some_iff.1 h3).1⟩
theorem OwnG.lt (h : OwnG enc e w base v l) : ∀ g, v.ownBlock = some g → base ≤ g ∧ g < w.heap.size := World.ownsRow.lt h
/-- a row and a block of another type lie apart -/
theorem OwnG.not_box {g : Nat} {cs : Array Value} {t : TypeId} (h : OwnG enc e w base v l) (hb : BoxAt w g cs t) (ht : t ≠ e) : v.ownBlock ≠ some g := by
  intro q
  rcases h.2 with ⟨h1, _⟩ | ⟨g', cap, cur, h1, h2, h3, _⟩
  · rw [h1] at q; simp [Value.ownBlock] at q
  · rw [h1] at q; simp [Value.ownBlock] at q
    subst q
    rw [show w.heap[g']? = _ from hb] at h3
    cases h3; exact ht rfl
theorem OwnG.put {q n c : Nat} (h : OwnG enc e w base (.slice (some ⟨q, 0, none⟩) n c) l) (hn : n = l.length) (k : Nat) (x : α) : OwnG enc e (w.setCell ⟨q, k, none⟩ (enc x)) base (.slice (some ⟨q, 0, none⟩) n c) (l.set k x) := by
  subst hn
  have := (World.ownsRow.stored h k (enc x)).1
  show World.ownsRow _ _ _ _ _ _ _
  rw [List.length_set, List.map_set]; exact this
theorem OwnG.off {q : Nat} (h : OwnG enc e w base v l) (hne : v.ownBlock ≠ some q) (k : Nat) (y : Value) : OwnG enc e (w.setCell ⟨q, k, none⟩ y) base v l :=
  World.ownsRow.kept h (grown_set w q k y) (.inr hne)
theorem OwnG.at {q n c k : Nat} (h : OwnG enc e w base (.slice (some ⟨q, 0, none⟩) n c) l) (hn : n = l.length) (hk : k < l.length) : w.cell? ⟨q, k, none⟩ = some (enc l[k]) := by
  subst hn
  rw [World.ownsRow.cellAt h k (by omega)]
  simp [hk]
theorem OwnG.frees {q n c : Nat} (h : OwnG enc e w base (.slice (some ⟨q, 0, none⟩) n c) l) (hn : n = l.length) (j : Nat) : w.frozen? ⟨q, j, none⟩ = false := by
  subst hn
  exact World.ownsRow.frozenAt h j
theorem OwnG.app {r : List α} (h : w.ownsRow base e 1 v (l.length + r.length) (l.map enc ++ r.map enc)) : OwnG enc e w base v (l ++ r) := by
  show World.ownsRow _ _ _ _ _ _ _
  rw [List.length_append, List.map_append]; exact h
theorem OwnG.snoc {x : α} (h : w.ownsRow base e 1 v (l.length + 1) (l.map enc ++ [enc x])) : OwnG enc e w base v (l ++ [x]) := OwnG.app (r := [x]) h
theorem OwnG.lit (w : World) (l : List α) (e : TypeId) (base : Nat) (hb : base ≤ w.heap.size) (hm : l.length ≤ maxLen) (cs : Array Value) (hc : cs = (l.map enc).toArray) : OwnG enc e (w.alloc (.cells cs e)) base (.slice (some ⟨w.heap.size, 0, none⟩) l.length l.length) l := by
  subst hc
  have := World.ownsRow_lit (base := base) (e := e) (size := 1) w (l.map enc).toArray l.length hb hm (by simp)
  simpa [OwnG] using this
end

/-- append of a literal of one element to an own row -/
theorem wpList_append_one {P : Program} {w : World} {ops : Array Oper} {rest : List Oper} {o : Oper} {a : Act} {Q : Exit → Act → World → Prop} (hgd : o.guard = none) (s x : Operand) (t : TypeId)
    (ho : o.op = .call { callee := .builtin .append, args := #[s, x], argTypes := #[t, t] })
    (base : Nat) (e : TypeId) (i : TypeInfo) (z : Value) (bytes : Nat) (ht : P.underlying t = some (.slice e)) (hi : P.info? e = some i) (hz : i.zero = some z)
    (hsize : i.size = 1) (hby : i.bytes = bytes) (hzs : z.cells.size = 1)
    (v : Value) (n : Nat) (xs : List Value) (hs : a.eval s = v) (hown : w.ownsRow base e 1 v n xs) (ad : Addr) (y : Value) (hy : y.oneCell' = true) (hx : a.eval x = .slice (some ad) 1 1) (hsrc : w.cell? ad = some y)
    (h63 : n + 1 ≤ maxLen) (hbytes : (n + 1) * bytes ≤ 140737488355328) (hbase : base ≤ w.heap.size)
    (h : ∀ v' w', w'.ownsRow base e 1 v' (n + 1) (xs ++ [y]) → w.grownBy w' v.ownBlock → (v'.ownBlock = v.ownBlock ∨ v'.ownBlock = some w.heap.size) → wpList P ops Q rest (a.put o.dst v') w') : wpList P ops Q (o :: rest) a w := by
  refine wpList_append_own_at w hgd s x t ho base e i z 1 bytes ht hi hz hsize hby hzs (by decide) v n xs hs hown ad 1 1 [y] hx rfl ?_ ?_ h63 hbytes hbase (fun v' w' h1 h2 _ h4 => h v' w' h1 h2 h4)
  · intro j u hj
    match j, hj with
    | 0, hj =>
      simp at hj
      subst hj
      exact hsrc
  · intro u hu
    simp at hu
    subst hu
    exact hy
/-- append of a slice that is not empty onto a literal without elements: a new row -/
theorem wpList_append_fresh {P : Program} {α : Type} {enc : α → Value} (henc : ∀ x, (enc x).oneCell' = true) {w : World} {ops : Array Oper} {rest : List Oper} {o : Oper} {a : Act} {Q : Exit → Act → World → Prop}
    (hgd : o.guard = none) (s x : Operand) (t : TypeId) (ho : o.op = .call { callee := .builtin .append, args := #[s, x], argTypes := #[t, t] })
    (e : TypeId) (i : TypeInfo) (z : Value) (bytes : Nat) (ht : P.underlying t = some (.slice e)) (hi : P.info? e = some i) (hz : i.zero = some z) (hsize : i.size = 1) (hby : i.bytes = bytes) (hzs : z.cells.size = 1)
    (q : Nat) (hs : a.eval s = .slice (some ⟨q, 0, none⟩) 0 0) (vx : Value) (l : List α) (hx : a.eval x = vx) (hsrc : SliceAt enc w vx l) (hl : 0 < l.length) (h63 : l.length ≤ maxLen) (hbytes : l.length * bytes ≤ 140737488355328)
    (h : ∀ v' w', w'.ownsRow w.heap.size e 1 v' l.length (l.map enc) → Ext w w' → wpList P ops Q rest (a.put o.dst v') w') : wpList P ops Q (o :: rest) a w := by
  obtain ⟨ad, cap, rfl, _, hsrc⟩ := hsrc
  rcases hsrc with ⟨rfl, _⟩ | ⟨b, off, rfl, hb, hc⟩
  · simp at hl
  · refine wpList_append_grows w hgd s x t ho e i z 1 bytes ht hi hz hsize hby hzs (by decide) (some ⟨q, 0, none⟩) 0 0 [] hs (fun _ => ⟨rfl, rfl⟩) rfl (fun _ _ _ _ h => by simp at h) ⟨b, off, none⟩ l.length cap (l.map enc) hx (by simp) ?_ ?_ (by omega) (by omega) (by simpa using hbytes) ?_
    · intro j u hj
      have hjl : j < l.length := by
        rcases Nat.lt_or_ge j l.length with h' | h'
        · exact h'
        · rw [List.getElem?_eq_none (by simpa using h')] at hj; cases hj
      have : u = enc l[j] := by simpa [hjl] using hj.symm
      rw [this, add_plain]; exact hc j hjl
    · intro u hu
      obtain ⟨y, _, rfl⟩ := List.mem_map.1 hu
      exact henc y
    · intro v' w' h1 h2
      refine h v' w' (by simpa using h1) ?_
      exact (Below.refl _ _).grown h2 (Nat.le_refl _) (fun k hk => by cases hk)
/-- append of a slice, empty or not, onto a literal without elements -/
theorem wpList_append_lit {P : Program} {α : Type} {enc : α → Value} (henc : ∀ x, (enc x).oneCell' = true) {w : World} {ops : Array Oper} {rest : List Oper} {o : Oper} {a : Act} {Q : Exit → Act → World → Prop}
    (hgd : o.guard = none) (s x : Operand) (t : TypeId) (ho : o.op = .call { callee := .builtin .append, args := #[s, x], argTypes := #[t, t] })
    (e : TypeId) (i : TypeInfo) (z : Value) (bytes : Nat) (ht : P.underlying t = some (.slice e)) (hi : P.info? e = some i) (hz : i.zero = some z) (hsize : i.size = 1) (hby : i.bytes = bytes) (hzs : z.cells.size = 1)
    (base q : Nat) (hs : a.eval s = .slice (some ⟨q, 0, none⟩) 0 0) (hown : w.ownsRow base e 1 (.slice (some ⟨q, 0, none⟩) 0 0) 0 []) (hbase : base ≤ w.heap.size)
    (vx : Value) (l : List α) (hx : a.eval x = vx) (hsrc : SliceAt enc w vx l) (h63 : l.length ≤ maxLen) (hbytes : l.length * bytes ≤ 140737488355328)
    (h : ∀ v' w', OwnG enc e w' base v' l → Ext w w' → (∀ g, ownB v' = some g → w.heap.size ≤ g ∧ g < w'.heap.size) → wpList P ops Q rest (a.put o.dst v') w') : wpList P ops Q (o :: rest) a w := by
  cases l with
  | nil =>
    obtain ⟨ad, cap, rfl, _, hsrc⟩ := hsrc
    have key : wpList P ops Q rest (a.put o.dst (.slice (some ⟨q, 0, none⟩) 0 0)) w := h _ w (by unfold OwnG; simpa using hown) (Ext.refl _) (fun g hg => by simp [ownB] at hg)
    cases ad with
    | none =>
      rcases hsrc with ⟨_, hc⟩ | ⟨b, off, hn, _⟩
      · rw [hc rfl] at hx
        exact wpList_append_own_none hgd s x t ho base e i 1 ht hi _ 0 [] hs hown (by simpa using hx) key
      · cases hn
    | some ad =>
      refine wpList_plain hgd fun K hK => ?_
      have hrun := run_append_room_cells (P := P) w t o.type e i ht hi q 0 0 0 ad 0 cap [] (by simp) (by simp) (by simp) (Nat.le_refl _) (by simp) (by simp)
      unfold Oper.wp
      simp [execOp, ho, resolve, invoke, builtin, hs, hx, hrun, Result.andThen]
      exact hK _ _ key
  | cons y l =>
    refine wpList_append_fresh henc hgd s x t ho e i z bytes ht hi hz hsize hby hzs q hs vx (y :: l) hx hsrc (by simp) h63 hbytes (fun v' w' h1 h2 => h v' w' ?_ h2 ?_)
    · exact ⟨h1.1, h1.2.imp id (fun ⟨g, cap, cur, hv, hg, r⟩ => ⟨g, cap, cur, hv, Nat.le_trans hbase hg, r⟩)⟩
    · intro g hg
      rcases h1.2 with ⟨hv, _⟩ | ⟨g', cap, cur, hv, hg', hh, _⟩
      · rw [hv] at hg; simp [ownB] at hg
      · rw [hv] at hg
        cases cap with
        | zero => simp [ownB] at hg
        | succ c => simp [ownB] at hg; subst hg; exact ⟨hg', (Array.getElem?_eq_some_iff.1 hh).1⟩

/-- the last operation of a region with a condition of one's own -/
theorem fix_last {P : Program} {l : List Oper} {Q : Exit → Act → World → Prop} {i : Nat} {o : Oper} {S : World → Prop} {a : Act} {w : World} (ho : nth l i = some o) (hw : Region.wanted o (yielded l.toArray a.tmps) = true) (hc : coversB .any l.toArray i = true)
    (k : ∀ K : Act → World → Prop, (∀ a' w', Q .normal a' w' → K a' w') → o.wp P a w K (Calm Q)) : wpFix P l Q [(i, false)] S a w :=
  ord_do (nth_get ho) hw fun K hK => k K fun a' w' h2 => hK (fun _ => True) a' w' (.inr hc) trivial h2

/-! ### elements of a slice -/
theorem SliceAt.get {α : Type} {enc : α → Value} {w : World} {ad : Option Addr} {n cap : Nat} {l : List α} (h : SliceAt enc w (.slice ad n cap) l) (k : Nat) (hk : k < l.length) : ∃ b off, ad = some ⟨b, off, none⟩ ∧ b < w.heap.size ∧ w.cell? ⟨b, off + k, none⟩ = some (enc l[k]) := by
  obtain ⟨ad', cap', hv, hca, h⟩ := h
  injection hv with h1 h2 h3
  subst h1
  rcases h with ⟨h0, _⟩ | ⟨b, off, h4, h5, h6⟩
  · rw [h0] at hk; simp at hk
  · exact ⟨b, off, h4, h5, h6 k hk⟩
/-- a part of a slice: from i on, n elements -/
theorem SliceAt.sub {α : Type} {enc : α → Value} {w : World} {b off m cap : Nat} {l : List α} (h : SliceAt enc w (.slice (some ⟨b, off, none⟩) m cap) l) (i n c : Nat) (hi : i + n ≤ l.length) (hb : b < w.heap.size) (hc : n ≤ c) :
    SliceAt enc w (.slice (some ⟨b, off + i, none⟩) n c) ((l.drop i).take n) := by
  have hl : ((l.drop i).take n).length = n := by rw [List.length_take, List.length_drop]; omega
  obtain ⟨ad', cap', hv, hca, h⟩ := h
  injection hv with h1 h2 h3
  refine ⟨_, c, by rw [hl], by omega, .inr ⟨b, off + i, rfl, hb, fun j hj => ?_⟩⟩
  rw [hl] at hj
  rcases h with ⟨h0, _⟩ | ⟨b', off', h4, h5, h6⟩
  · rw [h0] at hi; simp at hi; omega
  · rw [← h1] at h4
    cases h4
    rw [Nat.add_assoc, h6 (i + j) (by omega), List.getElem_take, List.getElem_drop]
theorem SliceAt.absent {α : Type} {enc : α → Value} {w : World} {n cap : Nat} {l : List α} (h : SliceAt enc w (.slice none n cap) l) : l = [] ∧ n = 0 ∧ cap = 0 := by
  obtain ⟨ad', cap', hv, hca, h⟩ := h
  injection hv with h1 h2 h3
  rcases h with ⟨h0, hc⟩ | ⟨b, off, h4, _⟩
  · subst h0 h2 h3; exact ⟨rfl, rfl, hc h1.symm⟩
  · rw [← h1] at h4; cases h4
/-- element k of a slice of slices -/
theorem SliceR.elem {α : Type} {p : Pat α} {w : World} {ad : Option Addr} {n cap : Nat} {l : List (List α)} (h : SliceR (Pat.slice p) w (.slice ad n cap) l) (k : Nat) (hk : k < l.length) :
    ∃ b off v, ad = some ⟨b, off, none⟩ ∧ b < w.heap.size ∧ w.cell? ⟨b, off + k, none⟩ = some v ∧ SliceR p w v l[k] ∧ l[k].length ≤ maxLen := by
  obtain ⟨ad', cap', hv, hca, h⟩ := h
  injection hv with h1 h2 h3
  subst h1
  rcases h with ⟨h0, _⟩ | ⟨b, off, h4, h5, h6⟩
  · rw [h0] at hk; simp at hk
  · obtain ⟨cs, ⟨v, hcs, hv, hm⟩, hc⟩ := h6 k hk
    subst hcs
    have h0 := hc 0 (by simp)
    rw [show (Pat.slice p).size = 1 from rfl] at h0
    simp only [Nat.mul_one, Nat.add_zero] at h0
    exact ⟨b, off, v, h4, h5, h0, hv, hm⟩
theorem SliceR.absent {α : Type} {p : Pat α} {w : World} {n cap : Nat} {l : List α} (h : SliceR p w (.slice none n cap) l) : l = [] ∧ n = 0 ∧ cap = 0 := by
  obtain ⟨ad', cap', hv, hca, h⟩ := h
  injection hv with h1 h2 h3
  rcases h with ⟨h0, hc⟩ | ⟨b, off, h4, _⟩
  · subst h0 h2 h3; exact ⟨rfl, rfl, hc h1.symm⟩
  · rw [← h1] at h4; cases h4
theorem SliceR.nil {α : Type} {p : Pat α} {w : World} : SliceR p w (.slice none 0 0) ([] : List α) := ⟨none, 0, rfl, Nat.le_refl _, .inl ⟨rfl, fun _ => rfl⟩⟩
theorem SliceR.shape {α : Type} {p : Pat α} {w : World} {v : Value} {l : List α} (h : SliceR p w v l) : ∃ a c, v = .slice a l.length c := by
  obtain ⟨a, c, h1, _⟩ := h; exact ⟨a, c, h1⟩
theorem SliceAt.shape {α : Type} {enc : α → Value} {w : World} {v : Value} {l : List α} (h : SliceAt enc w v l) : ∃ a c, v = .slice a l.length c := by
  obtain ⟨a, c, h1, _⟩ := h; exact ⟨a, c, h1⟩
/-- a slice whose elements read by one cell -/
theorem SliceAt.toR {α : Type} {f : α → Value} {ok : α → Prop} {w : World} {v : Value} {l : List α} (h : SliceAt f w v l) (hok : ∀ x ∈ l, ok x) : SliceR (Pat.one f ok) w v l := by
  obtain ⟨ad, cap, hv, hca, h⟩ := h
  refine ⟨ad, cap, hv, hca, h.imp id ?_⟩
  rintro ⟨b, off, h1, h2, h3⟩
  refine ⟨b, off, h1, h2, fun i hi => ⟨[f l[i]], ⟨rfl, hok _ (List.getElem_mem hi)⟩, fun j hj => ?_⟩⟩
  have : j = 0 := by simp at hj; exact hj
  subst this
  rw [show (Pat.one f ok).size = 1 from rfl]
  simp only [Nat.mul_one, Nat.add_zero, List.getElem_cons_zero]
  exact h3 i hi
/-- a slice of values each of which reads as a slice -/
theorem SliceR.rows {α : Type} {p : Pat α} {w : World} {v : Value} {vs : List Value} {ls : List (List α)} (h : SliceAt id w v vs) (hl : vs.length = ls.length) (he : ∀ i (h1 : i < vs.length) (h2 : i < ls.length), SliceR p w vs[i] ls[i] ∧ ls[i].length ≤ maxLen) : SliceR (Pat.slice p) w v ls := by
  obtain ⟨ad, cap, hv, hca, h⟩ := h
  refine ⟨ad, cap, by rw [← hl]; exact hv, by omega, ?_⟩
  rcases h with ⟨h1, h2⟩ | ⟨b, off, h1, h2, h3⟩
  · left; exact ⟨List.eq_nil_of_length_eq_zero (by rw [← hl, h1]; rfl), h2⟩
  · right
    refine ⟨b, off, h1, h2, fun i hi => ?_⟩
    have hi' : i < vs.length := by omega
    refine ⟨[vs[i]], ⟨vs[i], rfl, (he i hi' hi).1, (he i hi' hi).2⟩, fun j hj => ?_⟩
    have : j = 0 := by simp at hj; exact hj
    subst this
    rw [show (Pat.slice p).size = 1 from rfl]
    simp only [Nat.mul_one, Nat.add_zero, List.getElem_cons_zero]
    exact h3 i hi'
end Go.Proofs.Ythjcdikpomlpmaa
