/-
  Part 5 of the proof.
-/
import Derived.Test.YtjabgpejmnpamaaGreatDoorY03
import Derived.ArgAppend
import Derived.Maps.AppendAt
import Derived.Deep.OwnRows
import Derived.Deep.DeepCutAuto
set_option linter.unusedVariables false
namespace Go.Proofs.YtjabgpejmnpamaaGreatDoor
open Go.RowKit
theorem grown_refl (w : World) (o : Option Nat) : w.grownBy w o := ⟨rfl, rfl, rfl, Nat.le_refl _, fun _ _ _ => rfl⟩
theorem grown_trans {w w1 w2 : World} {o : Option Nat} (h : w.grownBy w1 o) (k : w1.grownBy w2 o) : w.grownBy w2 o :=
  ⟨k.os.trans h.os, k.tape.trans h.tape, k.output.trans h.output, Nat.le_trans h.size k.size, fun i hi hne => (k.block i (Nat.lt_of_lt_of_le hi h.size) hne).trans (h.block i hi hne)⟩
theorem grown_set (w : World) (b o : Nat) (v : Value) : w.grownBy (w.setCell ⟨b, o, none⟩ v) (some b) :=
  ⟨rfl, rfl, rfl, by simp, fun k _ hk => Below.heap_setCell _ _ _ k (fun e => hk (by rw [e]))⟩
theorem grown_drew {w w' : World} {o : Option Nat} (h : w.grownBy w' o) : w.grownBy w'.drew o := ⟨h.os, h.tape, h.output, h.size, h.block⟩
theorem grown_ext {w w' : World} (h : Ext w w') (o : Option Nat) : w.grownBy w' o := ⟨h.os, h.tape, h.output, h.size, fun k hk _ => h.block k hk⟩
theorem bel_set {B : Nat} {w w' : World} {b : Nat} (h : Below B w w') (hb : B ≤ b) (o : Nat) (v : Value) : Below B w (w'.setCell ⟨b, o, none⟩ v) := Below.setCell h hb _
theorem own_shape {w : World} {base : Nat} {e : TypeId} {size : Nat} {v : Value} {n : Nat} {xs : List Value} (h : w.ownsRow base e size v n xs) : ∃ a c, v = .slice a n c := by
  rcases h.2 with ⟨rfl, h2⟩ | ⟨g, cap, cur, rfl, _⟩
  · obtain ⟨h1, _⟩ := h
    exact ⟨none, 0, by simp_all⟩
  · exact ⟨_, _, rfl⟩
theorem cell_new1 (w : World) (x : Value) (t : TypeId) : (w.alloc (.cells #[x] t)).cell? ⟨w.heap.size, 0, none⟩ = some x := by
  simp
theorem getD_in {α : Type} {l : List α} {k : Nat} {d : α} (h : k < l.length) : l.getD k d = l[k] := by
  rw [List.getD_eq_getElem?_getD, List.getElem?_eq_getElem h]; rfl
def BoxAt (w : World) (g : Nat) (cs : Array Value) (t : TypeId) : Prop := w.heap[g]? = some (.cells cs t (0, 0))
theorem BoxAt.lt {w : World} {g : Nat} {cs : Array Value} {t : TypeId} (h : BoxAt w g cs t) : g < w.heap.size := (Array.getElem?_eq_some_iff.1 h).1
theorem BoxAt.cell {w : World} {g : Nat} {cs : Array Value} {t : TypeId} (h : BoxAt w g cs t) (i : Nat) {v : Value} (hv : cs[i]? = some v) : w.cell? ⟨g, i, none⟩ = some v := by
  unfold World.cell?
  simp only [show w.heap[g]? = _ from h, Option.isSome_none, Bool.false_eq_true, if_false]
  simp [hv]
theorem BoxAt.free {w : World} {g : Nat} {cs : Array Value} {t : TypeId} (h : BoxAt w g cs t) (i : Nat) : w.frozen? ⟨g, i, none⟩ = false := frozen_of_row w g i _ t h
theorem BoxAt.set {w : World} {g : Nat} {cs : Array Value} {t : TypeId} (h : BoxAt w g cs t) (i : Nat) (v : Value) : BoxAt (w.setCell ⟨g, i, none⟩ v) g (cs.setIfInBounds i v) t := heap_setCell_same w g i _ t v h
theorem BoxAt.set_off {w : World} {g b : Nat} {cs : Array Value} {t : TypeId} (h : BoxAt w g cs t) (hb : g ≠ b) (i : Nat) (v : Value) : BoxAt (w.setCell ⟨b, i, none⟩ v) g cs t := (Below.heap_setCell _ _ _ g hb).trans h
theorem BoxAt.grown {w w' : World} {g : Nat} {cs : Array Value} {t : TypeId} (h : BoxAt w g cs t) {row : Option Nat} (hg : w.grownBy w' row) (hne : some g ≠ row) : BoxAt w' g cs t := (hg.block g h.lt hne).trans h
theorem BoxAt.ext {w w' : World} {g : Nat} {cs : Array Value} {t : TypeId} (h : BoxAt w g cs t) (e : Ext w w') : BoxAt w' g cs t := (e.block g h.lt).trans h
theorem BoxAt.new (w : World) (cs : Array Value) (t : TypeId) : BoxAt (w.alloc (.cells cs t)) w.heap.size cs t := heap_alloc_new _ _
def OwnG {α : Type} (enc : α → Value) (e : TypeId) (w : World) (base : Nat) (v : Value) (l : List α) : Prop := w.ownsRow base e 1 v l.length (l.map enc)
section
variable {α : Type} {enc : α → Value} {e : TypeId} {w w' : World} {base : Nat} {v : Value} {l : List α}
theorem OwnG.slice (h : OwnG enc e w base v l) : SliceAt enc w v l := SliceAt.of_owns h
theorem OwnG.nil : OwnG enc e w base (.slice none 0 0) ([] : List α) := World.ownsRow_nil _ _ _ _
theorem OwnG.kept (h : OwnG enc e w base v l) {row : Option Nat} (hg : w.grownBy w' row) (hne : v.ownBlock ≠ row ∨ v.ownBlock = none) : OwnG enc e w' base v l := World.ownsRow.kept h hg hne.symm
theorem OwnG.ext (h : OwnG enc e w base v l) (x : Ext w w') : OwnG enc e w' base v l :=
  World.ownsRow.kept h (grown_ext x none) (by cases v.ownBlock <;> simp)
theorem OwnG.lower {b' : Nat} (h : OwnG enc e w base v l) (hb : b' ≤ base) : OwnG enc e w b' v l :=
  ⟨h.1, h.2.imp id (fun ⟨g, cap, cur, hv, hg, r⟩ => ⟨g, cap, cur, hv, Nat.le_trans hb hg, r⟩)⟩
theorem OwnG.shape (h : OwnG enc e w base v l) : ∃ a c, v = .slice a l.length c := own_shape h
theorem OwnG.form (h : OwnG enc e w base v l) (hl : 0 < l.length) : ∃ g cap, v = .slice (some ⟨g, 0, none⟩) l.length (cap + 1) ∧ base ≤ g ∧ g < w.heap.size := by
  rcases h.2 with ⟨_, h2⟩ | ⟨g, cap, cur, h1, h2, h3, h4, _⟩
  · omega
  · obtain ⟨c, rfl⟩ : ∃ c, cap = c + 1 := ⟨cap - 1, by omega⟩
    exact ⟨g, c, h1, h2, (Array.getElem?_eq_some_iff.1 h3).1⟩
theorem OwnG.lt (h : OwnG enc e w base v l) : ∀ g, v.ownBlock = some g → base ≤ g ∧ g < w.heap.size := World.ownsRow.lt h
theorem OwnG.not_box {g : Nat} {cs : Array Value} {t : TypeId} (h : OwnG enc e w base v l) (hb : BoxAt w g cs t) (ht : t ≠ e) : v.ownBlock ≠ some g := by
  intro q
  rcases h.2 with ⟨h1, _⟩ | ⟨g', cap, cur, h1, h2, h3, _⟩
  · rw [h1] at q; simp [Value.ownBlock] at q
  · rw [h1] at q; simp [Value.ownBlock] at q
    subst q
    rw [show w.heap[g']? = _ from hb] at h3
    cases h3; exact ht rfl
theorem OwnG.put {q n c : Nat} (h : OwnG enc e w base (.slice (some ⟨q, 0, none⟩) n c) l) (hn : n = l.length) (k : Nat) (x : α) : OwnG enc e (w.setCell ⟨q, k, none⟩ (enc x)) base (.slice (some ⟨q, 0, none⟩) n c) (l.set k x) := by
  subst hn
  have := (World.ownsRow.stored h k (enc x)).1
  show World.ownsRow _ _ _ _ _ _ _
  rw [List.length_set, List.map_set]; exact this
theorem OwnG.off {q : Nat} (h : OwnG enc e w base v l) (hne : v.ownBlock ≠ some q) (k : Nat) (y : Value) : OwnG enc e (w.setCell ⟨q, k, none⟩ y) base v l :=
  World.ownsRow.kept h (grown_set w q k y) (.inr hne)
theorem OwnG.at {q n c k : Nat} (h : OwnG enc e w base (.slice (some ⟨q, 0, none⟩) n c) l) (hn : n = l.length) (hk : k < l.length) : w.cell? ⟨q, k, none⟩ = some (enc l[k]) := by
  subst hn
  rw [World.ownsRow.cellAt h k (by omega)]
  simp [hk]
theorem OwnG.frees {q n c : Nat} (h : OwnG enc e w base (.slice (some ⟨q, 0, none⟩) n c) l) (hn : n = l.length) (j : Nat) : w.frozen? ⟨q, j, none⟩ = false := by
  subst hn
  exact World.ownsRow.frozenAt h j
theorem OwnG.app {r : List α} (h : w.ownsRow base e 1 v (l.length + r.length) (l.map enc ++ r.map enc)) : OwnG enc e w base v (l ++ r) := by
  show World.ownsRow _ _ _ _ _ _ _
  rw [List.length_append, List.map_append]; exact h
theorem OwnG.snoc {x : α} (h : w.ownsRow base e 1 v (l.length + 1) (l.map enc ++ [enc x])) : OwnG enc e w base v (l ++ [x]) := OwnG.app (r := [x]) h
theorem OwnG.lit (w : World) (l : List α) (e : TypeId) (base : Nat) (hb : base ≤ w.heap.size) (hm : l.length ≤ maxLen) (cs : Array Value) (hc : cs = (l.map enc).toArray) : OwnG enc e (w.alloc (.cells cs e)) base (.slice (some ⟨w.heap.size, 0, none⟩) l.length l.length) l := by
  subst hc
  have := World.ownsRow_lit (base := base) (e := e) (size := 1) w (l.map enc).toArray l.length hb hm (by simp)
  simpa [OwnG] using this
end
theorem wpList_append_one {P : Program} {w : World} {ops : Array Oper} {rest : List Oper} {o : Oper} {a : Act} {Q : Exit → Act → World → Prop} (hgd : o.guard = none) (s x : Operand) (t : TypeId)
    (ho : o.op = .call { callee := .builtin .append, args := #[s, x], argTypes := #[t, t] })
    (base : Nat) (e : TypeId) (i : TypeInfo) (z : Value) (bytes : Nat) (ht : P.underlying t = some (.slice e)) (hi : P.info? e = some i) (hz : i.zero = some z)
    (hsize : i.size = 1) (hby : i.bytes = bytes) (hzs : z.cells.size = 1)
    (v : Value) (n : Nat) (xs : List Value) (hs : a.eval s = v) (hown : w.ownsRow base e 1 v n xs) (ad : Addr) (y : Value) (hy : y.oneCell' = true) (hx : a.eval x = .slice (some ad) 1 1) (hsrc : w.cell? ad = some y)
    (h63 : n + 1 ≤ maxLen) (hbytes : (n + 1) * bytes ≤ 140737488355328) (hbase : base ≤ w.heap.size)
    (h : ∀ v' w', w'.ownsRow base e 1 v' (n + 1) (xs ++ [y]) → w.grownBy w' v.ownBlock → (v'.ownBlock = v.ownBlock ∨ v'.ownBlock = some w.heap.size) → wpList P ops Q rest (a.put o.dst v') w') : wpList P ops Q (o :: rest) a w := by
  refine wpList_append_own_at w hgd s x t ho base e i z 1 bytes ht hi hz hsize hby hzs (by decide) v n xs hs hown ad 1 1 [y] hx rfl ?_ ?_ h63 hbytes hbase (fun v' w' h1 h2 _ h4 => h v' w' h1 h2 h4)
  · intro j u hj
    match j, hj with
    | 0, hj =>
      simp at hj
      subst hj
      exact hsrc
  · intro u hu
    simp at hu
    subst hu
    exact hy
theorem wpList_append_fresh {P : Program} {α : Type} {enc : α → Value} (henc : ∀ x, (enc x).oneCell' = true) {w : World} {ops : Array Oper} {rest : List Oper} {o : Oper} {a : Act} {Q : Exit → Act → World → Prop}
    (hgd : o.guard = none) (s x : Operand) (t : TypeId) (ho : o.op = .call { callee := .builtin .append, args := #[s, x], argTypes := #[t, t] })
    (e : TypeId) (i : TypeInfo) (z : Value) (bytes : Nat) (ht : P.underlying t = some (.slice e)) (hi : P.info? e = some i) (hz : i.zero = some z) (hsize : i.size = 1) (hby : i.bytes = bytes) (hzs : z.cells.size = 1)
    (q : Nat) (hs : a.eval s = .slice (some ⟨q, 0, none⟩) 0 0) (vx : Value) (l : List α) (hx : a.eval x = vx) (hsrc : SliceAt enc w vx l) (hl : 0 < l.length) (h63 : l.length ≤ maxLen) (hbytes : l.length * bytes ≤ 140737488355328)
    (h : ∀ v' w', w'.ownsRow w.heap.size e 1 v' l.length (l.map enc) → Ext w w' → wpList P ops Q rest (a.put o.dst v') w') : wpList P ops Q (o :: rest) a w := by
  obtain ⟨ad, cap, rfl, _, hsrc⟩ := hsrc
  rcases hsrc with ⟨rfl, _⟩ | ⟨b, off, rfl, hb, hc⟩
  · simp at hl
  · refine wpList_append_grows w hgd s x t ho e i z 1 bytes ht hi hz hsize hby hzs (by decide) (some ⟨q, 0, none⟩) 0 0 [] hs (fun _ => ⟨rfl, rfl⟩) rfl (fun _ _ _ _ h => by simp at h) ⟨b, off, none⟩ l.length cap (l.map enc) hx (by simp) ?_ ?_ (by omega) (by omega) (by simpa using hbytes) ?_
    · intro j u hj
      have hjl : j < l.length := by
        rcases Nat.lt_or_ge j l.length with h' | h'
        · exact h'
        · rw [List.getElem?_eq_none (by simpa using h')] at hj; cases hj
      have : u = enc l[j] := by simpa [hjl] using hj.symm
      rw [this, add_plain]; exact hc j hjl
    · intro u hu
      obtain ⟨y, _, rfl⟩ := List.mem_map.1 hu
      exact henc y
    · intro v' w' h1 h2
      refine h v' w' (by simpa using h1) ?_
      exact (Below.refl _ _).grown h2 (Nat.le_refl _) (fun k hk => by cases hk)
theorem wpList_append_lit {P : Program} {α : Type} {enc : α → Value} (henc : ∀ x, (enc x).oneCell' = true) {w : World} {ops : Array Oper} {rest : List Oper} {o : Oper} {a : Act} {Q : Exit → Act → World → Prop}
    (hgd : o.guard = none) (s x : Operand) (t : TypeId) (ho : o.op = .call { callee := .builtin .append, args := #[s, x], argTypes := #[t, t] })
    (e : TypeId) (i : TypeInfo) (z : Value) (bytes : Nat) (ht : P.underlying t = some (.slice e)) (hi : P.info? e = some i) (hz : i.zero = some z) (hsize : i.size = 1) (hby : i.bytes = bytes) (hzs : z.cells.size = 1)
    (base q : Nat) (hs : a.eval s = .slice (some ⟨q, 0, none⟩) 0 0) (hown : w.ownsRow base e 1 (.slice (some ⟨q, 0, none⟩) 0 0) 0 []) (hbase : base ≤ w.heap.size)
    (vx : Value) (l : List α) (hx : a.eval x = vx) (hsrc : SliceAt enc w vx l) (h63 : l.length ≤ maxLen) (hbytes : l.length * bytes ≤ 140737488355328)
    (h : ∀ v' w', OwnG enc e w' base v' l → Ext w w' → (∀ g, ownB v' = some g → w.heap.size ≤ g ∧ g < w'.heap.size) → wpList P ops Q rest (a.put o.dst v') w') : wpList P ops Q (o :: rest) a w := by
  cases l with
  | nil =>
    obtain ⟨ad, cap, rfl, _, hsrc⟩ := hsrc
    have key : wpList P ops Q rest (a.put o.dst (.slice (some ⟨q, 0, none⟩) 0 0)) w := h _ w (by unfold OwnG; simpa using hown) (Ext.refl _) (fun g hg => by simp [ownB] at hg)
    cases ad with
    | none =>
      rcases hsrc with ⟨_, hc⟩ | ⟨b, off, hn, _⟩
      · rw [hc rfl] at hx
        exact wpList_append_own_none hgd s x t ho base e i 1 ht hi _ 0 [] hs hown (by simpa using hx) key
      · cases hn
    | some ad =>
      refine wpList_plain hgd fun K hK => ?_
      have hrun := run_append_room_cells (P := P) w t o.type e i ht hi q 0 0 0 ad 0 cap [] (by simp) (by simp) (by simp) (Nat.le_refl _) (by simp) (by simp)
      unfold Oper.wp
      simp [execOp, ho, resolve, invoke, builtin, hs, hx, hrun, Result.andThen]
      exact hK _ _ key
  | cons y l =>
    refine wpList_append_fresh henc hgd s x t ho e i z bytes ht hi hz hsize hby hzs q hs vx (y :: l) hx hsrc (by simp) h63 hbytes (fun v' w' h1 h2 => h v' w' ?_ h2 ?_)
    · exact ⟨h1.1, h1.2.imp id (fun ⟨g, cap, cur, hv, hg, r⟩ => ⟨g, cap, cur, hv, Nat.le_trans hbase hg, r⟩)⟩
    · intro g hg
      rcases h1.2 with ⟨hv, _⟩ | ⟨g', cap, cur, hv, hg', hh, _⟩
      · rw [hv] at hg; simp [ownB] at hg
      · rw [hv] at hg
        cases cap with
        | zero => simp [ownB] at hg
        | succ c => simp [ownB] at hg; subst hg; exact ⟨hg', (Array.getElem?_eq_some_iff.1 hh).1⟩
theorem fix_last {P : Program} {l : List Oper} {Q : Exit → Act → World → Prop} {i : Nat} {o : Oper} {S : World → Prop} {a : Act} {w : World} (ho : nth l i = some o) (hw : Region.wanted o (yielded l.toArray a.tmps) = true) (hc : coversB .any l.toArray i = true)
    (k : ∀ K : Act → World → Prop, (∀ a' w', Q .normal a' w' → K a' w') → o.wp P a w K (Calm Q)) : wpFix P l Q [(i, false)] S a w :=
  ord_do (nth_get ho) hw fun K hK => k K fun a' w' h2 => hK (fun _ => True) a' w' (.inr hc) trivial h2
theorem SliceAt.get {α : Type} {enc : α → Value} {w : World} {ad : Option Addr} {n cap : Nat} {l : List α} (h : SliceAt enc w (.slice ad n cap) l) (k : Nat) (hk : k < l.length) : ∃ b off, ad = some ⟨b, off, none⟩ ∧ b < w.heap.size ∧ w.cell? ⟨b, off + k, none⟩ = some (enc l[k]) := by
  obtain ⟨ad', cap', hv, hca, h⟩ := h
  injection hv with h1 h2 h3
  subst h1
  rcases h with ⟨h0, _⟩ | ⟨b, off, h4, h5, h6⟩
  · rw [h0] at hk; simp at hk
  · exact ⟨b, off, h4, h5, h6 k hk⟩
theorem SliceAt.sub {α : Type} {enc : α → Value} {w : World} {b off m cap : Nat} {l : List α} (h : SliceAt enc w (.slice (some ⟨b, off, none⟩) m cap) l) (i n c : Nat) (hi : i + n ≤ l.length) (hb : b < w.heap.size) (hc : n ≤ c) :
    SliceAt enc w (.slice (some ⟨b, off + i, none⟩) n c) ((l.drop i).take n) := by
  have hl : ((l.drop i).take n).length = n := by rw [List.length_take, List.length_drop]; omega
  obtain ⟨ad', cap', hv, hca, h⟩ := h
  injection hv with h1 h2 h3
  refine ⟨_, c, by rw [hl], by omega, .inr ⟨b, off + i, rfl, hb, fun j hj => ?_⟩⟩
  rw [hl] at hj
  rcases h with ⟨h0, _⟩ | ⟨b', off', h4, h5, h6⟩
  · rw [h0] at hi; simp at hi; omega
  · rw [← h1] at h4
    cases h4
    rw [Nat.add_assoc, h6 (i + j) (by omega), List.getElem_take, List.getElem_drop]
theorem SliceR.elem {α : Type} {p : Pat α} {w : World} {ad : Option Addr} {n cap : Nat} {l : List (List α)} (h : SliceR (Pat.slice p) w (.slice ad n cap) l) (k : Nat) (hk : k < l.length) :
    ∃ b off v, ad = some ⟨b, off, none⟩ ∧ b < w.heap.size ∧ w.cell? ⟨b, off + k, none⟩ = some v ∧ SliceR p w v l[k] ∧ l[k].length ≤ maxLen := by
  obtain ⟨ad', cap', hv, hca, h⟩ := h
  injection hv with h1 h2 h3
  subst h1
  rcases h with ⟨h0, _⟩ | ⟨b, off, h4, h5, h6⟩
  · rw [h0] at hk; simp at hk
  · obtain ⟨cs, ⟨v, hcs, hv, hm⟩, hc⟩ := h6 k hk
    subst hcs
    have h0 := hc 0 (by simp)
    rw [show (Pat.slice p).size = 1 from rfl] at h0
    simp only [Nat.mul_one, Nat.add_zero] at h0
    exact ⟨b, off, v, h4, h5, h0, hv, hm⟩
theorem SliceR.nil {α : Type} {p : Pat α} {w : World} : SliceR p w (.slice none 0 0) ([] : List α) := ⟨none, 0, rfl, Nat.le_refl _, .inl ⟨rfl, fun _ => rfl⟩⟩
theorem SliceR.shape {α : Type} {p : Pat α} {w : World} {v : Value} {l : List α} (h : SliceR p w v l) : ∃ a c, v = .slice a l.length c := by
  obtain ⟨a, c, h1, _⟩ := h; exact ⟨a, c, h1⟩
theorem SliceAt.shape {α : Type} {enc : α → Value} {w : World} {v : Value} {l : List α} (h : SliceAt enc w v l) : ∃ a c, v = .slice a l.length c := by
  obtain ⟨a, c, h1, _⟩ := h; exact ⟨a, c, h1⟩
theorem SliceAt.toR {α : Type} {f : α → Value} {ok : α → Prop} {w : World} {v : Value} {l : List α} (h : SliceAt f w v l) (hok : ∀ x ∈ l, ok x) : SliceR (Pat.one f ok) w v l := by
  obtain ⟨ad, cap, hv, hca, h⟩ := h
  refine ⟨ad, cap, hv, hca, h.imp id ?_⟩
  rintro ⟨b, off, h1, h2, h3⟩
  refine ⟨b, off, h1, h2, fun i hi => ⟨[f l[i]], ⟨rfl, hok _ (List.getElem_mem hi)⟩, fun j hj => ?_⟩⟩
  have : j = 0 := by simp at hj; exact hj
  subst this
  rw [show (Pat.one f ok).size = 1 from rfl]
  simp only [Nat.mul_one, Nat.add_zero, List.getElem_cons_zero]
  exact h3 i hi
theorem SliceR.rows {α : Type} {p : Pat α} {w : World} {v : Value} {vs : List Value} {ls : List (List α)} (h : SliceAt id w v vs) (hl : vs.length = ls.length) (he : ∀ i (h1 : i < vs.length) (h2 : i < ls.length), SliceR p w vs[i] ls[i] ∧ ls[i].length ≤ maxLen) : SliceR (Pat.slice p) w v ls := by
  obtain ⟨ad, cap, hv, hca, h⟩ := h
  refine ⟨ad, cap, by rw [← hl]; exact hv, by omega, ?_⟩
  rcases h with ⟨h1, h2⟩ | ⟨b, off, h1, h2, h3⟩
  · left; exact ⟨List.eq_nil_of_length_eq_zero (by rw [← hl, h1]; rfl), h2⟩
  · right
    refine ⟨b, off, h1, h2, fun i hi => ?_⟩
    have hi' : i < vs.length := by omega
    refine ⟨[vs[i]], ⟨vs[i], rfl, (he i hi' hi).1, (he i hi' hi).2⟩, fun j hj => ?_⟩
    have : j = 0 := by simp at hj; exact hj
    subst this
    rw [show (Pat.slice p).size = 1 from rfl]
    simp only [Nat.mul_one, Nat.add_zero, List.getElem_cons_zero]
    exact h3 i hi'
end Go.Proofs.YtjabgpejmnpamaaGreatDoor

namespace Go.Proofs.YtjabgpejmnpamaaGreatDoor
open Go.RowKit
def subA (a : Option Addr) (lo cap : Nat) : Option Addr := if cap = lo then a else a.map (·.add lo)
theorem SliceAt.cut {α : Type} {enc : α → Value} {w : World} {a : Option Addr} {n cap : Nat} {l : List α} (h : SliceAt enc w (.slice a n cap) l) (lo hi : Nat) (h1 : lo ≤ hi) (h2 : hi ≤ l.length) :
    SliceAt enc w (.slice (subA a lo cap) (hi - lo) (cap - lo)) ((l.drop lo).take (hi - lo)) := by
  have hl : ((l.drop lo).take (hi - lo)).length = hi - lo := by rw [List.length_take, List.length_drop]; omega
  obtain ⟨ad, c, hv, hca, h⟩ := h
  injection hv with e1 e2 e3
  subst e1 e2 e3
  refine ⟨_, _, by rw [hl], by rw [hl]; omega, ?_⟩
  rcases h with ⟨h0, hc⟩ | ⟨b, off, e4, e5, e6⟩
  · subst h0
    have hlo : lo = 0 := by simp at h2; omega
    subst hlo
    left
    refine ⟨by simp, fun hn => ?_⟩
    unfold subA at hn
    split at hn
    · rw [hc hn]
    · cases a with
      | none => rw [hc rfl]
      | some a => simp at hn
  · by_cases hz : hi - lo = 0
    · left
      refine ⟨List.eq_nil_of_length_eq_zero (by rw [hl]; exact hz), fun hn => ?_⟩
      unfold subA at hn
      rw [e4] at hn
      split at hn <;> simp at hn
    · right
      refine ⟨b, off + lo, ?_, e5, fun i hi' => ?_⟩
      · unfold subA
        rw [if_neg (by omega), e4, Option.map_some, add_plain]
      · rw [hl] at hi'
        rw [Nat.add_assoc, e6 (lo + i) (by omega), List.getElem_take, List.getElem_drop]
theorem SliceAt.cutA {α : Type} {enc : α → Value} {w : World} {a : Option Addr} {n cap : Nat} {l : List α} (h : SliceAt enc w (.slice a n cap) l) (lo hi : Nat) (h1 : lo ≤ hi) (h2 : hi ≤ l.length) :
    ∃ A, (if cap = lo then a else Option.map (fun x => x.add lo) a) = A ∧ SliceAt enc w (.slice A (hi - lo) (cap - lo)) ((l.drop lo).take (hi - lo)) :=
  ⟨_, rfl, h.cut lo hi h1 h2⟩
end Go.Proofs.YtjabgpejmnpamaaGreatDoor

namespace Go.Proofs.YtjabgpejmnpamaaGreatDoor
open Go.RowKit
abbrev geoV (r b t s o : Int) : Value := .agg #[.int .i64 r, .int .i64 b, .int .i64 t, .int .i64 s, .int .i64 o]
def validB (r b t s o : Int) : Bool := decide (0 ≤ r ∧ r ≤ 16384 ∧ 1 ≤ b ∧ b ≤ 64 ∧ 1 ≤ t ∧ t ≤ 16 ∧ 1 ≤ s ∧ s ≤ 64 ∧ 0 ≤ o ∧ o ≤ 3)
def withinB (n lo hi : Int) : Bool := decide (lo ≤ n ∧ n ≤ hi)
theorem gwithin_any (n lo hi : Int) (w : World) :
    Calls Tryz.prog 158 #[.int .i64 n, .int .i64 lo, .int .i64 hi] w fun e w' => e = .returned (.bool (withinB n lo hi)) ∧ w = w' := by
  go_enter Tryz.func158, Tryz.ntmps158
  go_wp2
  all_goals go_ret
  all_goals exact ⟨ret_iff (by simp only [withinB, decide_eq_true_eq, Bool.false_eq_true]; constructor <;> intro h <;> first | exact False.elim h | omega), rfl⟩
set_option maxHeartbeats 400000 in
theorem gvalid_any (r b t s o : Int) (w : World) :
    Calls Tryz.prog 105 #[geoV r b t s o] w fun e w' => e = .returned (.bool (validB r b t s o)) ∧ Below w.heap.size w w' := by
  go_enter Tryz.func105, Tryz.ntmps105
  go_wp2_with (go_at_call 158; refine (gwithin_any _ _ _ _).mono ?_; rintro e w' ⟨rfl, rfl⟩)
  all_goals go_ret
  all_goals exact ⟨ret_iff (by simp only [withinB, validB, decide_eq_true_eq, Bool.false_eq_true] at *; constructor <;> intro h <;> first | exact False.elim h | omega), (Below.refl _ _).alloc (Nat.le_refl _) _⟩
structure Cfg where
  d : Int
  w : Int
  t : Int
  s : Int
  r : Int
  b : Int
  k : Int
  c : Int
  o : Int
  a : Int
  g : Int
def cfgL (c : Cfg) : List Int := [c.d, c.w, c.t, c.s, c.r, c.b, c.k, c.c, c.o, c.a, c.g]
abbrev cfgV (c : Cfg) : Value := .agg #[.int .i64 c.d, .int .i64 c.w, .int .i64 c.t, .int .i64 c.s, .int .i64 c.r, .int .i64 c.b, .int .i64 c.k, .int .i64 c.c, .int .i64 c.o, .int .i64 c.a, .int .i64 c.g]
def cfgHead (c : Cfg) : Bool := decide (4 ≤ c.d ∧ c.d ≤ 60 ∧ 4 ≤ c.w ∧ c.w ≤ 16 ∧ c.w ≤ c.d ∧ 1 ≤ c.t ∧ c.t ≤ 256 ∧ 0 ≤ c.s ∧ c.s ≤ 65535)
def cfgB (c : Cfg) : Bool := cfgHead c && validB c.r c.b c.k c.c c.o && decide (1 ≤ c.a ∧ 1 ≤ c.g ∧ c.a ≤ c.r ∧ c.g ≤ c.r ∧ 12 + 2 * c.a + c.g ≤ c.r)
def CfgEnd (W : World) (b : Bool) (e : Ending) (w' : World) : Prop := e = .returned (.bool b) ∧ Below W.heap.size W w'
set_option maxRecDepth 100000 in
set_option maxHeartbeats 2000000 in
theorem config_any (c : Cfg) (w : World) : Calls Tryz.prog 69 #[cfgV c] w (CfgEnd w (cfgB c)) := by
  obtain ⟨d, ww, t, s, r, b, k, cc, o, a, g⟩ := c
  obtain ⟨V, hV⟩ : ∃ V, validB r b k cc o = V := ⟨_, rfl⟩
  have HV := Lib.hid hV
  have HB : Hid (cfgB ⟨d, ww, t, s, r, b, k, cc, o, a, g⟩ = (decide (4 ≤ d ∧ d ≤ 60 ∧ 4 ≤ ww ∧ ww ≤ 16 ∧ ww ≤ d ∧ 1 ≤ t ∧ t ≤ 256 ∧ 0 ≤ s ∧ s ≤ 65535) && V && decide (1 ≤ a ∧ 1 ≤ g ∧ a ≤ r ∧ g ≤ r ∧ 12 + 2 * a + g ≤ r))) := by show _ = _; unfold cfgB cfgHead; rw [hV]
  rw [HB.out]
  have HR : Hid (V = true → r ≤ 16384) := fun h => by rw [← hV] at h; unfold validB at h; rw [decide_eq_true_eq] at h; exact h.2.1
  clear hV
  by_cases hh : 4 ≤ d ∧ d ≤ 60 ∧ 4 ≤ ww ∧ ww ≤ 16 ∧ ww ≤ d ∧ 1 ≤ t ∧ t ≤ 256 ∧ 0 ≤ s ∧ s ≤ 65535
  · rw [decide_eq_true hh]
    obtain ⟨h1, h2, h3, h4, h5, h6, h7, h8, h9⟩ := hh
    have e1 : decide (d ≤ 3) = false := by rw [decide_eq_false_iff_not]; omega
    have e2 : decide (60 < d) = false := by rw [decide_eq_false_iff_not]; omega
    have e3 : decide (ww ≤ 3) = false := by rw [decide_eq_false_iff_not]; omega
    have e4 : decide (16 < ww) = false := by rw [decide_eq_false_iff_not]; omega
    have e5 : decide (d < ww) = false := by rw [decide_eq_false_iff_not]; omega
    have e6 : decide (t < 1) = false := by rw [decide_eq_false_iff_not]; omega
    have e7 : decide (256 < t) = false := by rw [decide_eq_false_iff_not]; omega
    have e8 : decide (s < 0) = false := by rw [decide_eq_false_iff_not]; omega
    have e9 : decide (65536 ≤ s) = false := by rw [decide_eq_false_iff_not]; omega
    go_enter Tryz.func69, Tryz.ntmps69
    go_wp2_with fail
    go_at_call 105
    have hg := gvalid_any r b k cc o
    rw [HV.out] at hg
    refine (hg _).mono ?_
    rintro e w2 ⟨rfl, hb2⟩
    have hx2 : Ext w w2 := (Ext.alloc _ _).trans hb2
    have hc2 := Ext.cells hb2
    have hs2 := Ext.size hb2
    cases V with
    | false =>
      go_wp2_with fail
      go_ret
      exact ⟨rfl, hx2⟩
    | true =>
      have hr := HR.out rfl
      go_wp2
      all_goals go_ret
      all_goals exact ⟨ret_iff (by simp only [Bool.and_eq_true, decide_eq_true_eq, Bool.false_eq_true, Bool.true_and] at *; constructor <;> intro h <;> first | exact False.elim h | omega), hx2⟩
  · rw [decide_eq_false hh]
    go_enter Tryz.func69, Tryz.ntmps69
    go_wp2_with fail
    all_goals first | (go_at_call 105; exfalso; exact hh (by omega)) | skip
    all_goals go_ret
    all_goals exact ⟨rfl, (Below.refl _ _).alloc (Nat.le_refl _) _⟩
end Go.Proofs.YtjabgpejmnpamaaGreatDoor

namespace Go.Proofs.YtjabgpejmnpamaaGreatDoor
open Go.RowKit
structure Lab where
  array : BitVec 64
  disk : Int
  gen : BitVec 64
  prev : BitVec 64
  c : Cfg
  blob : Int
  sum : BitVec 64
  root : BitVec 64
abbrev labV (l : Lab) (d : Value) : Value := .agg #[encU l.array, .int .i64 l.disk, encU l.gen, encU l.prev, .int .i64 l.c.d, .int .i64 l.c.w, .int .i64 l.c.t, .int .i64 l.c.s, .int .i64 l.c.r, .int .i64 l.c.b, .int .i64 l.c.k, .int .i64 l.c.c, .int .i64 l.c.o, .int .i64 l.c.a, .int .i64 l.c.g, d, .int .i64 l.blob, encU l.sum, encU l.root]
abbrev labA (l : Lab) (d : Value) : Array Value := #[encU l.array, .int .i64 l.disk, encU l.gen, encU l.prev, .int .i64 l.c.d, .int .i64 l.c.w, .int .i64 l.c.t, .int .i64 l.c.s, .int .i64 l.c.r, .int .i64 l.c.b, .int .i64 l.c.k, .int .i64 l.c.c, .int .i64 l.c.o, .int .i64 l.c.a, .int .i64 l.c.g, d, .int .i64 l.blob, encU l.sum, encU l.root]
def deadN (l : List Bool) (n : Nat) : Nat := ((l.take n).filter id).length
theorem deadN_succ {l : List Bool} {n : Nat} (h : n < l.length) : deadN l (n + 1) = deadN l n + (if l[n] then 1 else 0) := by
  unfold deadN
  rw [List.take_succ_eq_append_getElem h, List.filter_append, List.length_append]
  cases l[n] <;> simp
theorem deadN_le (l : List Bool) (n : Nat) : deadN l n ≤ n := Nat.le_trans (List.length_filter_le _ _) (by rw [List.length_take]; omega)
set_option maxRecDepth 100000 in
set_option maxHeartbeats 1000000 in
theorem dead_any (l : Lab) (dv : Value) (ds : List Bool) (w : World) (hl : ds.length ≤ 100000) (h : SliceAt Value.bool w dv ds) :
    Calls Tryz.prog 70 #[labV l dv] w fun e w' => e = .returned (.int .i64 (deadN ds ds.length : Nat)) ∧ Below w.heap.size w w' := by
  obtain ⟨ad, cap, rfl⟩ := h.shape
  have HS := Lib.hid h
  have HX : Hid (Ext w (w.alloc (.cells (labA l (.slice ad ds.length cap)) 29))) := Ext.alloc _ _
  have HB : Hid (BoxAt (w.alloc (.cells (labA l (.slice ad ds.length cap)) 29)) w.heap.size (labA l (.slice ad ds.length cap)) 29) := BoxAt.new _ _ _
  obtain ⟨n, hn⟩ : ∃ n, ds.length = n := ⟨_, rfl⟩
  have HN := Lib.hid hn
  have hdl := deadN_le ds
  rw [hn] at hl ⊢
  rw [hn] at HS HX HB
  clear h hn
  go_enter Tryz.func70, Tryz.ntmps70
  go_wp2_with fail
  go_loopw [3, 9] (fun cv iv wr => ∃ i : Nat, i ≤ n ∧ iv = .int .i64 i ∧ cv = .int .i64 (deadN ds i : Nat) ∧ Hid (Ext w wr)) (fun _ iv _ => n - (intOf iv).toNat)
  case atStart => exact ⟨0, Nat.zero_le _, rfl, by simp [deadN], HX⟩
  case round =>
    obtain ⟨i, hi, rfl, rfl, HXr⟩ := hrel
    by_cases hlt : i < n
    · have hin : (i : Int) < (n : Int) := by omega
      obtain ⟨b, off, rfl, hb, hc⟩ := (HS.out.ext HXr.out).get i (by rw [HN.out]; exact hlt)
      have HD := Lib.hid (deadN_succ (l := ds) (n := i) (by rw [HN.out]; exact hlt))
      have hd2 := hdl i
      generalize ds[i]'(by rw [HN.out]; exact hlt) = y at *
      generalize deadN ds i = D at *
      cases y with
      | false =>
        go_wp2_with fail
        go_roundw
        case rel => exact ⟨i + 1, by omega, by go_num, by rw [HD.out]; simp, HXr⟩
        case measure => simp [intOf]; omega
      | true =>
        go_wp2_with fail
        go_roundw
        case rel => exact ⟨i + 1, by omega, by go_num, by rw [HD.out]; simp, HXr⟩
        case measure => simp [intOf]; omega
    · have hin : i = n := by omega
      subst hin
      have hin2 : ¬ ((i : Int) < (i : Int)) := by omega
      go_wp2_with fail
      go_ret
      exact ⟨rfl, HXr.out⟩
end Go.Proofs.YtjabgpejmnpamaaGreatDoor
