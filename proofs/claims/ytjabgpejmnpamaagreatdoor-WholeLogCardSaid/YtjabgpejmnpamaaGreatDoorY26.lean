/-
  Part 26 of the proof.
-/
import Derived.Test.YtjabgpejmnpamaaGreatDoorY23
set_option linter.unusedVariables false
namespace Go.Proofs.YtjabgpejmnpamaaGreatDoor
open Go.RowKit Go.Shelf
set_option maxRecDepth 100000
attribute [local go_sem] Oper.semAt_some
theorem min2i {P : Program} (w : World) (ts : Array TypeId) (t : TypeId) (a b : Int) :
    (Builtin.min_ ts t #[.int .i64 a, .int .i64 b]).run P w = .ok (.int .i64 (min a b)) w := by
  have e : (if b < a then b else a) = min a b := by split <;> omega
  have : (Builtin.min_ ts t #[.int .i64 a, .int .i64 b]).run P w = .ok (.int .i64 (if b < a then b else a)) w := rfl
  rw [this, e]
def lists54 : List (List Int) := [[0, 1, 2, 3], [0, 1, 2, 4], [0, 1, 3, 4], [0, 2, 3, 4], [1, 2, 3, 4]]
theorem infoS : (Tryz.prog.info? 40).map (fun i => (i.zero, i.size, i.bytes)) = some (some (.slice none 0 0), 1, 24) := by kernel_rfl
theorem all_node {g6 : Nat} : Node g6 [] lists54 := by
  have l0123 : Node g6 [0, 1, 2, 3] [[0, 1, 2, 3]] := node_leaf rfl
  have l0124 : Node g6 [0, 1, 2, 4] [[0, 1, 2, 4]] := node_leaf rfl
  have l0134 : Node g6 [0, 1, 3, 4] [[0, 1, 3, 4]] := node_leaf rfl
  have l0234 : Node g6 [0, 2, 3, 4] [[0, 2, 3, 4]] := node_leaf rfl
  have l1234 : Node g6 [1, 2, 3, 4] [[1, 2, 3, 4]] := node_leaf rfl
  have n012 := node_3_1 (p := [0, 1, 2]) rfl rfl l0123 l0124
  have n013 := node_3_0 (p := [0, 1, 3]) rfl rfl l0134
  have n023 := node_3_0 (p := [0, 2, 3]) rfl rfl l0234
  have n123 := node_3_0 (p := [1, 2, 3]) rfl rfl l1234
  have n01 := node_2_1 (p := [0, 1]) rfl rfl n012 n013
  have n02 := node_2_0 (p := [0, 2]) rfl rfl n023
  have n12 := node_2_0 (p := [1, 2]) rfl rfl n123
  have n0 := node_1_1 (p := [0]) rfl rfl n01 n02
  have n1 := node_1_0 (p := [1]) rfl rfl n12
  exact node_0_1 (p := []) rfl n0 n1
def RowsI (w : World) (v : Value) (ls : List (List Int)) : Prop := ∃ vs : List Value, SliceAt id w v vs ∧ vs.length = ls.length ∧ ∀ i (h1 : i < vs.length) (h2 : i < ls.length), SliceAt encI w vs[i] ls[i]
theorem RowsI.shape {w : World} {v : Value} {ls : List (List Int)} (h : RowsI w v ls) : ∃ a c, v = .slice a ls.length c := by
  obtain ⟨vs, h1, h2, h3⟩ := h
  obtain ⟨a, c, rfl⟩ := h1.shape
  exact ⟨a, c, by rw [h2]⟩
theorem RowsI.at {w : World} {ad : Option Addr} {n cap : Nat} {ls : List (List Int)} (h : RowsI w (.slice ad n cap) ls) (k : Nat) (hk : k < ls.length) :
    ∃ b off v, ad = some ⟨b, off, none⟩ ∧ b < w.heap.size ∧ w.cell? ⟨b, off + k, none⟩ = some v ∧ SliceAt encI w v ls[k] := by
  obtain ⟨vs, h1, h2, h3⟩ := h
  have hk1 : k < vs.length := by rw [h2]; exact hk
  obtain ⟨b, off, rfl, hb, hc⟩ := h1.get k hk1
  exact ⟨b, off, vs[k], rfl, hb, hc, h3 k hk1 hk⟩
structure CI (w0 : World) (g4 g6 : Nat) (acc : List VL) (W : World) : Prop where
  row : ∃ rv, BoxAt W g6 #[.int .i64 5, rv] 117 ∧ OwnG id 40 W w0.heap.size rv (acc.map (·.1))
  all : ∀ x, x ∈ acc → OwnI W 0 x.1 x.2
  box4 : BoxAt W g4 #[.int .i64 0, .slice none 0 0] 117
  bel : Below w0.heap.size w0 W
theorem own_any {α : Type} {enc : α → Value} {e : TypeId} {b : Nat} {β : Type} {B : Nat} {v : Value} {l : List α} : OwnFrom B (fun (_ : β) W => OwnG enc e W b v l) := fun s X Y row hs hg hr => by
  refine OwnG.kept hs hg ?_
  cases hv : v.ownBlock with
  | none => exact .inr rfl
  | some g =>
    refine .inl (fun e => ?_)
    obtain ⟨_, o, ho, hc⟩ := hr g e.symm
    rcases hs.2 with ⟨h1, _⟩ | ⟨q, cap, cur, h1, _, h3, _⟩
    · rw [h1] at hv; simp [Value.ownBlock] at hv
    · rw [h1] at hv
      simp [Value.ownBlock] at hv
      subst hv
      rw [h3] at ho
      cases ho
      cases hc
theorem ci_own {w0 : World} {g4 g6 B : Nat} (hB : w0.heap.size ≤ B) : OwnFrom B (CI w0 g4 g6) := fun s X Y row hs hg hr => by
  obtain ⟨⟨rv, h1, h2⟩, h3, h4, h5⟩ := hs
  exact ⟨⟨rv, box_own (β := Unit) B () X Y row h1 hg hr, own_any (β := Unit) (B := B) () X Y row h2 hg hr⟩, fun x hx => own_any (β := Unit) (B := B) () X Y row (h3 x hx) hg hr, box_own (β := Unit) B () X Y row h4 hg hr, ownFrom_below (β := Unit) (Nat.le_refl _) hB () X Y row h5 hg hr⟩
theorem ssrows_apart {α β : Type} {enc : α → Value} {enc' : β → Value} {e e' : TypeId} {w : World} {b b' : Nat} {v v' : Value} {l : List α} {l' : List β} (h : OwnG enc e w b v l) (h' : OwnG enc' e' w b' v' l') (ne : e ≠ e') : v'.ownBlock ≠ v.ownBlock ∨ v'.ownBlock = none := by
  rcases h.2 with ⟨h1, _⟩ | ⟨q, cap, cur, h1, _, h3, _⟩
  · cases hv : v'.ownBlock with
    | none => exact .inr rfl
    | some g => exact .inl (by rw [h1]; simp [Value.ownBlock])
  · rcases h'.2 with ⟨k1, _⟩ | ⟨q', cap', cur', k1, _, k3, _⟩
    · exact .inr (by rw [k1]; rfl)
    · refine .inl (fun he => ?_)
      rw [h1, k1] at he
      simp [Value.ownBlock] at he
      subst he
      rw [h3] at k3
      cases k3
      exact ne rfl
theorem row_cells {α : Type} {enc : α → Value} {e : TypeId} {w : World} {b k : Nat} {v : Value} {l : List α} {o : Obj} (h : OwnG enc e w b v l) (hk : v.ownBlock = some k) (ho : w.heap[k]? = some o) : o.isCells = true := by
  rcases h.2 with ⟨h1, _⟩ | ⟨q, cap, cur, h1, _, h3, _⟩
  · rw [h1] at hk; simp [Value.ownBlock] at hk
  · rw [h1] at hk
    simp [Value.ownBlock] at hk
    subst hk
    rw [h3] at ho
    cases ho
    rfl
theorem ci_put {w0 W W1 w7 : World} {g4 g6 n : Nat} {acc : List VL} {x : VL} {rv v' : Value} (hall : ∀ x, x ∈ acc → OwnI W 0 x.1 x.2) (h4 : BoxAt W g4 #[.int .i64 0, .slice none 0 0] 117) (hbel : Below w0.heap.size w0 W)
    (h6 : BoxAt W g6 #[.int .i64 5, rv] 117) (hrow : OwnG id 40 W w0.heap.size rv (acc.map (·.1))) (hes : OwnI W 0 x.1 x.2) (hfin : Fin6 g6 W) (e : Ext W W1)
    (ho7 : OwnG id 40 w7 w0.heap.size v' (acc.map (·.1) ++ [x.1])) (hg7 : W1.grownBy w7 rv.ownBlock) (hat : v'.ownBlock = rv.ownBlock ∨ v'.ownBlock = some W1.heap.size) (hge : w0.heap.size ≤ g6) (h46 : g4 ≠ g6) :
    KP g6 0 W (w7.setCell ⟨g6, 1, none⟩ v') ∧ CI w0 g4 g6 (acc ++ [x]) (w7.setCell ⟨g6, 1, none⟩ v') := by
  have hr1 := hrow.ext e
  have ne6 : some g6 ≠ rv.ownBlock := fun h => hr1.not_box (h6.ext e) (by decide) h.symm
  have h67 := (h6.ext e).grown hg7 ne6
  have h68 := h67.set 1 v'
  have ne6' : v'.ownBlock ≠ some g6 := ho7.not_box h67 (by decide)
  have old : ∀ k, k < W.heap.size → k ≠ g6 → rv.ownBlock ≠ some k → (w7.setCell ⟨g6, 1, none⟩ v').heap[k]? = W.heap[k]? := fun k hk h1 h2 =>
    (Below.heap_setCell _ _ _ k h1).trans ((hg7.block k (Nat.lt_of_lt_of_le hk e.size) (fun h => h2 h.symm)).trans (e.block k hk))
  have ho6 : own6 g6 W = rv.ownBlock := by unfold own6; rw [h6.cell 1 (v := rv) rfl]
  have ho8 : own6 g6 (w7.setCell ⟨g6, 1, none⟩ v') = v'.ownBlock := by unfold own6; rw [h68.cell 1 (v := v') rfl]
  have hsz : W1.heap.size ≤ (w7.setCell ⟨g6, 1, none⟩ v').heap.size := by have := hg7.size; simpa using this
  have hsz0 := e.size
  have keep : ∀ y : VL, OwnI W 0 y.1 y.2 → OwnI (w7.setCell ⟨g6, 1, none⟩ v') 0 y.1 y.2 := fun y hy => by
    have h1 := hy.ext e
    have h2 := OwnG.kept h1 hg7 (ssrows_apart hr1 h1 (by decide))
    exact h2.off (h2.not_box h67 (by decide)) 1 v'
  refine ⟨⟨by omega, fun k cs t fr hk hb => ?_, fun k hk hb => ?_, fun hF => ⟨by have := hF.1; omega, fun k hk => ?_⟩, fun k o _ ho hc => ?_⟩, ⟨⟨v', h68, ?_⟩, ?_, ?_, ?_⟩⟩
  · rw [old k (Array.getElem?_eq_some_iff.1 hk).1 (fun h => hb (.inl h)) (fun h => hb (.inr (by rw [ho6]; exact h)))]; exact hk
  · rcases hb with h | h
    · exact .inl h
    · rw [ho8] at h
      rcases hat with h' | h'
      · exact .inr (by rw [ho6, ← h']; exact h)
      · rw [h'] at h; cases h; omega
  · rw [ho8] at hk
    have := (ho7.lt k hk).2
    simpa using this
  · have hk := (Array.getElem?_eq_some_iff.1 ho).1
    rw [old k hk (fun h => ?_) (fun h => ?_)]
    · exact ho
    · subst h
      rw [show W.heap[k]? = _ from h6] at ho
      cases ho; cases hc
    · rw [row_cells hrow h ho] at hc
      cases hc
  · rw [List.map_append]
    exact ho7.off ne6' 1 v'
  · intro y hy
    rw [List.mem_append] at hy
    rcases hy with hy | hy
    · exact keep y (hall y hy)
    · rw [List.mem_singleton] at hy
      subst hy
      exact keep y hes
  · exact ((h4.ext e).grown hg7 (fun h => hr1.not_box (h4.ext e) (by decide) h.symm)).set_off h46 1 v'
  · exact bel_set (Below.grown (Below.trans hbel (Below.mono e hbel.size)) hg7 (Nat.le_trans hbel.size e.size) (fun k hk => (hr1.lt k hk).1)) hge 1 v'
theorem ssrows_of {xs : List VL} {w : World} {b : Nat} {rv : Value} {ls : List (List Int)} (h : OwnG id 40 w b rv (xs.map (·.1))) (ha : ∀ x, x ∈ xs → OwnI w 0 x.1 x.2) (hs : xs.map (·.2) = ls) : RowsI w rv ls := by
  refine ⟨_, h.slice, by rw [← hs, List.length_map, List.length_map], fun i h1 h2 => ?_⟩
  subst hs
  rw [List.length_map] at h1
  rw [List.getElem_map, List.getElem_map]
  exact (ha _ (List.getElem_mem h1)).slice
def RowsW (w : World) (b : Nat) (rv : Value) (ls : List (List Int)) : Prop := ∃ xs : List VL, xs.map (·.2) = ls ∧ OwnG id 40 w b rv (xs.map (·.1)) ∧ ∀ x, x ∈ xs → OwnI w 0 x.1 x.2
theorem RowsW.rows {w : World} {b : Nat} {rv : Value} {ls : List (List Int)} (h : RowsW w b rv ls) : RowsI w rv ls := by
  obtain ⟨xs, h1, h2, h3⟩ := h
  exact ssrows_of h2 h3 h1
theorem RowsW.shape {w : World} {b : Nat} {rv : Value} {ls : List (List Int)} (h : RowsW w b rv ls) : ∃ a c, rv = .slice a ls.length c := h.rows.shape
theorem RowsW.lower {w : World} {b b' : Nat} {rv : Value} {ls : List (List Int)} (h : RowsW w b rv ls) (hb : b' ≤ b) : RowsW w b' rv ls := by
  obtain ⟨xs, h1, h2, h3⟩ := h
  exact ⟨xs, h1, h2.lower hb, h3⟩
theorem RowsW.grown {w w' : World} {b g : Nat} {rv : Value} {ls : List (List Int)} {cs : Array Value} {t : TypeId} (h : RowsW w b rv ls) (hg : w.grownBy w' (some g)) (hb : BoxAt w g cs t) (h1 : t ≠ 40) (h2 : t ≠ 3) : RowsW w' b rv ls := by
  obtain ⟨xs, k1, k2, k3⟩ := h
  exact ⟨xs, k1, k2.kept hg (.inl (k2.not_box hb h1)), fun x hx => (k3 x hx).kept hg (.inl ((k3 x hx).not_box hb h2))⟩
set_option maxHeartbeats 4000000 in
theorem complete_any (w : World) : Calls Tryz.prog 102 #[.int .i64 5, .int .i64 4] w fun e w' => ∃ rv, e = .returned (.tuple #[.agg #[.int .i64 5, rv], .int .i64 0]) ∧ RowsW w' w.heap.size rv lists54 ∧ Below w.heap.size w w' := by
  refine (callsIn_wide (n := 5)).1 ?_
  refine callsIn_of_wp_marks Tryz.func102 rfl trivial ?_ rfl
  simp only [Tryz.ntmps102, List.size_toArray, List.length_cons, List.length_nil, Nat.reduceAdd, Nat.reduceSub, Array.replicate_succ, Array.replicate_zero, List.push_toArray, List.append_toArray, List.nil_append, List.cons_append]
  have hmin := fun (w : World) (ts : Array TypeId) (t : TypeId) (a b : Int) => min2i (P := Tryz.prog) w ts t a b
  gi_wp2_with first | (refine ⟨trivial, ?_⟩; gi_at_call 153; refine (callsIn_wide.2 (dcount_any _)).mono ?_; rintro e w1 ⟨rfl, rfl⟩) | (refine ⟨trivial, ?_⟩; gi_at_call 154; refine (callsIn_wide.2 (sets_any _ _ _ _)).mono ?_; rintro e w2 ⟨rfl, rfl⟩)
  have B4 : BoxAt ((w.alloc (.cells #[.int .i64 0, .slice none 0 0] 117)).alloc (.cells #[.int .i64 5, .slice none 0 0] 117)) w.heap.size #[.int .i64 0, .slice none 0 0] 117 := (BoxAt.new _ _ _).ext (Ext.alloc _ _)
  have B6 : BoxAt ((w.alloc (.cells #[.int .i64 0, .slice none 0 0] 117)).alloc (.cells #[.int .i64 5, .slice none 0 0] 117)) (w.heap.size + 1) #[.int .i64 5, .slice none 0 0] 117 := by
    have := BoxAt.new (w.alloc (.cells #[.int .i64 0, .slice none 0 0] 117)) #[.int .i64 5, .slice none 0 0] 117
    rw [World.size_alloc] at this
    exact this
  have e1 : Ext w ((w.alloc (.cells #[.int .i64 0, .slice none 0 0] 117)).alloc (.cells #[.int .i64 5, .slice none 0 0] 117)) := (Ext.alloc _ _).trans (Ext.alloc _ _)
  generalize ((w.alloc (.cells #[.int .i64 0, .slice none 0 0] 117)).alloc (.cells #[.int .i64 5, .slice none 0 0] 117)) = W1 at *
  obtain ⟨g4, hg4⟩ : ∃ g, w.heap.size = g := ⟨_, rfl⟩
  obtain ⟨g6, hg6⟩ : ∃ g, g4 + 1 = g := ⟨_, rfl⟩
  rw [hg4] at B4 B6 ⊢
  rw [hg6] at B6 ⊢
  have hs1 := B6.lt
  have eU : Ext W1 (setsW W1 (.slice none 0 0)) := (Ext.alloc _ _).trans ((Ext.alloc _ _).trans (Ext.alloc _ _))
  have B1 : BoxAt (setsW W1 (.slice none 0 0)) W1.heap.size #[.slice none 0 0] 40 := ((BoxAt.new _ _ _).ext (Ext.alloc _ _)).ext (Ext.alloc _ _)
  have B3 : BoxAt (setsW W1 (.slice none 0 0)) (W1.heap.size + 1) #[.int .i64 5] 3 := by
    have := BoxAt.new (W1.alloc (.cells #[.slice none 0 0] 40)) #[.int .i64 5] 3
    rw [World.size_alloc] at this
    exact this.ext (Ext.alloc _ _)
  have B2 : BoxAt (setsW W1 (.slice none 0 0)) (W1.heap.size + 1 + 1) #[.int .i64 4] 3 := by
    have := BoxAt.new ((W1.alloc (.cells #[.slice none 0 0] 40)).alloc (.cells #[.int .i64 5] 3)) #[.int .i64 4] 3
    rw [World.size_alloc, World.size_alloc] at this
    exact this
  have B6U := B6.ext eU
  have ho6 : own6 g6 (setsW W1 (.slice none 0 0)) = none := by
    unfold own6
    rw [B6U.cell 1 (v := .slice none 0 0) rfl]
    rfl
  have hbad : ∀ k, g6 < k → ¬ Bad g6 (setsW W1 (.slice none 0 0)) k := fun k hk hb => by
    rcases hb with h | h
    · omega
    · rw [ho6] at h; cases h
  have hNU : NodeAt g6 (setsW W1 (.slice none 0 0)) W1.heap.size (W1.heap.size + 1 + 1) (W1.heap.size + 1) (.slice none 0 0) [] :=
    ⟨⟨B6U.lt, fun k hk => by rw [ho6] at hk; cases hk⟩, B1, B2, B3, OwnG.nil, hbad _ (by omega), hbad _ (by omega), hbad _ (by omega), fun g hg => by cases hg⟩
  have hseq := fun k => child_seq all_node hNU k
  have hgU : g6 < (setsW W1 (.slice none 0 0)).heap.size := B6U.lt
  have hwU : w.heap.size ≤ (setsW W1 (.slice none 0 0)).heap.size := by omega
  have hI0 : CI w g4 g6 [] (setsW W1 (.slice none 0 0)) := ⟨⟨_, B6U, OwnG.nil⟩, fun x hx => absurd hx (by simp), B4.ext eU, e1.trans eU⟩
  have heq : setsV W1 = #[.pointer (some ⟨W1.heap.size, 0, none⟩), .pointer (some ⟨W1.heap.size + 1 + 1, 0, none⟩), .pointer (some ⟨W1.heap.size + 1, 0, none⟩)] := rfl
  rw [heq]
  have HG4 := Lib.hid hg4
  have HG6 := Lib.hid hg6
  clear B1 B2 B3 hNU heq eU B6U B4 B6 ho6 hbad e1 hg4 hg6
  generalize setsW W1 (.slice none 0 0) = U at *
  refine wpIn_rangeFunc_ownE rfl (by decide) (gf := 206) rfl trivial (enters_of Tryz.func206 (by kernel_rfl) rfl) (hseq (5 - 1)) KP.trans (fun W o o' hk hcl => KP.put o' (by omega) (by omega) hk hcl) (Below.refl _ _) (fun _ => rfl)
    (fun x => OwnFrom.and own_ownFrom (fin_own hgU)) (CI w g4 g6) (ci_own hwU) hI0
    (fun x => { tmps := #[.int .i64 5, .int .i64 4, undef, undef,
          .pointer (some ⟨g4, 0, none⟩), .int .i64 0,
          .pointer (some ⟨g6, 0, none⟩), x.1, .int .i64 5, .bool false,
          .bool false, .int .i64 5, .bool false, .bool false, .bool false,
          .int .i64 4, .bool false, .bool false, .bool false, .int .i64 4,
          .int .i64 5, .bool false, .bool false, undef, .int .i64 5,
          .int .i64 4, .int .i64 5, .int .i64 4, .int .i64 1,
          .int .i64 (min 4 1), .int .i64 5, .bool false, undef, .int .i64 5,
          .agg #[.int .i64 5, .slice none 0 0], .int .i64 5, .int .i64 4,
          .func (.func 206) #[] #[.pointer (some ⟨W1.heap.size, 0, none⟩), .pointer (some ⟨W1.heap.size + 1 + 1, 0, none⟩), .pointer (some ⟨W1.heap.size + 1, 0, none⟩)],
          x.1, undef, undef, undef, undef, undef, undef, undef], defers := [] }) ?assign ?body ?done
  case assign =>
    intro l' x W K hK
    gi_wp2
    exact hK
  case body =>
    rintro l' acc ⟨xv, xl⟩ W hlen ⟨⟨rv, h6, hrow⟩, hall, h4, hbel⟩ ⟨hes, hfin⟩
    have hes : OwnI W 0 xv xl := hes
    obtain ⟨xa, xc, rfl⟩ := hes.shape
    obtain ⟨m, hm⟩ : ∃ m, xl.length = m := ⟨_, rfl⟩
    rw [hm] at hes ⊢
    obtain ⟨j0, hj, hj0, hj1, hj2⟩ := info_parts infoS
    have c6 : W.cell? ⟨g6, 1, none⟩ = some rv := h6.cell 1 rfl
    have l6 := h6.lt
    obtain ⟨ra, rc, rfl⟩ := hrow.shape
    obtain ⟨n, hn⟩ : ∃ n, (acc.map (·.1)).length = n := ⟨_, rfl⟩
    rw [hn] at c6 h6 hrow
    have hN : n ≤ 100 := by rw [List.length_map] at hn; have : lists54.length = 5 := rfl; omega
    have H6 := Lib.hid h6
    have HR := Lib.hid hrow
    have HN := Lib.hid hn
    have hb7 : BoxAt (W.alloc (.cells #[.slice xa m xc] 40)) W.heap.size #[.slice xa m xc] 40 := BoxAt.new _ _ _
    have HB7 := Lib.hid hb7
    have HR3 : Hid ((W.alloc (.cells #[.slice xa m xc] 40)).ownsRow w.heap.size 40 1 (.slice ra n rc) n ((acc.map (·.1)).map id)) := by
      have := HR.out.ext (Ext.alloc W (.cells #[.slice xa m xc] 40))
      unfold OwnG at this
      rw [HN.out] at this
      exact this
    have HWB := Lib.hid hbel
    clear h6 hrow hn hb7
    gi_wp2_with (gi_at_builtin; refine Classical.byContradiction (fun hNN => ?_))
    refine hNN ?_
    clear hNN
    refine wpListIn_append_own_at _ rfl _ _ _ rfl w.heap.size 40 j0 (.slice none 0 0) 1 24 Tryz.underlying115 hj hj0 hj1 hj2 rfl (by decide) (.slice ra n rc) n ((acc.map (·.1)).map id) rfl HR3.out _ 1 1 [.slice xa m xc] rfl rfl ?_ ?_ ?_ ?_ ?_ ?_
    · intro j u hj'
      match j, hj' with
      | 0, hj' => simp at hj'; subst hj'; exact HB7.out.cell 0 rfl
    · intro u hu; rw [List.mem_singleton] at hu; subst hu; rfl
    · unfold maxLen; omega
    · omega
    · have := HWB.out.size; simp; omega
    intro v' w7 ho7 hg7 hnil hat
    have h67 := (H6.out.ext (Ext.alloc W (.cells #[.slice xa m xc] 40))).grown hg7 (fun h => (HR.out.ext (Ext.alloc W (.cells #[.slice xa m xc] 40))).not_box (H6.out.ext (Ext.alloc _ _)) (by decide) h.symm)
    have c67 : w7.cell? ⟨g6, 1, none⟩ = some (.slice ra n rc) := h67.cell 1 rfl
    have f67 := h67.free 1
    have l67 := h67.lt
    obtain ⟨a7, c7, rfl⟩ := own_shape ho7
    have hO7 : OwnG id 40 w7 w.heap.size (.slice a7 (n + 1) c7) (acc.map (·.1) ++ [.slice xa m xc]) := OwnG.snoc (by rw [HN.out]; exact ho7)
    have HP := Lib.hid (ci_put (w0 := w) (g4 := g4) (x := (.slice xa m xc, xl)) (n := n) hall h4 hbel H6.out HR.out hes hfin (Ext.alloc _ _) hO7 hg7 hat (by have := HG4.out; have := HG6.out; omega) (by have := HG6.out; omega))
    clear ho7 hO7 hat hg7 hnil HR3 h67
    gi_wp2
    have hp := HP.out
    exact ⟨⟨hp.1.size, fun k o hk ho hc => hp.1.nonc k o (Nat.zero_le _) ho hc⟩, hp.1.more (Nat.zero_le _), hp.2⟩
  case done =>
    rintro D xs W hD hS ⟨⟨rv, h6, hrow⟩, hall, h4, hbel⟩ hDW
    obtain ⟨ra, rc, rfl⟩ := hrow.shape
    obtain ⟨n, hn⟩ : ∃ n, (xs.map (·.1)).length = n := ⟨_, rfl⟩
    rw [hn] at h6
    have c60 : W.cell? ⟨g6, 0, none⟩ = some (.int .i64 5) := h6.cell 0 rfl
    have c61 : W.cell? ⟨g6, 1, none⟩ = some (.slice ra n rc) := h6.cell 1 rfl
    have c40 : W.cell? ⟨g4, 0, none⟩ = some (.int .i64 0) := h4.cell 0 rfl
    have c41 : W.cell? ⟨g4, 1, none⟩ = some (.slice none 0 0) := h4.cell 1 rfl
    have f40 := h4.free 0
    have f41 := h4.free 1
    have l6 := h6.lt
    have l4 := h4.lt
    gi_wp2
    have e4 : g4 ≠ g6 := by have := HG6.out; omega
    have hwg : w.heap.size ≤ g4 := by have := HG4.out; omega
    have hr4 : (Value.slice ra n rc).ownBlock ≠ some g4 := by
      have := hrow.not_box h4 (by decide)
      rw [hn] at this
      exact this
    have b8 := (h4.set 0 (.int .i64 5)).set 1 (.slice ra n rc)
    have r8 := (hrow.off (q := g4) (by rw [hn]; exact hr4) 0 (.int .i64 5)).off (q := g4) (by rw [hn]; exact hr4) 1 (.slice ra n rc)
    have a8 : ∀ x, x ∈ xs → OwnI ((W.setCell ⟨g4, 0, none⟩ (.int .i64 5)).setCell ⟨g4, 1, none⟩ (.slice ra n rc)) 0 x.1 x.2 := fun x hx =>
      ((hall x hx).off ((hall x hx).not_box h4 (by decide)) 0 _).off ((hall x hx).not_box h4 (by decide)) 1 _
    have z8 := bel_set (bel_set hbel hwg 0 (.int .i64 5)) hwg 1 (.slice ra n rc)
    have hDg : D ≠ g4 := fun h => by
      subst h
      rw [show W.heap[D]? = _ from h4] at hDW
      cases hDW
    have d8 : ((W.setCell ⟨g4, 0, none⟩ (.int .i64 5)).setCell ⟨g4, 1, none⟩ (.slice ra n rc)).heap[D]? = some (.deferred (some [])) := (Below.heap_setCell _ _ _ D hDg).trans ((Below.heap_setCell _ _ _ D hDg).trans hDW)
    generalize ((W.setCell ⟨g4, 0, none⟩ (.int .i64 5)).setCell ⟨g4, 1, none⟩ (.slice ra n rc)) = W8 at *
    have hO : OwnFrom U.heap.size (fun (_ : Unit) V => BoxAt V g4 ((#[.int .i64 0, .slice none 0 0].setIfInBounds 0 (.int .i64 5)).setIfInBounds 1 (.slice ra n rc)) 117 ∧ OwnG id 40 V w.heap.size (.slice ra (xs.map (·.1)).length rc) (xs.map (·.1)) ∧ (∀ x, x ∈ xs → OwnI V 0 x.1 x.2) ∧ Below w.heap.size w V) := fun s X Y row hs hg hr =>
      ⟨box_own (β := Unit) U.heap.size () X Y row hs.1 hg hr, own_any (β := Unit) (B := U.heap.size) () X Y row hs.2.1 hg hr, fun x hx => own_any (β := Unit) (B := U.heap.size) () X Y row (hs.2.2.1 x hx) hg hr, ownFrom_below (β := Unit) (Nat.le_refl _) hwU () X Y row hs.2.2.2 hg hr⟩
    refine leaves_marks [D] _ (fun E hE => by rw [List.mem_singleton] at hE; rw [hE]; exact d8) (List.nodup_cons.2 ⟨by simp, List.nodup_nil⟩) (fun W' hW' => ?_)
    obtain ⟨k1, k2, k3, k4⟩ := hW' (fun V => BoxAt V g4 ((#[.int .i64 0, .slice none 0 0].setIfInBounds 0 (.int .i64 5)).setIfInBounds 1 (.slice ra n rc)) 117 ∧ OwnG id 40 V w.heap.size (.slice ra (xs.map (·.1)).length rc) (xs.map (·.1)) ∧ (∀ x, x ∈ xs → OwnI V 0 x.1 x.2) ∧ Below w.heap.size w V)
      (fun V E o hv hE hk => hO.putObj (s := ()) _ hv (by rw [List.mem_singleton] at hE; omega) hk rfl) ⟨b8, r8, a8, z8⟩
    exact ⟨_, results_cell_tmpA rfl _ _ rfl (box_result k1 Tryz.underlying117 rfl (by kernel_rfl)), .slice ra n rc, rfl, ⟨xs, hS, by rw [hn] at k2; exact k2, k3⟩, k4⟩
end Go.Proofs.YtjabgpejmnpamaaGreatDoor

namespace Go.Proofs.YtjabgpejmnpamaaGreatDoor
open Go.RowKit
set_option maxRecDepth 100000
set_option maxHeartbeats 4000000 in
theorem choose54_any (w : World) : Calls Tryz.prog 51 #[.int .i64 5, .int .i64 4] w fun e w' => ∃ rv, e = .returned (.tuple #[.agg #[.int .i64 5, rv], .int .i64 0]) ∧ RowsW w' w.heap.size rv lists54 ∧ Below w.heap.size w w' := by
  go_enter Tryz.func51, Tryz.ntmps51
  go_wp2
  have K0 : BoxAt ((w.alloc (.cells #[.int .i64 0, .slice none 0 0] 117)).alloc (.cells #[.int .i64 13, .int .i64 3, .func (.func 100) #[] #[], .int .i64 16, .int .i64 4, .func (.func 101) #[] #[]] 199)) (w.heap.size + 1) #[.int .i64 13, .int .i64 3, .func (.func 100) #[] #[], .int .i64 16, .int .i64 4, .func (.func 101) #[] #[]] 199 := by
    have := BoxAt.new (w.alloc (.cells #[.int .i64 0, .slice none 0 0] 117)) #[.int .i64 13, .int .i64 3, .func (.func 100) #[] #[], .int .i64 16, .int .i64 4, .func (.func 101) #[] #[]] 199
    rw [World.size_alloc] at this
    exact this
  have B0 : BoxAt ((w.alloc (.cells #[.int .i64 0, .slice none 0 0] 117)).alloc (.cells #[.int .i64 13, .int .i64 3, .func (.func 100) #[] #[], .int .i64 16, .int .i64 4, .func (.func 101) #[] #[]] 199)) w.heap.size #[.int .i64 0, .slice none 0 0] 117 := (BoxAt.new _ _ _).ext (Ext.alloc _ _)
  have e0 : Ext w ((w.alloc (.cells #[.int .i64 0, .slice none 0 0] 117)).alloc (.cells #[.int .i64 13, .int .i64 3, .func (.func 100) #[] #[], .int .i64 16, .int .i64 4, .func (.func 101) #[] #[]] 199)) := (Ext.alloc _ _).trans (Ext.alloc _ _)
  generalize ((w.alloc (.cells #[.int .i64 0, .slice none 0 0] 117)).alloc (.cells #[.int .i64 13, .int .i64 3, .func (.func 100) #[] #[], .int .i64 16, .int .i64 4, .func (.func 101) #[] #[]] 199)) = V0 at *
  obtain ⟨g0, hg0⟩ : ∃ g, w.heap.size = g := ⟨_, rfl⟩
  obtain ⟨g1, hg1⟩ : ∃ g, g0 + 1 = g := ⟨_, rfl⟩
  rw [hg0] at B0 K0 ⊢
  rw [hg1] at K0 ⊢
  have HG0 := Lib.hid hg0
  have HB0 := Lib.hid B0
  have HK0 := Lib.hid K0
  have HE0 := Lib.hid e0
  clear hg0 hg1 B0 K0 e0
  refine wp_loop_rounds 3 ?_
  rw [rounds_succ]
  have c0 : V0.cell? ⟨g1, 0, none⟩ = some (.int .i64 13) := HK0.out.cell 0 rfl
  have c1 : V0.cell? ⟨g1, 1, none⟩ = some (.int .i64 3) := HK0.out.cell 1 rfl
  have c2 : V0.cell? ⟨g1, 2, none⟩ = some (.func (.func 100) #[] #[]) := HK0.out.cell 2 rfl
  have l1 := HK0.out.lt
  go_wp2_with (refine wpList_store_box 199 _ _ rfl (by rfl) rfl rfl (BoxAt.new V0 #[.int .i64 0, .int .i64 0, .nilFunc] 199) rfl (by kernel_rfl) (by simp [Value.oneCell']) ?_; intro V1 hS1; have x0 : V1.cell? ⟨V0.heap.size, 0, none⟩ = some (.int .i64 13) := hS1.box.cell 0 rfl; have x1 := hS1.box.lt)
  have e1 : Ext V0 V1 := hS1.bel (Ext.alloc _ _) (Nat.le_refl _)
  have K1 := HK0.out.ext e1
  have HS1 := Lib.hid hS1
  clear x0 x1 c0 c1 c2 l1
  rw [rounds_succ]
  have c0 : V1.cell? ⟨g1, 3, none⟩ = some (.int .i64 16) := K1.cell 3 rfl
  have c1 : V1.cell? ⟨g1, 4, none⟩ = some (.int .i64 4) := K1.cell 4 rfl
  have c2 : V1.cell? ⟨g1, 5, none⟩ = some (.func (.func 101) #[] #[]) := K1.cell 5 rfl
  have l1 := K1.lt
  have HK1 := Lib.hid K1
  have HE1 := Lib.hid e1
  clear K1 e1 hS1
  go_wp2_with (refine wpList_store_box 199 _ _ rfl (by rfl) rfl rfl (BoxAt.new V1 #[.int .i64 0, .int .i64 0, .nilFunc] 199) rfl (by kernel_rfl) (by simp [Value.oneCell']) ?_; intro V2 hS2; have x0 : V2.cell? ⟨V1.heap.size, 0, none⟩ = some (.int .i64 16) := hS2.box.cell 0 rfl; have x1 := hS2.box.lt)
  have e2 : Ext V1 V2 := hS2.bel (Ext.alloc _ _) (Nat.le_refl _)
  have HE2 := Lib.hid e2
  clear x0 x1 c0 c1 c2 l1 e2 hS2
  rw [rounds_succ]
  go_wp2_with first | (go_at_call 102; refine (complete_any _).mono ?_; rintro e V3 ⟨rv, rfl, hR3, hb3⟩; obtain ⟨ra, rc, rfl⟩ := hR3.shape) | (refine wpList_store_box 117 _ _ rfl (by rfl) rfl rfl (HB0.out.ext (HE1.out.trans (HE2.out.trans hb3))) rfl (by kernel_rfl) (by simp [Value.oneCell']) ?_; intro V4 hS4)
  have e3 : Ext w V3 := HE0.out.trans (HE1.out.trans (HE2.out.trans hb3))
  have b3 := HB0.out.ext (HE1.out.trans (HE2.out.trans hb3))
  have hz : w.heap.size ≤ V2.heap.size := Nat.le_trans HE0.out.size (Nat.le_trans HE1.out.size HE2.out.size)
  exact bodyPost_ret (results_cell_tmpA rfl _ _ rfl (box_result hS4.box Tryz.underlying117 rfl (by kernel_rfl))) rfl ⟨_, rfl, (hR3.grown hS4.grown b3 (by decide) (by decide)).lower hz, hS4.bel e3 (by have := HG0.out; omega)⟩
end Go.Proofs.YtjabgpejmnpamaaGreatDoor

namespace Go.Proofs.YtjabgpejmnpamaaGreatDoor
open Go.RowKit
set_option maxRecDepth 100000
def el (k i : Nat) : Int := (lists54.getD k []).getD i 0
theorem el_range : ∀ k, k < 5 → ∀ i, i < 4 → 0 ≤ el k i ∧ el k i < 5 := by decide
theorem el_up : ∀ k, k < 5 → ∀ i, i < 3 → el k i < el k (i + 1) := by decide
theorem el_len : ∀ k (h : k < lists54.length), (lists54[k]).length = 4 := by decide
structure Rows54 (w : World) (ra : Nat) (ro rc : Nat) (q : Nat → Nat × Nat × Nat) : Prop where
  lt : ra < w.heap.size
  cap : 5 ≤ rc
  row : ∀ k, k < 5 → w.cell? ⟨ra, ro + k, none⟩ = some (.slice (some ⟨(q k).1, (q k).2.1, none⟩) 4 (q k).2.2)
  blk : ∀ k, k < 5 → (q k).1 < w.heap.size
  cl : ∀ k, k < 5 → 4 ≤ (q k).2.2
  cell : ∀ k, k < 5 → ∀ i, i < 4 → w.cell? ⟨(q k).1, (q k).2.1 + i, none⟩ = some (.int .i64 (el k i))
theorem Rows54.ext {w w' : World} {ra ro rc : Nat} {q : Nat → Nat × Nat × Nat} (h : Rows54 w ra ro rc q) (e : Ext w w') : Rows54 w' ra ro rc q :=
  ⟨Nat.lt_of_lt_of_le h.lt e.size, h.cap, fun k hk => (Below.cell e (p := ⟨ra, ro + k, none⟩) h.lt).trans (h.row k hk), fun k hk => Nat.lt_of_lt_of_le (h.blk k hk) e.size, h.cl, fun k hk i hi => (Below.cell e (p := ⟨(q k).1, (q k).2.1 + i, none⟩) (h.blk k hk)).trans (h.cell k hk i hi)⟩
theorem slice_cap {α : Type} {enc : α → Value} {w : World} {a : Option Addr} {n c : Nat} {l : List α} (h : SliceAt enc w (.slice a n c) l) : n ≤ c := by
  obtain ⟨ad, cap, he, hc, _⟩ := h
  injection he with h1 h2 h3
  omega
theorem rows54_of {w : World} {rv : Value} (h : RowsI w rv lists54) : ∃ ra ro rc q, rv = .slice (some ⟨ra, ro, none⟩) 5 rc ∧ Rows54 w ra ro rc q := by
  obtain ⟨a, c, rfl⟩ := h.shape
  have h5 : lists54.length = 5 := rfl
  rw [h5] at h ⊢
  obtain ⟨b, off, v0, rfl, hb, _, _⟩ := h.at 0 (by decide)
  have hall : ∀ k : Nat, ∃ z : Nat × Nat × Nat, k < 5 → w.cell? ⟨b, off + k, none⟩ = some (.slice (some ⟨z.1, z.2.1, none⟩) 4 z.2.2) ∧ z.1 < w.heap.size ∧ 4 ≤ z.2.2 ∧ ∀ i, i < 4 → w.cell? ⟨z.1, z.2.1 + i, none⟩ = some (.int .i64 (el k i)) := by
    intro k
    by_cases hk : k < 5
    · obtain ⟨b2, off2, v, he, hb2, hc, hs⟩ := h.at k hk
      injection he with he
      injection he with he1 he2
      subst he1 he2
      have hl := el_len k hk
      obtain ⟨a2, c2, rfl⟩ := hs.shape
      obtain ⟨b3, off3, rfl, hb3, hc3⟩ := hs.get 0 (by omega)
      have hcap := slice_cap hs
      rw [hl] at hc hcap
      refine ⟨(b3, off3, c2), fun _ => ⟨hc, hb3, hcap, fun i hi => ?_⟩⟩
      obtain ⟨b4, off4, he, hb4, hc4⟩ := hs.get i (by omega)
      injection he with he
      injection he with he1 he2
      subst he1 he2
      rw [hc4]
      unfold el
      rw [getD_in (show k < lists54.length from hk), getD_in (by omega)]
      rfl
    · exact ⟨(0, 0, 0), fun h => absurd h hk⟩
  obtain ⟨q, hq⟩ := Classical.axiomOfChoice hall
  have hcap : 5 ≤ c := by
    obtain ⟨vs, h1, h2, _⟩ := h
    exact slice_cap h1
  exact ⟨b, off, c, q, rfl, hb, hcap, fun k hk => (hq k hk).1, fun k hk => (hq k hk).2.1, fun k hk => (hq k hk).2.2.1, fun k hk => (hq k hk).2.2.2⟩
set_option maxHeartbeats 4000000 in
theorem formed_any (ra ro rc : Nat) (q : Nat → Nat × Nat × Nat) (w : World) (h : Rows54 w ra ro rc q) :
    Calls Tryz.prog 232 #[.agg #[.int .i64 5, .slice (some ⟨ra, ro, none⟩) 5 rc]] w fun e w' => e = .returned (.bool true) ∧ Ext w w' := by
  have h0 := h.row 0 (by decide)
  rw [Nat.add_zero] at h0
  have lra := h.lt
  have HR := Lib.hid h
  clear h
  go_enter Tryz.func232, Tryz.ntmps232
  go_wp2
  have hz : w.heap.size < (w.alloc (.cells #[.int .i64 5, .slice (some ⟨ra, ro, none⟩) 5 rc] 117)).heap.size := by simp
  generalize hW : w.alloc (.cells #[.int .i64 5, .slice (some ⟨ra, ro, none⟩) 5 rc] 117) = W at *
  have c0 : W.cell? ⟨w.heap.size, 0, none⟩ = some (.int .i64 5) := by rw [← hW]; simp
  have c1 : W.cell? ⟨w.heap.size, 1, none⟩ = some (.slice (some ⟨ra, ro, none⟩) 5 rc) := by rw [← hW]; simp
  have hxW : Ext w W := by rw [← hW]; exact Ext.alloc _ _
  have hbF : ∀ o, W.frozen? ⟨w.heap.size, o, none⟩ = false := fun o => by rw [← hW]; simp
  have HBF := Lib.hid hbF
  clear hW hbF
  have HW := Lib.hid (HR.out.ext hxW)
  have HXW := Lib.hid hxW
  clear h0 HR hxW lra
  go_loopw [38] (fun it wr => ∃ k : Nat, k ≤ 5 ∧ it = .int .i64 k ∧ Ext W wr) (fun it _ => 5 - (intOf it).toNat)
  case atStart => exact ⟨0, by decide, rfl, Ext.refl _⟩
  case round =>
    obtain ⟨k, hk, rfl, hX⟩ := hrel
    have HRr := HW.out.ext hX
    have r0 := HRr.row 0 (by decide)
    rw [Nat.add_zero] at r0
    have d0 := (Below.cell hX (p := ⟨w.heap.size, 0, none⟩) hz).trans c0
    have d1 := (Below.cell hX (p := ⟨w.heap.size, 1, none⟩) hz).trans c1
    have hz2 := Nat.lt_of_lt_of_le hz hX.size
    have lra := HRr.lt
    by_cases hlt : k < 5
    · have hkI : (k : Int) < 5 := by omega
      have rk := HRr.row k hlt
      have lk := HRr.blk k hlt
      have hcap := HRr.cap
      generalize hq : q k = z at rk lk
      obtain ⟨kb, ko, kc⟩ := z
      have HC : Hid (∀ i, i < 4 → wr.cell? ⟨kb, ko + i, none⟩ = some (.int .i64 (el k i))) := fun i hi => by have := HRr.cell k hlt i hi; rw [hq] at this; exact this
      have hkc : 4 ≤ kc := by have := HRr.cl k hlt; rw [hq] at this; exact this
      have HX := Lib.hid hX
      simp only at rk lk
      clear hq HRr hX
      generalize q 0 = z0 at r0
      obtain ⟨b0, o0, q0⟩ := z0
      simp only at r0
      go_wp2
      generalize wr = wo at *
      go_loopw [52] (fun it wr => ∃ i : Nat, i ≤ 4 ∧ it = .int .i64 i ∧ Ext wo wr) (fun it _ => 4 - (intOf it).toNat)
      case atStart => exact ⟨0, by decide, rfl, Ext.refl _⟩
      case round =>
        obtain ⟨i, hi, rfl, hX⟩ := hrel
        have e0 := (Below.cell hX (p := ⟨w.heap.size, 0, none⟩) hz2).trans d0
        have e1 := (Below.cell hX (p := ⟨w.heap.size, 1, none⟩) hz2).trans d1
        have hz3 := Nat.lt_of_lt_of_le hz2 hX.size
        have lk3 := Nat.lt_of_lt_of_le lk hX.size
        by_cases hlt2 : i < 4
        · have hiI : (i : Int) < 4 := by omega
          have ci := (Below.cell hX (p := ⟨kb, ko + i, none⟩) lk).trans (HC.out i hlt2)
          obtain ⟨g1, g2⟩ := el_range k hlt i hlt2
          have f1 : ¬ (el k i < 0) := by omega
          have f2 : ¬ (5 ≤ el k i) := by omega
          have hik : i ≤ kc := by omega
          have HX2 := Lib.hid hX
          clear hX
          rcases Nat.eq_zero_or_pos i with hi0 | hi0
          · subst hi0
            rw [Nat.add_zero] at ci
            go_wp2
            go_roundw
            case rel => exact ⟨1, by decide, rfl, HX2.out⟩
            case measure => simp [intOf]
          · obtain ⟨j, rfl⟩ : ∃ j, i = j + 1 := ⟨i - 1, by omega⟩
            have cj := (Below.cell HX2.out (p := ⟨kb, ko + j, none⟩) lk).trans (HC.out j (by omega))
            have f3 := el_up k hlt j (by omega)
            have f4 : ¬ (el k (j + 1) ≤ el k j) := by omega
            have f5 : (0 : Int) < ((j + 1 : Nat) : Int) := by omega
            have f6 : ((j + 1 : Nat) : Int) - 1 = (j : Int) := by omega
            go_wp2
            go_roundw
            case rel => exact ⟨j + 1 + 1, by omega, by go_num, HX2.out⟩
            case measure => simp [intOf]; omega
        · have hiI : ¬ ((i : Int) < 4) := by omega
          go_wp2
          go_roundw
          case rel => exact ⟨k + 1, by omega, by go_num, HX.out.trans hX⟩
          case measure => simp [intOf]; omega
    · have hkI : ¬ ((k : Int) < 5) := by omega
      go_wp2_with fail
      go_ret
      exact ⟨rfl, HXW.out.trans hX⟩
end Go.Proofs.YtjabgpejmnpamaaGreatDoor

namespace Go.Proofs.YtjabgpejmnpamaaGreatDoor
open Go.RowKit
set_option maxRecDepth 100000
theorem infoOp : (Tryz.prog.info? 310).map (fun i => (i.zero, i.size, i.bytes)) = some (some .nilFunc, 1, 8) := by kernel_rfl
structure Cn where
  C : Nat
  M1 : Nat
  S1 : Nat
  c1 : Nat
  M2 : Nat
  S2 : Nat
  c2 : Nat
abbrev chC (n : Cn) (pv : Value) : Array Value := #[.pointer (some ⟨n.M1, 0, none⟩), .pointer (some ⟨n.M2, 0, none⟩), pv]
structure Csh (B : Nat) (w : World) (n : Cn) (A1 A2 : Array Value) (pv : Value) : Prop where
  box : BoxAt w n.C (chC n pv) 208
  geC : B ≤ n.C
  m1 : Med B w n.M1 n.S1 n.c1 A1
  m2 : Med B w n.M2 n.S2 n.c2 A2
  ne : n.S1 ≠ n.S2
theorem Csh.ext {B : Nat} {w w' : World} {n : Cn} {A1 A2 : Array Value} {pv : Value} (h : Csh B w n A1 A2 pv) (e : Ext w w') : Csh B w' n A1 A2 pv := ⟨h.box.ext e, h.geC, h.m1.ext e, h.m2.ext e, h.ne⟩
theorem Csh.chg {B B' : Nat} {T : List TypeId} {w w' : World} {n : Cn} {A1 A2 : Array Value} {pv : Value} (h : Csh B w n A1 A2 pv) (e : Chg B' T w w') (h0 : 208 ∉ T) (h1 : 204 ∉ T) (h2 : 270 ∉ T) : Csh B w' n A1 A2 pv :=
  ⟨h.box.chg e h0, h.geC, h.m1.chg e h1 h2, h.m2.chg e h1 h2, h.ne⟩
theorem Csh.lower {B B' : Nat} {w : World} {n : Cn} {A1 A2 : Array Value} {pv : Value} (h : Csh B w n A1 A2 pv) (hb : B' ≤ B) : Csh B' w n A1 A2 pv := ⟨h.box, Nat.le_trans hb h.geC, h.m1.lower hb, h.m2.lower hb, h.ne⟩
abbrev OwnO (w : World) (B : Nat) (v : Value) (l : List Value) : Prop := w.ownsRow B 310 1 v l.length l
set_option maxHeartbeats 2000000 in
theorem cnew_any (B M S c : Nat) (A : Array Value) (w : World) (h : Med B w M S c A) (hb : Blank A) :
    Calls Tryz.prog 55 #[.pointer (some ⟨M, 0, none⟩)] w fun e w' => ∃ n A1 A2, e = .returned (.pointer (some ⟨n.C, 0, none⟩)) ∧ Blank A1 ∧ Blank A2 ∧ Csh w.heap.size w' n A1 A2 (.slice none 0 0) ∧ Ext w w' := by
  have HA := Lib.hid hb
  have HM := Lib.hid h
  clear h hb
  go_enter Tryz.func55, Tryz.ntmps55
  go_wp2_with first | (go_at_call 108; refine (mclone_any B M S c A _ (by assumption) HA.out).mono ?_; fail) | (go_at_call 108; with_reducible refine (mclone_any B M S c A w HM.out HA.out).mono ?_; rintro e W1 ⟨M1, S1, c1, A1, rfl, hb1, hm1, hx1⟩; have HB1 := Lib.hid hb1; have HM1 := Lib.hid hm1; have HX1 := Lib.hid hx1; have HMM := Lib.hid (HM.out.ext hx1); clear hb1 hm1 hx1 HM) | (go_at_call 108; refine (mclone_any B M S c A W1 HMM.out HA.out).mono ?_; rintro e W2 ⟨M2, S2, c2, A2, rfl, hb2, hm2, hx2⟩; have HB2 := Lib.hid hb2; have HM2 := Lib.hid hm2; have HX2 := Lib.hid hx2; clear hb2 hm2 hx2)
  go_ret
  have hs1 := HM1.out.sec.lt
  have hs2 := HM2.out.geS
  refine ⟨⟨W2.heap.size, M1, S1, c1, M2, S2, c2⟩, A1, A2, rfl, HB1.out, HB2.out, ⟨BoxAt.new _ _ _, Nat.le_trans HX1.out.size HX2.out.size, (HM1.out.ext HX2.out).ext (Ext.alloc _ _), (HM2.out.lower HX1.out.size).ext (Ext.alloc _ _), ?_⟩, (HX1.out.trans HX2.out).trans (Ext.alloc _ _)⟩
  show S1 ≠ S2
  omega
set_option maxHeartbeats 4000000 in
theorem do_any (F : Nat) (eg : ∀ args w, (callFunc F args).run Tryz.prog w = .ok (.enter F args) w) (cap : Array Value) (B : Nat) (n : Cn) (A1 A2 : Array Value) (pv : Value) (l : List Value) (hll : l.length ≤ 1000) (w : World) (h : Csh B w n A1 A2 pv) (ho : OwnO w B pv l) (hBw : B ≤ w.heap.size)
    (Pm : Array Value → World → Prop) (hP : ∀ A a b, Pm A a → Chg B [208, 310] a b → Pm A b)
    (hw : Calls Tryz.prog F (#[.pointer (some ⟨n.M2, 0, none⟩)] ++ cap) w fun e w' => e = .returned (.int .i64 0) ∧ (∃ A2', Pm A2' w' ∧ Med B w' n.M2 n.S2 n.c2 A2') ∧ Sct B n.S2 w w') :
    Calls Tryz.prog 163 #[.pointer (some ⟨n.C, 0, none⟩), .func (.func F) #[] cap] w fun e w' => e = .returned (.int .i64 0) ∧
      (∃ A2' pv', Pm A2' w' ∧ Csh B w' n A1 A2' pv' ∧ OwnO w' B pv' (l ++ [.func (.func F) #[] cap])) ∧ Chg B [270, 208, 310] w w' := by
  obtain ⟨i0, hi, hz0, hz1, hz2⟩ := info_parts infoOp
  have HW := Lib.hid hw
  have HC := Lib.hid h
  have HO := Lib.hid ho
  have hPm := Lib.hid hP
  obtain ⟨pa, pc, hpv⟩ := own_shape ho
  obtain ⟨k, hk⟩ : ∃ k, l.length = k := ⟨_, rfl⟩
  subst hpv
  rw [hk] at HC HO
  have e1 := h.box.cell 1 (v := .pointer (some ⟨n.M2, 0, none⟩)) rfl
  have hl := h.box.lt
  clear h hw ho hP
  go_enter Tryz.func163, Tryz.ntmps163
  go_wp2_with fail
  refine HW.out.mono ?_
  rintro e W1 ⟨rfl, ⟨A2', hp2, hm2⟩, hsc⟩
  have HP2 := Lib.hid hp2
  have HM2 := Lib.hid hm2
  have HSC := Lib.hid hsc
  have hb1 := HC.out.box.chg hsc.chg (by decide)
  have HB1 := Lib.hid hb1
  have HO1 := Lib.hid (ownsRow_chg hsc.chg HO.out (by decide))
  have d2 := hb1.cell 2 (v := .slice pa k pc) rfl
  have hl1 := hb1.lt
  have hsz1 := hsc.chg.size
  have HOA := Lib.hid (ownsRow_chg (Chg.ext (B := 0) (T := []) (Ext.alloc W1 (.cells #[.func (.func F) #[] cap] 310)) (Nat.zero_le _)) HO1.out (by simp))
  clear hp2 hm2 hsc hb1 e1 hl
  go_wp2_with first | (at_builtin; refine wpList_append_one rfl _ _ _ rfl B 310 i0 .nilFunc 8 Tryz.underlying206 hi hz0 hz1 hz2 rfl _ _ _ rfl HOA.out _ (.func (.func F) #[] cap) rfl rfl (cell_new1 _ _ _) (by unfold maxLen; omega) (by omega) (by simp; omega) ?_; intro v2 W2 ho2 hg2 _; obtain ⟨a2, c2, rfl⟩ := own_shape ho2; have hch : Chg B [310] W1 W2 := (Chg.ext (Ext.alloc W1 _) (by omega)).grown HOA.out (by simp) (Nat.le_refl _) (by omega) hg2; have HO2 := Lib.hid ho2; have HCH := Lib.hid hch; have HB2 := Lib.hid (HB1.out.chg hch (by decide)); have f2 := HB2.out.cell 2 (v := .slice pa k pc) rfl; have hl2 := HB2.out.lt; clear ho2 hg2 hch d2 hl1) | (refine wpList_store_cell 206 _ _ rfl (by rfl) rfl rfl (HB2.out) (by simp) (by kernel_rfl) rfl ?_; intro W3 hS; have HS := Lib.hid hS; clear hS f2 hl2)
  go_ret
  have hcs : Chg B [208] W2 W3 := (Chg.refl _ _ _).stored HB2.out HS.out (by simp) HC.out.geC
  have hc13 : Chg B [208, 310] W1 W3 := (HCH.out.wide (by decide)).trans (hcs.wide (by decide))
  refine ⟨rfl, ⟨A2', .slice a2 (k + 1) c2, hPm.out _ _ _ HP2.out hc13, ⟨HS.out.box, HC.out.geC, (HSC.out.med HC.out.m1 HC.out.ne).chg hc13 (by decide) (by decide), HM2.out.chg hc13 (by decide) (by decide), HC.out.ne⟩, ?_⟩, (HSC.out.chg.wide (by decide)).trans (hc13.wide (by decide))⟩
  have h3 := ownsRow_chg hcs HO2.out (by decide)
  show W3.ownsRow B _ 1 _ (l ++ [_]).length _
  rw [List.length_append, ← hk]
  exact h3
end Go.Proofs.YtjabgpejmnpamaaGreatDoor

namespace Go.Proofs.YtjabgpejmnpamaaGreatDoor
open Go.RowKit Go.Shelf
set_option maxRecDepth 100000
theorem run_minD {P : Program} (w : World) (ts : Array TypeId) (t : TypeId) (a : Int) :
    (Builtin.min_ ts t #[.int .i64 a, .int .i64 a]).run P w = .ok (.int .i64 a) w := by
  have e : (if a < a then a else a) = a := by split <;> rfl
  have : (Builtin.min_ ts t #[.int .i64 a, .int .i64 a]).run P w = .ok (.int .i64 (if a < a then a else a)) w := rfl
  rw [this, e]
theorem run_maxD {P : Program} (w : World) (ts : Array TypeId) (t : TypeId) (a : Int) (h : 0 ≤ a) :
    (Builtin.max_ ts t #[.int .i64 a, .int .i64 0]).run P w = .ok (.int .i64 a) w := by
  have e : (if a < 0 then 0 else a) = a := by split <;> omega
  have : (Builtin.max_ ts t #[.int .i64 a, .int .i64 0]).run P w = .ok (.int .i64 (if a < 0 then 0 else a)) w := rfl
  rw [this, e]
abbrev opE (g : Nat) : Value := .func (.func 164) #[] #[.pointer (some ⟨g, 0, none⟩)]
def Bands (w : World) (gs : List Nat) : Prop := ∀ g, g ∈ gs → ∃ k : Nat, k < 5 ∧ BoxAt w g #[.int .i64 k] 3
theorem Bands.chg {B : Nat} {T : List TypeId} {w w' : World} {gs : List Nat} (h : Bands w gs) (e : Chg B T w w') (ht : 3 ∉ T) : Bands w' gs := fun g hg => by
  obtain ⟨k, hk, hb⟩ := h g hg
  exact ⟨k, hk, hb.chg e ht⟩
set_option maxHeartbeats 1000000 in
theorem erase1_any (B M S c g k : Nat) (A : Array Value) (hk : k < 5) (w : World) (h : Med B w M S c A) (hb : Blank A) (hB : B ≤ w.heap.size) (hg : BoxAt w g #[.int .i64 k] 3) :
    Calls Tryz.prog 164 #[.pointer (some ⟨M, 0, none⟩), .pointer (some ⟨g, 0, none⟩)] w fun e w' => e = .returned (.int .i64 0) ∧ (∃ A', Blank A' ∧ Med B w' M S c A') ∧ Sct B S w w' := by
  have HA := Lib.hid hb
  have HM := Lib.hid h
  have c0 := hg.cell 0 (v := .int .i64 k) rfl
  have hl := hg.lt
  clear h hb hg
  go_enter Tryz.func164, Tryz.ntmps164
  go_wp2_with (go_at_call 165; refine (merase_any B M S c k A hk _ HM.out HA.out hB).mono ?_; rintro e W1 ⟨rfl, h1, h2⟩; have H1 := Lib.hid h1; have H2 := Lib.hid h2; clear h1 h2)
  go_ret
  exact ⟨rfl, H1.out, H2.out⟩
set_option maxHeartbeats 2000000 in
theorem cerase_any (B : Nat) (n : Cn) (A1 A2 : Array Value) (pv : Value) (gs : List Nat) (k : Nat) (hk : k < 5) (hll : gs.length ≤ 1000) (w : World) (h : Csh B w n A1 A2 pv) (hb : Blank A2) (ho : OwnO w B pv (gs.map opE)) (hBw : B ≤ w.heap.size) (hgs : Bands w gs) :
    Calls Tryz.prog 113 #[.pointer (some ⟨n.C, 0, none⟩), .int .i64 k] w fun e w' => e = .returned (.int .i64 0) ∧
      (∃ A2' pv' g, Blank A2' ∧ Csh B w' n A1 A2' pv' ∧ OwnO w' B pv' ((gs ++ [g]).map opE) ∧ Bands w' (gs ++ [g])) ∧ Chg B [270, 208, 310] w w' := by
  have HB := Lib.hid hb
  have HC := Lib.hid h
  have HO := Lib.hid ho
  have HG := Lib.hid hgs
  clear h hb ho hgs
  have hx : Ext w (w.alloc (.cells #[.int .i64 k] 3)) := Ext.alloc _ _
  have hbx := BoxAt.new w #[.int .i64 k] 3
  have HX := Lib.hid hx
  have HBX := Lib.hid hbx
  clear hx hbx
  go_enter Tryz.func113, Tryz.ntmps113
  go_wp2_with (go_at_call 163; refine (do_any 164 (enters_of Tryz.func164 (by kernel_rfl) rfl) #[.pointer (some ⟨w.heap.size, 0, none⟩)] B n A1 A2 pv (gs.map opE) (by simpa using hll) _ (HC.out.ext HX.out) (ownsRow_chg (Chg.ext (B := 0) (T := []) HX.out (Nat.zero_le _)) HO.out (by simp)) (by simp; omega) (fun A _ => Blank A) (fun A a b h _ => h) (erase1_any B n.M2 n.S2 n.c2 w.heap.size k A2 hk _ (HC.out.m2.ext HX.out) HB.out (by simp; omega) HBX.out)).mono ?_; rintro e W1 ⟨rfl, ⟨A2', pv', hb2, hc2, ho2⟩, hch⟩; have HB2 := Lib.hid hb2; have HC2 := Lib.hid hc2; have HO2 := Lib.hid ho2; have HCH := Lib.hid hch; clear hb2 hc2 ho2 hch)
  go_ret
  refine ⟨rfl, ⟨A2', pv', w.heap.size, HB2.out, HC2.out, ?_, ?_⟩, (Chg.ext HX.out hBw).trans HCH.out⟩
  · have := HO2.out
    rw [List.map_append]
    exact this
  · intro g hg
    rw [List.mem_append, List.mem_singleton] at hg
    rcases hg with hg | rfl
    · exact ((HG.out.chg (Chg.ext (B := 0) (T := []) HX.out (Nat.zero_le _)) (by simp)).chg HCH.out (by decide)) g hg
    · exact ⟨k, hk, HBX.out.chg HCH.out (by decide)⟩
theorem ops_block {w : World} {B : Nat} {pv : Value} {gs : List Nat} (h : OwnO w B pv (gs.map opE)) (hp : 0 < gs.length) : ∃ q cap cur, pv = .slice (some ⟨q, 0, none⟩) gs.length cap ∧ BoxAt w q cur 310 ∧ gs.length ≤ cap ∧ ∀ j (hj : j < gs.length), cur[j]? = some (opE gs[j]) := by
  rcases h.2 with ⟨_, h2⟩ | ⟨g, cap, cur, h1, _, h3, h4, _, _, h7⟩
  · rw [List.length_map] at h2; omega
  · rw [List.length_map] at h1 h4
    refine ⟨g, cap, cur, h1, h3, h4, fun j hj => ?_⟩
    have e1 : (cur.toList.take ((gs.map opE).length * 1))[j]? = (gs.map opE)[j]? := by rw [h7]
    rw [List.getElem?_take_of_lt (by rw [List.length_map]; omega), Array.getElem?_toList, List.getElem?_map, List.getElem?_eq_getElem hj] at e1
    exact e1
set_option maxHeartbeats 4000000 in
theorem cut_any (B : Nat) (n : Cn) (A1 A2 : Array Value) (pv : Value) (gs : List Nat) (m : Nat) (hm : gs.length = m) (hp : 0 < m) (hll : m ≤ 1000) (w : World) (h : Csh B w n A1 A2 pv) (hb : Blank A1) (ho : OwnO w B pv (gs.map opE)) (hBw : B ≤ w.heap.size) (hgs : Bands w gs) :
    Calls Tryz.prog 166 #[.pointer (some ⟨n.C, 0, none⟩), .int .i64 m] w fun e w' => e = .returned (.tuple #[]) ∧
      (∃ A1', Blank A1' ∧ Csh B w' n A1' A2 (.slice none 0 0)) ∧ Chg B [270, 208] w w' := by
  obtain ⟨q, cap, cur, rfl, hq, hcap, hcur⟩ := ops_block ho (by omega)
  rw [hm] at h hcap
  have HB := Lib.hid hb
  have HC := Lib.hid h
  have HG := Lib.hid hgs
  have HQ := Lib.hid hq
  have HCUR := Lib.hid hcur
  have HM := Lib.hid hm
  have c0 := h.box.cell 0 (v := .pointer (some ⟨n.M1, 0, none⟩)) rfl
  have c2 := h.box.cell 2 (v := .slice (some ⟨q, 0, none⟩) m cap) rfl
  have hl := h.box.lt
  have hmin := fun (w : World) (ts : Array TypeId) (t : TypeId) => run_minD (P := Tryz.prog) w ts t (m : Int)
  have hmax := fun (w : World) (ts : Array TypeId) (t : TypeId) => run_maxD (P := Tryz.prog) w ts t (m : Int) (by omega)
  have hcI : (m : Int) ≤ (cap : Int) := by omega
  have hc0 : ¬ (cap = 0) := by omega
  have hc0I : ¬ ((cap : Int) = 0) := by omega
  clear h hb hgs hq hcur ho hm
  go_enter Tryz.func166, Tryz.ntmps166
  go_wp2_with fail
  refine wp_region_ext [(0, true), (1, true), (2, true), (3, true), (4, true), (5, true), (6, true), (7, true), (8, true), (9, true), (10, true), (11, true), (12, true), (13, true), (14, true)] (by kernel_rfl) (by kernel_rfl) ?_
  iterate 15 ((first
   | refine ext_move rfl rfl (by rfl) (by rfl) ?_
   | refine ext_assign rfl rfl (by rfl) (by rfl) ?_
   | refine ext_pick_t rfl rfl (by rfl) (by rfl) (by rfl) ?_
   | refine ext_pick_f rfl rfl (by rfl) (by rfl) (by rfl) ?_
   | (apply ext_take rfl (by rfl)
      · intro w' hS
        have hSc := hS.cells
        (try simp only [World.size_drew, World.cell?_drew] at hSc)
        go_simp
        (try simp (disch := omega) only [i64_id, u64_id, ↓IntWalk.iteOmega, Int.tdiv_eq_ediv_of_nonneg, Int.tmod_eq_emod_of_nonneg])
        try rfl)
   | refine ext_pass rfl (by rfl) ?_); simp only [Act.put, setZa, setZ0, setZ1])
  refine ext_nil ?_
  go_wp2_with fail
  go_loopw [30] (fun it wr => ∃ j : Nat, j ≤ m ∧ it = .int .i64 j ∧ Hid (∃ A', Blank A' ∧ Med B wr n.M1 n.S1 n.c1 A') ∧ Hid (Sct B n.S1 w wr)) (fun it _ => m - (intOf it).toNat)
  case atStart => exact ⟨0, Nat.zero_le _, rfl, Lib.hid ⟨A1, HB.out, HC.out.m1.ext (Ext.drew _)⟩, Lib.hid (Sct.ext (Ext.drew _) hBw)⟩
  case round =>
    obtain ⟨j, hj, rfl, HL, HS⟩ := hrel
    obtain ⟨A', hbl, hmd⟩ := HL.out
    have HBL := Lib.hid hbl
    have HMr := Lib.hid hmd
    have hcb := HC.out.box.chg HS.out.chg (by decide)
    have hqb := HQ.out.chg HS.out.chg (by decide)
    have e0 := hcb.cell 0 (v := .pointer (some ⟨n.M1, 0, none⟩)) rfl
    have hlr := hcb.lt
    have hlq := hqb.lt
    have HCB := Lib.hid hcb
    have HQB := Lib.hid hqb
    have hszr := HS.out.chg.size
    clear HL hbl hmd hcb hqb c0 c2 hl
    by_cases hlt : j < m
    · have hjI : (j : Int) < (m : Int) := by omega
      have hjg : j < gs.length := by rw [HM.out]; exact hlt
      obtain ⟨k, hk, hbg⟩ := (HG.out.chg HS.out.chg (by decide)) gs[j] (List.getElem_mem hjg)
      have hje := HQB.out.cell j (HCUR.out j hjg)
      have HBG := Lib.hid hbg
      clear hbg
      obtain ⟨g, hgj⟩ : ∃ g, gs[j] = g := ⟨_, rfl⟩
      rw [hgj] at hje HBG
      clear hgj
      go_wp2_with (go_at_call 164; refine (erase1_any B n.M1 n.S1 n.c1 g k A' hk _ HMr.out HBL.out (by omega) HBG.out).mono ?_; rintro e W3 ⟨rfl, h1, h2⟩; have H1 := Lib.hid h1; have H2 := Lib.hid (HS.out.trans h2); clear h1 h2)
      go_roundw
      case rel => exact ⟨j + 1, by omega, by go_num, H1, H2⟩
      case measure => simp [intOf]; omega
    · have hjm : j = m := by omega
      have HJ := Lib.hid hjm
      go_wp2_with (refine wpList_store_cell 206 _ _ rfl (by rfl) rfl rfl (HCB.out) (by simp) (by kernel_rfl) rfl ?_; intro W3 hS3; have HS3 := Lib.hid hS3; clear hS3 e0 hlr)
      go_end0
      have hcs : Chg B [208] wr W3 := (Chg.refl _ _ _).stored HCB.out HS3.out (by simp) HC.out.geC
      exact ⟨rfl, ⟨A', HBL.out, HS3.out.box, HC.out.geC, HMr.out.chg hcs (by decide) (by decide), (HS.out.med HC.out.m2 (Ne.symm HC.out.ne)).chg hcs (by decide) (by decide), HC.out.ne⟩, (HS.out.chg.wide (by decide)).trans (hcs.wide (by decide))⟩
set_option maxHeartbeats 2000000 in
theorem cflush_any (B : Nat) (n : Cn) (A1 A2 : Array Value) (pv : Value) (gs : List Nat) (m : Nat) (hm : gs.length = m) (hp : 0 < m) (hll : m ≤ 1000) (w : World) (h : Csh B w n A1 A2 pv) (hb : Blank A1) (ho : OwnO w B pv (gs.map opE)) (hBw : B ≤ w.heap.size) (hgs : Bands w gs) :
    Calls Tryz.prog 115 #[.pointer (some ⟨n.C, 0, none⟩)] w fun e w' => e = .returned (.tuple #[]) ∧
      (∃ A1', Blank A1' ∧ Csh B w' n A1' A2 (.slice none 0 0)) ∧ Chg B [270, 208] w w' := by
  have HF := Lib.hid (cut_any B n A1 A2 pv gs m hm hp hll w h hb ho hBw hgs)
  obtain ⟨q, cap, cur, rfl, hq, hcap, hcur⟩ := ops_block ho (by omega)
  rw [hm] at h
  have c2 := h.box.cell 2 (v := .slice (some ⟨q, 0, none⟩) m cap) rfl
  have hl := h.box.lt
  clear h hb ho hgs hq hcur hm
  go_enter Tryz.func115, Tryz.ntmps115
  go_wp2_with (go_at_call 166; refine HF.out.mono ?_; rintro e W1 ⟨rfl, h1, h2⟩; have H1 := Lib.hid h1; have H2 := Lib.hid h2; clear h1 h2)
  go_end0
  exact ⟨rfl, H1.out, H2.out⟩
end Go.Proofs.YtjabgpejmnpamaaGreatDoor

namespace Go.Proofs.YtjabgpejmnpamaaGreatDoor
open Go.RowKit Go.Shelf
set_option maxRecDepth 100000
abbrev TTd : List TypeId := [140, 124, 270, 208, 310]
structure Ph (B : Nat) (w : World) (D P : Nat) (n : Cn) (gs : List Nat) : Prop where
  dsk : Dsk B w D P n.C
  csh : ∃ A1 A2 pv, Blank A1 ∧ Blank A2 ∧ Csh B w n A1 A2 pv ∧ OwnO w B pv (gs.map opE)
  bands : Bands w gs
theorem Ph.ext {B : Nat} {w w' : World} {D P : Nat} {n : Cn} {gs : List Nat} (h : Ph B w D P n gs) (e : Ext w w') : Ph B w' D P n gs := by
  obtain ⟨h1, ⟨A1, A2, pv, a, b, c, d⟩, h3⟩ := h
  have hc : Chg 0 [] w w' := Chg.ext e (Nat.zero_le _)
  exact ⟨h1.ext e, ⟨A1, A2, pv, a, b, c.ext e, ownsRow_chg hc d (by simp)⟩, h3.chg hc (by simp)⟩
set_option maxHeartbeats 4000000 in
theorem derase1_any (B D P gD gK : Nat) (n : Cn) (gs : List Nat) (k : Nat) (hk : k < 5) (hll : gs.length ≤ 1000) (w : World) (h : Ph B w D P n gs) (hBw : B ≤ w.heap.size) (hD : BoxAt w gD #[.pointer (some ⟨D, 0, none⟩)] 68) (hK : BoxAt w gK #[.int .i64 k] 3) :
    Calls Tryz.prog 112 #[fltV, .pointer (some ⟨gD, 0, none⟩), .pointer (some ⟨gK, 0, none⟩)] w fun e w' => e = .returned (.int .i64 0) ∧ (∃ g, Ph B w' D P n (gs ++ [g])) ∧ Chg B TTd w w' := by
  obtain ⟨hd, ⟨A1, A2, pv, ha1, ha2, hc, ho⟩, hb⟩ := h
  obtain ⟨r, wr, er, f, o, l, hd1, hp1⟩ := hd.cells
  have HDk := Lib.hid hd
  have HC := Lib.hid hc
  have HO := Lib.hid ho
  have HBn := Lib.hid hb
  have HA1 := Lib.hid ha1
  have HA2 := Lib.hid ha2
  have HX := Lib.hid (Ext.alloc w (.cells #[.int .i64 0, .int .i64 0, .int .i64 0] 134))
  have b0 := hD.cell 0 (v := .pointer (some ⟨D, 0, none⟩)) rfl
  have b1 := hK.cell 0 (v := .int .i64 k) rfl
  have b2 := hd1.cell 10 (v := .pointer (some ⟨n.C, 0, none⟩)) rfl
  have lb0 := hD.lt
  have lb1 := hK.lt
  have lb2 := hd1.lt
  have HBD := Lib.hid hD
  clear hd hd1 hp1 hc ho hb hD hK ha1 ha2
  go_enter Tryz.func112, Tryz.ntmps112
  go_wp2_with fail
  refine wp_region_ext [(0, true), (1, true), (2, true), (3, true), (4, true), (5, false), (6, true)] (by kernel_rfl) (by kernel_rfl) ?_
  iterate 5 ((first
   | refine ext_move rfl rfl (by rfl) (by rfl) ?_
   | refine ext_assign rfl rfl (by rfl) (by rfl) ?_
   | refine ext_pick_t rfl rfl (by rfl) (by rfl) (by rfl) ?_
   | refine ext_pick_f rfl rfl (by rfl) (by rfl) (by rfl) ?_
   | (apply ext_take rfl (by rfl)
      · intro w' hS
        have hSc := hS.cells
        (try simp only [World.size_drew, World.cell?_drew] at hSc)
        go_simp
        (try simp (disch := omega) only [i64_id, u64_id, ↓IntWalk.iteOmega, Int.tdiv_eq_ediv_of_nonneg, Int.tmod_eq_emod_of_nonneg])
        try rfl)
   | refine ext_pass rfl (by rfl) ?_); simp only [Act.put, setZa, setZ0, setZ1])
  (refine ext_store rfl (by rfl) (by kernel_rfl) (fun K hK => ?_)
   go_simp
   go_at_call 113
   have hx0 : Ext w (w.alloc (.cells #[.int .i64 0, .int .i64 0, .int .i64 0] 134)).drew := HX.out.trans (Ext.drew _)
   refine (cerase_any B n A1 A2 pv gs k hk hll _ (HC.out.ext (by first | exact hx0 | exact HX.out)) HA2.out (ownsRow_chg (Chg.ext (B := 0) (T := []) (by first | exact hx0 | exact HX.out) (Nat.zero_le _)) HO.out (by simp)) (by first | exact Nat.le_trans hBw hx0.size | exact Nat.le_trans hBw HX.out.size) (HBn.out.chg (Chg.ext (B := 0) (T := []) (by first | exact hx0 | exact HX.out) (Nat.zero_le _)) (by simp))).mono ?_
   rintro e W1 ⟨rfl, ⟨A2', pv', g, hb2, hc2, ho2, hbn2⟩, hch⟩
   have HP1 : Hid (∃ g, Ph B W1 D P n (gs ++ [g])) := Lib.hid ⟨g, HDk.out.ext (by first | exact hx0 | exact HX.out) |>.chg hch (by decide) (by decide), ⟨A1, A2', pv', HA1.out, hb2, hc2, ho2⟩, hbn2⟩
   have HC1 : Hid (Chg B TTd w W1) := Lib.hid ((Chg.ext (by first | exact hx0 | exact HX.out) hBw).trans (hch.wide (by decide)))
   have HBD1 := Lib.hid ((HBD.out.ext (by first | exact hx0 | exact HX.out)).chg hch (by decide))
   refine hK _ _ ?_
   clear hK K hch hb2 hc2 ho2 hbn2 HX
   (try simp only [Act.put, setZa, setZ0, setZ1]))
  iterate 1 ((first
   | refine ext_move rfl rfl (by rfl) (by rfl) ?_
   | refine ext_assign rfl rfl (by rfl) (by rfl) ?_
   | refine ext_pick_t rfl rfl (by rfl) (by rfl) (by rfl) ?_
   | refine ext_pick_f rfl rfl (by rfl) (by rfl) (by rfl) ?_
   | (apply ext_take rfl (by rfl)
      · intro w' hS
        have hSc := hS.cells
        (try simp only [World.size_drew, World.cell?_drew] at hSc)
        go_simp
        (try simp (disch := omega) only [i64_id, u64_id, ↓IntWalk.iteOmega, Int.tdiv_eq_ediv_of_nonneg, Int.tmod_eq_emod_of_nonneg])
        try rfl)
   | refine ext_pass rfl (by rfl) ?_); simp only [Act.put, setZa, setZ0, setZ1])
  refine ext_nil ?_
  obtain ⟨g, hph⟩ := HP1.out
  obtain ⟨r2, wr2, er2, f2, o2, l2, hd2, hp2⟩ := hph.dsk.cells
  have HPH := Lib.hid hph
  have HD2 := Lib.hid hd2
  have HP2 := Lib.hid hp2
  have d0 := HBD1.out.cell 0 (v := .pointer (some ⟨D, 0, none⟩)) rfl
  have dl0 := HBD1.out.lt
  have d1 := hd2.cell 2 (v := .int .i64 er2) rfl
  have dl1 := hd2.lt
  clear b0 b1 b2 lb0 lb1 lb2 hph hd2 hp2
  go_wp2_with (refine wpList_store_cell 3 _ _ rfl (by rfl) rfl rfl (HD2.out) (by simp) (by kernel_rfl) rfl ?_; intro W3 hS3; have HS3 := Lib.hid hS3; clear hS3 d0 dl0 d1 dl1)
  go_ret
  have hcs : Chg B [140] W1 W3 := (Chg.refl _ _ _).stored HD2.out HS3.out (by simp) HDk.out.geD
  obtain ⟨_, ⟨A1', A2'', pv'', x1, x2, x3, x4⟩, x5⟩ := HPH.out
  exact ⟨rfl, ⟨g, ⟨⟨_, _, _, _, _, HS3.out.box⟩, ⟨_, HP2.out.chg hcs (by decide)⟩, HDk.out.geD, HDk.out.geP⟩, ⟨A1', A2'', pv'', x1, x2, x3.chg hcs (by decide) (by decide) (by decide), ownsRow_chg hcs x4 (by decide)⟩, x5.chg hcs (by decide)⟩, HC1.out.trans (hcs.wide (by decide))⟩
theorem Ph.of {B B' : Nat} {w w' : World} {D P : Nat} {n : Cn} {gs : List Nat} (h : Ph B w D P n gs) (hd : Dsk B w' D P n.C) (e : Chg B' [140, 124] w w') : Ph B w' D P n gs := by
  obtain ⟨h1, ⟨A1, A2, pv, a, b, c, d⟩, h3⟩ := h
  exact ⟨hd, ⟨A1, A2, pv, a, b, c.chg e (by decide) (by decide) (by decide), ownsRow_chg e d (by decide)⟩, h3.chg e (by decide)⟩
set_option maxHeartbeats 4000000 in
theorem derase_any (B D P : Nat) (n : Cn) (gs : List Nat) (k : Nat) (hk : k < 5) (hll : gs.length ≤ 1000) (w : World) (h : Ph B w D P n gs) (hBw : B ≤ w.heap.size) :
    Calls Tryz.prog 60 #[.pointer (some ⟨D, 0, none⟩), .int .u64 0, .int .i64 k] w fun e w' => e = .returned (.int .i64 0) ∧ (∃ g, Ph B w' D P n (gs ++ [g])) ∧ Chg B TTd w w' := by
  have hx1 : Ext w ((w.alloc (.cells #[.pointer (some ⟨D, 0, none⟩)] 68)).alloc (.cells #[.int .i64 k] 3)) := (Ext.alloc _ _).trans (Ext.alloc _ _)
  have hb0 := (BoxAt.new w #[.pointer (some ⟨D, 0, none⟩)] 68).ext (Ext.alloc _ (.cells #[.int .i64 k] 3))
  have hb1 := BoxAt.new (w.alloc (.cells #[.pointer (some ⟨D, 0, none⟩)] 68)) #[.int .i64 k] 3
  rw [World.size_alloc] at hb1
  have HX1 := Lib.hid hx1
  have HB0 := Lib.hid hb0
  have HB1 := Lib.hid hb1
  have HP := Lib.hid (h.ext hx1)
  have hz1 := hx1.size
  have HZ := Lib.hid hz1
  clear h hx1 hb0 hb1 hz1
  go_enter Tryz.func60, Tryz.ntmps60
  go_wp2_with (go_at_call 111; refine (perform_any 112 (enters_of Tryz.func112 (by kernel_rfl) rfl) #[.pointer (some ⟨w.heap.size, 0, none⟩), .pointer (some ⟨w.heap.size + 1, 0, none⟩)] B D P n.C _ HP.out.dsk (Nat.le_trans hBw HZ.out) (fun w' => (∃ g, Ph B w' D P n (gs ++ [g])) ∧ Chg B TTd w w') (fun w1 hd1 hc1 => (derase1_any B D P w.heap.size (w.heap.size + 1) n gs k hk hll w1 (HP.out.of hd1 hc1) (Nat.le_trans hBw (Nat.le_trans HZ.out hc1.size)) (HB0.out.chg hc1 (by decide)) (HB1.out.chg hc1 (by decide))).mono (fun e w' hp => ⟨hp.1, hp.2.1, (Chg.ext HX1.out hBw).trans ((hc1.wide (by decide)).trans hp.2.2)⟩))).mono ?_; rintro e W3 ⟨rfl, hR⟩; have HR := Lib.hid hR; clear hR)
  go_ret
  exact ⟨rfl, HR.out⟩
set_option maxHeartbeats 4000000 in
theorem dflush1_any (B D P gD : Nat) (n : Cn) (gs : List Nat) (m : Nat) (hm : gs.length = m) (hp : 0 < m) (hll : m ≤ 1000) (w : World) (h : Ph B w D P n gs) (hBw : B ≤ w.heap.size) (hD : BoxAt w gD #[.pointer (some ⟨D, 0, none⟩)] 68) :
    Calls Tryz.prog 114 #[fltV, .pointer (some ⟨gD, 0, none⟩)] w fun e w' => e = .returned (.int .i64 0) ∧ Ph B w' D P n [] ∧ Chg B TTd w w' := by
  obtain ⟨hd, ⟨A1, A2, pv, ha1, ha2, hc, ho⟩, hb⟩ := h
  obtain ⟨r, wr, er, f, o, l, hd1, hp1⟩ := hd.cells
  have HX := Lib.hid (Ext.alloc w (.cells #[.int .i64 0, .int .i64 0, .int .i64 0] 134))
  have h0 : Chg 0 [] w (w.alloc (.cells #[.int .i64 0, .int .i64 0, .int .i64 0] 134)) := Chg.ext HX.out (Nat.zero_le _)
  have hd' := hd.ext HX.out
  have hd1' := hd1.ext HX.out
  have hp1' := hp1.ext HX.out
  have HF := Lib.hid (cflush_any B n A1 A2 pv gs m hm hp hll _ (hc.ext HX.out) ha1 (ownsRow_chg h0 ho (by simp)) (Nat.le_trans hBw HX.out.size) (hb.chg h0 (by simp)))
  have HDk := Lib.hid hd'
  have HDb := Lib.hid hd1'
  have HPb := Lib.hid hp1'
  have HBD := Lib.hid (hD.ext HX.out)
  have HA2 := Lib.hid ha2
  have b0 := hD.cell 0 (v := .pointer (some ⟨D, 0, none⟩)) rfl
  have b2 := hd1.cell 10 (v := .pointer (some ⟨n.C, 0, none⟩)) rfl
  have lb0 := hD.lt
  have lb2 := hd1.lt
  clear hd hd1 hp1 hd' hd1' hp1' hc ho hb hD ha1 ha2 h0
  go_enter Tryz.func114, Tryz.ntmps114
  go_wp2_with first | (go_at_call 115; refine HF.out.mono ?_; rintro e W1 ⟨rfl, ⟨A1', h1, h2⟩, h3⟩; have H1 := Lib.hid h1; have H2 := Lib.hid h2; have H3 := Lib.hid h3; have hdd := HDb.out.chg h3 (by decide); have HD2 := Lib.hid hdd; have hbb := HBD.out.chg h3 (by decide); have d0 := hbb.cell 0 (v := .pointer (some ⟨D, 0, none⟩)) rfl; have dl0 := hbb.lt; have d1 := hdd.cell 3 (v := .int .i64 f) rfl; have dl1 := hdd.lt; clear h1 h2 h3 hdd hbb b0 b2 lb0 lb2) | (refine wpList_store_cell 3 _ _ rfl (by rfl) rfl rfl (HD2.out) (by simp) (by kernel_rfl) rfl ?_; intro W3 hS3; have HS3 := Lib.hid hS3; clear hS3 d0 dl0 d1 dl1)
  go_ret
  have hcs : Chg B [140] W1 W3 := (Chg.refl _ _ _).stored HD2.out HS3.out (by simp) HDk.out.geD
  exact ⟨rfl, ⟨⟨⟨_, _, _, _, _, HS3.out.box⟩, ⟨_, (HPb.out.chg H3.out (by decide)).chg hcs (by decide)⟩, HDk.out.geD, HDk.out.geP⟩, ⟨A1', A2, .slice none 0 0, H1.out, HA2.out, H2.out.chg hcs (by decide) (by decide) (by decide), World.ownsRow_nil _ _ _ _⟩, fun g hg => by cases hg⟩, (Chg.ext HX.out hBw).trans ((H3.out.wide (by decide)).trans (hcs.wide (by decide)))⟩
set_option maxHeartbeats 4000000 in
theorem dflush_any (B D P : Nat) (n : Cn) (gs : List Nat) (m : Nat) (hm : gs.length = m) (hp : 0 < m) (hll : m ≤ 1000) (w : World) (h : Ph B w D P n gs) (hBw : B ≤ w.heap.size) :
    Calls Tryz.prog 62 #[.pointer (some ⟨D, 0, none⟩), .int .u64 0] w fun e w' => e = .returned (.int .i64 0) ∧ Ph B w' D P n [] ∧ Chg B TTd w w' := by
  have hx1 : Ext w (w.alloc (.cells #[.pointer (some ⟨D, 0, none⟩)] 68)) := Ext.alloc _ _
  have hb0 := BoxAt.new w #[.pointer (some ⟨D, 0, none⟩)] 68
  have HX1 := Lib.hid hx1
  have HB0 := Lib.hid hb0
  have HP := Lib.hid (h.ext hx1)
  have hz1 := hx1.size
  have HZ := Lib.hid hz1
  have HM := Lib.hid hm
  clear h hx1 hb0 hz1 hm
  go_enter Tryz.func62, Tryz.ntmps62
  go_wp2_with (go_at_call 111; refine (perform_any 114 (enters_of Tryz.func114 (by kernel_rfl) rfl) #[.pointer (some ⟨w.heap.size, 0, none⟩)] B D P n.C _ HP.out.dsk (Nat.le_trans hBw HZ.out) (fun w' => Ph B w' D P n [] ∧ Chg B TTd w w') (fun w1 hd1 hc1 => (dflush1_any B D P w.heap.size n gs m HM.out hp hll w1 (HP.out.of hd1 hc1) (Nat.le_trans hBw (Nat.le_trans HZ.out hc1.size)) (HB0.out.chg hc1 (by decide))).mono (fun e w' hp => ⟨hp.1, hp.2.1, (Chg.ext HX1.out hBw).trans ((hc1.wide (by decide)).trans hp.2.2)⟩))).mono ?_; rintro e W3 ⟨rfl, hR⟩; have HR := Lib.hid hR; clear hR)
  go_ret
  exact ⟨rfl, HR.out⟩
end Go.Proofs.YtjabgpejmnpamaaGreatDoor
