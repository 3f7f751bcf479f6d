/-
  Chapter 25 (piecesum): Set.
-/
import Derived.Test.YtinnikbjphkkiaaPsI
import Derived.Test.YtinnikbjphkkiaaPar
import Derived.ArgAppend
namespace Go.Proofs.Ytinnikbjphkkiaa
open Go.RowKit
set_option linter.unusedVariables false

theorem OwnU.ext {w w' : World} {base : Nat} {v : Value} {l : List (BitVec 64)} (h : OwnU w base v l) (e : Ext w w') : OwnU w' base v l :=
  h.kept (row := none) ⟨e.os, e.tape, e.output, e.size, fun k hk _ => e.block k hk⟩ (by cases v.ownBlock <;> simp)
theorem ownB_block {v : Value} {g : Nat} (h : ownB v = some g) (hs : ∀ p, v ≠ .pointer p) : v.ownBlock = some g := by
  cases v <;> simp [ownB] at h
  · exact absurd rfl (hs _)
  · rename_i a n c
    cases a with
    | none => simp [ownB] at h
    | some a => cases c <;> simp [ownB] at h; simp [Value.ownBlock, h]
theorem OwnU.form {w : World} {base : Nat} {v : Value} {l : List (BitVec 64)} (h : OwnU w base v l) (hl : 0 < l.length) : ∃ g cap, v = .slice (some ⟨g, 0, none⟩) l.length (cap + 1) ∧ base ≤ g ∧ g < w.heap.size := by
  rcases h.2 with ⟨_, h2⟩ | ⟨g, cap, cur, h1, h2, h3, h4, _⟩
  · omega
  · obtain ⟨c, rfl⟩ : ∃ c, cap = c + 1 := ⟨cap - 1, by omega⟩
    exact ⟨g, c, h1, h2, (Array.getElem?_eq_some_iff.1 h3).1⟩
theorem OwnU.shape {w : World} {base : Nat} {v : Value} {l : List (BitVec 64)} (h : OwnU w base v l) : ∃ a c, v = .slice a l.length c := by
  rcases h.2 with ⟨h1, h2⟩ | ⟨g, cap, cur, h1, _⟩
  · exact ⟨_, _, by rw [h1, h2]⟩
  · exact ⟨_, _, h1⟩
/-- a row and a block of another type lie apart -/
theorem OwnU.not_box {w : World} {base g : Nat} {v : Value} {l : List (BitVec 64)} {cs : Array Value} {t : TypeId} (h : OwnU w base v l) (hb : BoxAt w g cs t) (ht : t ≠ 22) : v.ownBlock ≠ some g := by
  intro e
  rcases h.2 with ⟨h1, _⟩ | ⟨g', cap, cur, h1, h2, h3, _⟩
  · rw [h1] at e; simp [Value.ownBlock] at e
  · rw [h1] at e; simp [Value.ownBlock] at e
    subst e
    rw [show w.heap[g']? = _ from hb] at h3
    cases h3; exact ht rfl
/-- a leaf in a block of its own, with two own rows -/
structure LeafAt (B : Nat) (l1 l2 : List (BitVec 64)) (v1 v2 : Value) (g : Nat) (w : World) : Prop where
  o1 : OwnU w B v1 l1
  o2 : OwnU w B v2 l2
  ap : ∀ k, v1.ownBlock = some k → v2.ownBlock ≠ some k
  bx : BoxAt w g #[v1, v2] 32
theorem LeafAt.ext {B : Nat} {l1 l2 : List (BitVec 64)} {v1 v2 : Value} {g : Nat} {w w' : World} (h : LeafAt B l1 l2 v1 v2 g w) (e : Ext w w') : LeafAt B l1 l2 v1 v2 g w' :=
  ⟨h.o1.ext e, h.o2.ext e, h.ap, h.bx.ext e⟩
theorem LeafAt.set1 {B : Nat} {l1 l2 : List (BitVec 64)} {g g1 n c : Nat} {v2 : Value} {w : World} (h : LeafAt B l1 l2 (.slice (some ⟨g1, 0, none⟩) n c) v2 g w) (p : Nat) (x : BitVec 64) (hn : n = l1.length) :
    LeafAt B (l1.set p x) l2 (.slice (some ⟨g1, 0, none⟩) n c) v2 g (w.setCell ⟨g1, p, none⟩ (encU x)) := by
  have h1 := h.o1
  subst hn
  obtain ⟨h2, h3⟩ := World.ownsRow.stored h1 p (encU x)
  have hb : g ≠ g1 := fun e => h1.not_box h.bx (by decide) (by rw [e]; rfl)
  refine ⟨?_, h.o2.kept h3 ?_, h.ap, h.bx.set_off hb _ _⟩
  · show World.ownsRow _ _ _ _ _ _ _
    rw [List.length_set, List.map_set]; exact h2
  · cases hv : v2.ownBlock with
    | none => exact .inl rfl
    | some k => exact .inr fun e => h.ap g1 rfl (hv.trans e)
theorem LeafAt.set2 {B : Nat} {l1 l2 : List (BitVec 64)} {g g2 n c : Nat} {v1 : Value} {w : World} (h : LeafAt B l1 l2 v1 (.slice (some ⟨g2, 0, none⟩) n c) g w) (p : Nat) (x : BitVec 64) (hn : n = l2.length) :
    LeafAt B l1 (l2.set p x) v1 (.slice (some ⟨g2, 0, none⟩) n c) g (w.setCell ⟨g2, p, none⟩ (encU x)) := by
  have h1 := h.o2
  subst hn
  obtain ⟨h2, h3⟩ := World.ownsRow.stored h1 p (encU x)
  have hb : g ≠ g2 := fun e => h1.not_box h.bx (by decide) (by rw [e]; rfl)
  refine ⟨h.o1.kept h3 ?_, ?_, h.ap, h.bx.set_off hb _ _⟩
  · cases hv : v1.ownBlock with
    | none => exact .inl rfl
    | some k => exact .inr fun e => h.ap k hv e.symm
  · show World.ownsRow _ _ _ _ _ _ _
    rw [List.length_set, List.map_set]; exact h2

theorem LeafAt.born {B : Nat} {l1 l2 : List (BitVec 64)} {v1 v2 x y : Value} {g : Nat} {w : World} (h1 : OwnU w B v1 l1) (h2 : OwnU w B v2 l2) (ap : ∀ k, v1.ownBlock = some k → v2.ownBlock ≠ some k) (hb : BoxAt w g #[x, y] 32) :
    LeafAt B l1 l2 v1 v2 g ((w.setCell ⟨g, 0, none⟩ v1).setCell ⟨g, 1, none⟩ v2) := by
  have n1 := h1.not_box hb (by decide)
  have n2 := h2.not_box hb (by decide)
  exact ⟨(h1.kept (grown_set w g 0 v1) (.inr n1)).kept (grown_set _ g 1 v2) (.inr n1), (h2.kept (grown_set w g 0 v1) (.inr n2)).kept (grown_set _ g 1 v2) (.inr n2), ap, (hb.set 0 v1).set 1 v2⟩
theorem OwnU.at {w : World} {base g n c k : Nat} {l : List (BitVec 64)} (h : OwnU w base (.slice (some ⟨g, 0, none⟩) n c) l) (hn : n = l.length) (hk : k < n) : (∃ x, w.cell? ⟨g, k, none⟩ = some (encU x)) ∧ w.frozen? ⟨g, k, none⟩ = false := by
  subst hn
  refine ⟨⟨l[k], ?_⟩, World.ownsRow.frozenAt h k⟩
  rw [World.ownsRow.cellAt h k (by omega)]
  simp [hk]

theorem bel_set {B : Nat} {w w' : World} {b : Nat} (h : Below B w w') (hb : B ≤ b) (o : Nat) (v : Value) : Below B w (w'.setCell ⟨b, o, none⟩ v) := Below.setCell h hb _
def setL (n : Nat) (l : List (BitVec 64)) (k : Nat) (x : BitVec 64) : List (BitVec 64) := (l.take n).set k x

set_option maxHeartbeats 800000 in
theorem pset_no (vv vs : Value) (lv ls : List (BitVec 64)) (g p : Int) (v : BitVec 64) (x0 x1 x2 x3 x4 x5 x6 x7 : BitVec 8) (w : World) (hlv : lv.length ≤ 100000) (hls : ls.length ≤ 100000) (hp : -9223372036854775808 ≤ p ∧ p ≤ 9223372036854775807)
    (hout : p < 0 ∨ (min lv.length ls.length : Nat) ≤ p) (h1 : SliceAt encU w vv lv) (h2 : SliceAt encU w vs ls) :
    Calls Try.prog 20 #[.agg #[vv, vs], .agg #[.int .i64 g, .int .i64 p, encU v, encB x0, encB x1, encB x2, encB x3, encB x4, encB x5, encB x6, encB x7]] w fun e w' => e = .returned (.tuple #[.agg #[.slice none 0 0, .slice none 0 0], .int .i64 2]) ∧ Below w.heap.size w w' := by
  have H1 := Lib.hid h1
  have H2 := Lib.hid h2
  obtain ⟨ad1, cap1, rfl, hc1, _⟩ := h1
  obtain ⟨ad2, cap2, rfl, hc2, _⟩ := h2
  generalize hm : min lv.length ls.length = m at *
  have HM := Lib.hid hm
  have hm1 : m ≤ 100000 := by omega
  clear hm
  go_enter Try.func20, Try.ntmps20
  go_wp2_with fail
  have hz : w.heap.size + 2 < (((w.alloc (.cells #[.slice ad1 lv.length cap1, .slice ad2 ls.length cap2] 32)).alloc (.cells #[.int .i64 g, .int .i64 p, encU v, encB x0, encB x1, encB x2, encB x3, encB x4, encB x5, encB x6, encB x7] 26)).alloc (.cells #[.slice none 0 0, .slice none 0 0] 32)).heap.size := by simp
  have hsz : (((w.alloc (.cells #[.slice ad1 lv.length cap1, .slice ad2 ls.length cap2] 32)).alloc (.cells #[.int .i64 g, .int .i64 p, encU v, encB x0, encB x1, encB x2, encB x3, encB x4, encB x5, encB x6, encB x7] 26)).alloc (.cells #[.slice none 0 0, .slice none 0 0] 32)).heap.size = w.heap.size + 3 := by simp
  generalize hW : ((w.alloc (.cells #[.slice ad1 lv.length cap1, .slice ad2 ls.length cap2] 32)).alloc (.cells #[.int .i64 g, .int .i64 p, encU v, encB x0, encB x1, encB x2, encB x3, encB x4, encB x5, encB x6, encB x7] 26)).alloc (.cells #[.slice none 0 0, .slice none 0 0] 32) = W at *
  have c0_0 : W.cell? ⟨w.heap.size, 0, none⟩ = some (.slice ad1 lv.length cap1) := by rw [← hW]; refine (World.cell?_alloc_past (hn := by first | (simp; done) | (simp; omega)) ..).trans ?_; refine (World.cell?_alloc_past (hn := by first | (simp; done) | (simp; omega)) ..).trans ?_; first | exact (World.cell?_alloc_at (hn := by first | (simp; done) | (simp; omega)) ..).trans rfl | (simp; done) | (go_simp; done)
  have c0_1 : W.cell? ⟨w.heap.size, 1, none⟩ = some (.slice ad2 ls.length cap2) := by rw [← hW]; refine (World.cell?_alloc_past (hn := by first | (simp; done) | (simp; omega)) ..).trans ?_; refine (World.cell?_alloc_past (hn := by first | (simp; done) | (simp; omega)) ..).trans ?_; first | exact (World.cell?_alloc_at (hn := by first | (simp; done) | (simp; omega)) ..).trans rfl | (simp; done) | (go_simp; done)
  have hf0 : ∀ o, W.frozen? ⟨w.heap.size, o, none⟩ = false := fun o => by rw [← hW]; refine (World.frozen?_alloc_past (hn := by first | (simp; done) | (simp; omega)) ..).trans ?_; refine (World.frozen?_alloc_past (hn := by first | (simp; done) | (simp; omega)) ..).trans ?_; first | exact World.frozen?_alloc_at (hn := by first | (simp; done) | (simp; omega)) .. | (simp; done) | (go_simp; done)
  have c1_0 : W.cell? ⟨w.heap.size + 1, 0, none⟩ = some (.int .i64 g) := by rw [← hW]; refine (World.cell?_alloc_past (hn := by first | (simp; done) | (simp; omega)) ..).trans ?_; first | exact (World.cell?_alloc_at (hn := by first | (simp; done) | (simp; omega)) ..).trans rfl | (simp; done) | (go_simp; done)
  have c1_1 : W.cell? ⟨w.heap.size + 1, 1, none⟩ = some (.int .i64 p) := by rw [← hW]; refine (World.cell?_alloc_past (hn := by first | (simp; done) | (simp; omega)) ..).trans ?_; first | exact (World.cell?_alloc_at (hn := by first | (simp; done) | (simp; omega)) ..).trans rfl | (simp; done) | (go_simp; done)
  have c1_2 : W.cell? ⟨w.heap.size + 1, 2, none⟩ = some (encU v) := by rw [← hW]; refine (World.cell?_alloc_past (hn := by first | (simp; done) | (simp; omega)) ..).trans ?_; first | exact (World.cell?_alloc_at (hn := by first | (simp; done) | (simp; omega)) ..).trans rfl | (simp; done) | (go_simp; done)
  have c1_3 : W.cell? ⟨w.heap.size + 1, 3, none⟩ = some (encB x0) := by rw [← hW]; refine (World.cell?_alloc_past (hn := by first | (simp; done) | (simp; omega)) ..).trans ?_; first | exact (World.cell?_alloc_at (hn := by first | (simp; done) | (simp; omega)) ..).trans rfl | (simp; done) | (go_simp; done)
  have c1_4 : W.cell? ⟨w.heap.size + 1, 4, none⟩ = some (encB x1) := by rw [← hW]; refine (World.cell?_alloc_past (hn := by first | (simp; done) | (simp; omega)) ..).trans ?_; first | exact (World.cell?_alloc_at (hn := by first | (simp; done) | (simp; omega)) ..).trans rfl | (simp; done) | (go_simp; done)
  have c1_5 : W.cell? ⟨w.heap.size + 1, 5, none⟩ = some (encB x2) := by rw [← hW]; refine (World.cell?_alloc_past (hn := by first | (simp; done) | (simp; omega)) ..).trans ?_; first | exact (World.cell?_alloc_at (hn := by first | (simp; done) | (simp; omega)) ..).trans rfl | (simp; done) | (go_simp; done)
  have c1_6 : W.cell? ⟨w.heap.size + 1, 6, none⟩ = some (encB x3) := by rw [← hW]; refine (World.cell?_alloc_past (hn := by first | (simp; done) | (simp; omega)) ..).trans ?_; first | exact (World.cell?_alloc_at (hn := by first | (simp; done) | (simp; omega)) ..).trans rfl | (simp; done) | (go_simp; done)
  have c1_7 : W.cell? ⟨w.heap.size + 1, 7, none⟩ = some (encB x4) := by rw [← hW]; refine (World.cell?_alloc_past (hn := by first | (simp; done) | (simp; omega)) ..).trans ?_; first | exact (World.cell?_alloc_at (hn := by first | (simp; done) | (simp; omega)) ..).trans rfl | (simp; done) | (go_simp; done)
  have c1_8 : W.cell? ⟨w.heap.size + 1, 8, none⟩ = some (encB x5) := by rw [← hW]; refine (World.cell?_alloc_past (hn := by first | (simp; done) | (simp; omega)) ..).trans ?_; first | exact (World.cell?_alloc_at (hn := by first | (simp; done) | (simp; omega)) ..).trans rfl | (simp; done) | (go_simp; done)
  have c1_9 : W.cell? ⟨w.heap.size + 1, 9, none⟩ = some (encB x6) := by rw [← hW]; refine (World.cell?_alloc_past (hn := by first | (simp; done) | (simp; omega)) ..).trans ?_; first | exact (World.cell?_alloc_at (hn := by first | (simp; done) | (simp; omega)) ..).trans rfl | (simp; done) | (go_simp; done)
  have c1_10 : W.cell? ⟨w.heap.size + 1, 10, none⟩ = some (encB x7) := by rw [← hW]; refine (World.cell?_alloc_past (hn := by first | (simp; done) | (simp; omega)) ..).trans ?_; first | exact (World.cell?_alloc_at (hn := by first | (simp; done) | (simp; omega)) ..).trans rfl | (simp; done) | (go_simp; done)
  have hf1 : ∀ o, W.frozen? ⟨w.heap.size + 1, o, none⟩ = false := fun o => by rw [← hW]; refine (World.frozen?_alloc_past (hn := by first | (simp; done) | (simp; omega)) ..).trans ?_; first | exact World.frozen?_alloc_at (hn := by first | (simp; done) | (simp; omega)) .. | (simp; done) | (go_simp; done)
  have c2_0 : W.cell? ⟨w.heap.size + 2, 0, none⟩ = some (.slice none 0 0) := by rw [← hW]; first | exact (World.cell?_alloc_at (hn := by first | (simp; done) | (simp; omega)) ..).trans rfl | (simp; done) | (go_simp; done)
  have c2_1 : W.cell? ⟨w.heap.size + 2, 1, none⟩ = some (.slice none 0 0) := by rw [← hW]; first | exact (World.cell?_alloc_at (hn := by first | (simp; done) | (simp; omega)) ..).trans rfl | (simp; done) | (go_simp; done)
  have hf2 : ∀ o, W.frozen? ⟨w.heap.size + 2, o, none⟩ = false := fun o => by rw [← hW]; first | exact World.frozen?_alloc_at (hn := by first | (simp; done) | (simp; omega)) .. | (simp; done) | (go_simp; done)
  have hxW : Ext w W := by rw [← hW]; exact Ext.trans (Ext.trans (Ext.alloc _ _) (Ext.alloc _ _)) (Ext.alloc _ _)
  clear hW
  have HSZ := Lib.hid hsz
  clear hsz
  have hz0 : w.heap.size < W.heap.size := by omega
  have hz1 : w.heap.size + 1 < W.heap.size := by omega
  have hz2 : w.heap.size + 2 < W.heap.size := by omega
  have HC := pieces_any _ _ lv ls W hlv hls (H1.out.ext hxW) (H2.out.ext hxW)
  rw [HM.out] at HC
  have HC := Lib.hid HC
  go_wp2_with fail
  go_at_call 30
  refine HC.out.mono ?_
  rintro e w1 ⟨rfl, hb1⟩
  have hc := Ext.cells hb1
  have hff := Ext.frozens hb1
  have hs := Ext.size hb1
  have hy0 : w.heap.size < w1.heap.size := by omega
  have hy1 : w.heap.size + 1 < w1.heap.size := by omega
  have hy2 : w.heap.size + 2 < w1.heap.size := by omega
  have hx1 : Ext w w1 := hxW.trans hb1
  rcases hout with hneg | hge
  · have hd : decide (p < 0) = true := by rw [decide_eq_true_eq]; exact hneg
    go_wp2_with fail
    refine bodyPost_ret (v := .tuple #[.agg #[.slice none 0 0, .slice none 0 0], .int .i64 2]) ?_ rfl ⟨rfl, (Below.setCell hx1 (by simp <;> omega) _).setCell (by simp <;> omega) _⟩
    simp only [results, Try.results20]
    go_simp
  · have h0 : 0 ≤ p := by omega
    have hd : decide (p < 0) = false := by rw [decide_eq_false_iff_not]; omega
    have hd2 : decide ((m : Int) ≤ p) = true := by rw [decide_eq_true_eq]; omega
    go_wp2_with fail
    refine bodyPost_ret (v := .tuple #[.agg #[.slice none 0 0, .slice none 0 0], .int .i64 2]) ?_ rfl ⟨rfl, (Below.setCell hx1 (by simp <;> omega) _).setCell (by simp <;> omega) _⟩
    simp only [results, Try.results20]
    go_simp

theorem OwnU.not_ptr {w : World} {base : Nat} {v : Value} {l : List (BitVec 64)} (h : OwnU w base v l) (p : Option Addr) : v ≠ .pointer p := by
  obtain ⟨a, c, h⟩ := h.shape
  rw [h]; simp
theorem clone_at (m : Nat) (ad : Option Addr) (l : List (BitVec 64)) {cap : Nat} (w : World) (hm : l.length = m) (hl : m ≤ 100000) (h : SliceAt encU w (.slice ad m cap) l) :
    Calls Try.prog 32 #[.slice ad m cap] w fun e w' => ∃ v', e = .returned v' ∧ OwnU w' w.heap.size v' l ∧ Below w.heap.size w w' := clone_u _ l w (by omega) h

/-- what Set returns for a piece of the leaf -/
def SetEnd (W : World) (lv ls : List (BitVec 64)) (g : Int) (k : Nat) (v : BitVec 64) (d : List (BitVec 8)) (e : Ending) (w' : World) : Prop :=
  ∃ v1 v2, e = .returned (.tuple #[.agg #[v1, v2], .int .i64 0]) ∧ OwnU w' W.heap.size v1 (setL (min lv.length ls.length) lv k v) ∧ OwnU w' W.heap.size v2 (setL (min lv.length ls.length) ls k (psum g k v d)) ∧
    (∀ k, v1.ownBlock = some k → v2.ownBlock ≠ some k) ∧ Below W.heap.size W w'

def setPosts (W : World) (l1 l2 : List (BitVec 64)) (a b x g : Nat) : Nat → List Value → Value → World → Prop := fun i u v w =>
  if i = a then OwnU w W.heap.size v l1 else if i = b then OwnU w W.heap.size v l2 else if i = x then v = .agg u.toArray else
    ∃ k, v = .pointer (some ⟨k, 0, none⟩) ∧ W.heap.size ≤ k ∧ BoxAt w k #[.slice none 0 0, .slice none 0 0] 32

set_option maxHeartbeats 1000000 in
theorem pset_ok (vv vs : Value) (lv ls : List (BitVec 64)) (g : Int) (k : Nat) (v : BitVec 64) (x0 x1 x2 x3 x4 x5 x6 x7 : BitVec 8) (w : World) (hlv : lv.length ≤ 100000) (hls : ls.length ≤ 100000) (hg : -9223372036854775808 ≤ g ∧ g ≤ 9223372036854775807)
    (hk : k < min lv.length ls.length) (h1 : SliceAt encU w vv lv) (h2 : SliceAt encU w vs ls) :
    Calls Try.prog 20 #[.agg #[vv, vs], .agg #[.int .i64 g, .int .i64 k, encU v, encB x0, encB x1, encB x2, encB x3, encB x4, encB x5, encB x6, encB x7]] w (SetEnd w lv ls g k v [x0, x1, x2, x3, x4, x5, x6, x7]) := by
  have H1 := Lib.hid h1
  have H2 := Lib.hid h2
  obtain ⟨ad1, cap1, rfl, hc1, _⟩ := h1
  obtain ⟨ad2, cap2, rfl, hc2, _⟩ := h2
  have hm1 : min lv.length ls.length ≤ lv.length := Nat.min_le_left _ _
  have hm2 : min lv.length ls.length ≤ ls.length := Nat.min_le_right _ _
  have hm3 : min lv.length ls.length ≤ 100000 := by omega
  have hmc1 : min lv.length ls.length ≤ cap1 := Nat.le_trans hm1 hc1
  have hmc2 : min lv.length ls.length ≤ cap2 := Nat.le_trans hm2 hc2
  generalize hm : min lv.length ls.length = m at *
  have HM := Lib.hid hm
  have HT1 := Lib.hid (H1.out.take m hm1)
  have HT2 := Lib.hid (H2.out.take m hm2)
  have HL1 : Hid ((lv.take m).length = m) := by show _ = _; rw [List.length_take]; omega
  have HL2 : Hid ((ls.take m).length = m) := by show _ = _; rw [List.length_take]; omega
  clear hm
  go_enter Try.func20, Try.ntmps20
  go_wp2_with fail
  have hz : w.heap.size + 2 < (((w.alloc (.cells #[.slice ad1 lv.length cap1, .slice ad2 ls.length cap2] 32)).alloc (.cells #[.int .i64 g, .int .i64 k, encU v, encB x0, encB x1, encB x2, encB x3, encB x4, encB x5, encB x6, encB x7] 26)).alloc (.cells #[.slice none 0 0, .slice none 0 0] 32)).heap.size := by simp
  have hsz : (((w.alloc (.cells #[.slice ad1 lv.length cap1, .slice ad2 ls.length cap2] 32)).alloc (.cells #[.int .i64 g, .int .i64 k, encU v, encB x0, encB x1, encB x2, encB x3, encB x4, encB x5, encB x6, encB x7] 26)).alloc (.cells #[.slice none 0 0, .slice none 0 0] 32)).heap.size = w.heap.size + 3 := by simp
  generalize hW : ((w.alloc (.cells #[.slice ad1 lv.length cap1, .slice ad2 ls.length cap2] 32)).alloc (.cells #[.int .i64 g, .int .i64 k, encU v, encB x0, encB x1, encB x2, encB x3, encB x4, encB x5, encB x6, encB x7] 26)).alloc (.cells #[.slice none 0 0, .slice none 0 0] 32) = W at *
  have c0_0 : W.cell? ⟨w.heap.size, 0, none⟩ = some (.slice ad1 lv.length cap1) := by rw [← hW]; refine (World.cell?_alloc_past (hn := by first | (simp; done) | (simp; omega)) ..).trans ?_; refine (World.cell?_alloc_past (hn := by first | (simp; done) | (simp; omega)) ..).trans ?_; first | exact (World.cell?_alloc_at (hn := by first | (simp; done) | (simp; omega)) ..).trans rfl | (simp; done) | (go_simp; done)
  have c0_1 : W.cell? ⟨w.heap.size, 1, none⟩ = some (.slice ad2 ls.length cap2) := by rw [← hW]; refine (World.cell?_alloc_past (hn := by first | (simp; done) | (simp; omega)) ..).trans ?_; refine (World.cell?_alloc_past (hn := by first | (simp; done) | (simp; omega)) ..).trans ?_; first | exact (World.cell?_alloc_at (hn := by first | (simp; done) | (simp; omega)) ..).trans rfl | (simp; done) | (go_simp; done)
  have hf0 : ∀ o, W.frozen? ⟨w.heap.size, o, none⟩ = false := fun o => by rw [← hW]; refine (World.frozen?_alloc_past (hn := by first | (simp; done) | (simp; omega)) ..).trans ?_; refine (World.frozen?_alloc_past (hn := by first | (simp; done) | (simp; omega)) ..).trans ?_; first | exact World.frozen?_alloc_at (hn := by first | (simp; done) | (simp; omega)) .. | (simp; done) | (go_simp; done)
  have c1_0 : W.cell? ⟨w.heap.size + 1, 0, none⟩ = some (.int .i64 g) := by rw [← hW]; refine (World.cell?_alloc_past (hn := by first | (simp; done) | (simp; omega)) ..).trans ?_; first | exact (World.cell?_alloc_at (hn := by first | (simp; done) | (simp; omega)) ..).trans rfl | (simp; done) | (go_simp; done)
  have c1_1 : W.cell? ⟨w.heap.size + 1, 1, none⟩ = some (.int .i64 k) := by rw [← hW]; refine (World.cell?_alloc_past (hn := by first | (simp; done) | (simp; omega)) ..).trans ?_; first | exact (World.cell?_alloc_at (hn := by first | (simp; done) | (simp; omega)) ..).trans rfl | (simp; done) | (go_simp; done)
  have c1_2 : W.cell? ⟨w.heap.size + 1, 2, none⟩ = some (encU v) := by rw [← hW]; refine (World.cell?_alloc_past (hn := by first | (simp; done) | (simp; omega)) ..).trans ?_; first | exact (World.cell?_alloc_at (hn := by first | (simp; done) | (simp; omega)) ..).trans rfl | (simp; done) | (go_simp; done)
  have c1_3 : W.cell? ⟨w.heap.size + 1, 3, none⟩ = some (encB x0) := by rw [← hW]; refine (World.cell?_alloc_past (hn := by first | (simp; done) | (simp; omega)) ..).trans ?_; first | exact (World.cell?_alloc_at (hn := by first | (simp; done) | (simp; omega)) ..).trans rfl | (simp; done) | (go_simp; done)
  have c1_4 : W.cell? ⟨w.heap.size + 1, 4, none⟩ = some (encB x1) := by rw [← hW]; refine (World.cell?_alloc_past (hn := by first | (simp; done) | (simp; omega)) ..).trans ?_; first | exact (World.cell?_alloc_at (hn := by first | (simp; done) | (simp; omega)) ..).trans rfl | (simp; done) | (go_simp; done)
  have c1_5 : W.cell? ⟨w.heap.size + 1, 5, none⟩ = some (encB x2) := by rw [← hW]; refine (World.cell?_alloc_past (hn := by first | (simp; done) | (simp; omega)) ..).trans ?_; first | exact (World.cell?_alloc_at (hn := by first | (simp; done) | (simp; omega)) ..).trans rfl | (simp; done) | (go_simp; done)
  have c1_6 : W.cell? ⟨w.heap.size + 1, 6, none⟩ = some (encB x3) := by rw [← hW]; refine (World.cell?_alloc_past (hn := by first | (simp; done) | (simp; omega)) ..).trans ?_; first | exact (World.cell?_alloc_at (hn := by first | (simp; done) | (simp; omega)) ..).trans rfl | (simp; done) | (go_simp; done)
  have c1_7 : W.cell? ⟨w.heap.size + 1, 7, none⟩ = some (encB x4) := by rw [← hW]; refine (World.cell?_alloc_past (hn := by first | (simp; done) | (simp; omega)) ..).trans ?_; first | exact (World.cell?_alloc_at (hn := by first | (simp; done) | (simp; omega)) ..).trans rfl | (simp; done) | (go_simp; done)
  have c1_8 : W.cell? ⟨w.heap.size + 1, 8, none⟩ = some (encB x5) := by rw [← hW]; refine (World.cell?_alloc_past (hn := by first | (simp; done) | (simp; omega)) ..).trans ?_; first | exact (World.cell?_alloc_at (hn := by first | (simp; done) | (simp; omega)) ..).trans rfl | (simp; done) | (go_simp; done)
  have c1_9 : W.cell? ⟨w.heap.size + 1, 9, none⟩ = some (encB x6) := by rw [← hW]; refine (World.cell?_alloc_past (hn := by first | (simp; done) | (simp; omega)) ..).trans ?_; first | exact (World.cell?_alloc_at (hn := by first | (simp; done) | (simp; omega)) ..).trans rfl | (simp; done) | (go_simp; done)
  have c1_10 : W.cell? ⟨w.heap.size + 1, 10, none⟩ = some (encB x7) := by rw [← hW]; refine (World.cell?_alloc_past (hn := by first | (simp; done) | (simp; omega)) ..).trans ?_; first | exact (World.cell?_alloc_at (hn := by first | (simp; done) | (simp; omega)) ..).trans rfl | (simp; done) | (go_simp; done)
  have hf1 : ∀ o, W.frozen? ⟨w.heap.size + 1, o, none⟩ = false := fun o => by rw [← hW]; refine (World.frozen?_alloc_past (hn := by first | (simp; done) | (simp; omega)) ..).trans ?_; first | exact World.frozen?_alloc_at (hn := by first | (simp; done) | (simp; omega)) .. | (simp; done) | (go_simp; done)
  have c2_0 : W.cell? ⟨w.heap.size + 2, 0, none⟩ = some (.slice none 0 0) := by rw [← hW]; first | exact (World.cell?_alloc_at (hn := by first | (simp; done) | (simp; omega)) ..).trans rfl | (simp; done) | (go_simp; done)
  have c2_1 : W.cell? ⟨w.heap.size + 2, 1, none⟩ = some (.slice none 0 0) := by rw [← hW]; first | exact (World.cell?_alloc_at (hn := by first | (simp; done) | (simp; omega)) ..).trans rfl | (simp; done) | (go_simp; done)
  have hf2 : ∀ o, W.frozen? ⟨w.heap.size + 2, o, none⟩ = false := fun o => by rw [← hW]; first | exact World.frozen?_alloc_at (hn := by first | (simp; done) | (simp; omega)) .. | (simp; done) | (go_simp; done)
  have hxW : Ext w W := by rw [← hW]; exact Ext.trans (Ext.trans (Ext.alloc _ _) (Ext.alloc _ _)) (Ext.alloc _ _)
  clear hW
  have HSZ := Lib.hid hsz
  clear hsz
  have hz0 : w.heap.size < W.heap.size := by omega
  have hz1 : w.heap.size + 1 < W.heap.size := by omega
  have hz2 : w.heap.size + 2 < W.heap.size := by omega
  have HC := pieces_any _ _ lv ls W hlv hls (H1.out.ext hxW) (H2.out.ext hxW)
  rw [HM.out] at HC
  have HC := Lib.hid HC
  go_wp2_with fail
  go_at_call 30
  refine HC.out.mono ?_
  rintro e w1 ⟨rfl, hb1⟩
  have hc := Ext.cells hb1
  have hff := Ext.frozens hb1
  have hs := Ext.size hb1
  have hy0 : w.heap.size < w1.heap.size := by omega
  have hy1 : w.heap.size + 1 < w1.heap.size := by omega
  have hy2 : w.heap.size + 2 < w1.heap.size := by omega
  have hx1 : Ext w w1 := hxW.trans hb1
  have h0 : (0 : Int) ≤ (k : Int) := by omega
  have hd2 : decide ((m : Int) ≤ (k : Int)) = false := by rw [decide_eq_false_iff_not]; omega
  have hd3 : decide (m ≤ k) = false := by rw [decide_eq_false_iff_not]; omega
  clear hc1 hc2
  go_wp2_with fail
  refine wp_region_par [(0, true), (1, true), (2, true), (3, true), (5, true), (6, true), (7, true), (8, true)] [(4, 24), (9, 29), (10, 30), (11, 7)] [(10, [4,9])] [4,9] [(12, false)] (by kernel_rfl) (by kernel_rfl) ?_
  iterate 8 (first
   | (refine extK_move rfl rfl (by rfl) (by rfl) ?_; simp only [Act.put, List.setIfInBounds_toArray, List.set_cons_zero, List.set_cons_succ])
   | (refine extK_assign rfl rfl (by rfl) (by rfl) ?_; simp only [Act.put, List.setIfInBounds_toArray, List.set_cons_zero, List.set_cons_succ])
   | (refine extK_pick_t rfl rfl (by rfl) (by rfl) (by rfl) ?_; simp only [Act.put, List.setIfInBounds_toArray, List.set_cons_zero, List.set_cons_succ])
   | (refine extK_pick_f rfl rfl (by rfl) (by rfl) (by rfl) ?_; simp only [Act.put, List.setIfInBounds_toArray, List.set_cons_zero, List.set_cons_succ])
   | (apply extK_take rfl (by rfl)
      · intro w' hS
        have hSc := hS.cells
        (try simp only [World.size_drew, World.cell?_drew] at hSc)
        go_simp
        (try simp (disch := omega) only [i64_id, u64_id, ↓IntWalk.iteOmega, Int.tdiv_eq_ediv_of_nonneg, Int.tmod_eq_emod_of_nonneg])
        try rfl
      simp only [Act.put, List.setIfInBounds_toArray, List.set_cons_zero, List.set_cons_succ])
   | (refine extK_pass rfl (by rfl) ?_; simp only [Act.put, List.setIfInBounds_toArray, List.set_cons_zero, List.set_cons_succ]))
  refine extK_nil ?_
  refine ⟨setPosts w1 (lv.take m) (ls.take m) 4 9 10 11, ?_, ?_, ?_⟩
  · exact ⟨fun _ _ _ _ e h => OwnU.ext h e, fun _ _ _ _ e h => OwnU.ext h e, fun _ _ _ _ e h => h, fun _ _ _ _ e ⟨k, h1, h2, h3⟩ => ⟨k, h1, h2, h3.ext e⟩, trivial⟩
  · refine ⟨fun vals x hx hp => ⟨_, rfl, by rfl, fun K hK => ?_⟩, fun vals x hx hp => ⟨_, rfl, by rfl, fun K hK => ?_⟩, fun vals x hx hp => ⟨_, rfl, by rfl, fun K hK => ?_⟩, fun vals x hx hp => ⟨_, rfl, by rfl, fun K hK => ?_⟩, trivial⟩
    all_goals replace hx := (Ext.drew w1).trans hx
    all_goals simp only [laidT, Act.put, List.setIfInBounds_toArray, List.set_cons_zero, List.set_cons_succ] at hK ⊢
    · go_simp
      go_at_call 32
      refine (clone_at m _ (lv.take m) x HL1.out hm3 (HT1.out.ext (hx1.trans hx))).mono ?_
      rintro e w2 ⟨v2, rfl, ho2, hb2⟩
      exact hK _ _ hb2 (OwnU.lower ho2 hx.size) (fun _ q hq => World.ownsRow.lt ho2 q (ownB_block hq (OwnU.not_ptr ho2)))
    · go_simp
      go_at_call 32
      refine (clone_at m _ (ls.take m) x HL2.out hm3 (HT2.out.ext (hx1.trans hx))).mono ?_
      rintro e w2 ⟨v2, rfl, ho2, hb2⟩
      exact hK _ _ hb2 (OwnU.lower ho2 hx.size) (fun _ q hq => World.ownsRow.lt ho2 q (ownB_block hq (OwnU.not_ptr ho2)))
    · have h4 : OwnU x w1.heap.size (vals 4) (lv.take m) := hp.1
      have h9 : OwnU x w1.heap.size (vals 9) (ls.take m) := hp.2.1
      obtain ⟨a4, c4, e4⟩ := h4.shape
      obtain ⟨a9, c9, e9⟩ := h9.shape
      rw [HL1.out] at e4
      rw [HL2.out] at e9
      simp only [e4, e9] at hK ⊢
      go_simp
      exact hK _ _ (Ext.refl _) (by show _ = Value.agg #[vals 4, vals 9]; rw [e4, e9]) (fun h => absurd h (by decide))
    · go_simp
      exact hK _ _ (Ext.alloc _ _) ⟨_, rfl, hx.size, heap_alloc_new _ _⟩ (fun h => absurd h (by decide))
  · intro vals w2 hx2 hp hfr hap
    replace hx2 := (Ext.drew w1).trans hx2
    have hv1 : OwnU w2 w1.heap.size (vals 4) (lv.take m) := hp.1
    have hv2 : OwnU w2 w1.heap.size (vals 9) (ls.take m) := hp.2.1
    have hv3 : vals 10 = .agg #[vals 4, vals 9] := hp.2.2.1
    obtain ⟨gb, hv4, hgb, hbx⟩ : ∃ k, vals 11 = .pointer (some ⟨k, 0, none⟩) ∧ w1.heap.size ≤ k ∧ BoxAt w2 k #[.slice none 0 0, .slice none 0 0] 32 := hp.2.2.2.1
    have hap := hap 4 (by decide) (by decide) 9 (by decide) (by decide) (by decide)
    obtain ⟨q1, d1, e1, hq1, hq1'⟩ := hv1.form (by rw [HL1.out]; omega)
    obtain ⟨q2, d2, e2, hq2, hq2'⟩ := hv2.form (by rw [HL2.out]; omega)
    rw [HL1.out] at e1
    rw [HL2.out] at e2
    have hne : q1 ≠ q2 := fun e => hap q1 (by rw [e1]; rfl) (by rw [e2, e]; rfl)
    simp only [laidT, Act.put, List.setIfInBounds_toArray, List.set_cons_zero, List.set_cons_succ]
    simp only [hv3, hv4, e1, e2]
    rw [e1] at hv1
    rw [e2] at hv2
    have hgl := hbx.lt
    have hc0 := hbx.cell 0 rfl
    have hc1 := hbx.cell 1 rfl
    have hf0 := hbx.free 0
    have hf1 := hbx.free 1
    have HV1 := Lib.hid hv1
    have HV2 := Lib.hid hv2
    have HBX := Lib.hid hbx
    clear hp hap hfr hv1 hv2 hv3 hv4 e1 e2 hbx
    (refine ext_last rfl (by rfl) (by kernel_rfl) (fun K hK => ?_)
     go_simp
     refine hK _ _ ?_
     clear hK K
     (try simp only [Act.put, List.setIfInBounds_toArray, List.set_cons_zero, List.set_cons_succ]))
    have HL3 := Lib.hid (LeafAt.born HV1.out HV2.out (fun q h1 h2 => hne (by cases h1; cases h2; rfl)) HBX.out)
    have HB3 := Lib.hid (bel_set (bel_set (Ext.below hx2) hgb 0 (.slice (some ⟨q1, 0, none⟩) m (d1 + 1))) hgb 1 (.slice (some ⟨q2, 0, none⟩) m (d2 + 1)))
    generalize (w2.setCell ⟨gb, 0, none⟩ (.slice (some ⟨q1, 0, none⟩) m (d1 + 1))).setCell ⟨gb, 1, none⟩ (.slice (some ⟨q2, 0, none⟩) m (d2 + 1)) = w3 at *
    have hs3 := HB3.out.size
    have hz30 : w.heap.size < w3.heap.size := by omega
    have hz31 : w.heap.size + 1 < w3.heap.size := by omega
    have hz32 : w.heap.size + 2 < w3.heap.size := by omega
    have hc3 := below_cellsB HB3.out
    have hg3 := HL3.out.bx.lt
    have hgc0 := HL3.out.bx.cell 0 rfl
    have hgc1 := HL3.out.bx.cell 1 rfl
    clear hc0 hc1 hf0 hf1 HBX
    go_wp2_with fail
    have ha1 : w.heap.size + 1 ≠ q1 := by omega
    have ha2 : w.heap.size + 1 ≠ q2 := by omega
    have ha3 : gb ≠ q1 := fun e => HL3.out.o1.not_box HL3.out.bx (by decide) (by rw [e]; rfl)
    have ha4 : gb ≠ q2 := fun e => HL3.out.o2.not_box HL3.out.bx (by decide) (by rw [e]; rfl)
    refine wp_region_fix (fun x => ∀ b o, b < w3.heap.size → b ≠ q1 → b ≠ q2 → x.cell? ⟨b, o, none⟩ = w3.cell? ⟨b, o, none⟩) [(0, true), (1, true), (2, true), (3, true), (4, true), (5, true), (6, true), (7, true), (8, true), (9, true), (10, true), (11, true), (12, true), (13, true), (14, true), (15, true), (16, true), (17, true), (18, false), (19, true), (20, false), (21, true), (22, false)] (by kernel_rfl) (by kernel_rfl) ?_ ?_
    · exact fun b o _ _ _ => rfl
    iterate 18 (first
     | (refine fix_move rfl rfl (by rfl) (by rfl) ?_; simp only [Act.put, List.setIfInBounds_toArray, List.set_cons_zero, List.set_cons_succ])
     | (apply fix_take rfl (by rfl)
        · intro w' hSc
          go_simp
          (try simp (disch := omega) only [i64_id, u64_id, ↓IntWalk.iteOmega, Int.tdiv_eq_ediv_of_nonneg, Int.tmod_eq_emod_of_nonneg])
          try rfl
        simp only [Act.put, List.setIfInBounds_toArray, List.set_cons_zero, List.set_cons_succ])
     | (refine fix_pass rfl (by rfl) ?_; simp only [Act.put, List.setIfInBounds_toArray, List.set_cons_zero, List.set_cons_succ]))
    (refine fix_do rfl (by rfl) (fun K hK => ?_)
     go_simp
     go_at_call 11
     refine (psum_any g k v x0 x1 x2 x3 x4 x5 x6 x7 _ hg ⟨by omega, by omega⟩).mono ?_
     rintro e w4 ⟨rfl, hb4⟩
     have HB4 := Lib.hid ((Ext.drew _).trans hb4)
     refine hK _ _ (fun b o hb _ _ => HB4.out.cell b o hb) ?_
     clear hK K hb4
     have HL4 := Lib.hid (HL3.out.ext HB4.out)
     obtain ⟨⟨y1, hy1⟩, hy1f⟩ := HL4.out.o1.at HL1.out.symm hk
     obtain ⟨⟨y2, hy2⟩, hy2f⟩ := HL4.out.o2.at HL2.out.symm hk
     (try simp only [Act.put, List.setIfInBounds_toArray, List.set_cons_zero, List.set_cons_succ]))
    iterate 1 (first
     | (refine fix_move rfl rfl (by rfl) (by rfl) ?_; simp only [Act.put, List.setIfInBounds_toArray, List.set_cons_zero, List.set_cons_succ])
     | (apply fix_take rfl (by rfl)
        · intro w' hSc
          go_simp
          (try simp (disch := omega) only [i64_id, u64_id, ↓IntWalk.iteOmega, Int.tdiv_eq_ediv_of_nonneg, Int.tmod_eq_emod_of_nonneg])
          try rfl
        simp only [Act.put, List.setIfInBounds_toArray, List.set_cons_zero, List.set_cons_succ])
     | (refine fix_pass rfl (by rfl) ?_; simp only [Act.put, List.setIfInBounds_toArray, List.set_cons_zero, List.set_cons_succ]))
    (refine fix_do rfl (by rfl) (fun K hK => ?_)
     go_simp
     refine hK _ _ (fun b o hb h1 h2 => (set_block (Ne.symm h1)).trans (HB4.out.cell b o hb)) ?_
     clear hK K
     (try simp only [Act.put, List.setIfInBounds_toArray, List.set_cons_zero, List.set_cons_succ]))
    iterate 1 (first
     | (refine fix_move rfl rfl (by rfl) (by rfl) ?_; simp only [Act.put, List.setIfInBounds_toArray, List.set_cons_zero, List.set_cons_succ])
     | (apply fix_take rfl (by rfl)
        · intro w' hSc
          go_simp
          (try simp (disch := omega) only [i64_id, u64_id, ↓IntWalk.iteOmega, Int.tdiv_eq_ediv_of_nonneg, Int.tmod_eq_emod_of_nonneg])
          try rfl
        simp only [Act.put, List.setIfInBounds_toArray, List.set_cons_zero, List.set_cons_succ])
     | (refine fix_pass rfl (by rfl) ?_; simp only [Act.put, List.setIfInBounds_toArray, List.set_cons_zero, List.set_cons_succ]))
    (refine fix_do rfl (by rfl) (fun K hK => ?_)
     go_simp
     refine hK _ _ (fun b o hb h1 h2 => (set_block (Ne.symm h2)).trans ((set_block (Ne.symm h1)).trans (HB4.out.cell b o hb))) ?_
     clear hK K
     (try simp only [Act.put, List.setIfInBounds_toArray, List.set_cons_zero, List.set_cons_succ]))
    refine fix_nil ?_
    have HL5 := Lib.hid ((HL4.out.set1 k v HL1.out.symm).set2 k (psum g k v [x0, x1, x2, x3, x4, x5, x6, x7]) HL2.out.symm)
    have HB5 := Lib.hid (bel_set (bel_set (HB3.out.trans (HB4.out.mono HB3.out.size)) hq1 k (encU v)) hq2 k (encU (psum g k v [x0, x1, x2, x3, x4, x5, x6, x7])))
    show Exit.then _ _ _ _ ((w4.setCell ⟨q1, k, none⟩ (encU v)).setCell ⟨q2, k, none⟩ (encU (psum g k v [x0, x1, x2, x3, x4, x5, x6, x7])))
    generalize (w4.setCell ⟨q1, k, none⟩ (encU v)).setCell ⟨q2, k, none⟩ (encU (psum g k v [x0, x1, x2, x3, x4, x5, x6, x7])) = w5 at *
    have hs5 := HB5.out.size
    have hz50 : w.heap.size + 2 < w5.heap.size := by omega
    have hg5 := HL5.out.bx.lt
    have hgd0 := HL5.out.bx.cell 0 rfl
    have hgd1 := HL5.out.bx.cell 1 rfl
    have hfr5 : ∀ b o, b < w1.heap.size → w5.frozen? ⟨b, o, none⟩ = w1.frozen? ⟨b, o, none⟩ := fun b o h => World.frozen?_of_block (HB5.out.block b h)
    have hc5 := below_cellsB HB5.out
    clear hc3
    go_wp2_with fail
    have hlow : ∀ {v' : Value} {l : List (BitVec 64)}, OwnU w5 w1.heap.size v' l → OwnU ((w5.setCell ⟨w.heap.size + 1 + 1, 0, none⟩ (.slice (some ⟨q1, 0, none⟩) m (d1 + 1))).setCell ⟨w.heap.size + 1 + 1, 1, none⟩ (.slice (some ⟨q2, 0, none⟩) m (d2 + 1))) w.heap.size v' l :=
      fun h => OwnU.lower (ownsRow_setCell_below (ownsRow_setCell_below h (show w.heap.size + 1 + 1 < w1.heap.size by omega) _) (show w.heap.size + 1 + 1 < w1.heap.size by omega) _) hx1.size
    refine bodyPost_ret (v := .tuple #[.agg #[.slice (some ⟨q1, 0, none⟩) m (d1 + 1), .slice (some ⟨q2, 0, none⟩) m (d2 + 1)], .int .i64 0]) ?_ rfl ?_
    · simp only [results, Try.results20]
      go_simp
    · unfold SetEnd setL
      rw [HM.out]
      exact ⟨_, _, rfl, hlow HL5.out.o1, hlow HL5.out.o2, HL5.out.ap, bel_set (bel_set (hx1.trans HB5.out) (by omega) _ _) (by omega) _ _⟩
end Go.Proofs.Ytinnikbjphkkiaa
