/-
  Chapter 25 (piecesum): Set of the reference.
-/
import Derived.Test.YtinnikbjphkkiaaPsJ
namespace Go.Proofs.Ytinnikbjphkkiaa
open Go.RowKit
set_option linter.unusedVariables false

/-- append of a slice that is not empty onto a literal without elements: a new row -/
theorem wpList_append_fresh {P : Program} {α : Type} {enc : α → Value} (henc : ∀ x, (enc x).oneCell' = true) {w : World} {ops : Array Oper} {rest : List Oper} {o : Oper} {a : Act} {Q : Exit → Act → World → Prop}
    (hgd : o.guard = none) (s x : Operand) (t : TypeId) (ho : o.op = .call { callee := .builtin .append, args := #[s, x], argTypes := #[t, t] })
    (e : TypeId) (i : TypeInfo) (z : Value) (bytes : Nat) (ht : P.underlying t = some (.slice e)) (hi : P.info? e = some i) (hz : i.zero = some z) (hsize : i.size = 1) (hby : i.bytes = bytes) (hzs : z.cells.size = 1)
    (q : Nat) (hs : a.eval s = .slice (some ⟨q, 0, none⟩) 0 0) (vx : Value) (l : List α) (hx : a.eval x = vx) (hsrc : SliceAt enc w vx l) (hl : 0 < l.length) (h63 : l.length ≤ maxLen) (hbytes : l.length * bytes ≤ 140737488355328)
    (h : ∀ v' w', w'.ownsRow w.heap.size e 1 v' l.length (l.map enc) → Ext w w' → wpList P ops Q rest (a.put o.dst v') w') : wpList P ops Q (o :: rest) a w := by
  obtain ⟨ad, cap, rfl, _, hsrc⟩ := hsrc
  rcases hsrc with ⟨rfl, _⟩ | ⟨b, off, rfl, hb, hc⟩
  · simp at hl
  · refine wpList_append_grows w hgd s x t ho e i z 1 bytes ht hi hz hsize hby hzs (by decide) (some ⟨q, 0, none⟩) 0 0 [] hs (fun _ => ⟨rfl, rfl⟩) rfl (fun _ _ _ _ h => by simp at h) ⟨b, off, none⟩ l.length cap (l.map enc) hx (by simp) ?_ ?_ (by omega) (by omega) (by simpa using hbytes) ?_
    · intro j u hj
      have hjl : j < l.length := by
        rcases Nat.lt_or_ge j l.length with h' | h'
        · exact h'
        · rw [List.getElem?_eq_none (by simpa using h')] at hj; cases hj
      have : u = enc l[j] := by simpa [hjl] using hj.symm
      rw [this, add_plain]; exact hc j hjl
    · intro u hu
      obtain ⟨y, _, rfl⟩ := List.mem_map.1 hu
      exact henc y
    · intro v' w' h1 h2
      refine h v' w' (by simpa using h1) ?_
      exact (Below.refl _ _).grown h2 (Nat.le_refl _) (fun k hk => by cases hk)

theorem OwnU.frees {w : World} {base g n c : Nat} {l : List (BitVec 64)} (h : OwnU w base (.slice (some ⟨g, 0, none⟩) n c) l) (hn : n = l.length) (j : Nat) : w.frozen? ⟨g, j, none⟩ = false := by
  subst hn
  exact World.ownsRow.frozenAt h j
def rsetPosts (W : World) (l1 l2 : List (BitVec 64)) : Nat → List Value → Value → World → Prop := fun i u v w =>
  if i = 0 then ∃ q, v = .slice (some ⟨q, 0, none⟩) 0 0 else if i = 6 then ∃ q, v = .slice (some ⟨q, 0, none⟩) 0 0 else
  if i = 5 then OwnU w W.heap.size v l1 else if i = 11 then OwnU w W.heap.size v l2 else if i = 12 then v = .agg u.toArray else
    ∃ k, v = .pointer (some ⟨k, 0, none⟩) ∧ W.heap.size ≤ k ∧ BoxAt w k #[.slice none 0 0, .slice none 0 0] 32

set_option maxHeartbeats 800000 in
theorem rset_no (vv vs : Value) (lv ls : List (BitVec 64)) (g p : Int) (v : BitVec 64) (x0 x1 x2 x3 x4 x5 x6 x7 : BitVec 8) (w : World) (hlv : lv.length ≤ 100000) (hls : ls.length ≤ 100000) (hp : -9223372036854775808 ≤ p ∧ p ≤ 9223372036854775807)
    (hout : p < 0 ∨ (min lv.length ls.length : Nat) ≤ p) (h1 : SliceAt encU w vv lv) (h2 : SliceAt encU w vs ls) :
    Calls Try.prog 21 #[.agg #[vv, vs], .agg #[.int .i64 g, .int .i64 p, encU v, encB x0, encB x1, encB x2, encB x3, encB x4, encB x5, encB x6, encB x7]] w fun e w' => e = .returned (.tuple #[.agg #[.slice none 0 0, .slice none 0 0], .int .i64 2]) ∧ Below w.heap.size w w' := by
  have H1 := Lib.hid h1
  have H2 := Lib.hid h2
  obtain ⟨ad1, cap1, rfl, hc1, _⟩ := h1
  obtain ⟨ad2, cap2, rfl, hc2, _⟩ := h2
  generalize hm : min lv.length ls.length = m at *
  have HM := Lib.hid hm
  have hm1 : m ≤ 100000 := by omega
  clear hm
  go_enter Try.func21, Try.ntmps21
  go_wp2_with fail
  have hz : w.heap.size + 2 < (((w.alloc (.cells #[.slice ad1 lv.length cap1, .slice ad2 ls.length cap2] 32)).alloc (.cells #[.int .i64 g, .int .i64 p, encU v, encB x0, encB x1, encB x2, encB x3, encB x4, encB x5, encB x6, encB x7] 26)).alloc (.cells #[.slice none 0 0, .slice none 0 0] 32)).heap.size := by simp
  have hsz : (((w.alloc (.cells #[.slice ad1 lv.length cap1, .slice ad2 ls.length cap2] 32)).alloc (.cells #[.int .i64 g, .int .i64 p, encU v, encB x0, encB x1, encB x2, encB x3, encB x4, encB x5, encB x6, encB x7] 26)).alloc (.cells #[.slice none 0 0, .slice none 0 0] 32)).heap.size = w.heap.size + 3 := by simp
  generalize hW : ((w.alloc (.cells #[.slice ad1 lv.length cap1, .slice ad2 ls.length cap2] 32)).alloc (.cells #[.int .i64 g, .int .i64 p, encU v, encB x0, encB x1, encB x2, encB x3, encB x4, encB x5, encB x6, encB x7] 26)).alloc (.cells #[.slice none 0 0, .slice none 0 0] 32) = W at *
  have c0_0 : W.cell? ⟨w.heap.size, 0, none⟩ = some (.slice ad1 lv.length cap1) := by rw [← hW]; refine (World.cell?_alloc_past (hn := by first | (simp; done) | (simp; omega)) ..).trans ?_; refine (World.cell?_alloc_past (hn := by first | (simp; done) | (simp; omega)) ..).trans ?_; first | exact (World.cell?_alloc_at (hn := by first | (simp; done) | (simp; omega)) ..).trans rfl | (simp; done) | (go_simp; done)
  have c0_1 : W.cell? ⟨w.heap.size, 1, none⟩ = some (.slice ad2 ls.length cap2) := by rw [← hW]; refine (World.cell?_alloc_past (hn := by first | (simp; done) | (simp; omega)) ..).trans ?_; refine (World.cell?_alloc_past (hn := by first | (simp; done) | (simp; omega)) ..).trans ?_; first | exact (World.cell?_alloc_at (hn := by first | (simp; done) | (simp; omega)) ..).trans rfl | (simp; done) | (go_simp; done)
  have hf0 : ∀ o, W.frozen? ⟨w.heap.size, o, none⟩ = false := fun o => by rw [← hW]; refine (World.frozen?_alloc_past (hn := by first | (simp; done) | (simp; omega)) ..).trans ?_; refine (World.frozen?_alloc_past (hn := by first | (simp; done) | (simp; omega)) ..).trans ?_; first | exact World.frozen?_alloc_at (hn := by first | (simp; done) | (simp; omega)) .. | (simp; done) | (go_simp; done)
  have c1_0 : W.cell? ⟨w.heap.size + 1, 0, none⟩ = some (.int .i64 g) := by rw [← hW]; refine (World.cell?_alloc_past (hn := by first | (simp; done) | (simp; omega)) ..).trans ?_; first | exact (World.cell?_alloc_at (hn := by first | (simp; done) | (simp; omega)) ..).trans rfl | (simp; done) | (go_simp; done)
  have c1_1 : W.cell? ⟨w.heap.size + 1, 1, none⟩ = some (.int .i64 p) := by rw [← hW]; refine (World.cell?_alloc_past (hn := by first | (simp; done) | (simp; omega)) ..).trans ?_; first | exact (World.cell?_alloc_at (hn := by first | (simp; done) | (simp; omega)) ..).trans rfl | (simp; done) | (go_simp; done)
  have c1_2 : W.cell? ⟨w.heap.size + 1, 2, none⟩ = some (encU v) := by rw [← hW]; refine (World.cell?_alloc_past (hn := by first | (simp; done) | (simp; omega)) ..).trans ?_; first | exact (World.cell?_alloc_at (hn := by first | (simp; done) | (simp; omega)) ..).trans rfl | (simp; done) | (go_simp; done)
  have c1_3 : W.cell? ⟨w.heap.size + 1, 3, none⟩ = some (encB x0) := by rw [← hW]; refine (World.cell?_alloc_past (hn := by first | (simp; done) | (simp; omega)) ..).trans ?_; first | exact (World.cell?_alloc_at (hn := by first | (simp; done) | (simp; omega)) ..).trans rfl | (simp; done) | (go_simp; done)
  have c1_4 : W.cell? ⟨w.heap.size + 1, 4, none⟩ = some (encB x1) := by rw [← hW]; refine (World.cell?_alloc_past (hn := by first | (simp; done) | (simp; omega)) ..).trans ?_; first | exact (World.cell?_alloc_at (hn := by first | (simp; done) | (simp; omega)) ..).trans rfl | (simp; done) | (go_simp; done)
  have c1_5 : W.cell? ⟨w.heap.size + 1, 5, none⟩ = some (encB x2) := by rw [← hW]; refine (World.cell?_alloc_past (hn := by first | (simp; done) | (simp; omega)) ..).trans ?_; first | exact (World.cell?_alloc_at (hn := by first | (simp; done) | (simp; omega)) ..).trans rfl | (simp; done) | (go_simp; done)
  have c1_6 : W.cell? ⟨w.heap.size + 1, 6, none⟩ = some (encB x3) := by rw [← hW]; refine (World.cell?_alloc_past (hn := by first | (simp; done) | (simp; omega)) ..).trans ?_; first | exact (World.cell?_alloc_at (hn := by first | (simp; done) | (simp; omega)) ..).trans rfl | (simp; done) | (go_simp; done)
  have c1_7 : W.cell? ⟨w.heap.size + 1, 7, none⟩ = some (encB x4) := by rw [← hW]; refine (World.cell?_alloc_past (hn := by first | (simp; done) | (simp; omega)) ..).trans ?_; first | exact (World.cell?_alloc_at (hn := by first | (simp; done) | (simp; omega)) ..).trans rfl | (simp; done) | (go_simp; done)
  have c1_8 : W.cell? ⟨w.heap.size + 1, 8, none⟩ = some (encB x5) := by rw [← hW]; refine (World.cell?_alloc_past (hn := by first | (simp; done) | (simp; omega)) ..).trans ?_; first | exact (World.cell?_alloc_at (hn := by first | (simp; done) | (simp; omega)) ..).trans rfl | (simp; done) | (go_simp; done)
  have c1_9 : W.cell? ⟨w.heap.size + 1, 9, none⟩ = some (encB x6) := by rw [← hW]; refine (World.cell?_alloc_past (hn := by first | (simp; done) | (simp; omega)) ..).trans ?_; first | exact (World.cell?_alloc_at (hn := by first | (simp; done) | (simp; omega)) ..).trans rfl | (simp; done) | (go_simp; done)
  have c1_10 : W.cell? ⟨w.heap.size + 1, 10, none⟩ = some (encB x7) := by rw [← hW]; refine (World.cell?_alloc_past (hn := by first | (simp; done) | (simp; omega)) ..).trans ?_; first | exact (World.cell?_alloc_at (hn := by first | (simp; done) | (simp; omega)) ..).trans rfl | (simp; done) | (go_simp; done)
  have hf1 : ∀ o, W.frozen? ⟨w.heap.size + 1, o, none⟩ = false := fun o => by rw [← hW]; refine (World.frozen?_alloc_past (hn := by first | (simp; done) | (simp; omega)) ..).trans ?_; first | exact World.frozen?_alloc_at (hn := by first | (simp; done) | (simp; omega)) .. | (simp; done) | (go_simp; done)
  have c2_0 : W.cell? ⟨w.heap.size + 2, 0, none⟩ = some (.slice none 0 0) := by rw [← hW]; first | exact (World.cell?_alloc_at (hn := by first | (simp; done) | (simp; omega)) ..).trans rfl | (simp; done) | (go_simp; done)
  have c2_1 : W.cell? ⟨w.heap.size + 2, 1, none⟩ = some (.slice none 0 0) := by rw [← hW]; first | exact (World.cell?_alloc_at (hn := by first | (simp; done) | (simp; omega)) ..).trans rfl | (simp; done) | (go_simp; done)
  have hf2 : ∀ o, W.frozen? ⟨w.heap.size + 2, o, none⟩ = false := fun o => by rw [← hW]; first | exact World.frozen?_alloc_at (hn := by first | (simp; done) | (simp; omega)) .. | (simp; done) | (go_simp; done)
  have hxW : Ext w W := by rw [← hW]; exact Ext.trans (Ext.trans (Ext.alloc _ _) (Ext.alloc _ _)) (Ext.alloc _ _)
  clear hW
  have HSZ := Lib.hid hsz
  clear hsz
  have hz0 : w.heap.size < W.heap.size := by omega
  have hz1 : w.heap.size + 1 < W.heap.size := by omega
  have hz2 : w.heap.size + 2 < W.heap.size := by omega
  have HC := width_any _ _ lv ls W hlv hls (H1.out.ext hxW) (H2.out.ext hxW)
  rw [HM.out] at HC
  have HC := Lib.hid HC
  go_wp2_with fail
  go_at_call 31
  refine HC.out.mono ?_
  rintro e w1 ⟨rfl, hb1⟩
  have hc := Ext.cells hb1
  have hff := Ext.frozens hb1
  have hs := Ext.size hb1
  have hy0 : w.heap.size < w1.heap.size := by omega
  have hy1 : w.heap.size + 1 < w1.heap.size := by omega
  have hy2 : w.heap.size + 2 < w1.heap.size := by omega
  have hx1 : Ext w w1 := hxW.trans hb1
  rcases hout with hneg | hge
  · have hd : decide (p < 0) = true := by rw [decide_eq_true_eq]; exact hneg
    go_wp2_with fail
    refine bodyPost_ret (v := .tuple #[.agg #[.slice none 0 0, .slice none 0 0], .int .i64 2]) ?_ rfl ⟨rfl, (Below.setCell hx1 (by simp <;> omega) _).setCell (by simp <;> omega) _⟩
    simp only [results, Try.results21]
    go_simp
  · have h0 : 0 ≤ p := by omega
    have hd : decide (p < 0) = false := by rw [decide_eq_false_iff_not]; omega
    have hd2 : decide ((m : Int) ≤ p) = true := by rw [decide_eq_true_eq]; omega
    go_wp2_with fail
    refine bodyPost_ret (v := .tuple #[.agg #[.slice none 0 0, .slice none 0 0], .int .i64 2]) ?_ rfl ⟨rfl, (Below.setCell hx1 (by simp <;> omega) _).setCell (by simp <;> omega) _⟩
    simp only [results, Try.results21]
    go_simp

set_option maxHeartbeats 1000000 in
theorem rset_ok (vv vs : Value) (lv ls : List (BitVec 64)) (g : Int) (k : Nat) (v : BitVec 64) (x0 x1 x2 x3 x4 x5 x6 x7 : BitVec 8) (w : World) (hlv : lv.length ≤ 100000) (hls : ls.length ≤ 100000) (hg : -9223372036854775808 ≤ g ∧ g ≤ 9223372036854775807)
    (hk : k < min lv.length ls.length) (h1 : SliceAt encU w vv lv) (h2 : SliceAt encU w vs ls) :
    Calls Try.prog 21 #[.agg #[vv, vs], .agg #[.int .i64 g, .int .i64 k, encU v, encB x0, encB x1, encB x2, encB x3, encB x4, encB x5, encB x6, encB x7]] w (SetEnd w lv ls g k v [x0, x1, x2, x3, x4, x5, x6, x7]) := by
  have H1 := Lib.hid h1
  have H2 := Lib.hid h2
  obtain ⟨ad1, cap1, rfl, hc1, _⟩ := h1
  obtain ⟨ad2, cap2, rfl, hc2, _⟩ := h2
  have hm1 : min lv.length ls.length ≤ lv.length := Nat.min_le_left _ _
  have hm2 : min lv.length ls.length ≤ ls.length := Nat.min_le_right _ _
  have hm3 : min lv.length ls.length ≤ 100000 := by omega
  have hmc1 : min lv.length ls.length ≤ cap1 := Nat.le_trans hm1 hc1
  have hmc2 : min lv.length ls.length ≤ cap2 := Nat.le_trans hm2 hc2
  generalize hm : min lv.length ls.length = m at *
  have HM := Lib.hid hm
  have HT1 := Lib.hid (H1.out.take m hm1)
  have HT2 := Lib.hid (H2.out.take m hm2)
  have HL1 : Hid ((lv.take m).length = m) := by show _ = _; rw [List.length_take]; omega
  have HL2 : Hid ((ls.take m).length = m) := by show _ = _; rw [List.length_take]; omega
  clear hm
  go_enter Try.func21, Try.ntmps21
  go_wp2_with fail
  have hz : w.heap.size + 2 < (((w.alloc (.cells #[.slice ad1 lv.length cap1, .slice ad2 ls.length cap2] 32)).alloc (.cells #[.int .i64 g, .int .i64 k, encU v, encB x0, encB x1, encB x2, encB x3, encB x4, encB x5, encB x6, encB x7] 26)).alloc (.cells #[.slice none 0 0, .slice none 0 0] 32)).heap.size := by simp
  have hsz : (((w.alloc (.cells #[.slice ad1 lv.length cap1, .slice ad2 ls.length cap2] 32)).alloc (.cells #[.int .i64 g, .int .i64 k, encU v, encB x0, encB x1, encB x2, encB x3, encB x4, encB x5, encB x6, encB x7] 26)).alloc (.cells #[.slice none 0 0, .slice none 0 0] 32)).heap.size = w.heap.size + 3 := by simp
  generalize hW : ((w.alloc (.cells #[.slice ad1 lv.length cap1, .slice ad2 ls.length cap2] 32)).alloc (.cells #[.int .i64 g, .int .i64 k, encU v, encB x0, encB x1, encB x2, encB x3, encB x4, encB x5, encB x6, encB x7] 26)).alloc (.cells #[.slice none 0 0, .slice none 0 0] 32) = W at *
  have c0_0 : W.cell? ⟨w.heap.size, 0, none⟩ = some (.slice ad1 lv.length cap1) := by rw [← hW]; refine (World.cell?_alloc_past (hn := by first | (simp; done) | (simp; omega)) ..).trans ?_; refine (World.cell?_alloc_past (hn := by first | (simp; done) | (simp; omega)) ..).trans ?_; first | exact (World.cell?_alloc_at (hn := by first | (simp; done) | (simp; omega)) ..).trans rfl | (simp; done) | (go_simp; done)
  have c0_1 : W.cell? ⟨w.heap.size, 1, none⟩ = some (.slice ad2 ls.length cap2) := by rw [← hW]; refine (World.cell?_alloc_past (hn := by first | (simp; done) | (simp; omega)) ..).trans ?_; refine (World.cell?_alloc_past (hn := by first | (simp; done) | (simp; omega)) ..).trans ?_; first | exact (World.cell?_alloc_at (hn := by first | (simp; done) | (simp; omega)) ..).trans rfl | (simp; done) | (go_simp; done)
  have hf0 : ∀ o, W.frozen? ⟨w.heap.size, o, none⟩ = false := fun o => by rw [← hW]; refine (World.frozen?_alloc_past (hn := by first | (simp; done) | (simp; omega)) ..).trans ?_; refine (World.frozen?_alloc_past (hn := by first | (simp; done) | (simp; omega)) ..).trans ?_; first | exact World.frozen?_alloc_at (hn := by first | (simp; done) | (simp; omega)) .. | (simp; done) | (go_simp; done)
  have c1_0 : W.cell? ⟨w.heap.size + 1, 0, none⟩ = some (.int .i64 g) := by rw [← hW]; refine (World.cell?_alloc_past (hn := by first | (simp; done) | (simp; omega)) ..).trans ?_; first | exact (World.cell?_alloc_at (hn := by first | (simp; done) | (simp; omega)) ..).trans rfl | (simp; done) | (go_simp; done)
  have c1_1 : W.cell? ⟨w.heap.size + 1, 1, none⟩ = some (.int .i64 k) := by rw [← hW]; refine (World.cell?_alloc_past (hn := by first | (simp; done) | (simp; omega)) ..).trans ?_; first | exact (World.cell?_alloc_at (hn := by first | (simp; done) | (simp; omega)) ..).trans rfl | (simp; done) | (go_simp; done)
  have c1_2 : W.cell? ⟨w.heap.size + 1, 2, none⟩ = some (encU v) := by rw [← hW]; refine (World.cell?_alloc_past (hn := by first | (simp; done) | (simp; omega)) ..).trans ?_; first | exact (World.cell?_alloc_at (hn := by first | (simp; done) | (simp; omega)) ..).trans rfl | (simp; done) | (go_simp; done)
  have c1_3 : W.cell? ⟨w.heap.size + 1, 3, none⟩ = some (encB x0) := by rw [← hW]; refine (World.cell?_alloc_past (hn := by first | (simp; done) | (simp; omega)) ..).trans ?_; first | exact (World.cell?_alloc_at (hn := by first | (simp; done) | (simp; omega)) ..).trans rfl | (simp; done) | (go_simp; done)
  have c1_4 : W.cell? ⟨w.heap.size + 1, 4, none⟩ = some (encB x1) := by rw [← hW]; refine (World.cell?_alloc_past (hn := by first | (simp; done) | (simp; omega)) ..).trans ?_; first | exact (World.cell?_alloc_at (hn := by first | (simp; done) | (simp; omega)) ..).trans rfl | (simp; done) | (go_simp; done)
  have c1_5 : W.cell? ⟨w.heap.size + 1, 5, none⟩ = some (encB x2) := by rw [← hW]; refine (World.cell?_alloc_past (hn := by first | (simp; done) | (simp; omega)) ..).trans ?_; first | exact (World.cell?_alloc_at (hn := by first | (simp; done) | (simp; omega)) ..).trans rfl | (simp; done) | (go_simp; done)
  have c1_6 : W.cell? ⟨w.heap.size + 1, 6, none⟩ = some (encB x3) := by rw [← hW]; refine (World.cell?_alloc_past (hn := by first | (simp; done) | (simp; omega)) ..).trans ?_; first | exact (World.cell?_alloc_at (hn := by first | (simp; done) | (simp; omega)) ..).trans rfl | (simp; done) | (go_simp; done)
  have c1_7 : W.cell? ⟨w.heap.size + 1, 7, none⟩ = some (encB x4) := by rw [← hW]; refine (World.cell?_alloc_past (hn := by first | (simp; done) | (simp; omega)) ..).trans ?_; first | exact (World.cell?_alloc_at (hn := by first | (simp; done) | (simp; omega)) ..).trans rfl | (simp; done) | (go_simp; done)
  have c1_8 : W.cell? ⟨w.heap.size + 1, 8, none⟩ = some (encB x5) := by rw [← hW]; refine (World.cell?_alloc_past (hn := by first | (simp; done) | (simp; omega)) ..).trans ?_; first | exact (World.cell?_alloc_at (hn := by first | (simp; done) | (simp; omega)) ..).trans rfl | (simp; done) | (go_simp; done)
  have c1_9 : W.cell? ⟨w.heap.size + 1, 9, none⟩ = some (encB x6) := by rw [← hW]; refine (World.cell?_alloc_past (hn := by first | (simp; done) | (simp; omega)) ..).trans ?_; first | exact (World.cell?_alloc_at (hn := by first | (simp; done) | (simp; omega)) ..).trans rfl | (simp; done) | (go_simp; done)
  have c1_10 : W.cell? ⟨w.heap.size + 1, 10, none⟩ = some (encB x7) := by rw [← hW]; refine (World.cell?_alloc_past (hn := by first | (simp; done) | (simp; omega)) ..).trans ?_; first | exact (World.cell?_alloc_at (hn := by first | (simp; done) | (simp; omega)) ..).trans rfl | (simp; done) | (go_simp; done)
  have hf1 : ∀ o, W.frozen? ⟨w.heap.size + 1, o, none⟩ = false := fun o => by rw [← hW]; refine (World.frozen?_alloc_past (hn := by first | (simp; done) | (simp; omega)) ..).trans ?_; first | exact World.frozen?_alloc_at (hn := by first | (simp; done) | (simp; omega)) .. | (simp; done) | (go_simp; done)
  have c2_0 : W.cell? ⟨w.heap.size + 2, 0, none⟩ = some (.slice none 0 0) := by rw [← hW]; first | exact (World.cell?_alloc_at (hn := by first | (simp; done) | (simp; omega)) ..).trans rfl | (simp; done) | (go_simp; done)
  have c2_1 : W.cell? ⟨w.heap.size + 2, 1, none⟩ = some (.slice none 0 0) := by rw [← hW]; first | exact (World.cell?_alloc_at (hn := by first | (simp; done) | (simp; omega)) ..).trans rfl | (simp; done) | (go_simp; done)
  have hf2 : ∀ o, W.frozen? ⟨w.heap.size + 2, o, none⟩ = false := fun o => by rw [← hW]; first | exact World.frozen?_alloc_at (hn := by first | (simp; done) | (simp; omega)) .. | (simp; done) | (go_simp; done)
  have hxW : Ext w W := by rw [← hW]; exact Ext.trans (Ext.trans (Ext.alloc _ _) (Ext.alloc _ _)) (Ext.alloc _ _)
  clear hW
  have HSZ := Lib.hid hsz
  clear hsz
  have hz0 : w.heap.size < W.heap.size := by omega
  have hz1 : w.heap.size + 1 < W.heap.size := by omega
  have hz2 : w.heap.size + 2 < W.heap.size := by omega
  have HC := width_any _ _ lv ls W hlv hls (H1.out.ext hxW) (H2.out.ext hxW)
  rw [HM.out] at HC
  have HC := Lib.hid HC
  go_wp2_with fail
  go_at_call 31
  refine HC.out.mono ?_
  rintro e w1 ⟨rfl, hb1⟩
  have hc := Ext.cells hb1
  have hff := Ext.frozens hb1
  have hs := Ext.size hb1
  have hy0 : w.heap.size < w1.heap.size := by omega
  have hy1 : w.heap.size + 1 < w1.heap.size := by omega
  have hy2 : w.heap.size + 2 < w1.heap.size := by omega
  have hx1 : Ext w w1 := hxW.trans hb1
  have h0 : (0 : Int) ≤ (k : Int) := by omega
  have hd2 : decide ((m : Int) ≤ (k : Int)) = false := by rw [decide_eq_false_iff_not]; omega
  have hd3 : decide (m ≤ k) = false := by rw [decide_eq_false_iff_not]; omega
  clear hc1 hc2
  go_wp2_with fail
  obtain ⟨i0, hi, hz0, hz1, hz2⟩ := info_parts infoU
  refine wp_region_par [(1, true), (2, true), (3, true), (4, true), (7, true), (8, true), (9, true), (10, true)] [(0, 20), (5, 25), (6, 26), (11, 31), (12, 32), (13, 7)] [(5, [0]), (11, [6]), (12, [5,11])] [5,11] [(14, false)] (by kernel_rfl) (by kernel_rfl) ?_
  iterate 8 (first
   | (refine extK_move rfl rfl (by rfl) (by rfl) ?_; simp only [Act.put, List.setIfInBounds_toArray, List.set_cons_zero, List.set_cons_succ])
   | (refine extK_assign rfl rfl (by rfl) (by rfl) ?_; simp only [Act.put, List.setIfInBounds_toArray, List.set_cons_zero, List.set_cons_succ])
   | (refine extK_pick_t rfl rfl (by rfl) (by rfl) (by rfl) ?_; simp only [Act.put, List.setIfInBounds_toArray, List.set_cons_zero, List.set_cons_succ])
   | (refine extK_pick_f rfl rfl (by rfl) (by rfl) (by rfl) ?_; simp only [Act.put, List.setIfInBounds_toArray, List.set_cons_zero, List.set_cons_succ])
   | (apply extK_take rfl (by rfl)
      · intro w' hS
        have hSc := hS.cells
        (try simp only [World.size_drew, World.cell?_drew] at hSc)
        go_simp
        (try simp (disch := omega) only [i64_id, u64_id, ↓IntWalk.iteOmega, Int.tdiv_eq_ediv_of_nonneg, Int.tmod_eq_emod_of_nonneg])
        try rfl
      simp only [Act.put, List.setIfInBounds_toArray, List.set_cons_zero, List.set_cons_succ])
   | (refine extK_pass rfl (by rfl) ?_; simp only [Act.put, List.setIfInBounds_toArray, List.set_cons_zero, List.set_cons_succ]))
  refine extK_nil ?_
  refine ⟨rsetPosts w1 (lv.take m) (ls.take m), ?_, ?_, ?_⟩
  · exact ⟨fun _ _ _ _ e h => h, fun _ _ _ _ e h => OwnU.ext h e, fun _ _ _ _ e h => h, fun _ _ _ _ e h => OwnU.ext h e, fun _ _ _ _ e h => h, fun _ _ _ _ e ⟨k, h1, h2, h3⟩ => ⟨k, h1, h2, h3.ext e⟩, trivial⟩
  · refine ⟨fun vals x hx hp => ⟨_, rfl, by rfl, fun K hK => ?_⟩, fun vals x hx hp => ⟨_, rfl, by rfl, fun K hK => ?_⟩, fun vals x hx hp => ⟨_, rfl, by rfl, fun K hK => ?_⟩, fun vals x hx hp => ⟨_, rfl, by rfl, fun K hK => ?_⟩, fun vals x hx hp => ⟨_, rfl, by rfl, fun K hK => ?_⟩, fun vals x hx hp => ⟨_, rfl, by rfl, fun K hK => ?_⟩, trivial⟩
    all_goals replace hx := (Ext.drew w1).trans hx
    all_goals simp only [laidT, Act.put, List.setIfInBounds_toArray, List.set_cons_zero, List.set_cons_succ] at hK ⊢
    · go_simp
      exact hK _ _ (Ext.alloc _ _) ⟨_, rfl⟩ (fun h => absurd h (by decide))
    · obtain ⟨q, hq⟩ : ∃ q, vals 0 = .slice (some ⟨q, 0, none⟩) 0 0 := hp.1
      simp only [hq] at hK ⊢
      refine wp_of_list rfl ?_
      refine wpList_append_fresh (enc := encU) (fun _ => rfl) rfl _ _ 30 rfl 22 i0 (.int .u64 0) 8 Try.underlying30 hi hz0 hz1 hz2 rfl q rfl _ (lv.take m) rfl (HT1.out.ext (hx1.trans hx)) (by rw [HL1.out]; omega) (by rw [HL1.out]; unfold maxLen; omega) (by rw [HL1.out]; omega) ?_
      intro v2 w2 ho2 hb2
      exact hK _ _ hb2 (OwnU.lower ho2 hx.size) (fun _ q hq => World.ownsRow.lt ho2 q (ownB_block hq (OwnU.not_ptr ho2)))
    · go_simp
      exact hK _ _ (Ext.alloc _ _) ⟨_, rfl⟩ (fun h => absurd h (by decide))
    · obtain ⟨q, hq⟩ : ∃ q, vals 6 = .slice (some ⟨q, 0, none⟩) 0 0 := hp.1
      simp only [hq] at hK ⊢
      refine wp_of_list rfl ?_
      refine wpList_append_fresh (enc := encU) (fun _ => rfl) rfl _ _ 30 rfl 22 i0 (.int .u64 0) 8 Try.underlying30 hi hz0 hz1 hz2 rfl q rfl _ (ls.take m) rfl (HT2.out.ext (hx1.trans hx)) (by rw [HL2.out]; omega) (by rw [HL2.out]; unfold maxLen; omega) (by rw [HL2.out]; omega) ?_
      intro v2 w2 ho2 hb2
      exact hK _ _ hb2 (OwnU.lower ho2 hx.size) (fun _ q hq => World.ownsRow.lt ho2 q (ownB_block hq (OwnU.not_ptr ho2)))
    · have h4 : OwnU x w1.heap.size (vals 5) (lv.take m) := hp.1
      have h9 : OwnU x w1.heap.size (vals 11) (ls.take m) := hp.2.1
      obtain ⟨a4, c4, e4⟩ := h4.shape
      obtain ⟨a9, c9, e9⟩ := h9.shape
      rw [HL1.out] at e4
      rw [HL2.out] at e9
      simp only [e4, e9] at hK ⊢
      go_simp
      exact hK _ _ (Ext.refl _) (by show _ = Value.agg #[vals 5, vals 11]; rw [e4, e9]) (fun h => absurd h (by decide))
    · go_simp
      exact hK _ _ (Ext.alloc _ _) ⟨_, rfl, hx.size, heap_alloc_new _ _⟩ (fun h => absurd h (by decide))
  · intro vals w2 hx2 hp hfr hap
    replace hx2 := (Ext.drew w1).trans hx2
    have hv1 : OwnU w2 w1.heap.size (vals 5) (lv.take m) := hp.2.1
    have hv2 : OwnU w2 w1.heap.size (vals 11) (ls.take m) := hp.2.2.2.1
    have hv3 : vals 12 = .agg #[vals 5, vals 11] := hp.2.2.2.2.1
    obtain ⟨qa, hva⟩ : ∃ q, vals 0 = .slice (some ⟨q, 0, none⟩) 0 0 := hp.1
    obtain ⟨qb, hvb⟩ : ∃ q, vals 6 = .slice (some ⟨q, 0, none⟩) 0 0 := hp.2.2.1
    obtain ⟨gb, hv4, hgb, hbx⟩ : ∃ k, vals 13 = .pointer (some ⟨k, 0, none⟩) ∧ w1.heap.size ≤ k ∧ BoxAt w2 k #[.slice none 0 0, .slice none 0 0] 32 := hp.2.2.2.2.2.1
    have hap := hap 5 (by decide) (by decide) 11 (by decide) (by decide) (by decide)
    obtain ⟨q1, d1, e1, hq1, hq1'⟩ := hv1.form (by rw [HL1.out]; omega)
    obtain ⟨q2, d2, e2, hq2, hq2'⟩ := hv2.form (by rw [HL2.out]; omega)
    rw [HL1.out] at e1
    rw [HL2.out] at e2
    have hne : q1 ≠ q2 := fun e => hap q1 (by rw [e1]; rfl) (by rw [e2, e]; rfl)
    simp only [laidT, Act.put, List.setIfInBounds_toArray, List.set_cons_zero, List.set_cons_succ]
    simp only [hva, hvb, hv3, hv4, e1, e2]
    rw [e1] at hv1
    rw [e2] at hv2
    have hgl := hbx.lt
    have hc0 := hbx.cell 0 rfl
    have hc1 := hbx.cell 1 rfl
    have hf0 := hbx.free 0
    have hf1 := hbx.free 1
    have HV1 := Lib.hid hv1
    have HV2 := Lib.hid hv2
    have HBX := Lib.hid hbx
    clear hp hap hfr hv1 hv2 hv3 hv4 hva hvb e1 e2 hbx
    (refine ext_last rfl (by rfl) (by kernel_rfl) (fun K hK => ?_)
     go_simp
     refine hK _ _ ?_
     clear hK K
     (try simp only [Act.put, List.setIfInBounds_toArray, List.set_cons_zero, List.set_cons_succ]))
    have HL3 := Lib.hid (LeafAt.born HV1.out HV2.out (fun q h1 h2 => hne (by cases h1; cases h2; rfl)) HBX.out)
    have HB3 := Lib.hid (bel_set (bel_set (Ext.below hx2) hgb 0 (.slice (some ⟨q1, 0, none⟩) m (d1 + 1))) hgb 1 (.slice (some ⟨q2, 0, none⟩) m (d2 + 1)))
    generalize (w2.setCell ⟨gb, 0, none⟩ (.slice (some ⟨q1, 0, none⟩) m (d1 + 1))).setCell ⟨gb, 1, none⟩ (.slice (some ⟨q2, 0, none⟩) m (d2 + 1)) = w3 at *
    have hs3 := HB3.out.size
    have hz30 : w.heap.size < w3.heap.size := by omega
    have hz31 : w.heap.size + 1 < w3.heap.size := by omega
    have hz32 : w.heap.size + 2 < w3.heap.size := by omega
    have hc3 := below_cellsB HB3.out
    have hg3 := HL3.out.bx.lt
    have hgc0 := HL3.out.bx.cell 0 rfl
    have hgc1 := HL3.out.bx.cell 1 rfl
    clear hc0 hc1 hf0 hf1 HBX
    obtain ⟨⟨y1, hr1⟩, hr1f⟩ := HL3.out.o1.at HL1.out.symm hk
    have hr1g : ∀ j, w3.frozen? ⟨q1, j, none⟩ = false := HL3.out.o1.frees HL1.out.symm
    clear hr1f
    go_wp2_with fail
    have HL4 := Lib.hid (HL3.out.set1 k v HL1.out.symm)
    have HB4 := Lib.hid (bel_set HB3.out hq1 k (encU v))

    generalize w3.setCell ⟨q1, k, none⟩ (encU v) = w4 at *
    have hs4 := HB4.out.size
    have hz40 : w.heap.size < w4.heap.size := by omega
    have hz41 : w.heap.size + 1 < w4.heap.size := by omega
    have hc4 := below_cellsB HB4.out
    have hg4 := HL4.out.bx.lt
    have hgd0 := HL4.out.bx.cell 0 rfl
    have hgd1 := HL4.out.bx.cell 1 rfl
    clear hc3 hgc0 hgc1 hr1 hr1g
    have ha1 : w.heap.size + 1 ≠ q2 := by omega
    have ha3 : gb ≠ q2 := fun e => HL4.out.o2.not_box HL4.out.bx (by decide) (by rw [e]; rfl)
    refine wp_region_fix (fun x => ∀ b o, b < w4.heap.size → b ≠ q2 → x.cell? ⟨b, o, none⟩ = w4.cell? ⟨b, o, none⟩) [(0, true), (1, true), (2, true), (3, true), (4, true), (5, true), (6, true), (7, true), (8, true), (9, true), (10, true), (11, true), (12, false), (13, true), (14, false)] (by kernel_rfl) (by kernel_rfl) ?_ ?_
    · exact fun b o _ _ => rfl
    iterate 12 (first
     | (refine fix_move rfl rfl (by rfl) (by rfl) ?_; simp only [Act.put, List.setIfInBounds_toArray, List.set_cons_zero, List.set_cons_succ])
     | (apply fix_take rfl (by rfl)
        · intro w' hSc
          go_simp
          (try simp (disch := omega) only [i64_id, u64_id, ↓IntWalk.iteOmega, Int.tdiv_eq_ediv_of_nonneg, Int.tmod_eq_emod_of_nonneg])
          try rfl
        simp only [Act.put, List.setIfInBounds_toArray, List.set_cons_zero, List.set_cons_succ])
     | (refine fix_pass rfl (by rfl) ?_; simp only [Act.put, List.setIfInBounds_toArray, List.set_cons_zero, List.set_cons_succ]))
    (refine fix_do rfl (by rfl) (fun K hK => ?_)
     go_simp
     go_at_call 12
     refine (rpsum_any g k v x0 x1 x2 x3 x4 x5 x6 x7 _ hg ⟨by omega, by omega⟩).mono ?_
     rintro e w5 ⟨rfl, hb5⟩
     have HX5 := Lib.hid ((Ext.drew _).trans hb5)
     refine hK _ _ (fun b o hb _ => HX5.out.cell b o hb) ?_
     clear hK K hb5
     have HL5 := Lib.hid (HL4.out.ext HX5.out)
     obtain ⟨⟨y2, hy2⟩, hy2f⟩ := HL5.out.o2.at HL2.out.symm hk
     (try simp only [Act.put, List.setIfInBounds_toArray, List.set_cons_zero, List.set_cons_succ]))
    iterate 1 (first
     | (refine fix_move rfl rfl (by rfl) (by rfl) ?_; simp only [Act.put, List.setIfInBounds_toArray, List.set_cons_zero, List.set_cons_succ])
     | (apply fix_take rfl (by rfl)
        · intro w' hSc
          go_simp
          (try simp (disch := omega) only [i64_id, u64_id, ↓IntWalk.iteOmega, Int.tdiv_eq_ediv_of_nonneg, Int.tmod_eq_emod_of_nonneg])
          try rfl
        simp only [Act.put, List.setIfInBounds_toArray, List.set_cons_zero, List.set_cons_succ])
     | (refine fix_pass rfl (by rfl) ?_; simp only [Act.put, List.setIfInBounds_toArray, List.set_cons_zero, List.set_cons_succ]))
    (refine fix_do rfl (by rfl) (fun K hK => ?_)
     go_simp
     refine hK _ _ (fun b o hb h1 => (set_block (Ne.symm h1)).trans (HX5.out.cell b o hb)) ?_
     clear hK K
     (try simp only [Act.put, List.setIfInBounds_toArray, List.set_cons_zero, List.set_cons_succ]))
    refine fix_nil ?_
    have HL6 := Lib.hid (HL5.out.set2 k (psum g k v [x0, x1, x2, x3, x4, x5, x6, x7]) HL2.out.symm)
    have HB6 := Lib.hid (bel_set (HB4.out.trans (HX5.out.mono HB4.out.size)) hq2 k (encU (psum g k v [x0, x1, x2, x3, x4, x5, x6, x7])))
    show Exit.then _ _ _ _ (w5.setCell ⟨q2, k, none⟩ (encU (psum g k v [x0, x1, x2, x3, x4, x5, x6, x7])))
    generalize w5.setCell ⟨q2, k, none⟩ (encU (psum g k v [x0, x1, x2, x3, x4, x5, x6, x7])) = w6 at *
    have hs6 := HB6.out.size
    have hz60 : w.heap.size + 2 < w6.heap.size := by omega
    have hg6 := HL6.out.bx.lt
    have hge0 := HL6.out.bx.cell 0 rfl
    have hge1 := HL6.out.bx.cell 1 rfl
    have hfr6 : ∀ b o, b < w1.heap.size → w6.frozen? ⟨b, o, none⟩ = w1.frozen? ⟨b, o, none⟩ := fun b o h => World.frozen?_of_block (HB6.out.block b h)
    have hc6 := below_cellsB HB6.out
    clear hc4 hgd0 hgd1
    go_wp2_with fail
    have hlow : ∀ {v' : Value} {l : List (BitVec 64)}, OwnU w6 w1.heap.size v' l → OwnU ((w6.setCell ⟨w.heap.size + 1 + 1, 0, none⟩ (.slice (some ⟨q1, 0, none⟩) m (d1 + 1))).setCell ⟨w.heap.size + 1 + 1, 1, none⟩ (.slice (some ⟨q2, 0, none⟩) m (d2 + 1))) w.heap.size v' l :=
      fun h => OwnU.lower (ownsRow_setCell_below (ownsRow_setCell_below h (show w.heap.size + 1 + 1 < w1.heap.size by omega) _) (show w.heap.size + 1 + 1 < w1.heap.size by omega) _) hx1.size
    refine bodyPost_ret (v := .tuple #[.agg #[.slice (some ⟨q1, 0, none⟩) m (d1 + 1), .slice (some ⟨q2, 0, none⟩) m (d2 + 1)], .int .i64 0]) ?_ rfl ?_
    · simp only [results, Try.results21]
      go_simp
    · unfold SetEnd setL
      rw [HM.out]
      exact ⟨_, _, rfl, hlow HL6.out.o1, hlow HL6.out.o2, HL6.out.ap, bel_set (bel_set (hx1.trans HB6.out) (by omega) _ _) (by omega) _ _⟩
end Go.Proofs.Ytinnikbjphkkiaa
