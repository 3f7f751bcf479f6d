/-
  Chapter 25 (piecesum): the walk of PiecesumRecognizes.
-/
import Derived.Test.YtinnikbjphkkiaaPsS
import Derived.Test.YtinnikbjphkkiaaSum
import Derived.Test.YtinnikbjphkkiaaEq
namespace Go.Proofs.Ytinnikbjphkkiaa
open Go.RowKit
set_option linter.unusedVariables false

theorem size8 : ∀ w, (sizeOf 5).run Try.prog w = .ok 1 w := fun w => rfl
theorem eq_block (d : Nat) (x0 x1 x2 x3 x4 x5 x6 x7 y0 y1 y2 y3 y4 y5 y6 y7 : BitVec 8) (w : World) : (Op.equalIn (d + 2) 24 (.agg #[encB x0, encB x1, encB x2, encB x3, encB x4, encB x5, encB x6, encB x7]) (.agg #[encB y0, encB y1, encB y2, encB y3, encB y4, encB y5, encB y6, encB y7])).run Try.prog w = .ok (eqB [x0, x1, x2, x3, x4, x5, x6, x7] [y0, y1, y2, y3, y4, y5, y6, y7]) w :=
  run_equalIn_block w d Try.underlying24 Try.underlying5 size8 [x0, x1, x2, x3, x4, x5, x6, x7] [y0, y1, y2, y3, y4, y5, y6, y7] rfl rfl
attribute [local go_sem] eq_block eq_un

theorem psum_ne {g p : Int} {v : BitVec 64} {d d' : List (BitVec 8)} (hl : d.length = 8) (hl' : d'.length = 8) (h : d' ≠ d) : psum g p v d ≠ psum g p v d' := by
  intro e
  unfold psum at e
  exact h (sum_mid (q := []) (a := d) (b := d') (by omega) (by omega) (by rw [List.append_nil, List.append_nil]; exact e)).symm
theorem rec_same {lv ls : List (BitVec 64)} {m k : Nat} (g : Int) (u : BitVec 64) (d : List (BitVec 8)) (hm : min lv.length ls.length = m) (hk : k < m) : goodB (setL m lv k u) (setL m ls k (psum g k u d)) g k u d = true := by
  have h1 : m ≤ lv.length := by omega
  have h2 : m ≤ ls.length := by omega
  rw [goodB_at (by rw [setL_len _ _ _ _ h1, setL_len _ _ _ _ h2]; omega), setL_same _ _ _ _ h1 hk, setL_same _ _ _ _ h2 hk]
  simp
theorem rec_data {lv ls : List (BitVec 64)} {m k : Nat} (g : Int) (u : BitVec 64) (d d' : List (BitVec 8)) (hm : min lv.length ls.length = m) (hk : k < m) (hl : d.length = 8) (hl' : d'.length = 8) (h : d' ≠ d) : goodB (setL m lv k u) (setL m ls k (psum g k u d)) g k u d' = false := by
  have h1 : m ≤ lv.length := by omega
  have h2 : m ≤ ls.length := by omega
  rw [goodB_at (by rw [setL_len _ _ _ _ h1, setL_len _ _ _ _ h2]; omega), setL_same _ _ _ _ h1 hk, setL_same _ _ _ _ h2 hk, decide_eq_false (psum_ne hl hl' h)]
  simp
theorem rec_ver {lv ls : List (BitVec 64)} {m k : Nat} (g g' : Int) (u u' : BitVec 64) (d d' : List (BitVec 8)) (hm : min lv.length ls.length = m) (hk : k < m) (h : u' ≠ u) : goodB (setL m lv k u) (setL m ls k (psum g k u d)) g' k u' d' = false := by
  have h1 : m ≤ lv.length := by omega
  have h2 : m ≤ ls.length := by omega
  rw [goodB_at (by rw [setL_len _ _ _ _ h1, setL_len _ _ _ _ h2]; omega), setL_same _ _ _ _ h1 hk, decide_eq_false (Ne.symm h)]
  simp
theorem rec_other {lv ls : List (BitVec 64)} {m k : Nat} (g g' p' : Int) (u u' : BitVec 64) (d d' : List (BitVec 8)) (hm : min lv.length ls.length = m) (hk : k < m) (h : p' ≠ k) : goodB (setL m lv k u) (setL m ls k (psum g k u d)) g' p' u' d' = goodB lv ls g' p' u' d' := by
  have h1 : m ≤ lv.length := by omega
  have h2 : m ≤ ls.length := by omega
  by_cases hr : p' < 0 ∨ (m : Int) ≤ p'
  · rw [goodB_no (by rw [setL_len _ _ _ _ h1, setL_len _ _ _ _ h2]; omega), goodB_no (by rw [hm]; exact hr)]
  · obtain ⟨j, rfl⟩ : ∃ j : Nat, p' = j := ⟨p'.toNat, by omega⟩
    have hj : j < m := by omega
    rw [goodB_at (by rw [setL_len _ _ _ _ h1, setL_len _ _ _ _ h2]; omega), goodB_at (by rw [hm]; exact hj), setL_other _ _ _ _ _ h1 hj (by omega), setL_other _ _ _ _ _ h2 hj (by omega)]

set_option maxRecDepth 100000 in
set_option maxHeartbeats 1600000 in
theorem piecesumRecognizes_walk (vv vs : Value) (lv ls : List (BitVec 64)) (g p : Int) (v : BitVec 64) (x0 x1 x2 x3 x4 x5 x6 x7 : BitVec 8) (g' p' : Int) (v' : BitVec 64) (y0 y1 y2 y3 y4 y5 y6 y7 : BitVec 8) (w : World)
    (h1 : SliceAt encU w vv lv) (h2 : SliceAt encU w vs ls) (hlv : lv.length ≤ maxLen) (hls : ls.length ≤ maxLen) (hg : I64 g) (hp : I64 p) (hg' : I64 g') (hp' : I64 p') :
    Calls Try.prog 6 #[.agg #[vv, vs], .agg #[encI g, encI p, encU v, encB x0, encB x1, encB x2, encB x3, encB x4, encB x5, encB x6, encB x7], .agg #[encI g', encI p', encU v', encB y0, encB y1, encB y2, encB y3, encB y4, encB y5, encB y6, encB y7]] w fun e w' => e = .returned (.bool true) ∧ Below w.heap.size w w' := by
  unfold I64 at hg hp hg' hp'
  have H1 := Lib.hid h1
  have H2 := Lib.hid h2
  obtain ⟨ad1, cap1, rfl, hc1, _⟩ := h1
  obtain ⟨ad2, cap2, rfl, hc2, _⟩ := h2
  clear hlv hls hc1 hc2
  by_cases hf : lv.length ≤ 40 ∧ ls.length ≤ 40
  · obtain ⟨hlv, hls⟩ := hf
    have HF := Lib.hid fun (x : World) (hx : Ext w x) => fair_as true _ _ lv ls x (by simp [hlv, hls]) (H1.out.ext hx) (H2.out.ext hx)
    generalize hm : min lv.length ls.length = m at *
    have HM := Lib.hid hm
    clear hm
    by_cases hout : p < 0 ∨ (m : Int) ≤ p
    · have HS := Lib.hid fun (x : World) (hx : Ext w x) => pset_no _ _ lv ls g p v x0 x1 x2 x3 x4 x5 x6 x7 x (by omega) (by omega) hp (by rw [HM.out]; exact hout) (H1.out.ext hx) (H2.out.ext hx)
      go_enter Try.func6, Try.ntmps6
      go_wp2_with fail
      have hz : w.heap.size + 2 < (((w.alloc (.cells #[.slice ad1 lv.length cap1, .slice ad2 ls.length cap2] 32)).alloc (.cells #[encI g, encI p, encU v, encB x0, encB x1, encB x2, encB x3, encB x4, encB x5, encB x6, encB x7] 26)).alloc (.cells #[encI g', encI p', encU v', encB y0, encB y1, encB y2, encB y3, encB y4, encB y5, encB y6, encB y7] 26)).heap.size := by simp
      have hsz : (((w.alloc (.cells #[.slice ad1 lv.length cap1, .slice ad2 ls.length cap2] 32)).alloc (.cells #[encI g, encI p, encU v, encB x0, encB x1, encB x2, encB x3, encB x4, encB x5, encB x6, encB x7] 26)).alloc (.cells #[encI g', encI p', encU v', encB y0, encB y1, encB y2, encB y3, encB y4, encB y5, encB y6, encB y7] 26)).heap.size = w.heap.size + 3 := by simp
      generalize hW : ((w.alloc (.cells #[.slice ad1 lv.length cap1, .slice ad2 ls.length cap2] 32)).alloc (.cells #[encI g, encI p, encU v, encB x0, encB x1, encB x2, encB x3, encB x4, encB x5, encB x6, encB x7] 26)).alloc (.cells #[encI g', encI p', encU v', encB y0, encB y1, encB y2, encB y3, encB y4, encB y5, encB y6, encB y7] 26) = W at *
      have c0_0 : W.cell? ⟨w.heap.size, 0, none⟩ = some (.slice ad1 lv.length cap1) := by rw [← hW]; refine (World.cell?_alloc_past (hn := by first | (simp; done) | (simp; omega)) ..).trans ?_; refine (World.cell?_alloc_past (hn := by first | (simp; done) | (simp; omega)) ..).trans ?_; first | exact (World.cell?_alloc_at (hn := by first | (simp; done) | (simp; omega)) ..).trans rfl | (simp; done) | (go_simp; done)
      have c0_1 : W.cell? ⟨w.heap.size, 1, none⟩ = some (.slice ad2 ls.length cap2) := by rw [← hW]; refine (World.cell?_alloc_past (hn := by first | (simp; done) | (simp; omega)) ..).trans ?_; refine (World.cell?_alloc_past (hn := by first | (simp; done) | (simp; omega)) ..).trans ?_; first | exact (World.cell?_alloc_at (hn := by first | (simp; done) | (simp; omega)) ..).trans rfl | (simp; done) | (go_simp; done)
      have hf0 : ∀ o, W.frozen? ⟨w.heap.size, o, none⟩ = false := fun o => by rw [← hW]; refine (World.frozen?_alloc_past (hn := by first | (simp; done) | (simp; omega)) ..).trans ?_; refine (World.frozen?_alloc_past (hn := by first | (simp; done) | (simp; omega)) ..).trans ?_; first | exact World.frozen?_alloc_at (hn := by first | (simp; done) | (simp; omega)) .. | (simp; done) | (go_simp; done)
      have c1_0 : W.cell? ⟨w.heap.size + 1, 0, none⟩ = some (encI g) := by rw [← hW]; refine (World.cell?_alloc_past (hn := by first | (simp; done) | (simp; omega)) ..).trans ?_; first | exact (World.cell?_alloc_at (hn := by first | (simp; done) | (simp; omega)) ..).trans rfl | (simp; done) | (go_simp; done)
      have c1_1 : W.cell? ⟨w.heap.size + 1, 1, none⟩ = some (encI p) := by rw [← hW]; refine (World.cell?_alloc_past (hn := by first | (simp; done) | (simp; omega)) ..).trans ?_; first | exact (World.cell?_alloc_at (hn := by first | (simp; done) | (simp; omega)) ..).trans rfl | (simp; done) | (go_simp; done)
      have c1_2 : W.cell? ⟨w.heap.size + 1, 2, none⟩ = some (encU v) := by rw [← hW]; refine (World.cell?_alloc_past (hn := by first | (simp; done) | (simp; omega)) ..).trans ?_; first | exact (World.cell?_alloc_at (hn := by first | (simp; done) | (simp; omega)) ..).trans rfl | (simp; done) | (go_simp; done)
      have c1_3 : W.cell? ⟨w.heap.size + 1, 3, none⟩ = some (encB x0) := by rw [← hW]; refine (World.cell?_alloc_past (hn := by first | (simp; done) | (simp; omega)) ..).trans ?_; first | exact (World.cell?_alloc_at (hn := by first | (simp; done) | (simp; omega)) ..).trans rfl | (simp; done) | (go_simp; done)
      have c1_4 : W.cell? ⟨w.heap.size + 1, 4, none⟩ = some (encB x1) := by rw [← hW]; refine (World.cell?_alloc_past (hn := by first | (simp; done) | (simp; omega)) ..).trans ?_; first | exact (World.cell?_alloc_at (hn := by first | (simp; done) | (simp; omega)) ..).trans rfl | (simp; done) | (go_simp; done)
      have c1_5 : W.cell? ⟨w.heap.size + 1, 5, none⟩ = some (encB x2) := by rw [← hW]; refine (World.cell?_alloc_past (hn := by first | (simp; done) | (simp; omega)) ..).trans ?_; first | exact (World.cell?_alloc_at (hn := by first | (simp; done) | (simp; omega)) ..).trans rfl | (simp; done) | (go_simp; done)
      have c1_6 : W.cell? ⟨w.heap.size + 1, 6, none⟩ = some (encB x3) := by rw [← hW]; refine (World.cell?_alloc_past (hn := by first | (simp; done) | (simp; omega)) ..).trans ?_; first | exact (World.cell?_alloc_at (hn := by first | (simp; done) | (simp; omega)) ..).trans rfl | (simp; done) | (go_simp; done)
      have c1_7 : W.cell? ⟨w.heap.size + 1, 7, none⟩ = some (encB x4) := by rw [← hW]; refine (World.cell?_alloc_past (hn := by first | (simp; done) | (simp; omega)) ..).trans ?_; first | exact (World.cell?_alloc_at (hn := by first | (simp; done) | (simp; omega)) ..).trans rfl | (simp; done) | (go_simp; done)
      have c1_8 : W.cell? ⟨w.heap.size + 1, 8, none⟩ = some (encB x5) := by rw [← hW]; refine (World.cell?_alloc_past (hn := by first | (simp; done) | (simp; omega)) ..).trans ?_; first | exact (World.cell?_alloc_at (hn := by first | (simp; done) | (simp; omega)) ..).trans rfl | (simp; done) | (go_simp; done)
      have c1_9 : W.cell? ⟨w.heap.size + 1, 9, none⟩ = some (encB x6) := by rw [← hW]; refine (World.cell?_alloc_past (hn := by first | (simp; done) | (simp; omega)) ..).trans ?_; first | exact (World.cell?_alloc_at (hn := by first | (simp; done) | (simp; omega)) ..).trans rfl | (simp; done) | (go_simp; done)
      have c1_10 : W.cell? ⟨w.heap.size + 1, 10, none⟩ = some (encB x7) := by rw [← hW]; refine (World.cell?_alloc_past (hn := by first | (simp; done) | (simp; omega)) ..).trans ?_; first | exact (World.cell?_alloc_at (hn := by first | (simp; done) | (simp; omega)) ..).trans rfl | (simp; done) | (go_simp; done)
      have hf1 : ∀ o, W.frozen? ⟨w.heap.size + 1, o, none⟩ = false := fun o => by rw [← hW]; refine (World.frozen?_alloc_past (hn := by first | (simp; done) | (simp; omega)) ..).trans ?_; first | exact World.frozen?_alloc_at (hn := by first | (simp; done) | (simp; omega)) .. | (simp; done) | (go_simp; done)
      have c2_0 : W.cell? ⟨w.heap.size + 2, 0, none⟩ = some (encI g') := by rw [← hW]; first | exact (World.cell?_alloc_at (hn := by first | (simp; done) | (simp; omega)) ..).trans rfl | (simp; done) | (go_simp; done)
      have c2_1 : W.cell? ⟨w.heap.size + 2, 1, none⟩ = some (encI p') := by rw [← hW]; first | exact (World.cell?_alloc_at (hn := by first | (simp; done) | (simp; omega)) ..).trans rfl | (simp; done) | (go_simp; done)
      have c2_2 : W.cell? ⟨w.heap.size + 2, 2, none⟩ = some (encU v') := by rw [← hW]; first | exact (World.cell?_alloc_at (hn := by first | (simp; done) | (simp; omega)) ..).trans rfl | (simp; done) | (go_simp; done)
      have c2_3 : W.cell? ⟨w.heap.size + 2, 3, none⟩ = some (encB y0) := by rw [← hW]; first | exact (World.cell?_alloc_at (hn := by first | (simp; done) | (simp; omega)) ..).trans rfl | (simp; done) | (go_simp; done)
      have c2_4 : W.cell? ⟨w.heap.size + 2, 4, none⟩ = some (encB y1) := by rw [← hW]; first | exact (World.cell?_alloc_at (hn := by first | (simp; done) | (simp; omega)) ..).trans rfl | (simp; done) | (go_simp; done)
      have c2_5 : W.cell? ⟨w.heap.size + 2, 5, none⟩ = some (encB y2) := by rw [← hW]; first | exact (World.cell?_alloc_at (hn := by first | (simp; done) | (simp; omega)) ..).trans rfl | (simp; done) | (go_simp; done)
      have c2_6 : W.cell? ⟨w.heap.size + 2, 6, none⟩ = some (encB y3) := by rw [← hW]; first | exact (World.cell?_alloc_at (hn := by first | (simp; done) | (simp; omega)) ..).trans rfl | (simp; done) | (go_simp; done)
      have c2_7 : W.cell? ⟨w.heap.size + 2, 7, none⟩ = some (encB y4) := by rw [← hW]; first | exact (World.cell?_alloc_at (hn := by first | (simp; done) | (simp; omega)) ..).trans rfl | (simp; done) | (go_simp; done)
      have c2_8 : W.cell? ⟨w.heap.size + 2, 8, none⟩ = some (encB y5) := by rw [← hW]; first | exact (World.cell?_alloc_at (hn := by first | (simp; done) | (simp; omega)) ..).trans rfl | (simp; done) | (go_simp; done)
      have c2_9 : W.cell? ⟨w.heap.size + 2, 9, none⟩ = some (encB y6) := by rw [← hW]; first | exact (World.cell?_alloc_at (hn := by first | (simp; done) | (simp; omega)) ..).trans rfl | (simp; done) | (go_simp; done)
      have c2_10 : W.cell? ⟨w.heap.size + 2, 10, none⟩ = some (encB y7) := by rw [← hW]; first | exact (World.cell?_alloc_at (hn := by first | (simp; done) | (simp; omega)) ..).trans rfl | (simp; done) | (go_simp; done)
      have hf2 : ∀ o, W.frozen? ⟨w.heap.size + 2, o, none⟩ = false := fun o => by rw [← hW]; first | exact World.frozen?_alloc_at (hn := by first | (simp; done) | (simp; omega)) .. | (simp; done) | (go_simp; done)
      have hxW : Ext w W := by rw [← hW]; exact Ext.trans (Ext.trans (Ext.alloc _ _) (Ext.alloc _ _)) (Ext.alloc _ _)
      clear hW
      have HSZ := Lib.hid hsz
      clear hsz
      have hz0 : w.heap.size < W.heap.size := by omega
      have hz1 : w.heap.size + 1 < W.heap.size := by omega
      have hz2 : w.heap.size + 2 < W.heap.size := by omega
      go_wp2_with fail
      have hxW0 : Ext W W := Ext.refl W
      go_at_call 10
      refine (awake_any _).mono ?_
      rintro e w2 ⟨rfl, hb2⟩
      have hx2 : Ext W w2 := hxW0.trans hb2
      have hc2 := hx2.cells
      have hs2 := hx2.size
      have hq2 := Below.size hb2
      have hlt2 := Nat.lt_of_lt_of_le hz hs2
      have hlu2 : w.heap.size < w2.heap.size := by omega
      skip
      go_wp2_with fail
      go_at_call 16
      refine (HF.out _ (hxW.trans hx2)).mono ?_
      rintro e w3 ⟨rfl, hb3⟩
      have hx3 : Ext W w3 := hx2.trans hb3
      have hc3 := hx3.cells
      have hs3 := hx3.size
      have hq3 := Below.size hb3
      have hlt3 := Nat.lt_of_lt_of_le hz hs3
      have hlu3 : w.heap.size < w3.heap.size := by omega
      skip
      go_wp2_with fail
      go_at_call 20
      refine (HS.out _ (hxW.trans hx3)).mono ?_
      rintro e w4 ⟨rfl, hb4⟩
      have hx4 : Ext W w4 := hx3.trans hb4
      have hc4 := hx4.cells
      have hs4 := hx4.size
      have hq4 := Below.size hb4
      have hlt4 := Nat.lt_of_lt_of_le hz hs4
      have hlu4 : w.heap.size < w4.heap.size := by omega
      skip
      go_wp2_with fail
      go_ret
      exact ⟨rfl, (hxW.trans hx4).trans (Ext.alloc _ _)⟩
    · obtain ⟨k, rfl⟩ : ∃ k : Nat, p = k := ⟨p.toNat, by omega⟩
      have hk : k < m := by omega
      have hm40 : m ≤ 40 := by have := HM.out; omega
      have HS := Lib.hid fun (x : World) (hx : Ext w x) => pset_ok _ _ lv ls g k v x0 x1 x2 x3 x4 x5 x6 x7 x (by omega) (by omega) hg (by rw [HM.out]; exact hk) (H1.out.ext hx) (H2.out.ext hx)
      go_enter Try.func6, Try.ntmps6
      go_wp2_with fail
      have hz : w.heap.size + 2 < (((w.alloc (.cells #[.slice ad1 lv.length cap1, .slice ad2 ls.length cap2] 32)).alloc (.cells #[encI g, encI k, encU v, encB x0, encB x1, encB x2, encB x3, encB x4, encB x5, encB x6, encB x7] 26)).alloc (.cells #[encI g', encI p', encU v', encB y0, encB y1, encB y2, encB y3, encB y4, encB y5, encB y6, encB y7] 26)).heap.size := by simp
      have hsz : (((w.alloc (.cells #[.slice ad1 lv.length cap1, .slice ad2 ls.length cap2] 32)).alloc (.cells #[encI g, encI k, encU v, encB x0, encB x1, encB x2, encB x3, encB x4, encB x5, encB x6, encB x7] 26)).alloc (.cells #[encI g', encI p', encU v', encB y0, encB y1, encB y2, encB y3, encB y4, encB y5, encB y6, encB y7] 26)).heap.size = w.heap.size + 3 := by simp
      generalize hW : ((w.alloc (.cells #[.slice ad1 lv.length cap1, .slice ad2 ls.length cap2] 32)).alloc (.cells #[encI g, encI k, encU v, encB x0, encB x1, encB x2, encB x3, encB x4, encB x5, encB x6, encB x7] 26)).alloc (.cells #[encI g', encI p', encU v', encB y0, encB y1, encB y2, encB y3, encB y4, encB y5, encB y6, encB y7] 26) = W at *
      have c0_0 : W.cell? ⟨w.heap.size, 0, none⟩ = some (.slice ad1 lv.length cap1) := by rw [← hW]; refine (World.cell?_alloc_past (hn := by first | (simp; done) | (simp; omega)) ..).trans ?_; refine (World.cell?_alloc_past (hn := by first | (simp; done) | (simp; omega)) ..).trans ?_; first | exact (World.cell?_alloc_at (hn := by first | (simp; done) | (simp; omega)) ..).trans rfl | (simp; done) | (go_simp; done)
      have c0_1 : W.cell? ⟨w.heap.size, 1, none⟩ = some (.slice ad2 ls.length cap2) := by rw [← hW]; refine (World.cell?_alloc_past (hn := by first | (simp; done) | (simp; omega)) ..).trans ?_; refine (World.cell?_alloc_past (hn := by first | (simp; done) | (simp; omega)) ..).trans ?_; first | exact (World.cell?_alloc_at (hn := by first | (simp; done) | (simp; omega)) ..).trans rfl | (simp; done) | (go_simp; done)
      have hf0 : ∀ o, W.frozen? ⟨w.heap.size, o, none⟩ = false := fun o => by rw [← hW]; refine (World.frozen?_alloc_past (hn := by first | (simp; done) | (simp; omega)) ..).trans ?_; refine (World.frozen?_alloc_past (hn := by first | (simp; done) | (simp; omega)) ..).trans ?_; first | exact World.frozen?_alloc_at (hn := by first | (simp; done) | (simp; omega)) .. | (simp; done) | (go_simp; done)
      have c1_0 : W.cell? ⟨w.heap.size + 1, 0, none⟩ = some (encI g) := by rw [← hW]; refine (World.cell?_alloc_past (hn := by first | (simp; done) | (simp; omega)) ..).trans ?_; first | exact (World.cell?_alloc_at (hn := by first | (simp; done) | (simp; omega)) ..).trans rfl | (simp; done) | (go_simp; done)
      have c1_1 : W.cell? ⟨w.heap.size + 1, 1, none⟩ = some (encI k) := by rw [← hW]; refine (World.cell?_alloc_past (hn := by first | (simp; done) | (simp; omega)) ..).trans ?_; first | exact (World.cell?_alloc_at (hn := by first | (simp; done) | (simp; omega)) ..).trans rfl | (simp; done) | (go_simp; done)
      have c1_2 : W.cell? ⟨w.heap.size + 1, 2, none⟩ = some (encU v) := by rw [← hW]; refine (World.cell?_alloc_past (hn := by first | (simp; done) | (simp; omega)) ..).trans ?_; first | exact (World.cell?_alloc_at (hn := by first | (simp; done) | (simp; omega)) ..).trans rfl | (simp; done) | (go_simp; done)
      have c1_3 : W.cell? ⟨w.heap.size + 1, 3, none⟩ = some (encB x0) := by rw [← hW]; refine (World.cell?_alloc_past (hn := by first | (simp; done) | (simp; omega)) ..).trans ?_; first | exact (World.cell?_alloc_at (hn := by first | (simp; done) | (simp; omega)) ..).trans rfl | (simp; done) | (go_simp; done)
      have c1_4 : W.cell? ⟨w.heap.size + 1, 4, none⟩ = some (encB x1) := by rw [← hW]; refine (World.cell?_alloc_past (hn := by first | (simp; done) | (simp; omega)) ..).trans ?_; first | exact (World.cell?_alloc_at (hn := by first | (simp; done) | (simp; omega)) ..).trans rfl | (simp; done) | (go_simp; done)
      have c1_5 : W.cell? ⟨w.heap.size + 1, 5, none⟩ = some (encB x2) := by rw [← hW]; refine (World.cell?_alloc_past (hn := by first | (simp; done) | (simp; omega)) ..).trans ?_; first | exact (World.cell?_alloc_at (hn := by first | (simp; done) | (simp; omega)) ..).trans rfl | (simp; done) | (go_simp; done)
      have c1_6 : W.cell? ⟨w.heap.size + 1, 6, none⟩ = some (encB x3) := by rw [← hW]; refine (World.cell?_alloc_past (hn := by first | (simp; done) | (simp; omega)) ..).trans ?_; first | exact (World.cell?_alloc_at (hn := by first | (simp; done) | (simp; omega)) ..).trans rfl | (simp; done) | (go_simp; done)
      have c1_7 : W.cell? ⟨w.heap.size + 1, 7, none⟩ = some (encB x4) := by rw [← hW]; refine (World.cell?_alloc_past (hn := by first | (simp; done) | (simp; omega)) ..).trans ?_; first | exact (World.cell?_alloc_at (hn := by first | (simp; done) | (simp; omega)) ..).trans rfl | (simp; done) | (go_simp; done)
      have c1_8 : W.cell? ⟨w.heap.size + 1, 8, none⟩ = some (encB x5) := by rw [← hW]; refine (World.cell?_alloc_past (hn := by first | (simp; done) | (simp; omega)) ..).trans ?_; first | exact (World.cell?_alloc_at (hn := by first | (simp; done) | (simp; omega)) ..).trans rfl | (simp; done) | (go_simp; done)
      have c1_9 : W.cell? ⟨w.heap.size + 1, 9, none⟩ = some (encB x6) := by rw [← hW]; refine (World.cell?_alloc_past (hn := by first | (simp; done) | (simp; omega)) ..).trans ?_; first | exact (World.cell?_alloc_at (hn := by first | (simp; done) | (simp; omega)) ..).trans rfl | (simp; done) | (go_simp; done)
      have c1_10 : W.cell? ⟨w.heap.size + 1, 10, none⟩ = some (encB x7) := by rw [← hW]; refine (World.cell?_alloc_past (hn := by first | (simp; done) | (simp; omega)) ..).trans ?_; first | exact (World.cell?_alloc_at (hn := by first | (simp; done) | (simp; omega)) ..).trans rfl | (simp; done) | (go_simp; done)
      have hf1 : ∀ o, W.frozen? ⟨w.heap.size + 1, o, none⟩ = false := fun o => by rw [← hW]; refine (World.frozen?_alloc_past (hn := by first | (simp; done) | (simp; omega)) ..).trans ?_; first | exact World.frozen?_alloc_at (hn := by first | (simp; done) | (simp; omega)) .. | (simp; done) | (go_simp; done)
      have c2_0 : W.cell? ⟨w.heap.size + 2, 0, none⟩ = some (encI g') := by rw [← hW]; first | exact (World.cell?_alloc_at (hn := by first | (simp; done) | (simp; omega)) ..).trans rfl | (simp; done) | (go_simp; done)
      have c2_1 : W.cell? ⟨w.heap.size + 2, 1, none⟩ = some (encI p') := by rw [← hW]; first | exact (World.cell?_alloc_at (hn := by first | (simp; done) | (simp; omega)) ..).trans rfl | (simp; done) | (go_simp; done)
      have c2_2 : W.cell? ⟨w.heap.size + 2, 2, none⟩ = some (encU v') := by rw [← hW]; first | exact (World.cell?_alloc_at (hn := by first | (simp; done) | (simp; omega)) ..).trans rfl | (simp; done) | (go_simp; done)
      have c2_3 : W.cell? ⟨w.heap.size + 2, 3, none⟩ = some (encB y0) := by rw [← hW]; first | exact (World.cell?_alloc_at (hn := by first | (simp; done) | (simp; omega)) ..).trans rfl | (simp; done) | (go_simp; done)
      have c2_4 : W.cell? ⟨w.heap.size + 2, 4, none⟩ = some (encB y1) := by rw [← hW]; first | exact (World.cell?_alloc_at (hn := by first | (simp; done) | (simp; omega)) ..).trans rfl | (simp; done) | (go_simp; done)
      have c2_5 : W.cell? ⟨w.heap.size + 2, 5, none⟩ = some (encB y2) := by rw [← hW]; first | exact (World.cell?_alloc_at (hn := by first | (simp; done) | (simp; omega)) ..).trans rfl | (simp; done) | (go_simp; done)
      have c2_6 : W.cell? ⟨w.heap.size + 2, 6, none⟩ = some (encB y3) := by rw [← hW]; first | exact (World.cell?_alloc_at (hn := by first | (simp; done) | (simp; omega)) ..).trans rfl | (simp; done) | (go_simp; done)
      have c2_7 : W.cell? ⟨w.heap.size + 2, 7, none⟩ = some (encB y4) := by rw [← hW]; first | exact (World.cell?_alloc_at (hn := by first | (simp; done) | (simp; omega)) ..).trans rfl | (simp; done) | (go_simp; done)
      have c2_8 : W.cell? ⟨w.heap.size + 2, 8, none⟩ = some (encB y5) := by rw [← hW]; first | exact (World.cell?_alloc_at (hn := by first | (simp; done) | (simp; omega)) ..).trans rfl | (simp; done) | (go_simp; done)
      have c2_9 : W.cell? ⟨w.heap.size + 2, 9, none⟩ = some (encB y6) := by rw [← hW]; first | exact (World.cell?_alloc_at (hn := by first | (simp; done) | (simp; omega)) ..).trans rfl | (simp; done) | (go_simp; done)
      have c2_10 : W.cell? ⟨w.heap.size + 2, 10, none⟩ = some (encB y7) := by rw [← hW]; first | exact (World.cell?_alloc_at (hn := by first | (simp; done) | (simp; omega)) ..).trans rfl | (simp; done) | (go_simp; done)
      have hf2 : ∀ o, W.frozen? ⟨w.heap.size + 2, o, none⟩ = false := fun o => by rw [← hW]; first | exact World.frozen?_alloc_at (hn := by first | (simp; done) | (simp; omega)) .. | (simp; done) | (go_simp; done)
      have hxW : Ext w W := by rw [← hW]; exact Ext.trans (Ext.trans (Ext.alloc _ _) (Ext.alloc _ _)) (Ext.alloc _ _)
      clear hW
      have HSZ := Lib.hid hsz
      clear hsz
      have hz0 : w.heap.size < W.heap.size := by omega
      have hz1 : w.heap.size + 1 < W.heap.size := by omega
      have hz2 : w.heap.size + 2 < W.heap.size := by omega
      go_wp2_with fail
      have hxW0 : Ext W W := Ext.refl W
      go_at_call 10
      refine (awake_any _).mono ?_
      rintro e w2 ⟨rfl, hb2⟩
      have hx2 : Ext W w2 := hxW0.trans hb2
      have hc2 := hx2.cells
      have hs2 := hx2.size
      have hq2 := Below.size hb2
      have hlt2 := Nat.lt_of_lt_of_le hz hs2
      have hlu2 : w.heap.size < w2.heap.size := by omega
      skip
      go_wp2_with fail
      go_at_call 16
      refine (HF.out _ (hxW.trans hx2)).mono ?_
      rintro e w3 ⟨rfl, hb3⟩
      have hx3 : Ext W w3 := hx2.trans hb3
      have hc3 := hx3.cells
      have hs3 := hx3.size
      have hq3 := Below.size hb3
      have hlt3 := Nat.lt_of_lt_of_le hz hs3
      have hlu3 : w.heap.size < w3.heap.size := by omega
      skip
      go_wp2_with fail
      go_at_call 20
      refine (HS.out _ (hxW.trans hx3)).mono ?_
      rintro e w4 h
      unfold SetEnd at h
      obtain ⟨v3, v4, rfl, ho3, ho4, hap, hb4⟩ := h
      rw [HM.out] at ho3 ho4
      have hl3 : Hid ((setL m lv k v).length = m) := setL_len _ _ _ _ (by have := HM.out; omega)
      have hl4 : Hid ((setL m ls k (psum g k v [x0, x1, x2, x3, x4, x5, x6, x7])).length = m) := setL_len _ _ _ _ (by have := HM.out; omega)
      have R1 := Lib.hid (rec_same (lv := lv) (ls := ls) g v [x0, x1, x2, x3, x4, x5, x6, x7] HM.out hk)
      have R2 := Lib.hid (rec_data (lv := lv) (ls := ls) g v [x0, x1, x2, x3, x4, x5, x6, x7] [y0, y1, y2, y3, y4, y5, y6, y7] HM.out hk rfl rfl)
      have R3 := Lib.hid (rec_ver (lv := lv) (ls := ls) g g v v' [x0, x1, x2, x3, x4, x5, x6, x7] [y0, y1, y2, y3, y4, y5, y6, y7] HM.out hk)
      have R4 := Lib.hid (rec_other (lv := lv) (ls := ls) g g' p' v v' [x0, x1, x2, x3, x4, x5, x6, x7] [y0, y1, y2, y3, y4, y5, y6, y7] HM.out hk)
      generalize setL m lv k v = L3 at *
      generalize setL m ls k (psum g k v [x0, x1, x2, x3, x4, x5, x6, x7]) = L4 at *
      have h3 := OwnU.slice ho3
      have h4 := OwnU.slice ho4
      have H3 := Lib.hid h3
      have H4 := Lib.hid h4
      obtain ⟨a3, c3, e3, _⟩ := h3
      obtain ⟨a4, c4, e4, _⟩ := h4
      rw [hl3.out] at e3
      rw [hl4.out] at e4
      subst e3 e4
      clear ho3 ho4 hap
      have hx4 := hx3.trans hb4
      have hc4 := hx4.cells
      have hs4 := hx4.size
      go_upto_region 6 with fail
      have hx5 : Ext W (w4.alloc (.cells #[.slice a3 m c3, .slice a4 m c4] 32)) := hx4.trans (Ext.alloc _ _)
      have hx45 : Ext w4 (w4.alloc (.cells #[.slice a3 m c3, .slice a4 m c4] 32)) := Ext.alloc _ _
      have hzz : w4.heap.size < (w4.alloc (.cells #[.slice a3 m c3, .slice a4 m c4] 32)).heap.size := by simp
      have d0 : (w4.alloc (.cells #[.slice a3 m c3, .slice a4 m c4] 32)).cell? ⟨w4.heap.size, 0, none⟩ = some (.slice a3 m c3) := by simp
      have d1 : (w4.alloc (.cells #[.slice a3 m c3, .slice a4 m c4] 32)).cell? ⟨w4.heap.size, 1, none⟩ = some (.slice a4 m c4) := by simp
      generalize w4.alloc (.cells #[.slice a3 m c3, .slice a4 m c4] 32) = W5 at *
      have hc5 := hx5.cells
      have hs5 := hx5.size
      have H3W := Lib.hid (H3.out.ext hx45)
      have H4W := Lib.hid (H4.out.ext hx45)
      go_cut [75] (fun s75 wx => s75 = .bool false ∧ Ext W5 wx)
      case first =>
        have hy5 : Ext W5 W5 := Ext.refl _
        have hq0 : w.heap.size < W5.heap.size := by omega
        have hq1 : w.heap.size + 1 < W5.heap.size := by omega
        have hq2 : w.heap.size + 2 < W5.heap.size := by omega
        by_cases hd : [y0, y1, y2, y3, y4, y5, y6, y7] = [x0, x1, x2, x3, x4, x5, x6, x7]
        · have hdb : eqB [y0, y1, y2, y3, y4, y5, y6, y7] [x0, x1, x2, x3, x4, x5, x6, x7] = true := eqB_iff.2 hd
          clear hd
          by_cases hv : v' = v
          · have hvb : (un v' == un v) = true := by rw [beq_iff_eq, hv]
            have hvc : (un v' != un v) = false := by rw [bne_eq_false_iff_eq, hv]
            have hvd : decide (v' = v) = true := by rw [decide_eq_true_eq]; exact hv
            clear hv
            go_wp2_with fail
            go_at_call 22
            refine (good_any _ _ L3 L4 g k v x0 x1 x2 x3 x4 x5 x6 x7 _ (by rw [hl3.out]; omega) (by rw [hl4.out]; omega) hg hp (H3W.out.ext hy5) (H4W.out.ext hy5)).mono ?_
            rintro e w6 ⟨rfl, hb6⟩
            have hy6 : Ext W5 w6 := hy5.trans hb6
            have hx6 : Ext W w6 := hx5.trans hy6
            have hc6 := hx6.cells
            have hd6 := hy6.cells
            have hs6 := hx6.size
            have ht6 := hy6.size
            have hu6 : w.heap.size + 2 < w6.heap.size := by omega
            have hv6 : w.heap.size + 1 < w6.heap.size := by omega
            have hw6 : w.heap.size < w6.heap.size := by omega
            have hz6 : w4.heap.size < w6.heap.size := by omega
            rw [R1.out]
            go_wp2_with fail
            go_meet
            exact ⟨rfl, hy6⟩
          · have hvb : (un v' == un v) = false := by rw [beq_eq_false_iff_ne]; exact fun e => hv (un_inj e)
            have hvc : (un v' != un v) = true := by rw [bne_iff_ne]; exact fun e => hv (un_inj e)
            have hvd : decide (v' = v) = false := by rw [decide_eq_false_iff_not]; exact hv
            have RV := Lib.hid (R3.out hv)
            clear hv
            go_wp2_with fail
            go_at_call 22
            refine (good_any _ _ L3 L4 g k v x0 x1 x2 x3 x4 x5 x6 x7 _ (by rw [hl3.out]; omega) (by rw [hl4.out]; omega) hg hp (H3W.out.ext hy5) (H4W.out.ext hy5)).mono ?_
            rintro e w6 ⟨rfl, hb6⟩
            have hy6 : Ext W5 w6 := hy5.trans hb6
            have hx6 : Ext W w6 := hx5.trans hy6
            have hc6 := hx6.cells
            have hd6 := hy6.cells
            have hs6 := hx6.size
            have ht6 := hy6.size
            have hu6 : w.heap.size + 2 < w6.heap.size := by omega
            have hv6 : w.heap.size + 1 < w6.heap.size := by omega
            have hw6 : w.heap.size < w6.heap.size := by omega
            have hz6 : w4.heap.size < w6.heap.size := by omega
            rw [R1.out]
            go_wp2_with fail
            go_at_call 22
            refine (good_any _ _ L3 L4 g k v' y0 y1 y2 y3 y4 y5 y6 y7 _ (by rw [hl3.out]; omega) (by rw [hl4.out]; omega) hg hp (H3W.out.ext hy6) (H4W.out.ext hy6)).mono ?_
            rintro e w7 ⟨rfl, hb7⟩
            have hy7 : Ext W5 w7 := hy6.trans hb7
            have hx7 : Ext W w7 := hx5.trans hy7
            have hc7 := hx7.cells
            have hd7 := hy7.cells
            have hs7 := hx7.size
            have ht7 := hy7.size
            have hu7 : w.heap.size + 2 < w7.heap.size := by omega
            have hv7 : w.heap.size + 1 < w7.heap.size := by omega
            have hw7 : w.heap.size < w7.heap.size := by omega
            have hz7 : w4.heap.size < w7.heap.size := by omega
            rw [RV.out]
            go_wp2_with fail
            go_meet
            exact ⟨rfl, hy7⟩
        · have hdb : eqB [y0, y1, y2, y3, y4, y5, y6, y7] [x0, x1, x2, x3, x4, x5, x6, x7] = false := eqB_false hd
          have RD := Lib.hid (R2.out hd)
          clear hd
          by_cases hv : v' = v
          · have hvb : (un v' == un v) = true := by rw [beq_iff_eq, hv]
            have hvc : (un v' != un v) = false := by rw [bne_eq_false_iff_eq, hv]
            have hvd : decide (v' = v) = true := by rw [decide_eq_true_eq]; exact hv
            clear hv
            go_wp2_with fail
            go_at_call 22
            refine (good_any _ _ L3 L4 g k v x0 x1 x2 x3 x4 x5 x6 x7 _ (by rw [hl3.out]; omega) (by rw [hl4.out]; omega) hg hp (H3W.out.ext hy5) (H4W.out.ext hy5)).mono ?_
            rintro e w6 ⟨rfl, hb6⟩
            have hy6 : Ext W5 w6 := hy5.trans hb6
            have hx6 : Ext W w6 := hx5.trans hy6
            have hc6 := hx6.cells
            have hd6 := hy6.cells
            have hs6 := hx6.size
            have ht6 := hy6.size
            have hu6 : w.heap.size + 2 < w6.heap.size := by omega
            have hv6 : w.heap.size + 1 < w6.heap.size := by omega
            have hw6 : w.heap.size < w6.heap.size := by omega
            have hz6 : w4.heap.size < w6.heap.size := by omega
            rw [R1.out]
            go_wp2_with fail
            go_at_call 22
            refine (good_any _ _ L3 L4 g k v y0 y1 y2 y3 y4 y5 y6 y7 _ (by rw [hl3.out]; omega) (by rw [hl4.out]; omega) hg hp (H3W.out.ext hy6) (H4W.out.ext hy6)).mono ?_
            rintro e w7 ⟨rfl, hb7⟩
            have hy7 : Ext W5 w7 := hy6.trans hb7
            have hx7 : Ext W w7 := hx5.trans hy7
            have hc7 := hx7.cells
            have hd7 := hy7.cells
            have hs7 := hx7.size
            have ht7 := hy7.size
            have hu7 : w.heap.size + 2 < w7.heap.size := by omega
            have hv7 : w.heap.size + 1 < w7.heap.size := by omega
            have hw7 : w.heap.size < w7.heap.size := by omega
            have hz7 : w4.heap.size < w7.heap.size := by omega
            rw [RD.out]
            go_wp2_with fail
            go_meet
            exact ⟨rfl, hy7⟩
          · have hvb : (un v' == un v) = false := by rw [beq_eq_false_iff_ne]; exact fun e => hv (un_inj e)
            have hvc : (un v' != un v) = true := by rw [bne_iff_ne]; exact fun e => hv (un_inj e)
            have hvd : decide (v' = v) = false := by rw [decide_eq_false_iff_not]; exact hv
            have RV := Lib.hid (R3.out hv)
            clear hv
            go_wp2_with fail
            go_at_call 22
            refine (good_any _ _ L3 L4 g k v x0 x1 x2 x3 x4 x5 x6 x7 _ (by rw [hl3.out]; omega) (by rw [hl4.out]; omega) hg hp (H3W.out.ext hy5) (H4W.out.ext hy5)).mono ?_
            rintro e w6 ⟨rfl, hb6⟩
            have hy6 : Ext W5 w6 := hy5.trans hb6
            have hx6 : Ext W w6 := hx5.trans hy6
            have hc6 := hx6.cells
            have hd6 := hy6.cells
            have hs6 := hx6.size
            have ht6 := hy6.size
            have hu6 : w.heap.size + 2 < w6.heap.size := by omega
            have hv6 : w.heap.size + 1 < w6.heap.size := by omega
            have hw6 : w.heap.size < w6.heap.size := by omega
            have hz6 : w4.heap.size < w6.heap.size := by omega
            rw [R1.out]
            go_wp2_with fail
            go_at_call 22
            refine (good_any _ _ L3 L4 g k v y0 y1 y2 y3 y4 y5 y6 y7 _ (by rw [hl3.out]; omega) (by rw [hl4.out]; omega) hg hp (H3W.out.ext hy6) (H4W.out.ext hy6)).mono ?_
            rintro e w7 ⟨rfl, hb7⟩
            have hy7 : Ext W5 w7 := hy6.trans hb7
            have hx7 : Ext W w7 := hx5.trans hy7
            have hc7 := hx7.cells
            have hd7 := hy7.cells
            have hs7 := hx7.size
            have ht7 := hy7.size
            have hu7 : w.heap.size + 2 < w7.heap.size := by omega
            have hv7 : w.heap.size + 1 < w7.heap.size := by omega
            have hw7 : w.heap.size < w7.heap.size := by omega
            have hz7 : w4.heap.size < w7.heap.size := by omega
            rw [RD.out]
            go_wp2_with fail
            go_at_call 22
            refine (good_any _ _ L3 L4 g k v' y0 y1 y2 y3 y4 y5 y6 y7 _ (by rw [hl3.out]; omega) (by rw [hl4.out]; omega) hg hp (H3W.out.ext hy7) (H4W.out.ext hy7)).mono ?_
            rintro e w8 ⟨rfl, hb8⟩
            have hy8 : Ext W5 w8 := hy7.trans hb8
            have hx8 : Ext W w8 := hx5.trans hy8
            have hc8 := hx8.cells
            have hd8 := hy8.cells
            have hs8 := hx8.size
            have ht8 := hy8.size
            have hu8 : w.heap.size + 2 < w8.heap.size := by omega
            have hv8 : w.heap.size + 1 < w8.heap.size := by omega
            have hw8 : w.heap.size < w8.heap.size := by omega
            have hz8 : w4.heap.size < w8.heap.size := by omega
            rw [RV.out]
            go_wp2_with fail
            go_meet
            exact ⟨rfl, hy8⟩
      case rest =>
        obtain ⟨rfl, hy5⟩ := hcut
        have hx5' : Ext W wc := hx5.trans hy5
        have hc6 := hx5'.cells
        have hd6 := hy5.cells
        have hs6 := hx5'.size
        have ht6 := hy5.size
        have hq0 : w.heap.size < wc.heap.size := by omega
        have hq1 : w.heap.size + 1 < wc.heap.size := by omega
        have hq2 : w.heap.size + 2 < wc.heap.size := by omega
        have hq4 : w4.heap.size < wc.heap.size := by omega
        have hxd := hx5'.trans (Ext.drew wc)
        have hyd := hy5.trans (Ext.drew wc)
        by_cases hpk : p' = k
        · have hpb : (p' == (k : Int)) = true := by rw [beq_iff_eq]; exact hpk
          have hpd : decide (p' = (k : Int)) = true := by rw [decide_eq_true_eq]; exact hpk
          clear hpk
          go_wp2_with fail
          refine wp_region_ext [(0, true), (1, true), (2, true), (3, true), (4, true), (5, true), (6, true), (7, true), (8, true), (9, true), (10, true), (11, true), (12, true), (13, true), (14, true), (16, true), (17, true), (18, true), (19, true), (20, true), (21, true), (22, true), (23, true), (24, true), (15, false), (25, false), (26, true), (27, true), (28, true)] (by kernel_rfl) (by kernel_rfl) ?_
          iterate 24 (first
           | (refine ext_move rfl rfl (by rfl) (by rfl) ?_; simp only [Act.put, List.setIfInBounds_toArray, List.set_cons_zero, List.set_cons_succ])
           | (refine ext_assign rfl rfl (by rfl) (by rfl) ?_; simp only [Act.put, List.setIfInBounds_toArray, List.set_cons_zero, List.set_cons_succ])
           | (refine ext_pick_t rfl rfl (by rfl) (by rfl) (by rfl) ?_; simp only [Act.put, List.setIfInBounds_toArray, List.set_cons_zero, List.set_cons_succ])
           | (refine ext_pick_f rfl rfl (by rfl) (by rfl) (by rfl) ?_; simp only [Act.put, List.setIfInBounds_toArray, List.set_cons_zero, List.set_cons_succ])
           | (apply ext_take rfl (by rfl)
              · intro w' hS
                have hSc := hS.cells
                (try simp only [World.size_drew, World.cell?_drew] at hSc)
                go_simp
                (try simp (disch := omega) only [i64_id, u64_id, ↓IntWalk.iteOmega, Int.tdiv_eq_ediv_of_nonneg, Int.tmod_eq_emod_of_nonneg])
                try rfl
              simp only [Act.put, List.setIfInBounds_toArray, List.set_cons_zero, List.set_cons_succ])
           | (refine ext_pass rfl (by rfl) ?_; simp only [Act.put, List.setIfInBounds_toArray, List.set_cons_zero, List.set_cons_succ]))
          (refine ext_passE rfl (by rfl) (by first | (with_reducible exact Ext.refl _) | (with_reducible exact Ext.drew _)) ?_; simp only [Act.put, List.setIfInBounds_toArray, List.set_cons_zero, List.set_cons_succ])
          (refine ext_passE rfl (by rfl) (by first | (with_reducible exact Ext.refl _) | (with_reducible exact Ext.drew _)) ?_; simp only [Act.put, List.setIfInBounds_toArray, List.set_cons_zero, List.set_cons_succ])
          iterate 3 (first
           | (refine ext_move rfl rfl (by rfl) (by rfl) ?_; simp only [Act.put, List.setIfInBounds_toArray, List.set_cons_zero, List.set_cons_succ])
           | (refine ext_assign rfl rfl (by rfl) (by rfl) ?_; simp only [Act.put, List.setIfInBounds_toArray, List.set_cons_zero, List.set_cons_succ])
           | (refine ext_pick_t rfl rfl (by rfl) (by rfl) (by rfl) ?_; simp only [Act.put, List.setIfInBounds_toArray, List.set_cons_zero, List.set_cons_succ])
           | (refine ext_pick_f rfl rfl (by rfl) (by rfl) (by rfl) ?_; simp only [Act.put, List.setIfInBounds_toArray, List.set_cons_zero, List.set_cons_succ])
           | (apply ext_take rfl (by rfl)
              · intro w' hS
                have hSc := hS.cells
                (try simp only [World.size_drew, World.cell?_drew] at hSc)
                go_simp
                (try simp (disch := omega) only [i64_id, u64_id, ↓IntWalk.iteOmega, Int.tdiv_eq_ediv_of_nonneg, Int.tmod_eq_emod_of_nonneg])
                try rfl
              simp only [Act.put, List.setIfInBounds_toArray, List.set_cons_zero, List.set_cons_succ])
           | (refine ext_pass rfl (by rfl) ?_; simp only [Act.put, List.setIfInBounds_toArray, List.set_cons_zero, List.set_cons_succ]))
          refine ext_nil ?_
          go_wp2_with fail
          go_ret
          exact ⟨rfl, hxW.trans hxd⟩
        · have hpb : (p' == (k : Int)) = false := by rw [beq_eq_false_iff_ne]; exact hpk
          have hpd : decide (p' = (k : Int)) = false := by rw [decide_eq_false_iff_not]; exact hpk
          have HR4 := Lib.hid (R4.out hpk)
          have HG1 := Lib.hid fun (x : World) (hx : Ext W5 x) => good_any _ _ L3 L4 g' p' v' y0 y1 y2 y3 y4 y5 y6 y7 x (by rw [hl3.out]; omega) (by rw [hl4.out]; omega) hg' hp' (H3W.out.ext hx) (H4W.out.ext hx)
          have HG2 := Lib.hid fun (x : World) (hx : Ext w x) => good_any _ _ lv ls g' p' v' y0 y1 y2 y3 y4 y5 y6 y7 x (by omega) (by omega) hg' hp' (H1.out.ext hx) (H2.out.ext hx)
          rw [HR4.out] at HG1
          generalize goodB lv ls g' p' v' [y0, y1, y2, y3, y4, y5, y6, y7] = bg at *
          have hbg := beq_self_t bg
          clear hpk HR4
          go_wp2_with fail
          refine wp_region_ext [(0, true), (1, true), (2, true), (3, true), (4, true), (5, true), (6, true), (7, true), (8, true), (9, true), (10, true), (11, true), (12, true), (13, true), (14, true), (16, true), (17, true), (18, true), (19, true), (20, true), (21, true), (22, true), (23, true), (24, true), (15, false), (25, false), (26, true), (27, true), (28, true)] (by kernel_rfl) (by kernel_rfl) ?_
          iterate 24 (first
           | (refine ext_move rfl rfl (by rfl) (by rfl) ?_; simp only [Act.put, List.setIfInBounds_toArray, List.set_cons_zero, List.set_cons_succ])
           | (refine ext_assign rfl rfl (by rfl) (by rfl) ?_; simp only [Act.put, List.setIfInBounds_toArray, List.set_cons_zero, List.set_cons_succ])
           | (refine ext_pick_t rfl rfl (by rfl) (by rfl) (by rfl) ?_; simp only [Act.put, List.setIfInBounds_toArray, List.set_cons_zero, List.set_cons_succ])
           | (refine ext_pick_f rfl rfl (by rfl) (by rfl) (by rfl) ?_; simp only [Act.put, List.setIfInBounds_toArray, List.set_cons_zero, List.set_cons_succ])
           | (apply ext_take rfl (by rfl)
              · intro w' hS
                have hSc := hS.cells
                (try simp only [World.size_drew, World.cell?_drew] at hSc)
                go_simp
                (try simp (disch := omega) only [i64_id, u64_id, ↓IntWalk.iteOmega, Int.tdiv_eq_ediv_of_nonneg, Int.tmod_eq_emod_of_nonneg])
                try rfl
              simp only [Act.put, List.setIfInBounds_toArray, List.set_cons_zero, List.set_cons_succ])
           | (refine ext_pass rfl (by rfl) ?_; simp only [Act.put, List.setIfInBounds_toArray, List.set_cons_zero, List.set_cons_succ]))
          (refine ext_do rfl (by rfl) (fun K hK => ?_)
           go_simp
           go_at_call 22
           refine (HG1.out _ hyd).mono ?_
           rintro e w8 ⟨rfl, hb8⟩
           have hx8 : Ext W w8 := hxd.trans hb8
           have hc8 := hx8.cells
           have hs8 := hx8.size
           have hq8 := Below.size hb8
           have hlt8 := Nat.lt_of_lt_of_le hz hs8
           (try have hlu8 := Nat.lt_of_lt_of_le hz0 hs8)
           (try have hlv8 := Nat.lt_of_lt_of_le hz1 hs8)
           skip
           refine hK _ _ (by first | exact hb8 | exact (Ext.drew _).trans hb8) ?_
           clear hK K
           (try simp only [Act.put, List.setIfInBounds_toArray, List.set_cons_zero, List.set_cons_succ]))
          (refine ext_do rfl (by rfl) (fun K hK => ?_)
           go_simp
           go_at_call 22
           refine (HG2.out _ (hxW.trans hx8)).mono ?_
           rintro e w9 ⟨rfl, hb9⟩
           have hx9 : Ext W w9 := hx8.trans hb9
           have hc9 := hx9.cells
           have hs9 := hx9.size
           have hq9 := Below.size hb9
           have hlt9 := Nat.lt_of_lt_of_le hz hs9
           (try have hlu9 := Nat.lt_of_lt_of_le hz0 hs9)
           (try have hlv9 := Nat.lt_of_lt_of_le hz1 hs9)
           skip
           refine hK _ _ (by first | exact hb9 | exact (Ext.drew _).trans hb9) ?_
           clear hK K
           (try simp only [Act.put, List.setIfInBounds_toArray, List.set_cons_zero, List.set_cons_succ]))
          iterate 3 (first
           | (refine ext_move rfl rfl (by rfl) (by rfl) ?_; simp only [Act.put, List.setIfInBounds_toArray, List.set_cons_zero, List.set_cons_succ])
           | (refine ext_assign rfl rfl (by rfl) (by rfl) ?_; simp only [Act.put, List.setIfInBounds_toArray, List.set_cons_zero, List.set_cons_succ])
           | (refine ext_pick_t rfl rfl (by rfl) (by rfl) (by rfl) ?_; simp only [Act.put, List.setIfInBounds_toArray, List.set_cons_zero, List.set_cons_succ])
           | (refine ext_pick_f rfl rfl (by rfl) (by rfl) (by rfl) ?_; simp only [Act.put, List.setIfInBounds_toArray, List.set_cons_zero, List.set_cons_succ])
           | (apply ext_take rfl (by rfl)
              · intro w' hS
                have hSc := hS.cells
                (try simp only [World.size_drew, World.cell?_drew] at hSc)
                go_simp
                (try simp (disch := omega) only [i64_id, u64_id, ↓IntWalk.iteOmega, Int.tdiv_eq_ediv_of_nonneg, Int.tmod_eq_emod_of_nonneg])
                try rfl
              simp only [Act.put, List.setIfInBounds_toArray, List.set_cons_zero, List.set_cons_succ])
           | (refine ext_pass rfl (by rfl) ?_; simp only [Act.put, List.setIfInBounds_toArray, List.set_cons_zero, List.set_cons_succ]))
          refine ext_nil ?_
          go_wp2_with fail
          go_ret
          exact ⟨rfl, hxW.trans hx9⟩
  · have HF := Lib.hid fun (x : World) (hx : Ext w x) => fair_as false _ _ lv ls x (by simp; omega) (H1.out.ext hx) (H2.out.ext hx)
    clear hf
    go_enter Try.func6, Try.ntmps6
    go_wp2_with fail
    have hz : w.heap.size + 2 < (((w.alloc (.cells #[.slice ad1 lv.length cap1, .slice ad2 ls.length cap2] 32)).alloc (.cells #[encI g, encI p, encU v, encB x0, encB x1, encB x2, encB x3, encB x4, encB x5, encB x6, encB x7] 26)).alloc (.cells #[encI g', encI p', encU v', encB y0, encB y1, encB y2, encB y3, encB y4, encB y5, encB y6, encB y7] 26)).heap.size := by simp
    have hsz : (((w.alloc (.cells #[.slice ad1 lv.length cap1, .slice ad2 ls.length cap2] 32)).alloc (.cells #[encI g, encI p, encU v, encB x0, encB x1, encB x2, encB x3, encB x4, encB x5, encB x6, encB x7] 26)).alloc (.cells #[encI g', encI p', encU v', encB y0, encB y1, encB y2, encB y3, encB y4, encB y5, encB y6, encB y7] 26)).heap.size = w.heap.size + 3 := by simp
    generalize hW : ((w.alloc (.cells #[.slice ad1 lv.length cap1, .slice ad2 ls.length cap2] 32)).alloc (.cells #[encI g, encI p, encU v, encB x0, encB x1, encB x2, encB x3, encB x4, encB x5, encB x6, encB x7] 26)).alloc (.cells #[encI g', encI p', encU v', encB y0, encB y1, encB y2, encB y3, encB y4, encB y5, encB y6, encB y7] 26) = W at *
    have c0_0 : W.cell? ⟨w.heap.size, 0, none⟩ = some (.slice ad1 lv.length cap1) := by rw [← hW]; refine (World.cell?_alloc_past (hn := by first | (simp; done) | (simp; omega)) ..).trans ?_; refine (World.cell?_alloc_past (hn := by first | (simp; done) | (simp; omega)) ..).trans ?_; first | exact (World.cell?_alloc_at (hn := by first | (simp; done) | (simp; omega)) ..).trans rfl | (simp; done) | (go_simp; done)
    have c0_1 : W.cell? ⟨w.heap.size, 1, none⟩ = some (.slice ad2 ls.length cap2) := by rw [← hW]; refine (World.cell?_alloc_past (hn := by first | (simp; done) | (simp; omega)) ..).trans ?_; refine (World.cell?_alloc_past (hn := by first | (simp; done) | (simp; omega)) ..).trans ?_; first | exact (World.cell?_alloc_at (hn := by first | (simp; done) | (simp; omega)) ..).trans rfl | (simp; done) | (go_simp; done)
    have hf0 : ∀ o, W.frozen? ⟨w.heap.size, o, none⟩ = false := fun o => by rw [← hW]; refine (World.frozen?_alloc_past (hn := by first | (simp; done) | (simp; omega)) ..).trans ?_; refine (World.frozen?_alloc_past (hn := by first | (simp; done) | (simp; omega)) ..).trans ?_; first | exact World.frozen?_alloc_at (hn := by first | (simp; done) | (simp; omega)) .. | (simp; done) | (go_simp; done)
    have c1_0 : W.cell? ⟨w.heap.size + 1, 0, none⟩ = some (encI g) := by rw [← hW]; refine (World.cell?_alloc_past (hn := by first | (simp; done) | (simp; omega)) ..).trans ?_; first | exact (World.cell?_alloc_at (hn := by first | (simp; done) | (simp; omega)) ..).trans rfl | (simp; done) | (go_simp; done)
    have c1_1 : W.cell? ⟨w.heap.size + 1, 1, none⟩ = some (encI p) := by rw [← hW]; refine (World.cell?_alloc_past (hn := by first | (simp; done) | (simp; omega)) ..).trans ?_; first | exact (World.cell?_alloc_at (hn := by first | (simp; done) | (simp; omega)) ..).trans rfl | (simp; done) | (go_simp; done)
    have c1_2 : W.cell? ⟨w.heap.size + 1, 2, none⟩ = some (encU v) := by rw [← hW]; refine (World.cell?_alloc_past (hn := by first | (simp; done) | (simp; omega)) ..).trans ?_; first | exact (World.cell?_alloc_at (hn := by first | (simp; done) | (simp; omega)) ..).trans rfl | (simp; done) | (go_simp; done)
    have c1_3 : W.cell? ⟨w.heap.size + 1, 3, none⟩ = some (encB x0) := by rw [← hW]; refine (World.cell?_alloc_past (hn := by first | (simp; done) | (simp; omega)) ..).trans ?_; first | exact (World.cell?_alloc_at (hn := by first | (simp; done) | (simp; omega)) ..).trans rfl | (simp; done) | (go_simp; done)
    have c1_4 : W.cell? ⟨w.heap.size + 1, 4, none⟩ = some (encB x1) := by rw [← hW]; refine (World.cell?_alloc_past (hn := by first | (simp; done) | (simp; omega)) ..).trans ?_; first | exact (World.cell?_alloc_at (hn := by first | (simp; done) | (simp; omega)) ..).trans rfl | (simp; done) | (go_simp; done)
    have c1_5 : W.cell? ⟨w.heap.size + 1, 5, none⟩ = some (encB x2) := by rw [← hW]; refine (World.cell?_alloc_past (hn := by first | (simp; done) | (simp; omega)) ..).trans ?_; first | exact (World.cell?_alloc_at (hn := by first | (simp; done) | (simp; omega)) ..).trans rfl | (simp; done) | (go_simp; done)
    have c1_6 : W.cell? ⟨w.heap.size + 1, 6, none⟩ = some (encB x3) := by rw [← hW]; refine (World.cell?_alloc_past (hn := by first | (simp; done) | (simp; omega)) ..).trans ?_; first | exact (World.cell?_alloc_at (hn := by first | (simp; done) | (simp; omega)) ..).trans rfl | (simp; done) | (go_simp; done)
    have c1_7 : W.cell? ⟨w.heap.size + 1, 7, none⟩ = some (encB x4) := by rw [← hW]; refine (World.cell?_alloc_past (hn := by first | (simp; done) | (simp; omega)) ..).trans ?_; first | exact (World.cell?_alloc_at (hn := by first | (simp; done) | (simp; omega)) ..).trans rfl | (simp; done) | (go_simp; done)
    have c1_8 : W.cell? ⟨w.heap.size + 1, 8, none⟩ = some (encB x5) := by rw [← hW]; refine (World.cell?_alloc_past (hn := by first | (simp; done) | (simp; omega)) ..).trans ?_; first | exact (World.cell?_alloc_at (hn := by first | (simp; done) | (simp; omega)) ..).trans rfl | (simp; done) | (go_simp; done)
    have c1_9 : W.cell? ⟨w.heap.size + 1, 9, none⟩ = some (encB x6) := by rw [← hW]; refine (World.cell?_alloc_past (hn := by first | (simp; done) | (simp; omega)) ..).trans ?_; first | exact (World.cell?_alloc_at (hn := by first | (simp; done) | (simp; omega)) ..).trans rfl | (simp; done) | (go_simp; done)
    have c1_10 : W.cell? ⟨w.heap.size + 1, 10, none⟩ = some (encB x7) := by rw [← hW]; refine (World.cell?_alloc_past (hn := by first | (simp; done) | (simp; omega)) ..).trans ?_; first | exact (World.cell?_alloc_at (hn := by first | (simp; done) | (simp; omega)) ..).trans rfl | (simp; done) | (go_simp; done)
    have hf1 : ∀ o, W.frozen? ⟨w.heap.size + 1, o, none⟩ = false := fun o => by rw [← hW]; refine (World.frozen?_alloc_past (hn := by first | (simp; done) | (simp; omega)) ..).trans ?_; first | exact World.frozen?_alloc_at (hn := by first | (simp; done) | (simp; omega)) .. | (simp; done) | (go_simp; done)
    have c2_0 : W.cell? ⟨w.heap.size + 2, 0, none⟩ = some (encI g') := by rw [← hW]; first | exact (World.cell?_alloc_at (hn := by first | (simp; done) | (simp; omega)) ..).trans rfl | (simp; done) | (go_simp; done)
    have c2_1 : W.cell? ⟨w.heap.size + 2, 1, none⟩ = some (encI p') := by rw [← hW]; first | exact (World.cell?_alloc_at (hn := by first | (simp; done) | (simp; omega)) ..).trans rfl | (simp; done) | (go_simp; done)
    have c2_2 : W.cell? ⟨w.heap.size + 2, 2, none⟩ = some (encU v') := by rw [← hW]; first | exact (World.cell?_alloc_at (hn := by first | (simp; done) | (simp; omega)) ..).trans rfl | (simp; done) | (go_simp; done)
    have c2_3 : W.cell? ⟨w.heap.size + 2, 3, none⟩ = some (encB y0) := by rw [← hW]; first | exact (World.cell?_alloc_at (hn := by first | (simp; done) | (simp; omega)) ..).trans rfl | (simp; done) | (go_simp; done)
    have c2_4 : W.cell? ⟨w.heap.size + 2, 4, none⟩ = some (encB y1) := by rw [← hW]; first | exact (World.cell?_alloc_at (hn := by first | (simp; done) | (simp; omega)) ..).trans rfl | (simp; done) | (go_simp; done)
    have c2_5 : W.cell? ⟨w.heap.size + 2, 5, none⟩ = some (encB y2) := by rw [← hW]; first | exact (World.cell?_alloc_at (hn := by first | (simp; done) | (simp; omega)) ..).trans rfl | (simp; done) | (go_simp; done)
    have c2_6 : W.cell? ⟨w.heap.size + 2, 6, none⟩ = some (encB y3) := by rw [← hW]; first | exact (World.cell?_alloc_at (hn := by first | (simp; done) | (simp; omega)) ..).trans rfl | (simp; done) | (go_simp; done)
    have c2_7 : W.cell? ⟨w.heap.size + 2, 7, none⟩ = some (encB y4) := by rw [← hW]; first | exact (World.cell?_alloc_at (hn := by first | (simp; done) | (simp; omega)) ..).trans rfl | (simp; done) | (go_simp; done)
    have c2_8 : W.cell? ⟨w.heap.size + 2, 8, none⟩ = some (encB y5) := by rw [← hW]; first | exact (World.cell?_alloc_at (hn := by first | (simp; done) | (simp; omega)) ..).trans rfl | (simp; done) | (go_simp; done)
    have c2_9 : W.cell? ⟨w.heap.size + 2, 9, none⟩ = some (encB y6) := by rw [← hW]; first | exact (World.cell?_alloc_at (hn := by first | (simp; done) | (simp; omega)) ..).trans rfl | (simp; done) | (go_simp; done)
    have c2_10 : W.cell? ⟨w.heap.size + 2, 10, none⟩ = some (encB y7) := by rw [← hW]; first | exact (World.cell?_alloc_at (hn := by first | (simp; done) | (simp; omega)) ..).trans rfl | (simp; done) | (go_simp; done)
    have hf2 : ∀ o, W.frozen? ⟨w.heap.size + 2, o, none⟩ = false := fun o => by rw [← hW]; first | exact World.frozen?_alloc_at (hn := by first | (simp; done) | (simp; omega)) .. | (simp; done) | (go_simp; done)
    have hxW : Ext w W := by rw [← hW]; exact Ext.trans (Ext.trans (Ext.alloc _ _) (Ext.alloc _ _)) (Ext.alloc _ _)
    clear hW
    have HSZ := Lib.hid hsz
    clear hsz
    have hz0 : w.heap.size < W.heap.size := by omega
    have hz1 : w.heap.size + 1 < W.heap.size := by omega
    have hz2 : w.heap.size + 2 < W.heap.size := by omega
    go_wp2_with fail
    have hxW0 : Ext W W := Ext.refl W
    go_at_call 10
    refine (awake_any _).mono ?_
    rintro e w2 ⟨rfl, hb2⟩
    have hx2 : Ext W w2 := hxW0.trans hb2
    have hc2 := hx2.cells
    have hs2 := hx2.size
    have hq2 := Below.size hb2
    have hlt2 := Nat.lt_of_lt_of_le hz hs2
    have hlu2 : w.heap.size < w2.heap.size := by omega
    skip
    go_wp2_with fail
    go_at_call 16
    refine (HF.out _ (hxW.trans hx2)).mono ?_
    rintro e w3 ⟨rfl, hb3⟩
    have hx3 : Ext W w3 := hx2.trans hb3
    have hc3 := hx3.cells
    have hs3 := hx3.size
    have hq3 := Below.size hb3
    have hlt3 := Nat.lt_of_lt_of_le hz hs3
    have hlu3 : w.heap.size < w3.heap.size := by omega
    skip
    go_wp2_with fail
    go_at_call 10
    refine (awake_any _).mono ?_
    rintro e w4 ⟨rfl, hb4⟩
    have hx4 : Ext W w4 := hx3.trans hb4
    have hc4 := hx4.cells
    have hs4 := hx4.size
    have hq4 := Below.size hb4
    have hlt4 := Nat.lt_of_lt_of_le hz hs4
    have hlu4 : w.heap.size < w4.heap.size := by omega
    skip
    go_wp2_with fail
    go_ret
    exact ⟨rfl, hxW.trans hx4⟩
end Go.Proofs.Ytinnikbjphkkiaa
