/-
  Chapter 25 (piecesum): the walk of PiecesumLeaf.
-/
import Derived.Test.YtinnikbjphkkiaaPsU
namespace Go.Proofs.Ytinnikbjphkkiaa
open Go.RowKit
set_option linter.unusedVariables false
attribute [local go_sem] eq_un

theorem le8_inj {x y : BitVec 64} (h : le 8 x = le 8 y) : x = y := by rw [← unle_le x, ← unle_le y, h]
def tailL (lv ls : List (BitVec 64)) (i n : Nat) : List (BitVec 8) := (List.range' i (n - i)).flatMap fun i => le 8 (lv.getD i 0#64) ++ le 8 (ls.getD i 0#64)
theorem pairL_split (lv ls : List (BitVec 64)) (j n : Nat) (h : j < n) : pairL lv ls n = pairL lv ls j ++ (le 8 (lv.getD j 0#64) ++ le 8 (ls.getD j 0#64)) ++ tailL lv ls (j + 1) n := by
  have e : List.range n = List.range j ++ [j] ++ List.range' (j + 1) (n - (j + 1)) := by
    rw [List.range_eq_range', List.range_eq_range']
    have h1 : List.range' 0 n = List.range' 0 j ++ List.range' j (n - j) := by
      have := List.range'_append_1 (s := 0) (m := j) (n := n - j)
      rw [Nat.zero_add] at this
      rw [this]; congr 1; omega
    have h2 : List.range' j (n - j) = j :: List.range' (j + 1) (n - (j + 1)) := by
      obtain ⟨k, hk⟩ : ∃ k, n - j = k + 1 := ⟨n - j - 1, by omega⟩
      rw [hk, List.range'_succ]; congr 2; omega
    rw [h1, h2]; simp
  unfold pairL tailL
  rw [e]
  simp [List.flatMap_append]
theorem getD_set_other (l : List (BitVec 64)) (j i : Nat) (x : BitVec 64) (h : i ≠ j) : (l.set j x).getD i 0#64 = l.getD i 0#64 := by
  rw [List.getD_eq_getElem?_getD, List.getD_eq_getElem?_getD, List.getElem?_set_ne (Ne.symm h)]
theorem getD_set_at (l : List (BitVec 64)) (j : Nat) (x : BitVec 64) (h : j < l.length) : (l.set j x).getD j 0#64 = x := by
  rw [List.getD_eq_getElem?_getD, List.getElem?_set_self h]; rfl
theorem flat_congr {α β : Type} {l : List α} {f g : α → List β} (h : ∀ x ∈ l, f x = g x) : l.flatMap f = l.flatMap g := by
  induction l with
  | nil => rfl
  | cons a l ih => rw [List.flatMap_cons, List.flatMap_cons, h a (List.mem_cons_self ..), ih fun x hx => h x (List.mem_cons_of_mem _ hx)]
theorem pairL_set1 (lv ls : List (BitVec 64)) (j : Nat) (x : BitVec 64) : pairL (lv.set j x) ls j = pairL lv ls j :=
  flat_congr fun i hi => by have := List.mem_range.1 hi; rw [getD_set_other _ _ _ _ (by omega)]
theorem pairL_set2 (lv ls : List (BitVec 64)) (j : Nat) (x : BitVec 64) : pairL lv (ls.set j x) j = pairL lv ls j :=
  flat_congr fun i hi => by have := List.mem_range.1 hi; rw [getD_set_other _ _ _ _ (by omega)]
theorem tailL_set1 (lv ls : List (BitVec 64)) (j n : Nat) (x : BitVec 64) : tailL (lv.set j x) ls (j + 1) n = tailL lv ls (j + 1) n :=
  flat_congr fun i hi => by have := (List.mem_range'_1.1 hi).1; rw [getD_set_other _ _ _ _ (by omega)]
theorem tailL_set2 (lv ls : List (BitVec 64)) (j n : Nat) (x : BitVec 64) : tailL lv (ls.set j x) (j + 1) n = tailL lv ls (j + 1) n :=
  flat_congr fun i hi => by have := (List.mem_range'_1.1 hi).1; rw [getD_set_other _ _ _ _ (by omega)]
/-- one version is another one: the sum is, too -/
theorem leaf_ver (g : Int) (lv ls : List (BitVec 64)) (j : Nat) (x : BitVec 64) {n : Nat} (h1 : lv.length = n) (h2 : ls.length = n) (hj : j < n) : lsum g (lv.set j x) ls = lsum g lv ls ↔ lv.getD j 0#64 = x := by
  unfold lsum
  rw [List.length_set, h1, h2, Nat.min_self, pairL_split _ _ j n hj, pairL_split lv ls j n hj, pairL_set1, tailL_set1, getD_set_at _ _ _ (by omega)]
  constructor
  · intro e
    refine (le8_inj (sum_mid (p := headL g n ++ pairL lv ls j) (q := le 8 (ls.getD j 0#64) ++ tailL lv ls (j + 1) n) (by rw [le_length, le_length]) (by rw [le_length]; omega) ?_)).symm
    simpa only [List.append_assoc] using e
  · rintro rfl; rfl
theorem leaf_sum (g : Int) (lv ls : List (BitVec 64)) (j : Nat) (x : BitVec 64) {n : Nat} (h1 : lv.length = n) (h2 : ls.length = n) (hj : j < n) : lsum g lv (ls.set j x) = lsum g lv ls ↔ ls.getD j 0#64 = x := by
  unfold lsum
  rw [List.length_set, h1, h2, Nat.min_self, pairL_split _ _ j n hj, pairL_split lv ls j n hj, pairL_set2, tailL_set2, getD_set_at _ _ _ (by omega)]
  constructor
  · intro e
    refine (le8_inj (sum_mid (p := headL g n ++ pairL lv ls j ++ le 8 (lv.getD j 0#64)) (q := tailL lv ls (j + 1) n) (by rw [le_length, le_length]) (by rw [le_length]; omega) ?_)).symm
    simpa only [List.append_assoc] using e
  · rintro rfl; rfl
theorem beq_un (x y : BitVec 64) : (x == y) = decide (x = y) := rfl

set_option maxHeartbeats 1600000 in
theorem piecesumLeaf_walk (vv vs : Value) (lv ls : List (BitVec 64)) (k : Int) (x : BitVec 64) (w : World) (h1 : SliceAt encU w vv lv) (h2 : SliceAt encU w vs ls) (hlv : lv.length ≤ maxLen) (hls : ls.length ≤ maxLen) (hk : I64 k) :
    Calls Try.prog 9 #[.agg #[vv, vs], .int .i64 k, encU x] w fun e w' => e = .returned (.bool true) ∧ Below w.heap.size w w' := by
  unfold I64 at hk
  have H1 := Lib.hid h1
  have H2 := Lib.hid h2
  obtain ⟨ad1, cap1, rfl, hc1, _⟩ := h1
  obtain ⟨ad2, cap2, rfl, hc2, _⟩ := h2
  clear hlv hls hc1 hc2
  by_cases hf : lv.length ≤ 40 ∧ ls.length ≤ 40
  case neg =>
    have HF := Lib.hid fun (x : World) (hx : Ext w x) => fair_as false _ _ lv ls x (by simp; omega) (H1.out.ext hx) (H2.out.ext hx)
    clear hf
    go_enter Try.func9, Try.ntmps9
    go_wp2_with fail
    have hz : w.heap.size < (w.alloc (.cells #[.slice ad1 lv.length cap1, .slice ad2 ls.length cap2] 32)).heap.size := by simp
    have hsz : (w.alloc (.cells #[.slice ad1 lv.length cap1, .slice ad2 ls.length cap2] 32)).heap.size = w.heap.size + 1 := by simp
    generalize hW : w.alloc (.cells #[.slice ad1 lv.length cap1, .slice ad2 ls.length cap2] 32) = W at *
    have c0_0 : W.cell? ⟨w.heap.size, 0, none⟩ = some (.slice ad1 lv.length cap1) := by rw [← hW]; first | exact (World.cell?_alloc_at (hn := by first | (simp; done) | (simp; omega)) ..).trans rfl | (simp; done) | (go_simp; done)
    have c0_1 : W.cell? ⟨w.heap.size, 1, none⟩ = some (.slice ad2 ls.length cap2) := by rw [← hW]; first | exact (World.cell?_alloc_at (hn := by first | (simp; done) | (simp; omega)) ..).trans rfl | (simp; done) | (go_simp; done)
    have hf0 : ∀ o, W.frozen? ⟨w.heap.size, o, none⟩ = false := fun o => by rw [← hW]; first | exact World.frozen?_alloc_at (hn := by first | (simp; done) | (simp; omega)) .. | (simp; done) | (go_simp; done)
    have hxW : Ext w W := by rw [← hW]; exact Ext.alloc _ _
    clear hW
    have HSZ := Lib.hid hsz
    clear hsz
    have hz0 := hz
    go_wp2_with fail
    have hxW0 : Ext W W := Ext.refl W
    go_at_call 10
    refine (awake_any _).mono ?_
    rintro e w2 ⟨rfl, hb2⟩
    have hx2 : Ext W w2 := hxW0.trans hb2
    have hc2 := hx2.cells
    have hs2 := hx2.size
    have hq2 := Below.size hb2
    have hlt2 := Nat.lt_of_lt_of_le hz hs2
    have hlu2 : w.heap.size < w2.heap.size := by omega
    skip
    go_wp2_with fail
    go_at_call 16
    refine (HF.out _ (hxW.trans hx2)).mono ?_
    rintro e w3 ⟨rfl, hb3⟩
    have hx3 : Ext W w3 := hx2.trans hb3
    have hc3 := hx3.cells
    have hs3 := hx3.size
    have hq3 := Below.size hb3
    have hlt3 := Nat.lt_of_lt_of_le hz hs3
    have hlu3 : w.heap.size < w3.heap.size := by omega
    skip
    go_wp2_with fail
    go_at_call 10
    refine (awake_any _).mono ?_
    rintro e w4 ⟨rfl, hb4⟩
    have hx4 : Ext W w4 := hx3.trans hb4
    have hc4 := hx4.cells
    have hs4 := hx4.size
    have hq4 := Below.size hb4
    have hlt4 := Nat.lt_of_lt_of_le hz hs4
    have hlu4 : w.heap.size < w4.heap.size := by omega
    skip
    go_wp2_with fail
    go_ret
    exact ⟨rfl, hxW.trans hx4⟩
  obtain ⟨hlv, hls⟩ := hf
  have HF := Lib.hid fun (x : World) (hx : Ext w x) => fair_as true _ _ lv ls x (by simp [hlv, hls]) (H1.out.ext hx) (H2.out.ext hx)
  by_cases hne : lv.length = ls.length
  case neg =>
    have hq1 : ((lv.length : Int) != (ls.length : Int)) = true := by rw [bne_iff_ne]; omega
    have hq2 : (lv.length != ls.length) = true := by rw [bne_iff_ne]; exact hne
    have hq3 : (lv.length == ls.length) = false := by rw [beq_eq_false_iff_ne]; exact hne
    clear hne
    go_enter Try.func9, Try.ntmps9
    go_wp2_with fail
    have hz : w.heap.size < (w.alloc (.cells #[.slice ad1 lv.length cap1, .slice ad2 ls.length cap2] 32)).heap.size := by simp
    have hsz : (w.alloc (.cells #[.slice ad1 lv.length cap1, .slice ad2 ls.length cap2] 32)).heap.size = w.heap.size + 1 := by simp
    generalize hW : w.alloc (.cells #[.slice ad1 lv.length cap1, .slice ad2 ls.length cap2] 32) = W at *
    have c0_0 : W.cell? ⟨w.heap.size, 0, none⟩ = some (.slice ad1 lv.length cap1) := by rw [← hW]; first | exact (World.cell?_alloc_at (hn := by first | (simp; done) | (simp; omega)) ..).trans rfl | (simp; done) | (go_simp; done)
    have c0_1 : W.cell? ⟨w.heap.size, 1, none⟩ = some (.slice ad2 ls.length cap2) := by rw [← hW]; first | exact (World.cell?_alloc_at (hn := by first | (simp; done) | (simp; omega)) ..).trans rfl | (simp; done) | (go_simp; done)
    have hf0 : ∀ o, W.frozen? ⟨w.heap.size, o, none⟩ = false := fun o => by rw [← hW]; first | exact World.frozen?_alloc_at (hn := by first | (simp; done) | (simp; omega)) .. | (simp; done) | (go_simp; done)
    have hxW : Ext w W := by rw [← hW]; exact Ext.alloc _ _
    clear hW
    have HSZ := Lib.hid hsz
    clear hsz
    have hz0 := hz
    go_wp2_with fail
    have hxW0 : Ext W W := Ext.refl W
    go_at_call 10
    refine (awake_any _).mono ?_
    rintro e w2 ⟨rfl, hb2⟩
    have hx2 : Ext W w2 := hxW0.trans hb2
    have hc2 := hx2.cells
    have hs2 := hx2.size
    have hq2 := Below.size hb2
    have hlt2 := Nat.lt_of_lt_of_le hz hs2
    have hlu2 : w.heap.size < w2.heap.size := by omega
    skip
    go_wp2_with fail
    go_at_call 16
    refine (HF.out _ (hxW.trans hx2)).mono ?_
    rintro e w3 ⟨rfl, hb3⟩
    have hx3 : Ext W w3 := hx2.trans hb3
    have hc3 := hx3.cells
    have hs3 := hx3.size
    have hq3 := Below.size hb3
    have hlt3 := Nat.lt_of_lt_of_le hz hs3
    have hlu3 : w.heap.size < w3.heap.size := by omega
    skip
    go_wp2_with fail
    go_at_call 10
    refine (awake_any _).mono ?_
    rintro e w4 ⟨rfl, hb4⟩
    have hx4 : Ext W w4 := hx3.trans hb4
    have hc4 := hx4.cells
    have hs4 := hx4.size
    have hq4 := Below.size hb4
    have hlt4 := Nat.lt_of_lt_of_le hz hs4
    have hlu4 : w.heap.size < w4.heap.size := by omega
    skip
    go_wp2_with fail
    go_ret
    exact ⟨rfl, hxW.trans hx4⟩
  have hq1 : ((lv.length : Int) != (ls.length : Int)) = false := by rw [bne_eq_false_iff_eq]; omega
  have hq2 : (lv.length != ls.length) = false := by rw [bne_eq_false_iff_eq]; exact hne
  have hq3 : (lv.length == ls.length) = true := by rw [beq_iff_eq]; exact hne
  by_cases hneg : k < 0
  case pos =>
    have hd : decide (k < 0) = true := by rw [decide_eq_true_eq]; exact hneg
    clear hne
    go_enter Try.func9, Try.ntmps9
    go_wp2_with fail
    have hz : w.heap.size < (w.alloc (.cells #[.slice ad1 lv.length cap1, .slice ad2 ls.length cap2] 32)).heap.size := by simp
    have hsz : (w.alloc (.cells #[.slice ad1 lv.length cap1, .slice ad2 ls.length cap2] 32)).heap.size = w.heap.size + 1 := by simp
    generalize hW : w.alloc (.cells #[.slice ad1 lv.length cap1, .slice ad2 ls.length cap2] 32) = W at *
    have c0_0 : W.cell? ⟨w.heap.size, 0, none⟩ = some (.slice ad1 lv.length cap1) := by rw [← hW]; first | exact (World.cell?_alloc_at (hn := by first | (simp; done) | (simp; omega)) ..).trans rfl | (simp; done) | (go_simp; done)
    have c0_1 : W.cell? ⟨w.heap.size, 1, none⟩ = some (.slice ad2 ls.length cap2) := by rw [← hW]; first | exact (World.cell?_alloc_at (hn := by first | (simp; done) | (simp; omega)) ..).trans rfl | (simp; done) | (go_simp; done)
    have hf0 : ∀ o, W.frozen? ⟨w.heap.size, o, none⟩ = false := fun o => by rw [← hW]; first | exact World.frozen?_alloc_at (hn := by first | (simp; done) | (simp; omega)) .. | (simp; done) | (go_simp; done)
    have hxW : Ext w W := by rw [← hW]; exact Ext.alloc _ _
    clear hW
    have HSZ := Lib.hid hsz
    clear hsz
    have hz0 := hz
    go_wp2_with fail
    have hxW0 : Ext W W := Ext.refl W
    go_at_call 10
    refine (awake_any _).mono ?_
    rintro e w2 ⟨rfl, hb2⟩
    have hx2 : Ext W w2 := hxW0.trans hb2
    have hc2 := hx2.cells
    have hs2 := hx2.size
    have hq2 := Below.size hb2
    have hlt2 := Nat.lt_of_lt_of_le hz hs2
    have hlu2 : w.heap.size < w2.heap.size := by omega
    skip
    go_wp2_with fail
    go_at_call 16
    refine (HF.out _ (hxW.trans hx2)).mono ?_
    rintro e w3 ⟨rfl, hb3⟩
    have hx3 : Ext W w3 := hx2.trans hb3
    have hc3 := hx3.cells
    have hs3 := hx3.size
    have hq3 := Below.size hb3
    have hlt3 := Nat.lt_of_lt_of_le hz hs3
    have hlu3 : w.heap.size < w3.heap.size := by omega
    skip
    go_wp2_with fail
    go_at_call 10
    refine (awake_any _).mono ?_
    rintro e w4 ⟨rfl, hb4⟩
    have hx4 : Ext W w4 := hx3.trans hb4
    have hc4 := hx4.cells
    have hs4 := hx4.size
    have hq4 := Below.size hb4
    have hlt4 := Nat.lt_of_lt_of_le hz hs4
    have hlu4 : w.heap.size < w4.heap.size := by omega
    skip
    go_wp2_with fail
    go_ret
    exact ⟨rfl, hxW.trans hx4⟩
  by_cases hge : 2 * (ls.length : Int) ≤ k
  case pos =>
    have hd : decide (k < 0) = false := by rw [decide_eq_false_iff_not]; exact hneg
    have hd2 : decide (2 * (ls.length : Int) ≤ k) = true := by rw [decide_eq_true_eq]; exact hge
    clear hne
    go_enter Try.func9, Try.ntmps9
    go_wp2_with fail
    have hz : w.heap.size < (w.alloc (.cells #[.slice ad1 lv.length cap1, .slice ad2 ls.length cap2] 32)).heap.size := by simp
    have hsz : (w.alloc (.cells #[.slice ad1 lv.length cap1, .slice ad2 ls.length cap2] 32)).heap.size = w.heap.size + 1 := by simp
    generalize hW : w.alloc (.cells #[.slice ad1 lv.length cap1, .slice ad2 ls.length cap2] 32) = W at *
    have c0_0 : W.cell? ⟨w.heap.size, 0, none⟩ = some (.slice ad1 lv.length cap1) := by rw [← hW]; first | exact (World.cell?_alloc_at (hn := by first | (simp; done) | (simp; omega)) ..).trans rfl | (simp; done) | (go_simp; done)
    have c0_1 : W.cell? ⟨w.heap.size, 1, none⟩ = some (.slice ad2 ls.length cap2) := by rw [← hW]; first | exact (World.cell?_alloc_at (hn := by first | (simp; done) | (simp; omega)) ..).trans rfl | (simp; done) | (go_simp; done)
    have hf0 : ∀ o, W.frozen? ⟨w.heap.size, o, none⟩ = false := fun o => by rw [← hW]; first | exact World.frozen?_alloc_at (hn := by first | (simp; done) | (simp; omega)) .. | (simp; done) | (go_simp; done)
    have hxW : Ext w W := by rw [← hW]; exact Ext.alloc _ _
    clear hW
    have HSZ := Lib.hid hsz
    clear hsz
    have hz0 := hz
    go_wp2_with fail
    have hxW0 : Ext W W := Ext.refl W
    go_at_call 10
    refine (awake_any _).mono ?_
    rintro e w2 ⟨rfl, hb2⟩
    have hx2 : Ext W w2 := hxW0.trans hb2
    have hc2 := hx2.cells
    have hs2 := hx2.size
    have hq2 := Below.size hb2
    have hlt2 := Nat.lt_of_lt_of_le hz hs2
    have hlu2 : w.heap.size < w2.heap.size := by omega
    skip
    go_wp2_with fail
    go_at_call 16
    refine (HF.out _ (hxW.trans hx2)).mono ?_
    rintro e w3 ⟨rfl, hb3⟩
    have hx3 : Ext W w3 := hx2.trans hb3
    have hc3 := hx3.cells
    have hs3 := hx3.size
    have hq3 := Below.size hb3
    have hlt3 := Nat.lt_of_lt_of_le hz hs3
    have hlu3 : w.heap.size < w3.heap.size := by omega
    skip
    go_wp2_with fail
    go_at_call 10
    refine (awake_any _).mono ?_
    rintro e w4 ⟨rfl, hb4⟩
    have hx4 : Ext W w4 := hx3.trans hb4
    have hc4 := hx4.cells
    have hs4 := hx4.size
    have hq4 := Below.size hb4
    have hlt4 := Nat.lt_of_lt_of_le hz hs4
    have hlu4 : w.heap.size < w4.heap.size := by omega
    skip
    go_wp2_with fail
    go_ret
    exact ⟨rfl, hxW.trans hx4⟩
  obtain ⟨k, rfl⟩ : ∃ i : Nat, k = i := ⟨k.toNat, by omega⟩
  have hd : decide ((k : Int) < 0) = false := by rw [decide_eq_false_iff_not]; exact hneg
  have hd2 : decide (2 * (ls.length : Int) ≤ (k : Int)) = false := by rw [decide_eq_false_iff_not]; exact hge
  obtain ⟨n, hn2⟩ : ∃ n, ls.length = n := ⟨_, rfl⟩
  have hn1 : lv.length = n := by omega
  obtain ⟨j, hjq⟩ : ∃ j : Nat, k / 2 = j := ⟨_, rfl⟩
  have hj : j < n := by omega
  have HN1 := Lib.hid hn1
  have HN2 := Lib.hid hn2
  have HJ := Lib.hid hjq
  clear hne hn1 hn2 hjq
  go_enter Try.func9, Try.ntmps9
  go_wp2_with fail
  have hz : w.heap.size < (w.alloc (.cells #[.slice ad1 lv.length cap1, .slice ad2 ls.length cap2] 32)).heap.size := by simp
  have hsz : (w.alloc (.cells #[.slice ad1 lv.length cap1, .slice ad2 ls.length cap2] 32)).heap.size = w.heap.size + 1 := by simp
  generalize hW : w.alloc (.cells #[.slice ad1 lv.length cap1, .slice ad2 ls.length cap2] 32) = W at *
  have c0_0 : W.cell? ⟨w.heap.size, 0, none⟩ = some (.slice ad1 lv.length cap1) := by rw [← hW]; first | exact (World.cell?_alloc_at (hn := by first | (simp; done) | (simp; omega)) ..).trans rfl | (simp; done) | (go_simp; done)
  have c0_1 : W.cell? ⟨w.heap.size, 1, none⟩ = some (.slice ad2 ls.length cap2) := by rw [← hW]; first | exact (World.cell?_alloc_at (hn := by first | (simp; done) | (simp; omega)) ..).trans rfl | (simp; done) | (go_simp; done)
  have hf0 : ∀ o, W.frozen? ⟨w.heap.size, o, none⟩ = false := fun o => by rw [← hW]; first | exact World.frozen?_alloc_at (hn := by first | (simp; done) | (simp; omega)) .. | (simp; done) | (go_simp; done)
  have hxW : Ext w W := by rw [← hW]; exact Ext.alloc _ _
  clear hW
  have HSZ := Lib.hid hsz
  clear hsz
  have hz0 := hz
  go_wp2_with fail
  have hxW0 : Ext W W := Ext.refl W
  go_at_call 10
  refine (awake_any _).mono ?_
  rintro e w2 ⟨rfl, hb2⟩
  have hx2 : Ext W w2 := hxW0.trans hb2
  have hc2 := hx2.cells
  have hs2 := hx2.size
  have hq2 := Below.size hb2
  have hlt2 := Nat.lt_of_lt_of_le hz hs2
  have hlu2 : w.heap.size < w2.heap.size := by omega
  skip
  go_wp2_with fail
  go_at_call 16
  refine (HF.out _ (hxW.trans hx2)).mono ?_
  rintro e w3 ⟨rfl, hb3⟩
  have hx3 : Ext W w3 := hx2.trans hb3
  have hc3 := hx3.cells
  have hs3 := hx3.size
  have hq3 := Below.size hb3
  have hlt3 := Nat.lt_of_lt_of_le hz hs3
  have hlu3 : w.heap.size < w3.heap.size := by omega
  skip
  go_wp2_with fail
  have HV1 := Lib.hid (H1.out.ext (hxW.trans hx3))
  have HV2 := Lib.hid (H2.out.ext (hxW.trans hx3))
  obtain ⟨i0, hi, hi0, hi1, hi2⟩ := info_parts infoU
  refine wp_region_par [(1, true), (2, true), (5, true), (6, true)] [(0, 38), (3, 41), (4, 42), (7, 45), (8, 46), (9, 7)] [(3, [0]), (7, [4]), (8, [3,7])] [3,7] [(10, false)] (by kernel_rfl) (by kernel_rfl) ?_
  iterate 4 (first
   | (refine extK_move rfl rfl (by rfl) (by rfl) ?_; simp only [Act.put, List.setIfInBounds_toArray, List.set_cons_zero, List.set_cons_succ])
   | (refine extK_assign rfl rfl (by rfl) (by rfl) ?_; simp only [Act.put, List.setIfInBounds_toArray, List.set_cons_zero, List.set_cons_succ])
   | (refine extK_pick_t rfl rfl (by rfl) (by rfl) (by rfl) ?_; simp only [Act.put, List.setIfInBounds_toArray, List.set_cons_zero, List.set_cons_succ])
   | (refine extK_pick_f rfl rfl (by rfl) (by rfl) (by rfl) ?_; simp only [Act.put, List.setIfInBounds_toArray, List.set_cons_zero, List.set_cons_succ])
   | (apply extK_take rfl (by rfl)
      · intro w' hS
        have hSc := hS.cells
        (try simp only [World.size_drew, World.cell?_drew] at hSc)
        go_simp
        (try simp (disch := omega) only [i64_id, u64_id, ↓IntWalk.iteOmega, Int.tdiv_eq_ediv_of_nonneg, Int.tmod_eq_emod_of_nonneg])
        try rfl
      simp only [Act.put, List.setIfInBounds_toArray, List.set_cons_zero, List.set_cons_succ])
   | (refine extK_pass rfl (by rfl) ?_; simp only [Act.put, List.setIfInBounds_toArray, List.set_cons_zero, List.set_cons_succ]))
  refine extK_nil ?_
  refine ⟨copyPosts w3 lv ls, ?_, ?_, ?_⟩
  · exact ⟨fun _ _ _ _ e h => ⟨OwnU.ext h.1 e, h.2⟩, fun _ _ _ _ e h => OwnU.ext h e, fun _ _ _ _ e h => ⟨OwnU.ext h.1 e, h.2⟩, fun _ _ _ _ e h => OwnU.ext h e, fun _ _ _ _ e h => h, fun _ _ _ _ e ⟨k, h1, h2, h3⟩ => ⟨k, h1, h2, h3.ext e⟩, trivial⟩
  · refine ⟨fun vals x hx hp => ⟨_, rfl, by rfl, fun K hK => ?_⟩, fun vals x hx hp => ⟨_, rfl, by rfl, fun K hK => ?_⟩, fun vals x hx hp => ⟨_, rfl, by rfl, fun K hK => ?_⟩, fun vals x hx hp => ⟨_, rfl, by rfl, fun K hK => ?_⟩, fun vals x hx hp => ⟨_, rfl, by rfl, fun K hK => ?_⟩, fun vals x hx hp => ⟨_, rfl, by rfl, fun K hK => ?_⟩, trivial⟩
    all_goals replace hx := (Ext.drew w3).trans hx
    all_goals simp only [laidT, Act.put, List.setIfInBounds_toArray, List.set_cons_zero, List.set_cons_succ] at hK ⊢
    · go_simp
      exact hK _ _ (Ext.alloc _ _) ⟨World.ownsRow_lit x #[] 0 hx.size (by decide) rfl, _, rfl⟩ (fun h => absurd h (by decide))
    · obtain ⟨hq0, q, hq⟩ : OwnU x w3.heap.size (vals 0) [] ∧ ∃ q, vals 0 = .slice (some ⟨q, 0, none⟩) 0 0 := hp.1
      simp only [hq] at hK ⊢
      rw [hq] at hq0
      refine wp_of_list rfl ?_
      refine wpList_append_lit (enc := encU) (fun _ => rfl) rfl _ _ 30 rfl 22 i0 (.int .u64 0) 8 Try.underlying30 hi hi0 hi1 hi2 rfl w3.heap.size q rfl hq0 hx.size _ lv rfl (HV1.out.ext hx) (by unfold maxLen; omega) (by omega) ?_
      intro v2 w2 ho2 hb2 hf2
      exact hK _ _ hb2 ho2 (fun _ => hf2)
    · go_simp
      exact hK _ _ (Ext.alloc _ _) ⟨World.ownsRow_lit x #[] 0 hx.size (by decide) rfl, _, rfl⟩ (fun h => absurd h (by decide))
    · obtain ⟨hq0, q, hq⟩ : OwnU x w3.heap.size (vals 4) [] ∧ ∃ q, vals 4 = .slice (some ⟨q, 0, none⟩) 0 0 := hp.1
      simp only [hq] at hK ⊢
      rw [hq] at hq0
      refine wp_of_list rfl ?_
      refine wpList_append_lit (enc := encU) (fun _ => rfl) rfl _ _ 30 rfl 22 i0 (.int .u64 0) 8 Try.underlying30 hi hi0 hi1 hi2 rfl w3.heap.size q rfl hq0 hx.size _ ls rfl (HV2.out.ext hx) (by unfold maxLen; omega) (by omega) ?_
      intro v2 w2 ho2 hb2 hf2
      exact hK _ _ hb2 ho2 (fun _ => hf2)
    · have h4 : OwnU x w3.heap.size (vals 3) lv := hp.1
      have h9 : OwnU x w3.heap.size (vals 7) ls := hp.2.1
      obtain ⟨a4, c4, e4⟩ := h4.shape
      obtain ⟨a9, c9, e9⟩ := h9.shape
      simp only [e4, e9] at hK ⊢
      go_simp
      exact hK _ _ (Ext.refl _) (by show _ = Value.agg #[vals 3, vals 7]; rw [e4, e9]) (fun h => absurd h (by decide))
    · go_simp
      exact hK _ _ (Ext.alloc _ _) ⟨_, rfl, hx.size, heap_alloc_new _ _⟩ (fun h => absurd h (by decide))
  · intro vals wc hxc hp hfr hap
    replace hxc := (Ext.drew w3).trans hxc
    have hv1 : OwnU wc w3.heap.size (vals 3) lv := hp.2.1
    have hv2 : OwnU wc w3.heap.size (vals 7) ls := hp.2.2.2.1
    have hv3 : vals 8 = .agg #[vals 3, vals 7] := hp.2.2.2.2.1
    obtain ⟨gb, hv4, hgb, hbx⟩ : ∃ k, vals 9 = .pointer (some ⟨k, 0, none⟩) ∧ w3.heap.size ≤ k ∧ BoxAt wc k #[.slice none 0 0, .slice none 0 0] 32 := hp.2.2.2.2.2.1
    have hap := hap 3 (by decide) (by decide) 7 (by decide) (by decide) (by decide)
    obtain ⟨b1, d1, e1⟩ := hv1.shape
    obtain ⟨b2, d2, e2⟩ := hv2.shape
    simp only [laidT, Act.put, List.setIfInBounds_toArray, List.set_cons_zero, List.set_cons_succ]
    simp only [hv3, hv4, e1, e2]
    rw [e1] at hv1 hap
    rw [e2] at hv2 hap
    have hgl := hbx.lt
    have hc0 := hbx.cell 0 rfl
    have hc1 := hbx.cell 1 rfl
    have hf0 := hbx.free 0
    have hf1 := hbx.free 1
    have HAP := Lib.hid hap
    have HV3 := Lib.hid ((hv1.kept (grown_set wc gb 0 (.slice b1 lv.length d1)) (.inr (hv1.not_box hbx (by decide)))).kept (grown_set _ gb 1 (.slice b2 ls.length d2)) (.inr (hv1.not_box hbx (by decide))))
    have HV4 := Lib.hid ((hv2.kept (grown_set wc gb 0 (.slice b1 lv.length d1)) (.inr (hv2.not_box hbx (by decide)))).kept (grown_set _ gb 1 (.slice b2 ls.length d2)) (.inr (hv2.not_box hbx (by decide))))
    have HBX := Lib.hid ((hbx.set 0 (.slice b1 lv.length d1)).set 1 (.slice b2 ls.length d2))
    have HBL := Lib.hid (bel_set (bel_set (Ext.below hxc) hgb 0 (.slice b1 lv.length d1)) hgb 1 (.slice b2 ls.length d2))
    generalize vals 0 = r0 at *
    generalize vals 4 = r4 at *
    clear hp hap hfr hv1 hv2 hv3 hv4 e1 e2 hbx
    (refine ext_last rfl (by rfl) (by kernel_rfl) (fun K hK => ?_)
     go_simp
     refine hK _ _ ?_
     clear hK K
     (try simp only [Act.put, List.setIfInBounds_toArray, List.set_cons_zero, List.set_cons_succ]))
    generalize (wc.setCell ⟨gb, 0, none⟩ (.slice b1 lv.length d1)).setCell ⟨gb, 1, none⟩ (.slice b2 ls.length d2) = wd at *
    clear hc0 hc1 hf0 hf1 hgl
    obtain ⟨q1, c1, e1, hq1, _⟩ := OwnU.form (show OwnU wd w3.heap.size _ lv from HV3.out) (by have := HN1.out; omega)
    obtain ⟨q2, c2, e2, hq2, _⟩ := OwnU.form (show OwnU wd w3.heap.size _ ls from HV4.out) (by have := HN2.out; omega)
    injection e1 with e1 _ e1'
    injection e2 with e2 _ e2'
    subst e1 e1' e2 e2'
    have hap : q1 ≠ q2 := fun e => HAP.out q1 rfl (by rw [e]; rfl)
    have HLA : Hid (LeafAt w3.heap.size lv ls (.slice (some ⟨q1, 0, none⟩) lv.length (c1 + 1)) (.slice (some ⟨q2, 0, none⟩) ls.length (c2 + 1)) gb wd) := ⟨HV3.out, HV4.out, fun g h1 h2 => hap (by cases h1; cases h2; rfl), HBX.out⟩
    have HNE : Hid (lv.length = ls.length) := by show _ = _; rw [HN1.out, HN2.out]
    have hjn : j < ls.length := by have := HN2.out; omega
    have hjm : j < lv.length := by have := HN1.out; omega
    have hgl := HLA.out.bx.lt
    have hgc0 := HLA.out.bx.cell 0 rfl
    have hgc1 := HLA.out.bx.cell 1 rfl
    have hsd := HBL.out.size
    have hz30 : w.heap.size < w3.heap.size := by omega
    have hj2 : (k : Int) / 2 = (j : Int) := by have := HJ.out; omega
    have hj3 : (k : Int).tdiv 2 = (j : Int) := by rw [Int.tdiv_eq_ediv_of_nonneg (by omega)]; exact hj2
    have hg1 : gb ≠ q1 := fun e => HLA.out.o1.not_box HLA.out.bx (by decide) (by rw [e]; rfl)
    have hg2 : gb ≠ q2 := fun e => HLA.out.o2.not_box HLA.out.bx (by decide) (by rw [e]; rfl)
    rcases Nat.mod_two_eq_zero_or_one k with hpar | hpar
    · have hp1 : (k : Int) % 2 = 0 := by omega
      have hp2 : (k : Int).tmod 2 = 0 := by rw [Int.tmod_eq_emod_of_nonneg (by omega)]; exact hp1
      clear hpar
      go_wp2_with fail
      obtain ⟨z, hz⟩ : ∃ z, z = lv.getD j 0#64 := ⟨_, rfl⟩
      have hcell : wd.cell? ⟨q1, j, none⟩ = some (encU z) := by
        have := World.ownsRow.cellAt (w := wd) (base := w3.heap.size) (e := 22) (size := 1) (g := q1) (n := lv.length) (cap := c1 + 1) (xs := lv.map encU) HLA.out.o1 j (by omega)
        rw [this, List.getElem?_map, List.getElem?_eq_getElem (by omega), hz, getD_in (by omega)]; rfl
      have hfr := HLA.out.o1.frees rfl
      have hqh := (World.ownsRow.lt HLA.out.o1 q1 rfl).2
      have HL4 : Hid (LeafAt w3.heap.size (lv.set j x) ls (.slice (some ⟨q1, 0, none⟩) lv.length (c1 + 1)) (.slice (some ⟨q2, 0, none⟩) ls.length (c2 + 1)) gb (wd.setCell ⟨q1, j, none⟩ (encU x))) := HLA.out.set1 j x rfl
      have HB4 := Lib.hid (bel_set HBL.out (World.ownsRow.lt HLA.out.o1 q1 rfl).1 j (encU x))
      have HEQ : Hid ((un (lsum 3 (lv.set j x) ls) == un (lsum 3 lv ls)) = (un z == un x)) := by
        show _ = _
        rw [hz, eq_un, eq_un, Bool.eq_iff_iff, decide_eq_true_eq, decide_eq_true_eq]
        exact leaf_ver 3 lv ls j x HNE.out rfl hjn
      have HLL : Hid ((lv.set j x).length = lv.length) := by show _ = _; rw [List.length_set]
      clear hz
      refine wp_region_ext [(0, true), (1, true), (2, true), (3, true), (4, true), (5, true), (6, true), (7, true), (8, true), (9, true), (10, true), (11, true), (12, true), (13, false)] (by kernel_rfl) (by kernel_rfl) ?_
      iterate 13 (first
       | (refine ext_move rfl rfl (by rfl) (by rfl) ?_; simp only [Act.put, List.setIfInBounds_toArray, List.set_cons_zero, List.set_cons_succ])
       | (refine ext_assign rfl rfl (by rfl) (by rfl) ?_; simp only [Act.put, List.setIfInBounds_toArray, List.set_cons_zero, List.set_cons_succ])
       | (refine ext_pick_t rfl rfl (by rfl) (by rfl) (by rfl) ?_; simp only [Act.put, List.setIfInBounds_toArray, List.set_cons_zero, List.set_cons_succ])
       | (refine ext_pick_f rfl rfl (by rfl) (by rfl) (by rfl) ?_; simp only [Act.put, List.setIfInBounds_toArray, List.set_cons_zero, List.set_cons_succ])
       | (apply ext_take rfl (by rfl)
          · intro w' hS
            have hSc := hS.cells
            (try simp only [World.size_drew, World.cell?_drew] at hSc)
            go_simp
            (try simp (disch := omega) only [i64_id, u64_id, ↓IntWalk.iteOmega, Int.tdiv_eq_ediv_of_nonneg, Int.tmod_eq_emod_of_nonneg])
            try rfl
          simp only [Act.put, List.setIfInBounds_toArray, List.set_cons_zero, List.set_cons_succ])
       | (refine ext_pass rfl (by rfl) ?_; simp only [Act.put, List.setIfInBounds_toArray, List.set_cons_zero, List.set_cons_succ]))
      (refine ext_last rfl (by rfl) (by kernel_rfl) (fun K hK => ?_)
       go_simp
       refine hK _ _ ?_
       clear hK K
       (try simp only [Act.put, List.setIfInBounds_toArray, List.set_cons_zero, List.set_cons_succ]))
      go_upto_region 8 with fail
      generalize wd.setCell ⟨q1, j, none⟩ (encU x) = w4 at *
      have HS1 := Lib.hid (OwnU.slice HL4.out.o1)
      have HS2 := Lib.hid (OwnU.slice HL4.out.o2)
      have hgd0 := HL4.out.bx.cell 0 rfl
      have hgd1 := HL4.out.bx.cell 1 rfl
      have hg4 := HL4.out.bx.lt
      have hx4 : Ext w w4 := (hxW.trans hx3).trans HB4.out
      have hs4 := HB4.out.size
      have hc4 := below_cellsB HB4.out
      have hz40 : w.heap.size < w4.heap.size := by omega
      have HSA := Lib.hid fun (y : World) (hy : Ext w4 y) => plsum_any 3 _ _ (lv.set j x) ls y (by rw [HLL.out]; omega) (by omega) (by omega) (HS1.out.ext hy) (HS2.out.ext hy)
      have HSB := Lib.hid fun (y : World) (hy : Ext w y) => plsum_any 3 _ _ lv ls y (by omega) (by omega) (by omega) (H1.out.ext hy) (H2.out.ext hy)
      generalize lsum 3 (lv.set j x) ls = s4 at *
      generalize lsum 3 lv ls = s5 at *
      have hbe := HEQ.out
      have hbs := beq_self_t (un z == un x)
      clear hcell hfr HEQ
      refine wp_region_ext [(0, true), (2, true), (5, true), (6, true), (7, true), (1, false), (3, false), (4, true), (8, true), (9, true)] (by kernel_rfl) (by kernel_rfl) ?_
      iterate 5 (first
       | (refine ext_move rfl rfl (by rfl) (by rfl) ?_; simp only [Act.put, List.setIfInBounds_toArray, List.set_cons_zero, List.set_cons_succ])
       | (refine ext_assign rfl rfl (by rfl) (by rfl) ?_; simp only [Act.put, List.setIfInBounds_toArray, List.set_cons_zero, List.set_cons_succ])
       | (refine ext_pick_t rfl rfl (by rfl) (by rfl) (by rfl) ?_; simp only [Act.put, List.setIfInBounds_toArray, List.set_cons_zero, List.set_cons_succ])
       | (refine ext_pick_f rfl rfl (by rfl) (by rfl) (by rfl) ?_; simp only [Act.put, List.setIfInBounds_toArray, List.set_cons_zero, List.set_cons_succ])
       | (apply ext_take rfl (by rfl)
          · intro w' hS
            have hSc := hS.cells
            (try simp only [World.size_drew, World.cell?_drew] at hSc)
            go_simp
            (try simp (disch := omega) only [i64_id, u64_id, ↓IntWalk.iteOmega, Int.tdiv_eq_ediv_of_nonneg, Int.tmod_eq_emod_of_nonneg])
            try rfl
          simp only [Act.put, List.setIfInBounds_toArray, List.set_cons_zero, List.set_cons_succ])
       | (refine ext_pass rfl (by rfl) ?_; simp only [Act.put, List.setIfInBounds_toArray, List.set_cons_zero, List.set_cons_succ]))
      (refine ext_do rfl (by rfl) (fun K hK => ?_)
       go_simp
       go_at_call 24
       refine (HSA.out _ ((Ext.drew w4).trans (Ext.drew _))).mono ?_
       rintro e w5 ⟨rfl, hb5⟩
       have hx5 := ((Ext.drew w4).trans (Ext.drew _)).trans hb5
       have hc5 := hx5.cells
       have hs5 := hx5.size
       have hz50 : w.heap.size < w5.heap.size := by omega
       refine hK _ _ (by first | exact hb5 | exact (Ext.drew _).trans hb5) ?_
       clear hK K
       (try simp only [Act.put, List.setIfInBounds_toArray, List.set_cons_zero, List.set_cons_succ]))
      (refine ext_do rfl (by rfl) (fun K hK => ?_)
       go_simp
       go_at_call 24
       refine (HSB.out _ (hx4.trans hx5)).mono ?_
       rintro e w6 ⟨rfl, hb6⟩
       refine hK _ _ (by first | exact hb6 | exact (Ext.drew _).trans hb6) ?_
       clear hK K
       (try simp only [Act.put, List.setIfInBounds_toArray, List.set_cons_zero, List.set_cons_succ]))
      iterate 3 (first
       | (refine ext_move rfl rfl (by rfl) (by rfl) ?_; simp only [Act.put, List.setIfInBounds_toArray, List.set_cons_zero, List.set_cons_succ])
       | (refine ext_assign rfl rfl (by rfl) (by rfl) ?_; simp only [Act.put, List.setIfInBounds_toArray, List.set_cons_zero, List.set_cons_succ])
       | (refine ext_pick_t rfl rfl (by rfl) (by rfl) (by rfl) ?_; simp only [Act.put, List.setIfInBounds_toArray, List.set_cons_zero, List.set_cons_succ])
       | (refine ext_pick_f rfl rfl (by rfl) (by rfl) (by rfl) ?_; simp only [Act.put, List.setIfInBounds_toArray, List.set_cons_zero, List.set_cons_succ])
       | (apply ext_take rfl (by rfl)
          · intro w' hS
            have hSc := hS.cells
            (try simp only [World.size_drew, World.cell?_drew] at hSc)
            go_simp
            (try simp (disch := omega) only [i64_id, u64_id, ↓IntWalk.iteOmega, Int.tdiv_eq_ediv_of_nonneg, Int.tmod_eq_emod_of_nonneg])
            try rfl
          simp only [Act.put, List.setIfInBounds_toArray, List.set_cons_zero, List.set_cons_succ])
       | (refine ext_pass rfl (by rfl) ?_; simp only [Act.put, List.setIfInBounds_toArray, List.set_cons_zero, List.set_cons_succ]))
      refine ext_nil ?_
      go_wp2_with fail
      go_ret
      exact ⟨rfl, (hx4.trans hx5).trans hb6⟩
    · have hp1 : (k : Int) % 2 = 1 := by omega
      have hp2 : (k : Int).tmod 2 = 1 := by rw [Int.tmod_eq_emod_of_nonneg (by omega)]; exact hp1
      clear hpar
      go_wp2_with fail
      obtain ⟨z, hz⟩ : ∃ z, z = ls.getD j 0#64 := ⟨_, rfl⟩
      have hcell : wd.cell? ⟨q2, j, none⟩ = some (encU z) := by
        have := World.ownsRow.cellAt (w := wd) (base := w3.heap.size) (e := 22) (size := 1) (g := q2) (n := ls.length) (cap := c2 + 1) (xs := ls.map encU) HLA.out.o2 j (by omega)
        rw [this, List.getElem?_map, List.getElem?_eq_getElem (by omega), hz, getD_in (by omega)]; rfl
      have hfr := HLA.out.o2.frees rfl
      have hqh := (World.ownsRow.lt HLA.out.o2 q2 rfl).2
      have HL4 : Hid (LeafAt w3.heap.size lv (ls.set j x) (.slice (some ⟨q1, 0, none⟩) lv.length (c1 + 1)) (.slice (some ⟨q2, 0, none⟩) ls.length (c2 + 1)) gb (wd.setCell ⟨q2, j, none⟩ (encU x))) := HLA.out.set2 j x rfl
      have HB4 := Lib.hid (bel_set HBL.out (World.ownsRow.lt HLA.out.o2 q2 rfl).1 j (encU x))
      have HEQ : Hid ((un (lsum 3 lv (ls.set j x)) == un (lsum 3 lv ls)) = (un z == un x)) := by
        show _ = _
        rw [hz, eq_un, eq_un, Bool.eq_iff_iff, decide_eq_true_eq, decide_eq_true_eq]
        exact leaf_sum 3 lv ls j x HNE.out rfl hjn
      have HLL : Hid ((ls.set j x).length = ls.length) := by show _ = _; rw [List.length_set]
      clear hz
      refine wp_region_ext [(0, true), (1, true), (2, true), (3, true), (4, true), (5, true), (6, true), (7, true), (8, true), (9, true), (10, true), (11, true), (12, true), (13, false)] (by kernel_rfl) (by kernel_rfl) ?_
      iterate 13 (first
       | (refine ext_move rfl rfl (by rfl) (by rfl) ?_; simp only [Act.put, List.setIfInBounds_toArray, List.set_cons_zero, List.set_cons_succ])
       | (refine ext_assign rfl rfl (by rfl) (by rfl) ?_; simp only [Act.put, List.setIfInBounds_toArray, List.set_cons_zero, List.set_cons_succ])
       | (refine ext_pick_t rfl rfl (by rfl) (by rfl) (by rfl) ?_; simp only [Act.put, List.setIfInBounds_toArray, List.set_cons_zero, List.set_cons_succ])
       | (refine ext_pick_f rfl rfl (by rfl) (by rfl) (by rfl) ?_; simp only [Act.put, List.setIfInBounds_toArray, List.set_cons_zero, List.set_cons_succ])
       | (apply ext_take rfl (by rfl)
          · intro w' hS
            have hSc := hS.cells
            (try simp only [World.size_drew, World.cell?_drew] at hSc)
            go_simp
            (try simp (disch := omega) only [i64_id, u64_id, ↓IntWalk.iteOmega, Int.tdiv_eq_ediv_of_nonneg, Int.tmod_eq_emod_of_nonneg])
            try rfl
          simp only [Act.put, List.setIfInBounds_toArray, List.set_cons_zero, List.set_cons_succ])
       | (refine ext_pass rfl (by rfl) ?_; simp only [Act.put, List.setIfInBounds_toArray, List.set_cons_zero, List.set_cons_succ]))
      (refine ext_last rfl (by rfl) (by kernel_rfl) (fun K hK => ?_)
       go_simp
       refine hK _ _ ?_
       clear hK K
       (try simp only [Act.put, List.setIfInBounds_toArray, List.set_cons_zero, List.set_cons_succ]))
      go_upto_region 8 with fail
      generalize wd.setCell ⟨q2, j, none⟩ (encU x) = w4 at *
      have HS1 := Lib.hid (OwnU.slice HL4.out.o1)
      have HS2 := Lib.hid (OwnU.slice HL4.out.o2)
      have hgd0 := HL4.out.bx.cell 0 rfl
      have hgd1 := HL4.out.bx.cell 1 rfl
      have hg4 := HL4.out.bx.lt
      have hx4 : Ext w w4 := (hxW.trans hx3).trans HB4.out
      have hs4 := HB4.out.size
      have hc4 := below_cellsB HB4.out
      have hz40 : w.heap.size < w4.heap.size := by omega
      have HSA := Lib.hid fun (y : World) (hy : Ext w4 y) => plsum_any 3 _ _ lv (ls.set j x) y (by omega) (by rw [HLL.out]; omega) (by omega) (HS1.out.ext hy) (HS2.out.ext hy)
      have HSB := Lib.hid fun (y : World) (hy : Ext w y) => plsum_any 3 _ _ lv ls y (by omega) (by omega) (by omega) (H1.out.ext hy) (H2.out.ext hy)
      generalize lsum 3 lv (ls.set j x) = s4 at *
      generalize lsum 3 lv ls = s5 at *
      have hbe := HEQ.out
      have hbs := beq_self_t (un z == un x)
      clear hcell hfr HEQ
      refine wp_region_ext [(0, true), (2, true), (5, true), (6, true), (7, true), (1, false), (3, false), (4, true), (8, true), (9, true)] (by kernel_rfl) (by kernel_rfl) ?_
      iterate 5 (first
       | (refine ext_move rfl rfl (by rfl) (by rfl) ?_; simp only [Act.put, List.setIfInBounds_toArray, List.set_cons_zero, List.set_cons_succ])
       | (refine ext_assign rfl rfl (by rfl) (by rfl) ?_; simp only [Act.put, List.setIfInBounds_toArray, List.set_cons_zero, List.set_cons_succ])
       | (refine ext_pick_t rfl rfl (by rfl) (by rfl) (by rfl) ?_; simp only [Act.put, List.setIfInBounds_toArray, List.set_cons_zero, List.set_cons_succ])
       | (refine ext_pick_f rfl rfl (by rfl) (by rfl) (by rfl) ?_; simp only [Act.put, List.setIfInBounds_toArray, List.set_cons_zero, List.set_cons_succ])
       | (apply ext_take rfl (by rfl)
          · intro w' hS
            have hSc := hS.cells
            (try simp only [World.size_drew, World.cell?_drew] at hSc)
            go_simp
            (try simp (disch := omega) only [i64_id, u64_id, ↓IntWalk.iteOmega, Int.tdiv_eq_ediv_of_nonneg, Int.tmod_eq_emod_of_nonneg])
            try rfl
          simp only [Act.put, List.setIfInBounds_toArray, List.set_cons_zero, List.set_cons_succ])
       | (refine ext_pass rfl (by rfl) ?_; simp only [Act.put, List.setIfInBounds_toArray, List.set_cons_zero, List.set_cons_succ]))
      (refine ext_do rfl (by rfl) (fun K hK => ?_)
       go_simp
       go_at_call 24
       refine (HSA.out _ ((Ext.drew w4).trans (Ext.drew _))).mono ?_
       rintro e w5 ⟨rfl, hb5⟩
       have hx5 := ((Ext.drew w4).trans (Ext.drew _)).trans hb5
       have hc5 := hx5.cells
       have hs5 := hx5.size
       have hz50 : w.heap.size < w5.heap.size := by omega
       refine hK _ _ (by first | exact hb5 | exact (Ext.drew _).trans hb5) ?_
       clear hK K
       (try simp only [Act.put, List.setIfInBounds_toArray, List.set_cons_zero, List.set_cons_succ]))
      (refine ext_do rfl (by rfl) (fun K hK => ?_)
       go_simp
       go_at_call 24
       refine (HSB.out _ (hx4.trans hx5)).mono ?_
       rintro e w6 ⟨rfl, hb6⟩
       refine hK _ _ (by first | exact hb6 | exact (Ext.drew _).trans hb6) ?_
       clear hK K
       (try simp only [Act.put, List.setIfInBounds_toArray, List.set_cons_zero, List.set_cons_succ]))
      iterate 3 (first
       | (refine ext_move rfl rfl (by rfl) (by rfl) ?_; simp only [Act.put, List.setIfInBounds_toArray, List.set_cons_zero, List.set_cons_succ])
       | (refine ext_assign rfl rfl (by rfl) (by rfl) ?_; simp only [Act.put, List.setIfInBounds_toArray, List.set_cons_zero, List.set_cons_succ])
       | (refine ext_pick_t rfl rfl (by rfl) (by rfl) (by rfl) ?_; simp only [Act.put, List.setIfInBounds_toArray, List.set_cons_zero, List.set_cons_succ])
       | (refine ext_pick_f rfl rfl (by rfl) (by rfl) (by rfl) ?_; simp only [Act.put, List.setIfInBounds_toArray, List.set_cons_zero, List.set_cons_succ])
       | (apply ext_take rfl (by rfl)
          · intro w' hS
            have hSc := hS.cells
            (try simp only [World.size_drew, World.cell?_drew] at hSc)
            go_simp
            (try simp (disch := omega) only [i64_id, u64_id, ↓IntWalk.iteOmega, Int.tdiv_eq_ediv_of_nonneg, Int.tmod_eq_emod_of_nonneg])
            try rfl
          simp only [Act.put, List.setIfInBounds_toArray, List.set_cons_zero, List.set_cons_succ])
       | (refine ext_pass rfl (by rfl) ?_; simp only [Act.put, List.setIfInBounds_toArray, List.set_cons_zero, List.set_cons_succ]))
      refine ext_nil ?_
      go_wp2_with fail
      go_ret
      exact ⟨rfl, (hx4.trans hx5).trans hb6⟩
end Go.Proofs.Ytinnikbjphkkiaa
