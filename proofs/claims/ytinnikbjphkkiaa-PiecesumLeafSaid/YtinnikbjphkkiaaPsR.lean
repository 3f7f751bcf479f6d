/-
  Chapter 25 (piecesum): the walks of PiecesumGood, PiecesumBad.
-/
import Derived.Test.YtinnikbjphkkiaaPsQ
namespace Go.Proofs.Ytinnikbjphkkiaa
open Go.RowKit
set_option linter.unusedVariables false
attribute [local go_sem] eq_un

theorem fair_as (b : Bool) (vv vs : Value) (lv ls : List (BitVec 64)) (w : World) (hb : b = decide (lv.length ≤ 40 ∧ ls.length ≤ 40)) (h1 : SliceAt encU w vv lv) (h2 : SliceAt encU w vs ls) :
    Calls Try.prog 16 #[.agg #[vv, vs]] w fun e w' => e = .returned (.bool b) ∧ Below w.heap.size w w' := by
  subst hb; exact fair_any vv vs lv ls w h1 h2
theorem beq_self_t (b : Bool) : (b == b) = true := by cases b <;> rfl

set_option maxHeartbeats 1000000 in
theorem piecesumGood_walk (vv vs : Value) (lv ls : List (BitVec 64)) (g p : Int) (v : BitVec 64) (x0 x1 x2 x3 x4 x5 x6 x7 : BitVec 8) (w : World) (h1 : SliceAt encU w vv lv) (h2 : SliceAt encU w vs ls) (hlv : lv.length ≤ maxLen) (hls : ls.length ≤ maxLen) (hg : I64 g) (hp : I64 p) :
    Calls Try.prog 8 #[.agg #[vv, vs], .agg #[encI g, encI p, encU v, encB x0, encB x1, encB x2, encB x3, encB x4, encB x5, encB x6, encB x7]] w fun e w' => e = .returned (.bool true) ∧ Below w.heap.size w w' := by
  unfold I64 at hg hp
  have H1 := Lib.hid h1
  have H2 := Lib.hid h2
  clear h1 h2 hlv hls
  by_cases hf : lv.length ≤ 40 ∧ ls.length ≤ 40
  · obtain ⟨hlv, hls⟩ := hf
    have HF := Lib.hid fun (x : World) (hx : Ext w x) => fair_as true vv vs lv ls x (by simp [hlv, hls]) (H1.out.ext hx) (H2.out.ext hx)
    go_enter Try.func8, Try.ntmps8
    go_wp2_with fail
    have hz : w.heap.size + 1 < ((w.alloc (.cells #[vv, vs] 32)).alloc (.cells #[encI g, encI p, encU v, encB x0, encB x1, encB x2, encB x3, encB x4, encB x5, encB x6, encB x7] 26)).heap.size := by simp
    have hsz : ((w.alloc (.cells #[vv, vs] 32)).alloc (.cells #[encI g, encI p, encU v, encB x0, encB x1, encB x2, encB x3, encB x4, encB x5, encB x6, encB x7] 26)).heap.size = w.heap.size + 2 := by simp
    generalize hW : (w.alloc (.cells #[vv, vs] 32)).alloc (.cells #[encI g, encI p, encU v, encB x0, encB x1, encB x2, encB x3, encB x4, encB x5, encB x6, encB x7] 26) = W at *
    have c0_0 : W.cell? ⟨w.heap.size, 0, none⟩ = some (vv) := by rw [← hW]; refine (World.cell?_alloc_past (hn := by first | (simp; done) | (simp; omega)) ..).trans ?_; first | exact (World.cell?_alloc_at (hn := by first | (simp; done) | (simp; omega)) ..).trans rfl | (simp; done) | (go_simp; done)
    have c0_1 : W.cell? ⟨w.heap.size, 1, none⟩ = some (vs) := by rw [← hW]; refine (World.cell?_alloc_past (hn := by first | (simp; done) | (simp; omega)) ..).trans ?_; first | exact (World.cell?_alloc_at (hn := by first | (simp; done) | (simp; omega)) ..).trans rfl | (simp; done) | (go_simp; done)
    have hf0 : ∀ o, W.frozen? ⟨w.heap.size, o, none⟩ = false := fun o => by rw [← hW]; refine (World.frozen?_alloc_past (hn := by first | (simp; done) | (simp; omega)) ..).trans ?_; first | exact World.frozen?_alloc_at (hn := by first | (simp; done) | (simp; omega)) .. | (simp; done) | (go_simp; done)
    have c1_0 : W.cell? ⟨w.heap.size + 1, 0, none⟩ = some (encI g) := by rw [← hW]; first | exact (World.cell?_alloc_at (hn := by first | (simp; done) | (simp; omega)) ..).trans rfl | (simp; done) | (go_simp; done)
    have c1_1 : W.cell? ⟨w.heap.size + 1, 1, none⟩ = some (encI p) := by rw [← hW]; first | exact (World.cell?_alloc_at (hn := by first | (simp; done) | (simp; omega)) ..).trans rfl | (simp; done) | (go_simp; done)
    have c1_2 : W.cell? ⟨w.heap.size + 1, 2, none⟩ = some (encU v) := by rw [← hW]; first | exact (World.cell?_alloc_at (hn := by first | (simp; done) | (simp; omega)) ..).trans rfl | (simp; done) | (go_simp; done)
    have c1_3 : W.cell? ⟨w.heap.size + 1, 3, none⟩ = some (encB x0) := by rw [← hW]; first | exact (World.cell?_alloc_at (hn := by first | (simp; done) | (simp; omega)) ..).trans rfl | (simp; done) | (go_simp; done)
    have c1_4 : W.cell? ⟨w.heap.size + 1, 4, none⟩ = some (encB x1) := by rw [← hW]; first | exact (World.cell?_alloc_at (hn := by first | (simp; done) | (simp; omega)) ..).trans rfl | (simp; done) | (go_simp; done)
    have c1_5 : W.cell? ⟨w.heap.size + 1, 5, none⟩ = some (encB x2) := by rw [← hW]; first | exact (World.cell?_alloc_at (hn := by first | (simp; done) | (simp; omega)) ..).trans rfl | (simp; done) | (go_simp; done)
    have c1_6 : W.cell? ⟨w.heap.size + 1, 6, none⟩ = some (encB x3) := by rw [← hW]; first | exact (World.cell?_alloc_at (hn := by first | (simp; done) | (simp; omega)) ..).trans rfl | (simp; done) | (go_simp; done)
    have c1_7 : W.cell? ⟨w.heap.size + 1, 7, none⟩ = some (encB x4) := by rw [← hW]; first | exact (World.cell?_alloc_at (hn := by first | (simp; done) | (simp; omega)) ..).trans rfl | (simp; done) | (go_simp; done)
    have c1_8 : W.cell? ⟨w.heap.size + 1, 8, none⟩ = some (encB x5) := by rw [← hW]; first | exact (World.cell?_alloc_at (hn := by first | (simp; done) | (simp; omega)) ..).trans rfl | (simp; done) | (go_simp; done)
    have c1_9 : W.cell? ⟨w.heap.size + 1, 9, none⟩ = some (encB x6) := by rw [← hW]; first | exact (World.cell?_alloc_at (hn := by first | (simp; done) | (simp; omega)) ..).trans rfl | (simp; done) | (go_simp; done)
    have c1_10 : W.cell? ⟨w.heap.size + 1, 10, none⟩ = some (encB x7) := by rw [← hW]; first | exact (World.cell?_alloc_at (hn := by first | (simp; done) | (simp; omega)) ..).trans rfl | (simp; done) | (go_simp; done)
    have hf1 : ∀ o, W.frozen? ⟨w.heap.size + 1, o, none⟩ = false := fun o => by rw [← hW]; first | exact World.frozen?_alloc_at (hn := by first | (simp; done) | (simp; omega)) .. | (simp; done) | (go_simp; done)
    have hxW : Ext w W := by rw [← hW]; exact Ext.trans (Ext.alloc _ _) (Ext.alloc _ _)
    clear hW
    have HSZ := Lib.hid hsz
    clear hsz
    have hz0 : w.heap.size < W.heap.size := by omega
    have hz1 : w.heap.size + 1 < W.heap.size := by omega
    go_wp2_with fail
    have hxW0 : Ext W W := Ext.refl W
    have HG1 := Lib.hid fun (x : World) (hx : Ext w x) => good_any vv vs lv ls g p v x0 x1 x2 x3 x4 x5 x6 x7 x (by omega) (by omega) hg hp (H1.out.ext hx) (H2.out.ext hx)
    have HG2 := Lib.hid fun (x : World) (hx : Ext w x) => rgood_any vv vs lv ls g p v x0 x1 x2 x3 x4 x5 x6 x7 x (by omega) (by omega) hg hp (H1.out.ext hx) (H2.out.ext hx)
    have HS1 := Lib.hid fun (x : World) (hx : Ext w x) => plsum_any g vv vs lv ls x (by omega) (by omega) hg (H1.out.ext hx) (H2.out.ext hx)
    have HS2 := Lib.hid fun (x : World) (hx : Ext w x) => rlsum_any g vv vs lv ls x (by omega) (by omega) hg (H1.out.ext hx) (H2.out.ext hx)
    go_at_call 10
    refine (awake_any _).mono ?_
    rintro e w2 ⟨rfl, hb2⟩
    have hx2 : Ext W w2 := hxW0.trans hb2
    have hc2 := hx2.cells
    have hs2 := hx2.size
    have hq2 := Below.size hb2
    have hlt2 := Nat.lt_of_lt_of_le hz hs2
    have hlu2 : w.heap.size < w2.heap.size := by omega
    skip
    go_wp2_with fail
    go_at_call 16
    refine (HF.out _ (hxW.trans hx2)).mono ?_
    rintro e w3 ⟨rfl, hb3⟩
    have hx3 : Ext W w3 := hx2.trans hb3
    have hc3 := hx3.cells
    have hs3 := hx3.size
    have hq3 := Below.size hb3
    have hlt3 := Nat.lt_of_lt_of_le hz hs3
    have hlu3 : w.heap.size < w3.heap.size := by omega
    skip
    go_wp2_with fail
    generalize goodB lv ls g p v [x0, x1, x2, x3, x4, x5, x6, x7] = bg at *
    have hxd := hx3.trans (Ext.drew w3)
    have hbg := beq_self_t bg
    refine wp_region_ext [(0, true), (1, true), (2, true), (3, true), (4, true), (5, true), (6, true), (7, true), (8, true), (10, true), (11, true), (12, true), (13, true), (14, true), (15, true), (16, true), (17, true), (18, true), (9, false), (19, false), (20, true), (21, true), (22, true), (23, true), (24, true), (26, true), (27, true), (28, true), (25, false), (29, false), (30, true), (31, true), (32, true)] (by kernel_rfl) (by kernel_rfl) ?_
    iterate 18 (first
     | (refine ext_move rfl rfl (by rfl) (by rfl) ?_; simp only [Act.put, List.setIfInBounds_toArray, List.set_cons_zero, List.set_cons_succ])
     | (refine ext_assign rfl rfl (by rfl) (by rfl) ?_; simp only [Act.put, List.setIfInBounds_toArray, List.set_cons_zero, List.set_cons_succ])
     | (refine ext_pick_t rfl rfl (by rfl) (by rfl) (by rfl) ?_; simp only [Act.put, List.setIfInBounds_toArray, List.set_cons_zero, List.set_cons_succ])
     | (refine ext_pick_f rfl rfl (by rfl) (by rfl) (by rfl) ?_; simp only [Act.put, List.setIfInBounds_toArray, List.set_cons_zero, List.set_cons_succ])
     | (apply ext_take rfl (by rfl)
        · intro w' hS
          have hSc := hS.cells
          (try simp only [World.size_drew, World.cell?_drew] at hSc)
          go_simp
          (try simp (disch := omega) only [i64_id, u64_id, ↓IntWalk.iteOmega, Int.tdiv_eq_ediv_of_nonneg, Int.tmod_eq_emod_of_nonneg])
          try rfl
        simp only [Act.put, List.setIfInBounds_toArray, List.set_cons_zero, List.set_cons_succ])
     | (refine ext_pass rfl (by rfl) ?_; simp only [Act.put, List.setIfInBounds_toArray, List.set_cons_zero, List.set_cons_succ]))
    (refine ext_do rfl (by rfl) (fun K hK => ?_)
     go_simp
     go_at_call 22
     refine (HG1.out _ (hxW.trans hxd)).mono ?_
     rintro e w4 ⟨rfl, hb4⟩
     have hx4 : Ext W w4 := hxd.trans hb4
     have hc4 := hx4.cells
     have hs4 := hx4.size
     have hq4 := Below.size hb4
     have hlt4 := Nat.lt_of_lt_of_le hz hs4
     (try have hlu4 := Nat.lt_of_lt_of_le hz0 hs4)
     (try have hlv4 := Nat.lt_of_lt_of_le hz1 hs4)
     skip
     refine hK _ _ (by first | exact hb4 | exact (Ext.drew _).trans hb4) ?_
     clear hK K
     (try simp only [Act.put, List.setIfInBounds_toArray, List.set_cons_zero, List.set_cons_succ]))
    (refine ext_do rfl (by rfl) (fun K hK => ?_)
     go_simp
     go_at_call 23
     refine (HG2.out _ (hxW.trans hx4)).mono ?_
     rintro e w5 ⟨rfl, hb5⟩
     have hx5 : Ext W w5 := hx4.trans hb5
     have hc5 := hx5.cells
     have hs5 := hx5.size
     have hq5 := Below.size hb5
     have hlt5 := Nat.lt_of_lt_of_le hz hs5
     (try have hlu5 := Nat.lt_of_lt_of_le hz0 hs5)
     (try have hlv5 := Nat.lt_of_lt_of_le hz1 hs5)
     skip
     refine hK _ _ (by first | exact hb5 | exact (Ext.drew _).trans hb5) ?_
     clear hK K
     (try simp only [Act.put, List.setIfInBounds_toArray, List.set_cons_zero, List.set_cons_succ]))
    iterate 8 (first
     | (refine ext_move rfl rfl (by rfl) (by rfl) ?_; simp only [Act.put, List.setIfInBounds_toArray, List.set_cons_zero, List.set_cons_succ])
     | (refine ext_assign rfl rfl (by rfl) (by rfl) ?_; simp only [Act.put, List.setIfInBounds_toArray, List.set_cons_zero, List.set_cons_succ])
     | (refine ext_pick_t rfl rfl (by rfl) (by rfl) (by rfl) ?_; simp only [Act.put, List.setIfInBounds_toArray, List.set_cons_zero, List.set_cons_succ])
     | (refine ext_pick_f rfl rfl (by rfl) (by rfl) (by rfl) ?_; simp only [Act.put, List.setIfInBounds_toArray, List.set_cons_zero, List.set_cons_succ])
     | (apply ext_take rfl (by rfl)
        · intro w' hS
          have hSc := hS.cells
          (try simp only [World.size_drew, World.cell?_drew] at hSc)
          go_simp
          (try simp (disch := omega) only [i64_id, u64_id, ↓IntWalk.iteOmega, Int.tdiv_eq_ediv_of_nonneg, Int.tmod_eq_emod_of_nonneg])
          try rfl
        simp only [Act.put, List.setIfInBounds_toArray, List.set_cons_zero, List.set_cons_succ])
     | (refine ext_pass rfl (by rfl) ?_; simp only [Act.put, List.setIfInBounds_toArray, List.set_cons_zero, List.set_cons_succ]))
    (refine ext_do rfl (by rfl) (fun K hK => ?_)
     go_simp
     go_at_call 24
     refine (HS1.out _ (hxW.trans hx5)).mono ?_
     rintro e w6 ⟨rfl, hb6⟩
     have hx6 : Ext W w6 := hx5.trans hb6
     have hc6 := hx6.cells
     have hs6 := hx6.size
     have hq6 := Below.size hb6
     have hlt6 := Nat.lt_of_lt_of_le hz hs6
     (try have hlu6 := Nat.lt_of_lt_of_le hz0 hs6)
     (try have hlv6 := Nat.lt_of_lt_of_le hz1 hs6)
     skip
     refine hK _ _ (by first | exact hb6 | exact (Ext.drew _).trans hb6) ?_
     clear hK K
     (try simp only [Act.put, List.setIfInBounds_toArray, List.set_cons_zero, List.set_cons_succ]))
    (refine ext_do rfl (by rfl) (fun K hK => ?_)
     go_simp
     go_at_call 25
     refine (HS2.out _ (hxW.trans hx6)).mono ?_
     rintro e w7 ⟨rfl, hb7⟩
     have hx7 : Ext W w7 := hx6.trans hb7
     have hc7 := hx7.cells
     have hs7 := hx7.size
     have hq7 := Below.size hb7
     have hlt7 := Nat.lt_of_lt_of_le hz hs7
     (try have hlu7 := Nat.lt_of_lt_of_le hz0 hs7)
     (try have hlv7 := Nat.lt_of_lt_of_le hz1 hs7)
     skip
     refine hK _ _ (by first | exact hb7 | exact (Ext.drew _).trans hb7) ?_
     clear hK K
     (try simp only [Act.put, List.setIfInBounds_toArray, List.set_cons_zero, List.set_cons_succ]))
    iterate 3 (first
     | (refine ext_move rfl rfl (by rfl) (by rfl) ?_; simp only [Act.put, List.setIfInBounds_toArray, List.set_cons_zero, List.set_cons_succ])
     | (refine ext_assign rfl rfl (by rfl) (by rfl) ?_; simp only [Act.put, List.setIfInBounds_toArray, List.set_cons_zero, List.set_cons_succ])
     | (refine ext_pick_t rfl rfl (by rfl) (by rfl) (by rfl) ?_; simp only [Act.put, List.setIfInBounds_toArray, List.set_cons_zero, List.set_cons_succ])
     | (refine ext_pick_f rfl rfl (by rfl) (by rfl) (by rfl) ?_; simp only [Act.put, List.setIfInBounds_toArray, List.set_cons_zero, List.set_cons_succ])
     | (apply ext_take rfl (by rfl)
        · intro w' hS
          have hSc := hS.cells
          (try simp only [World.size_drew, World.cell?_drew] at hSc)
          go_simp
          (try simp (disch := omega) only [i64_id, u64_id, ↓IntWalk.iteOmega, Int.tdiv_eq_ediv_of_nonneg, Int.tmod_eq_emod_of_nonneg])
          try rfl
        simp only [Act.put, List.setIfInBounds_toArray, List.set_cons_zero, List.set_cons_succ])
     | (refine ext_pass rfl (by rfl) ?_; simp only [Act.put, List.setIfInBounds_toArray, List.set_cons_zero, List.set_cons_succ]))
    refine ext_nil ?_
    go_wp2_with fail
    go_ret
    exact ⟨rfl, hxW.trans hx7⟩
  · have HF := Lib.hid fun (x : World) (hx : Ext w x) => fair_as false vv vs lv ls x (by simp; omega) (H1.out.ext hx) (H2.out.ext hx)
    clear hf
    go_enter Try.func8, Try.ntmps8
    go_wp2_with fail
    have hz : w.heap.size + 1 < ((w.alloc (.cells #[vv, vs] 32)).alloc (.cells #[encI g, encI p, encU v, encB x0, encB x1, encB x2, encB x3, encB x4, encB x5, encB x6, encB x7] 26)).heap.size := by simp
    have hsz : ((w.alloc (.cells #[vv, vs] 32)).alloc (.cells #[encI g, encI p, encU v, encB x0, encB x1, encB x2, encB x3, encB x4, encB x5, encB x6, encB x7] 26)).heap.size = w.heap.size + 2 := by simp
    generalize hW : (w.alloc (.cells #[vv, vs] 32)).alloc (.cells #[encI g, encI p, encU v, encB x0, encB x1, encB x2, encB x3, encB x4, encB x5, encB x6, encB x7] 26) = W at *
    have c0_0 : W.cell? ⟨w.heap.size, 0, none⟩ = some (vv) := by rw [← hW]; refine (World.cell?_alloc_past (hn := by first | (simp; done) | (simp; omega)) ..).trans ?_; first | exact (World.cell?_alloc_at (hn := by first | (simp; done) | (simp; omega)) ..).trans rfl | (simp; done) | (go_simp; done)
    have c0_1 : W.cell? ⟨w.heap.size, 1, none⟩ = some (vs) := by rw [← hW]; refine (World.cell?_alloc_past (hn := by first | (simp; done) | (simp; omega)) ..).trans ?_; first | exact (World.cell?_alloc_at (hn := by first | (simp; done) | (simp; omega)) ..).trans rfl | (simp; done) | (go_simp; done)
    have hf0 : ∀ o, W.frozen? ⟨w.heap.size, o, none⟩ = false := fun o => by rw [← hW]; refine (World.frozen?_alloc_past (hn := by first | (simp; done) | (simp; omega)) ..).trans ?_; first | exact World.frozen?_alloc_at (hn := by first | (simp; done) | (simp; omega)) .. | (simp; done) | (go_simp; done)
    have c1_0 : W.cell? ⟨w.heap.size + 1, 0, none⟩ = some (encI g) := by rw [← hW]; first | exact (World.cell?_alloc_at (hn := by first | (simp; done) | (simp; omega)) ..).trans rfl | (simp; done) | (go_simp; done)
    have c1_1 : W.cell? ⟨w.heap.size + 1, 1, none⟩ = some (encI p) := by rw [← hW]; first | exact (World.cell?_alloc_at (hn := by first | (simp; done) | (simp; omega)) ..).trans rfl | (simp; done) | (go_simp; done)
    have c1_2 : W.cell? ⟨w.heap.size + 1, 2, none⟩ = some (encU v) := by rw [← hW]; first | exact (World.cell?_alloc_at (hn := by first | (simp; done) | (simp; omega)) ..).trans rfl | (simp; done) | (go_simp; done)
    have c1_3 : W.cell? ⟨w.heap.size + 1, 3, none⟩ = some (encB x0) := by rw [← hW]; first | exact (World.cell?_alloc_at (hn := by first | (simp; done) | (simp; omega)) ..).trans rfl | (simp; done) | (go_simp; done)
    have c1_4 : W.cell? ⟨w.heap.size + 1, 4, none⟩ = some (encB x1) := by rw [← hW]; first | exact (World.cell?_alloc_at (hn := by first | (simp; done) | (simp; omega)) ..).trans rfl | (simp; done) | (go_simp; done)
    have c1_5 : W.cell? ⟨w.heap.size + 1, 5, none⟩ = some (encB x2) := by rw [← hW]; first | exact (World.cell?_alloc_at (hn := by first | (simp; done) | (simp; omega)) ..).trans rfl | (simp; done) | (go_simp; done)
    have c1_6 : W.cell? ⟨w.heap.size + 1, 6, none⟩ = some (encB x3) := by rw [← hW]; first | exact (World.cell?_alloc_at (hn := by first | (simp; done) | (simp; omega)) ..).trans rfl | (simp; done) | (go_simp; done)
    have c1_7 : W.cell? ⟨w.heap.size + 1, 7, none⟩ = some (encB x4) := by rw [← hW]; first | exact (World.cell?_alloc_at (hn := by first | (simp; done) | (simp; omega)) ..).trans rfl | (simp; done) | (go_simp; done)
    have c1_8 : W.cell? ⟨w.heap.size + 1, 8, none⟩ = some (encB x5) := by rw [← hW]; first | exact (World.cell?_alloc_at (hn := by first | (simp; done) | (simp; omega)) ..).trans rfl | (simp; done) | (go_simp; done)
    have c1_9 : W.cell? ⟨w.heap.size + 1, 9, none⟩ = some (encB x6) := by rw [← hW]; first | exact (World.cell?_alloc_at (hn := by first | (simp; done) | (simp; omega)) ..).trans rfl | (simp; done) | (go_simp; done)
    have c1_10 : W.cell? ⟨w.heap.size + 1, 10, none⟩ = some (encB x7) := by rw [← hW]; first | exact (World.cell?_alloc_at (hn := by first | (simp; done) | (simp; omega)) ..).trans rfl | (simp; done) | (go_simp; done)
    have hf1 : ∀ o, W.frozen? ⟨w.heap.size + 1, o, none⟩ = false := fun o => by rw [← hW]; first | exact World.frozen?_alloc_at (hn := by first | (simp; done) | (simp; omega)) .. | (simp; done) | (go_simp; done)
    have hxW : Ext w W := by rw [← hW]; exact Ext.trans (Ext.alloc _ _) (Ext.alloc _ _)
    clear hW
    have HSZ := Lib.hid hsz
    clear hsz
    have hz0 : w.heap.size < W.heap.size := by omega
    have hz1 : w.heap.size + 1 < W.heap.size := by omega
    go_wp2_with fail
    have hxW0 : Ext W W := Ext.refl W
    go_at_call 10
    refine (awake_any _).mono ?_
    rintro e w2 ⟨rfl, hb2⟩
    have hx2 : Ext W w2 := hxW0.trans hb2
    have hc2 := hx2.cells
    have hs2 := hx2.size
    have hq2 := Below.size hb2
    have hlt2 := Nat.lt_of_lt_of_le hz hs2
    have hlu2 : w.heap.size < w2.heap.size := by omega
    skip
    go_wp2_with fail
    go_at_call 16
    refine (HF.out _ (hxW.trans hx2)).mono ?_
    rintro e w3 ⟨rfl, hb3⟩
    have hx3 : Ext W w3 := hx2.trans hb3
    have hc3 := hx3.cells
    have hs3 := hx3.size
    have hq3 := Below.size hb3
    have hlt3 := Nat.lt_of_lt_of_le hz hs3
    have hlu3 : w.heap.size < w3.heap.size := by omega
    skip
    go_wp2_with fail
    go_at_call 10
    refine (awake_any _).mono ?_
    rintro e w4 ⟨rfl, hb4⟩
    have hx4 : Ext W w4 := hx3.trans hb4
    have hc4 := hx4.cells
    have hs4 := hx4.size
    have hq4 := Below.size hb4
    have hlt4 := Nat.lt_of_lt_of_le hz hs4
    have hlu4 : w.heap.size < w4.heap.size := by omega
    skip
    go_wp2_with fail
    go_ret
    exact ⟨rfl, hxW.trans hx4⟩

set_option maxHeartbeats 1000000 in
theorem piecesumBad_walk (vv vs vr vd vp : Value) (lv ls vers : List (BitVec 64)) (g : Int) (data : List (List (BitVec 8))) (pres : List Bool) (w : World) (hg : I64 g) (h1 : SliceAt encU w vv lv) (h2 : SliceAt encU w vs ls) (h3 : SliceAt encU w vr vers) (h4 : SliceR patBlk w vd data) (h5 : SliceAt Value.bool w vp pres) :
    Calls Try.prog 4 #[.agg #[vv, vs, .int .i64 g, vr, vd, vp]] w fun e w' => e = .returned (.bool true) ∧ Below w.heap.size w w' := by
  unfold I64 at hg
  have H1 := Lib.hid h1
  have H2 := Lib.hid h2
  have H3 := Lib.hid h3
  have H4 := Lib.hid h4
  have H5 := Lib.hid h5
  obtain ⟨av, cv, rfl, _, _⟩ := h1
  obtain ⟨as_, cs_, rfl, _, _⟩ := h2
  obtain ⟨ar, cr, rfl, _, _⟩ := h3
  obtain ⟨ad, cd, rfl, _, _⟩ := h4
  obtain ⟨ap, cp, rfl, _, _⟩ := h5
  by_cases hf : lv.length ≤ 40 ∧ ls.length ≤ 40
  · obtain ⟨hlv, hls⟩ := hf
    have HF := Lib.hid fun (x : World) (hx : Ext w x) => fair_as true _ _ lv ls x (by simp [hlv, hls]) (H1.out.ext hx) (H2.out.ext hx)
    by_cases hr : vers.length ≤ 40
    · by_cases hd : data.length ≤ 40
      · by_cases hp : pres.length ≤ 40
        · have HB1 := Lib.hid fun (x : World) (hx : Ext w x) => pbad_any _ _ _ _ _ lv ls g vers data pres x (by omega) (by omega) (by omega) (by omega) (by omega) hg (H1.out.ext hx) (H2.out.ext hx) (H3.out.ext hx) (H4.out.ext hx) (H5.out.ext hx)
          have HB2 := Lib.hid fun (x : World) (hx : Ext w x) => rbad_any _ _ _ _ _ lv ls g vers data pres x (by omega) (by omega) (by omega) (by omega) (by omega) hg (H1.out.ext hx) (H2.out.ext hx) (H3.out.ext hx) (H4.out.ext hx) (H5.out.ext hx)
          have HBL : Hid ((badB lv ls g vers data pres).length ≤ 100000) := by show _ ≤ _; unfold badB; rw [badK_len]; omega
          generalize badB lv ls g vers data pres = bl at *
          go_enter Try.func4, Try.ntmps4
          go_wp2_with fail
          have hz : w.heap.size < (w.alloc (.cells #[.slice av lv.length cv, .slice as_ ls.length cs_, .int .i64 g, .slice ar vers.length cr, .slice ad data.length cd, .slice ap pres.length cp] 38)).heap.size := by simp
          have hsz : (w.alloc (.cells #[.slice av lv.length cv, .slice as_ ls.length cs_, .int .i64 g, .slice ar vers.length cr, .slice ad data.length cd, .slice ap pres.length cp] 38)).heap.size = w.heap.size + 1 := by simp
          generalize hW : w.alloc (.cells #[.slice av lv.length cv, .slice as_ ls.length cs_, .int .i64 g, .slice ar vers.length cr, .slice ad data.length cd, .slice ap pres.length cp] 38) = W at *
          have c0_0 : W.cell? ⟨w.heap.size, 0, none⟩ = some (.slice av lv.length cv) := by rw [← hW]; first | exact (World.cell?_alloc_at (hn := by first | (simp; done) | (simp; omega)) ..).trans rfl | (simp; done) | (go_simp; done)
          have c0_1 : W.cell? ⟨w.heap.size, 1, none⟩ = some (.slice as_ ls.length cs_) := by rw [← hW]; first | exact (World.cell?_alloc_at (hn := by first | (simp; done) | (simp; omega)) ..).trans rfl | (simp; done) | (go_simp; done)
          have c0_2 : W.cell? ⟨w.heap.size, 2, none⟩ = some (.int .i64 g) := by rw [← hW]; first | exact (World.cell?_alloc_at (hn := by first | (simp; done) | (simp; omega)) ..).trans rfl | (simp; done) | (go_simp; done)
          have c0_3 : W.cell? ⟨w.heap.size, 3, none⟩ = some (.slice ar vers.length cr) := by rw [← hW]; first | exact (World.cell?_alloc_at (hn := by first | (simp; done) | (simp; omega)) ..).trans rfl | (simp; done) | (go_simp; done)
          have c0_4 : W.cell? ⟨w.heap.size, 4, none⟩ = some (.slice ad data.length cd) := by rw [← hW]; first | exact (World.cell?_alloc_at (hn := by first | (simp; done) | (simp; omega)) ..).trans rfl | (simp; done) | (go_simp; done)
          have c0_5 : W.cell? ⟨w.heap.size, 5, none⟩ = some (.slice ap pres.length cp) := by rw [← hW]; first | exact (World.cell?_alloc_at (hn := by first | (simp; done) | (simp; omega)) ..).trans rfl | (simp; done) | (go_simp; done)
          have hf0 : ∀ o, W.frozen? ⟨w.heap.size, o, none⟩ = false := fun o => by rw [← hW]; first | exact World.frozen?_alloc_at (hn := by first | (simp; done) | (simp; omega)) .. | (simp; done) | (go_simp; done)
          have hxW : Ext w W := by rw [← hW]; exact Ext.alloc _ _
          clear hW
          have HSZ := Lib.hid hsz
          clear hsz
          go_wp2_with fail
          have hxW0 : Ext W W := Ext.refl W
          go_at_call 10
          refine (awake_any _).mono ?_
          rintro e w2 ⟨rfl, hb2⟩
          have hx2 : Ext W w2 := hxW0.trans hb2
          have hc2 := hx2.cells
          have hs2 := hx2.size
          have hq2 := Below.size hb2
          have hlt2 := Nat.lt_of_lt_of_le hz hs2
          have hlu2 : w.heap.size < w2.heap.size := by omega
          skip
          go_wp2_with fail
          go_at_call 16
          refine (HF.out _ (hxW.trans hx2)).mono ?_
          rintro e w3 ⟨rfl, hb3⟩
          have hx3 : Ext W w3 := hx2.trans hb3
          have hc3 := hx3.cells
          have hs3 := hx3.size
          have hq3 := Below.size hb3
          have hlt3 := Nat.lt_of_lt_of_le hz hs3
          have hlu3 : w.heap.size < w3.heap.size := by omega
          skip
          go_wp2_with fail
          have hxd := hx3.trans (Ext.drew w3)
          refine wp_region_ext [(0, true), (1, true), (2, true), (3, true), (4, true), (5, true), (6, true), (7, true), (8, true), (9, true), (11, true), (12, true), (13, true), (14, true), (15, true), (16, true), (17, true), (18, true), (19, true), (20, true), (10, false), (21, false), (22, false), (23, true)] (by kernel_rfl) (by kernel_rfl) ?_
          iterate 20 (first
           | (refine ext_move rfl rfl (by rfl) (by rfl) ?_; simp only [Act.put, List.setIfInBounds_toArray, List.set_cons_zero, List.set_cons_succ])
           | (refine ext_assign rfl rfl (by rfl) (by rfl) ?_; simp only [Act.put, List.setIfInBounds_toArray, List.set_cons_zero, List.set_cons_succ])
           | (refine ext_pick_t rfl rfl (by rfl) (by rfl) (by rfl) ?_; simp only [Act.put, List.setIfInBounds_toArray, List.set_cons_zero, List.set_cons_succ])
           | (refine ext_pick_f rfl rfl (by rfl) (by rfl) (by rfl) ?_; simp only [Act.put, List.setIfInBounds_toArray, List.set_cons_zero, List.set_cons_succ])
           | (apply ext_take rfl (by rfl)
              · intro w' hS
                have hSc := hS.cells
                (try simp only [World.size_drew, World.cell?_drew] at hSc)
                go_simp
                (try simp (disch := omega) only [i64_id, u64_id, ↓IntWalk.iteOmega, Int.tdiv_eq_ediv_of_nonneg, Int.tmod_eq_emod_of_nonneg])
                try rfl
              simp only [Act.put, List.setIfInBounds_toArray, List.set_cons_zero, List.set_cons_succ])
           | (refine ext_pass rfl (by rfl) ?_; simp only [Act.put, List.setIfInBounds_toArray, List.set_cons_zero, List.set_cons_succ]))
          (refine ext_do rfl (by rfl) (fun K hK => ?_)
           go_simp
           go_at_call 18
           refine (HB1.out _ (hxW.trans hxd)).mono ?_
           rintro e w4 ⟨v4, rfl, ho4, hb4⟩
           have hx4 : Ext W w4 := hxd.trans hb4
           have hc4 := hx4.cells
           have hs4 := hx4.size
           have hq4 := Below.size hb4
           have hlt4 := Nat.lt_of_lt_of_le hz hs4
           (try have hlu4 := Nat.lt_of_lt_of_le hz0 hs4)
           (try have hlv4 := Nat.lt_of_lt_of_le hz1 hs4)
           have HO4 := Lib.hid (OwnT.slice ho4); clear ho4
           refine hK _ _ (by first | exact hb4 | exact (Ext.drew _).trans hb4) ?_
           clear hK K
           (try simp only [Act.put, List.setIfInBounds_toArray, List.set_cons_zero, List.set_cons_succ]))
          (refine ext_do rfl (by rfl) (fun K hK => ?_)
           go_simp
           go_at_call 19
           refine (HB2.out _ (hxW.trans hx4)).mono ?_
           rintro e w5 ⟨v5, rfl, ho5, hb5⟩
           have hx5 : Ext W w5 := hx4.trans hb5
           have hc5 := hx5.cells
           have hs5 := hx5.size
           have hq5 := Below.size hb5
           have hlt5 := Nat.lt_of_lt_of_le hz hs5
           (try have hlu5 := Nat.lt_of_lt_of_le hz0 hs5)
           (try have hlv5 := Nat.lt_of_lt_of_le hz1 hs5)
           have HO5 := Lib.hid (OwnT.slice ho5); clear ho5
           refine hK _ _ (by first | exact hb5 | exact (Ext.drew _).trans hb5) ?_
           clear hK K
           (try simp only [Act.put, List.setIfInBounds_toArray, List.set_cons_zero, List.set_cons_succ]))
          (refine ext_do rfl (by rfl) (fun K hK => ?_)
           go_simp
           go_at_call 17
           refine (bools_any _ _ bl bl _ HBL.out HBL.out (HO4.out.ext hb5) HO5.out).mono ?_
           rintro e w6 ⟨rfl, hb6⟩
           have hx6 : Ext W w6 := hx5.trans hb6
           have hc6 := hx6.cells
           have hs6 := hx6.size
           have hq6 := Below.size hb6
           have hlt6 := Nat.lt_of_lt_of_le hz hs6
           (try have hlu6 := Nat.lt_of_lt_of_le hz0 hs6)
           (try have hlv6 := Nat.lt_of_lt_of_le hz1 hs6)
           skip
           refine hK _ _ (by first | exact hb6 | exact (Ext.drew _).trans hb6) ?_
           clear hK K
           (try simp only [Act.put, List.setIfInBounds_toArray, List.set_cons_zero, List.set_cons_succ]))
          iterate 1 (first
           | (refine ext_move rfl rfl (by rfl) (by rfl) ?_; simp only [Act.put, List.setIfInBounds_toArray, List.set_cons_zero, List.set_cons_succ])
           | (refine ext_assign rfl rfl (by rfl) (by rfl) ?_; simp only [Act.put, List.setIfInBounds_toArray, List.set_cons_zero, List.set_cons_succ])
           | (refine ext_pick_t rfl rfl (by rfl) (by rfl) (by rfl) ?_; simp only [Act.put, List.setIfInBounds_toArray, List.set_cons_zero, List.set_cons_succ])
           | (refine ext_pick_f rfl rfl (by rfl) (by rfl) (by rfl) ?_; simp only [Act.put, List.setIfInBounds_toArray, List.set_cons_zero, List.set_cons_succ])
           | (apply ext_take rfl (by rfl)
              · intro w' hS
                have hSc := hS.cells
                (try simp only [World.size_drew, World.cell?_drew] at hSc)
                go_simp
                (try simp (disch := omega) only [i64_id, u64_id, ↓IntWalk.iteOmega, Int.tdiv_eq_ediv_of_nonneg, Int.tmod_eq_emod_of_nonneg])
                try rfl
              simp only [Act.put, List.setIfInBounds_toArray, List.set_cons_zero, List.set_cons_succ])
           | (refine ext_pass rfl (by rfl) ?_; simp only [Act.put, List.setIfInBounds_toArray, List.set_cons_zero, List.set_cons_succ]))
          refine ext_nil ?_
          rw [eqL_self]
          go_wp2_with fail
          go_ret
          exact ⟨rfl, hxW.trans hx6⟩
        · go_enter Try.func4, Try.ntmps4
          go_wp2_with fail
          have hz : w.heap.size < (w.alloc (.cells #[.slice av lv.length cv, .slice as_ ls.length cs_, .int .i64 g, .slice ar vers.length cr, .slice ad data.length cd, .slice ap pres.length cp] 38)).heap.size := by simp
          have hsz : (w.alloc (.cells #[.slice av lv.length cv, .slice as_ ls.length cs_, .int .i64 g, .slice ar vers.length cr, .slice ad data.length cd, .slice ap pres.length cp] 38)).heap.size = w.heap.size + 1 := by simp
          generalize hW : w.alloc (.cells #[.slice av lv.length cv, .slice as_ ls.length cs_, .int .i64 g, .slice ar vers.length cr, .slice ad data.length cd, .slice ap pres.length cp] 38) = W at *
          have c0_0 : W.cell? ⟨w.heap.size, 0, none⟩ = some (.slice av lv.length cv) := by rw [← hW]; first | exact (World.cell?_alloc_at (hn := by first | (simp; done) | (simp; omega)) ..).trans rfl | (simp; done) | (go_simp; done)
          have c0_1 : W.cell? ⟨w.heap.size, 1, none⟩ = some (.slice as_ ls.length cs_) := by rw [← hW]; first | exact (World.cell?_alloc_at (hn := by first | (simp; done) | (simp; omega)) ..).trans rfl | (simp; done) | (go_simp; done)
          have c0_2 : W.cell? ⟨w.heap.size, 2, none⟩ = some (.int .i64 g) := by rw [← hW]; first | exact (World.cell?_alloc_at (hn := by first | (simp; done) | (simp; omega)) ..).trans rfl | (simp; done) | (go_simp; done)
          have c0_3 : W.cell? ⟨w.heap.size, 3, none⟩ = some (.slice ar vers.length cr) := by rw [← hW]; first | exact (World.cell?_alloc_at (hn := by first | (simp; done) | (simp; omega)) ..).trans rfl | (simp; done) | (go_simp; done)
          have c0_4 : W.cell? ⟨w.heap.size, 4, none⟩ = some (.slice ad data.length cd) := by rw [← hW]; first | exact (World.cell?_alloc_at (hn := by first | (simp; done) | (simp; omega)) ..).trans rfl | (simp; done) | (go_simp; done)
          have c0_5 : W.cell? ⟨w.heap.size, 5, none⟩ = some (.slice ap pres.length cp) := by rw [← hW]; first | exact (World.cell?_alloc_at (hn := by first | (simp; done) | (simp; omega)) ..).trans rfl | (simp; done) | (go_simp; done)
          have hf0 : ∀ o, W.frozen? ⟨w.heap.size, o, none⟩ = false := fun o => by rw [← hW]; first | exact World.frozen?_alloc_at (hn := by first | (simp; done) | (simp; omega)) .. | (simp; done) | (go_simp; done)
          have hxW : Ext w W := by rw [← hW]; exact Ext.alloc _ _
          clear hW
          have HSZ := Lib.hid hsz
          clear hsz
          go_wp2_with fail
          have hxW0 : Ext W W := Ext.refl W
          go_at_call 10
          refine (awake_any _).mono ?_
          rintro e w2 ⟨rfl, hb2⟩
          have hx2 : Ext W w2 := hxW0.trans hb2
          have hc2 := hx2.cells
          have hs2 := hx2.size
          have hq2 := Below.size hb2
          have hlt2 := Nat.lt_of_lt_of_le hz hs2
          have hlu2 : w.heap.size < w2.heap.size := by omega
          skip
          go_wp2_with fail
          go_at_call 16
          refine (HF.out _ (hxW.trans hx2)).mono ?_
          rintro e w3 ⟨rfl, hb3⟩
          have hx3 : Ext W w3 := hx2.trans hb3
          have hc3 := hx3.cells
          have hs3 := hx3.size
          have hq3 := Below.size hb3
          have hlt3 := Nat.lt_of_lt_of_le hz hs3
          have hlu3 : w.heap.size < w3.heap.size := by omega
          skip
          go_wp2_with fail
          go_at_call 10
          refine (awake_any _).mono ?_
          rintro e w4 ⟨rfl, hb4⟩
          have hx4 : Ext W w4 := hx3.trans hb4
          have hc4 := hx4.cells
          have hs4 := hx4.size
          have hq4 := Below.size hb4
          have hlt4 := Nat.lt_of_lt_of_le hz hs4
          have hlu4 : w.heap.size < w4.heap.size := by omega
          skip
          go_wp2_with fail
          go_ret
          exact ⟨rfl, hxW.trans hx4⟩
      · go_enter Try.func4, Try.ntmps4
        go_wp2_with fail
        have hz : w.heap.size < (w.alloc (.cells #[.slice av lv.length cv, .slice as_ ls.length cs_, .int .i64 g, .slice ar vers.length cr, .slice ad data.length cd, .slice ap pres.length cp] 38)).heap.size := by simp
        have hsz : (w.alloc (.cells #[.slice av lv.length cv, .slice as_ ls.length cs_, .int .i64 g, .slice ar vers.length cr, .slice ad data.length cd, .slice ap pres.length cp] 38)).heap.size = w.heap.size + 1 := by simp
        generalize hW : w.alloc (.cells #[.slice av lv.length cv, .slice as_ ls.length cs_, .int .i64 g, .slice ar vers.length cr, .slice ad data.length cd, .slice ap pres.length cp] 38) = W at *
        have c0_0 : W.cell? ⟨w.heap.size, 0, none⟩ = some (.slice av lv.length cv) := by rw [← hW]; first | exact (World.cell?_alloc_at (hn := by first | (simp; done) | (simp; omega)) ..).trans rfl | (simp; done) | (go_simp; done)
        have c0_1 : W.cell? ⟨w.heap.size, 1, none⟩ = some (.slice as_ ls.length cs_) := by rw [← hW]; first | exact (World.cell?_alloc_at (hn := by first | (simp; done) | (simp; omega)) ..).trans rfl | (simp; done) | (go_simp; done)
        have c0_2 : W.cell? ⟨w.heap.size, 2, none⟩ = some (.int .i64 g) := by rw [← hW]; first | exact (World.cell?_alloc_at (hn := by first | (simp; done) | (simp; omega)) ..).trans rfl | (simp; done) | (go_simp; done)
        have c0_3 : W.cell? ⟨w.heap.size, 3, none⟩ = some (.slice ar vers.length cr) := by rw [← hW]; first | exact (World.cell?_alloc_at (hn := by first | (simp; done) | (simp; omega)) ..).trans rfl | (simp; done) | (go_simp; done)
        have c0_4 : W.cell? ⟨w.heap.size, 4, none⟩ = some (.slice ad data.length cd) := by rw [← hW]; first | exact (World.cell?_alloc_at (hn := by first | (simp; done) | (simp; omega)) ..).trans rfl | (simp; done) | (go_simp; done)
        have c0_5 : W.cell? ⟨w.heap.size, 5, none⟩ = some (.slice ap pres.length cp) := by rw [← hW]; first | exact (World.cell?_alloc_at (hn := by first | (simp; done) | (simp; omega)) ..).trans rfl | (simp; done) | (go_simp; done)
        have hf0 : ∀ o, W.frozen? ⟨w.heap.size, o, none⟩ = false := fun o => by rw [← hW]; first | exact World.frozen?_alloc_at (hn := by first | (simp; done) | (simp; omega)) .. | (simp; done) | (go_simp; done)
        have hxW : Ext w W := by rw [← hW]; exact Ext.alloc _ _
        clear hW
        have HSZ := Lib.hid hsz
        clear hsz
        go_wp2_with fail
        have hxW0 : Ext W W := Ext.refl W
        go_at_call 10
        refine (awake_any _).mono ?_
        rintro e w2 ⟨rfl, hb2⟩
        have hx2 : Ext W w2 := hxW0.trans hb2
        have hc2 := hx2.cells
        have hs2 := hx2.size
        have hq2 := Below.size hb2
        have hlt2 := Nat.lt_of_lt_of_le hz hs2
        have hlu2 : w.heap.size < w2.heap.size := by omega
        skip
        go_wp2_with fail
        go_at_call 16
        refine (HF.out _ (hxW.trans hx2)).mono ?_
        rintro e w3 ⟨rfl, hb3⟩
        have hx3 : Ext W w3 := hx2.trans hb3
        have hc3 := hx3.cells
        have hs3 := hx3.size
        have hq3 := Below.size hb3
        have hlt3 := Nat.lt_of_lt_of_le hz hs3
        have hlu3 : w.heap.size < w3.heap.size := by omega
        skip
        go_wp2_with fail
        go_at_call 10
        refine (awake_any _).mono ?_
        rintro e w4 ⟨rfl, hb4⟩
        have hx4 : Ext W w4 := hx3.trans hb4
        have hc4 := hx4.cells
        have hs4 := hx4.size
        have hq4 := Below.size hb4
        have hlt4 := Nat.lt_of_lt_of_le hz hs4
        have hlu4 : w.heap.size < w4.heap.size := by omega
        skip
        go_wp2_with fail
        go_ret
        exact ⟨rfl, hxW.trans hx4⟩
    · go_enter Try.func4, Try.ntmps4
      go_wp2_with fail
      have hz : w.heap.size < (w.alloc (.cells #[.slice av lv.length cv, .slice as_ ls.length cs_, .int .i64 g, .slice ar vers.length cr, .slice ad data.length cd, .slice ap pres.length cp] 38)).heap.size := by simp
      have hsz : (w.alloc (.cells #[.slice av lv.length cv, .slice as_ ls.length cs_, .int .i64 g, .slice ar vers.length cr, .slice ad data.length cd, .slice ap pres.length cp] 38)).heap.size = w.heap.size + 1 := by simp
      generalize hW : w.alloc (.cells #[.slice av lv.length cv, .slice as_ ls.length cs_, .int .i64 g, .slice ar vers.length cr, .slice ad data.length cd, .slice ap pres.length cp] 38) = W at *
      have c0_0 : W.cell? ⟨w.heap.size, 0, none⟩ = some (.slice av lv.length cv) := by rw [← hW]; first | exact (World.cell?_alloc_at (hn := by first | (simp; done) | (simp; omega)) ..).trans rfl | (simp; done) | (go_simp; done)
      have c0_1 : W.cell? ⟨w.heap.size, 1, none⟩ = some (.slice as_ ls.length cs_) := by rw [← hW]; first | exact (World.cell?_alloc_at (hn := by first | (simp; done) | (simp; omega)) ..).trans rfl | (simp; done) | (go_simp; done)
      have c0_2 : W.cell? ⟨w.heap.size, 2, none⟩ = some (.int .i64 g) := by rw [← hW]; first | exact (World.cell?_alloc_at (hn := by first | (simp; done) | (simp; omega)) ..).trans rfl | (simp; done) | (go_simp; done)
      have c0_3 : W.cell? ⟨w.heap.size, 3, none⟩ = some (.slice ar vers.length cr) := by rw [← hW]; first | exact (World.cell?_alloc_at (hn := by first | (simp; done) | (simp; omega)) ..).trans rfl | (simp; done) | (go_simp; done)
      have c0_4 : W.cell? ⟨w.heap.size, 4, none⟩ = some (.slice ad data.length cd) := by rw [← hW]; first | exact (World.cell?_alloc_at (hn := by first | (simp; done) | (simp; omega)) ..).trans rfl | (simp; done) | (go_simp; done)
      have c0_5 : W.cell? ⟨w.heap.size, 5, none⟩ = some (.slice ap pres.length cp) := by rw [← hW]; first | exact (World.cell?_alloc_at (hn := by first | (simp; done) | (simp; omega)) ..).trans rfl | (simp; done) | (go_simp; done)
      have hf0 : ∀ o, W.frozen? ⟨w.heap.size, o, none⟩ = false := fun o => by rw [← hW]; first | exact World.frozen?_alloc_at (hn := by first | (simp; done) | (simp; omega)) .. | (simp; done) | (go_simp; done)
      have hxW : Ext w W := by rw [← hW]; exact Ext.alloc _ _
      clear hW
      have HSZ := Lib.hid hsz
      clear hsz
      go_wp2_with fail
      have hxW0 : Ext W W := Ext.refl W
      go_at_call 10
      refine (awake_any _).mono ?_
      rintro e w2 ⟨rfl, hb2⟩
      have hx2 : Ext W w2 := hxW0.trans hb2
      have hc2 := hx2.cells
      have hs2 := hx2.size
      have hq2 := Below.size hb2
      have hlt2 := Nat.lt_of_lt_of_le hz hs2
      have hlu2 : w.heap.size < w2.heap.size := by omega
      skip
      go_wp2_with fail
      go_at_call 16
      refine (HF.out _ (hxW.trans hx2)).mono ?_
      rintro e w3 ⟨rfl, hb3⟩
      have hx3 : Ext W w3 := hx2.trans hb3
      have hc3 := hx3.cells
      have hs3 := hx3.size
      have hq3 := Below.size hb3
      have hlt3 := Nat.lt_of_lt_of_le hz hs3
      have hlu3 : w.heap.size < w3.heap.size := by omega
      skip
      go_wp2_with fail
      go_at_call 10
      refine (awake_any _).mono ?_
      rintro e w4 ⟨rfl, hb4⟩
      have hx4 : Ext W w4 := hx3.trans hb4
      have hc4 := hx4.cells
      have hs4 := hx4.size
      have hq4 := Below.size hb4
      have hlt4 := Nat.lt_of_lt_of_le hz hs4
      have hlu4 : w.heap.size < w4.heap.size := by omega
      skip
      go_wp2_with fail
      go_ret
      exact ⟨rfl, hxW.trans hx4⟩
  · have HF := Lib.hid fun (x : World) (hx : Ext w x) => fair_as false _ _ lv ls x (by simp; omega) (H1.out.ext hx) (H2.out.ext hx)
    clear hf
    go_enter Try.func4, Try.ntmps4
    go_wp2_with fail
    have hz : w.heap.size < (w.alloc (.cells #[.slice av lv.length cv, .slice as_ ls.length cs_, .int .i64 g, .slice ar vers.length cr, .slice ad data.length cd, .slice ap pres.length cp] 38)).heap.size := by simp
    have hsz : (w.alloc (.cells #[.slice av lv.length cv, .slice as_ ls.length cs_, .int .i64 g, .slice ar vers.length cr, .slice ad data.length cd, .slice ap pres.length cp] 38)).heap.size = w.heap.size + 1 := by simp
    generalize hW : w.alloc (.cells #[.slice av lv.length cv, .slice as_ ls.length cs_, .int .i64 g, .slice ar vers.length cr, .slice ad data.length cd, .slice ap pres.length cp] 38) = W at *
    have c0_0 : W.cell? ⟨w.heap.size, 0, none⟩ = some (.slice av lv.length cv) := by rw [← hW]; first | exact (World.cell?_alloc_at (hn := by first | (simp; done) | (simp; omega)) ..).trans rfl | (simp; done) | (go_simp; done)
    have c0_1 : W.cell? ⟨w.heap.size, 1, none⟩ = some (.slice as_ ls.length cs_) := by rw [← hW]; first | exact (World.cell?_alloc_at (hn := by first | (simp; done) | (simp; omega)) ..).trans rfl | (simp; done) | (go_simp; done)
    have c0_2 : W.cell? ⟨w.heap.size, 2, none⟩ = some (.int .i64 g) := by rw [← hW]; first | exact (World.cell?_alloc_at (hn := by first | (simp; done) | (simp; omega)) ..).trans rfl | (simp; done) | (go_simp; done)
    have c0_3 : W.cell? ⟨w.heap.size, 3, none⟩ = some (.slice ar vers.length cr) := by rw [← hW]; first | exact (World.cell?_alloc_at (hn := by first | (simp; done) | (simp; omega)) ..).trans rfl | (simp; done) | (go_simp; done)
    have c0_4 : W.cell? ⟨w.heap.size, 4, none⟩ = some (.slice ad data.length cd) := by rw [← hW]; first | exact (World.cell?_alloc_at (hn := by first | (simp; done) | (simp; omega)) ..).trans rfl | (simp; done) | (go_simp; done)
    have c0_5 : W.cell? ⟨w.heap.size, 5, none⟩ = some (.slice ap pres.length cp) := by rw [← hW]; first | exact (World.cell?_alloc_at (hn := by first | (simp; done) | (simp; omega)) ..).trans rfl | (simp; done) | (go_simp; done)
    have hf0 : ∀ o, W.frozen? ⟨w.heap.size, o, none⟩ = false := fun o => by rw [← hW]; first | exact World.frozen?_alloc_at (hn := by first | (simp; done) | (simp; omega)) .. | (simp; done) | (go_simp; done)
    have hxW : Ext w W := by rw [← hW]; exact Ext.alloc _ _
    clear hW
    have HSZ := Lib.hid hsz
    clear hsz
    go_wp2_with fail
    have hxW0 : Ext W W := Ext.refl W
    go_at_call 10
    refine (awake_any _).mono ?_
    rintro e w2 ⟨rfl, hb2⟩
    have hx2 : Ext W w2 := hxW0.trans hb2
    have hc2 := hx2.cells
    have hs2 := hx2.size
    have hq2 := Below.size hb2
    have hlt2 := Nat.lt_of_lt_of_le hz hs2
    have hlu2 : w.heap.size < w2.heap.size := by omega
    skip
    go_wp2_with fail
    go_at_call 16
    refine (HF.out _ (hxW.trans hx2)).mono ?_
    rintro e w3 ⟨rfl, hb3⟩
    have hx3 : Ext W w3 := hx2.trans hb3
    have hc3 := hx3.cells
    have hs3 := hx3.size
    have hq3 := Below.size hb3
    have hlt3 := Nat.lt_of_lt_of_le hz hs3
    have hlu3 : w.heap.size < w3.heap.size := by omega
    skip
    go_wp2_with fail
    go_at_call 10
    refine (awake_any _).mono ?_
    rintro e w4 ⟨rfl, hb4⟩
    have hx4 : Ext W w4 := hx3.trans hb4
    have hc4 := hx4.cells
    have hs4 := hx4.size
    have hq4 := Below.size hb4
    have hlt4 := Nat.lt_of_lt_of_le hz hs4
    have hlu4 : w.heap.size < w4.heap.size := by omega
    skip
    go_wp2_with fail
    go_ret
    exact ⟨rfl, hxW.trans hx4⟩
end Go.Proofs.Ytinnikbjphkkiaa
