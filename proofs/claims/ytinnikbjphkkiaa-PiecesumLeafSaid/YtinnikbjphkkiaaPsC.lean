/-
  Chapter 25 (piecesum): pieces, Good, in both packages.
-/
import Derived.Test.YtinnikbjphkkiaaPsB
namespace Go.Proofs.Ytinnikbjphkkiaa
open Go.RowKit
set_option linter.unusedVariables false
attribute [local go_sem] eq_un

theorem run_min2 {P : Program} (w : World) (ts : Array TypeId) (t : TypeId) (a b : Nat) :
    (Builtin.min_ ts t #[.int .i64 (a : Int), .int .i64 (b : Int)]).run P w = .ok (.int .i64 (min a b : Nat)) w := by
  have e : (if (b : Int) < (a : Int) then (b : Int) else (a : Int)) = ((min a b : Nat) : Int) := by split <;> omega
  have : (Builtin.min_ ts t #[.int .i64 (a : Int), .int .i64 (b : Int)]).run P w = .ok (.int .i64 (if (b : Int) < (a : Int) then (b : Int) else (a : Int))) w := rfl
  rw [this, e]
/-- a piece is good -/
def goodB (lv ls : List (BitVec 64)) (g p : Int) (v : BitVec 64) (d : List (BitVec 8)) : Bool :=
  decide (0 ≤ p) && decide (p < (min lv.length ls.length : Nat)) && decide (lv.getD p.toNat 0#64 = v) && decide (ls.getD p.toNat 0#64 = psum g p v d)
theorem goodB_no {lv ls : List (BitVec 64)} {g p : Int} {v : BitVec 64} {d : List (BitVec 8)} (h : p < 0 ∨ (min lv.length ls.length : Nat) ≤ p) : goodB lv ls g p v d = false := by
  unfold goodB
  rcases h with h | h
  · rw [show decide (0 ≤ p) = false by simp; omega]; simp
  · rw [show decide (p < (min lv.length ls.length : Nat)) = false by rw [decide_eq_false_iff_not]; omega]; simp
theorem goodB_ver {lv ls : List (BitVec 64)} {g : Int} {k : Nat} {v : BitVec 64} {d : List (BitVec 8)} (h : lv.getD k 0#64 ≠ v) : goodB lv ls g k v d = false := by
  unfold goodB
  rw [Int.toNat_natCast, show decide (lv.getD k 0#64 = v) = false by simpa using h]; simp
theorem goodB_in {lv ls : List (BitVec 64)} {g : Int} {k : Nat} {v : BitVec 64} {d : List (BitVec 8)} (hk : k < min lv.length ls.length) (h : lv.getD k 0#64 = v) : goodB lv ls g k v d = decide (ls.getD k 0#64 = psum g k v d) := by
  unfold goodB
  rw [Int.toNat_natCast, show decide (lv.getD k 0#64 = v) = true by simpa using h, show decide ((0 : Int) ≤ (k : Int)) = true by simp, show decide ((k : Int) < (min lv.length ls.length : Nat)) = true by rw [decide_eq_true_eq]; omega]
  simp
theorem SliceAt.get {α : Type} {enc : α → Value} {w : World} {ad : Option Addr} {n cap : Nat} {l : List α} (h : SliceAt enc w (.slice ad n cap) l) (k : Nat) (hk : k < l.length) : ∃ b off, ad = some ⟨b, off, none⟩ ∧ b < w.heap.size ∧ w.cell? ⟨b, off + k, none⟩ = some (enc l[k]) := by
  obtain ⟨ad', cap', hv, hca, h⟩ := h
  injection hv with h1 h2 h3
  subst h1
  rcases h with ⟨h0, _⟩ | ⟨b, off, h4, h5, h6⟩
  · rw [h0] at hk; simp at hk
  · exact ⟨b, off, h4, h5, h6 k hk⟩

theorem pieces_any (vv vs : Value) (lv ls : List (BitVec 64)) (w : World) (hlv : lv.length ≤ 100000) (hls : ls.length ≤ 100000) (h1 : SliceAt encU w vv lv) (h2 : SliceAt encU w vs ls) :
    Calls Try.prog 30 #[.agg #[vv, vs]] w fun e w' => e = .returned (.int .i64 (min lv.length ls.length : Nat)) ∧ Below w.heap.size w w' := by
  obtain ⟨ad1, cap1, rfl, _, _⟩ := h1
  obtain ⟨ad2, cap2, rfl, _, _⟩ := h2
  generalize hk : min lv.length ls.length = k
  have hMin := fun (w : World) (ts : Array TypeId) (t : TypeId) => hk ▸ run_min2 (P := Try.prog) w ts t lv.length ls.length
  clear hk
  go_enter Try.func30, Try.ntmps30
  go_wp2
  go_ret
  exact ⟨rfl, Ext.alloc _ _⟩

theorem width_any (vv vs : Value) (lv ls : List (BitVec 64)) (w : World) (hlv : lv.length ≤ 100000) (hls : ls.length ≤ 100000) (h1 : SliceAt encU w vv lv) (h2 : SliceAt encU w vs ls) :
    Calls Try.prog 31 #[.agg #[vv, vs]] w fun e w' => e = .returned (.int .i64 (min lv.length ls.length : Nat)) ∧ Below w.heap.size w w' := by
  obtain ⟨ad1, cap1, rfl, _, _⟩ := h1
  obtain ⟨ad2, cap2, rfl, _, _⟩ := h2
  generalize hk : min lv.length ls.length = k
  have hMin := fun (w : World) (ts : Array TypeId) (t : TypeId) => hk ▸ run_min2 (P := Try.prog) w ts t lv.length ls.length
  clear hk
  go_enter Try.func31, Try.ntmps31
  go_wp2
  go_ret
  exact ⟨rfl, Ext.alloc _ _⟩

set_option maxHeartbeats 1000000 in
theorem good_any (vv vs : Value) (lv ls : List (BitVec 64)) (g p : Int) (v : BitVec 64) (x0 x1 x2 x3 x4 x5 x6 x7 : BitVec 8) (w : World) (hlv : lv.length ≤ 100000) (hls : ls.length ≤ 100000) (hg : -9223372036854775808 ≤ g ∧ g ≤ 9223372036854775807) (hp : -9223372036854775808 ≤ p ∧ p ≤ 9223372036854775807) (h1 : SliceAt encU w vv lv) (h2 : SliceAt encU w vs ls) :
    Calls Try.prog 22 #[.agg #[vv, vs], .int .i64 g, .int .i64 p, encU v, .agg #[encB x0, encB x1, encB x2, encB x3, encB x4, encB x5, encB x6, encB x7]] w fun e w' => e = .returned (.bool (goodB lv ls g p v [x0, x1, x2, x3, x4, x5, x6, x7])) ∧ Below w.heap.size w w' := by
  have H1 := Lib.hid h1
  have H2 := Lib.hid h2
  obtain ⟨ad1, cap1, rfl, hc1, _⟩ := h1
  obtain ⟨ad2, cap2, rfl, hc2, _⟩ := h2
  by_cases hneg : p < 0
  · have HF := Lib.hid (goodB_no (lv := lv) (ls := ls) (g := g) (p := p) (v := v) (d := [x0, x1, x2, x3, x4, x5, x6, x7]) (.inl hneg))
    have hd0 : decide (0 ≤ p) = false := by rw [decide_eq_false_iff_not]; omega
    go_enter Try.func22, Try.ntmps22
    go_wp2_with fail
    have hxW : Ext w ((w.alloc (.cells #[.slice ad1 lv.length cap1, .slice ad2 ls.length cap2] 32)).alloc (.cells #[encB x0, encB x1, encB x2, encB x3, encB x4, encB x5, encB x6, encB x7] 24)) := Ext.trans (Ext.alloc _ _) (Ext.alloc _ _)
    have hz : w.heap.size + 1 < ((w.alloc (.cells #[.slice ad1 lv.length cap1, .slice ad2 ls.length cap2] 32)).alloc (.cells #[encB x0, encB x1, encB x2, encB x3, encB x4, encB x5, encB x6, encB x7] 24)).heap.size := by simp
    generalize hW : (w.alloc (.cells #[.slice ad1 lv.length cap1, .slice ad2 ls.length cap2] 32)).alloc (.cells #[encB x0, encB x1, encB x2, encB x3, encB x4, encB x5, encB x6, encB x7] 24) = W at *
    have c0 : W.cell? ⟨w.heap.size, 0, none⟩ = some (.slice ad1 lv.length cap1) := by rw [← hW]; simp
    have c1 : W.cell? ⟨w.heap.size, 1, none⟩ = some (.slice ad2 ls.length cap2) := by rw [← hW]; simp
    have d0 : W.cell? ⟨w.heap.size + 1, 0, none⟩ = some (encB x0) := by rw [← hW]; simp
    have d1 : W.cell? ⟨w.heap.size + 1, 1, none⟩ = some (encB x1) := by rw [← hW]; simp
    have d2 : W.cell? ⟨w.heap.size + 1, 2, none⟩ = some (encB x2) := by rw [← hW]; simp
    have d3 : W.cell? ⟨w.heap.size + 1, 3, none⟩ = some (encB x3) := by rw [← hW]; simp
    have d4 : W.cell? ⟨w.heap.size + 1, 4, none⟩ = some (encB x4) := by rw [← hW]; simp
    have d5 : W.cell? ⟨w.heap.size + 1, 5, none⟩ = some (encB x5) := by rw [← hW]; simp
    have d6 : W.cell? ⟨w.heap.size + 1, 6, none⟩ = some (encB x6) := by rw [← hW]; simp
    have d7 : W.cell? ⟨w.heap.size + 1, 7, none⟩ = some (encB x7) := by rw [← hW]; simp
    have hz0 : w.heap.size < W.heap.size := by omega
    have hxd := Ext.drew W
    have H1W := Lib.hid (H1.out.ext (hxW.trans hxd))
    have H2W := Lib.hid (H2.out.ext (hxW.trans hxd))
    clear hW
    refine wp_region_ext [(0, true), (1, true), (2, true), (3, true), (4, true), (5, false), (6, true), (7, true), (8, true), (9, true), (10, true), (11, true), (12, true), (13, true), (14, true), (15, true), (16, true), (17, true), (18, true), (19, true), (20, true), (21, true), (22, true), (23, true), (24, true), (25, true), (26, true), (27, false), (28, true), (29, true), (30, true)] (by kernel_rfl) (by kernel_rfl) ?_
    iterate 5 (first
     | (refine ext_move rfl rfl (by rfl) (by rfl) ?_; simp only [Act.put, List.setIfInBounds_toArray, List.set_cons_zero, List.set_cons_succ])
     | (refine ext_assign rfl rfl (by rfl) (by rfl) ?_; simp only [Act.put, List.setIfInBounds_toArray, List.set_cons_zero, List.set_cons_succ])
     | (refine ext_pick_t rfl rfl (by rfl) (by rfl) (by rfl) ?_; simp only [Act.put, List.setIfInBounds_toArray, List.set_cons_zero, List.set_cons_succ])
     | (refine ext_pick_f rfl rfl (by rfl) (by rfl) (by rfl) ?_; simp only [Act.put, List.setIfInBounds_toArray, List.set_cons_zero, List.set_cons_succ])
     | (apply ext_take rfl (by rfl)
        · intro w' hS
          have hSc := hS.cells
          (try simp only [World.size_drew, World.cell?_drew] at hSc)
          go_simp
          (try simp (disch := omega) only [i64_id, u64_id, ↓IntWalk.iteOmega, Int.tdiv_eq_ediv_of_nonneg, Int.tmod_eq_emod_of_nonneg])
          try rfl
        simp only [Act.put, List.setIfInBounds_toArray, List.set_cons_zero, List.set_cons_succ])
     | (refine ext_pass rfl (by rfl) ?_; simp only [Act.put, List.setIfInBounds_toArray, List.set_cons_zero, List.set_cons_succ]))
    (refine ext_passE rfl (by rfl) (by first | (with_reducible exact Ext.refl _) | (with_reducible exact Ext.drew _)) ?_; simp only [Act.put, List.setIfInBounds_toArray, List.set_cons_zero, List.set_cons_succ])
    iterate 21 (first
     | (refine ext_move rfl rfl (by rfl) (by rfl) ?_; simp only [Act.put, List.setIfInBounds_toArray, List.set_cons_zero, List.set_cons_succ])
     | (refine ext_assign rfl rfl (by rfl) (by rfl) ?_; simp only [Act.put, List.setIfInBounds_toArray, List.set_cons_zero, List.set_cons_succ])
     | (refine ext_pick_t rfl rfl (by rfl) (by rfl) (by rfl) ?_; simp only [Act.put, List.setIfInBounds_toArray, List.set_cons_zero, List.set_cons_succ])
     | (refine ext_pick_f rfl rfl (by rfl) (by rfl) (by rfl) ?_; simp only [Act.put, List.setIfInBounds_toArray, List.set_cons_zero, List.set_cons_succ])
     | (apply ext_take rfl (by rfl)
        · intro w' hS
          have hSc := hS.cells
          (try simp only [World.size_drew, World.cell?_drew] at hSc)
          go_simp
          (try simp (disch := omega) only [i64_id, u64_id, ↓IntWalk.iteOmega, Int.tdiv_eq_ediv_of_nonneg, Int.tmod_eq_emod_of_nonneg])
          try rfl
        simp only [Act.put, List.setIfInBounds_toArray, List.set_cons_zero, List.set_cons_succ])
     | (refine ext_pass rfl (by rfl) ?_; simp only [Act.put, List.setIfInBounds_toArray, List.set_cons_zero, List.set_cons_succ]))
    (refine ext_passE rfl (by rfl) (by first | (with_reducible exact Ext.refl _) | (with_reducible exact Ext.drew _)) ?_; simp only [Act.put, List.setIfInBounds_toArray, List.set_cons_zero, List.set_cons_succ])
    iterate 3 (first
     | (refine ext_move rfl rfl (by rfl) (by rfl) ?_; simp only [Act.put, List.setIfInBounds_toArray, List.set_cons_zero, List.set_cons_succ])
     | (refine ext_assign rfl rfl (by rfl) (by rfl) ?_; simp only [Act.put, List.setIfInBounds_toArray, List.set_cons_zero, List.set_cons_succ])
     | (refine ext_pick_t rfl rfl (by rfl) (by rfl) (by rfl) ?_; simp only [Act.put, List.setIfInBounds_toArray, List.set_cons_zero, List.set_cons_succ])
     | (refine ext_pick_f rfl rfl (by rfl) (by rfl) (by rfl) ?_; simp only [Act.put, List.setIfInBounds_toArray, List.set_cons_zero, List.set_cons_succ])
     | (apply ext_take rfl (by rfl)
        · intro w' hS
          have hSc := hS.cells
          (try simp only [World.size_drew, World.cell?_drew] at hSc)
          go_simp
          (try simp (disch := omega) only [i64_id, u64_id, ↓IntWalk.iteOmega, Int.tdiv_eq_ediv_of_nonneg, Int.tmod_eq_emod_of_nonneg])
          try rfl
        simp only [Act.put, List.setIfInBounds_toArray, List.set_cons_zero, List.set_cons_succ])
     | (refine ext_pass rfl (by rfl) ?_; simp only [Act.put, List.setIfInBounds_toArray, List.set_cons_zero, List.set_cons_succ]))
    refine ext_nil ?_
    go_wp2_with fail
    go_ret
    exact ⟨ret_bool HF.out.symm, hxW.trans hxd⟩
  obtain ⟨k, rfl⟩ := Int.eq_ofNat_of_zero_le (show 0 ≤ p by omega)
  have hk0 : (0 : Int) ≤ (k : Int) := by omega
  clear hneg
  by_cases hge : min lv.length ls.length ≤ k
  · have HF := Lib.hid (goodB_no (lv := lv) (ls := ls) (g := g) (p := k) (v := v) (d := [x0, x1, x2, x3, x4, x5, x6, x7]) (.inr (by omega)))
    have hge' : ((min lv.length ls.length : Nat) : Int) ≤ (k : Int) := by omega
    have hgeN : decide (k < min lv.length ls.length) = false := by rw [decide_eq_false_iff_not]; omega
    have hge2 : decide ((k : Int) < ((min lv.length ls.length : Nat) : Int)) = false := by rw [decide_eq_false_iff_not]; omega
    go_enter Try.func22, Try.ntmps22
    go_wp2_with fail
    have hxW : Ext w ((w.alloc (.cells #[.slice ad1 lv.length cap1, .slice ad2 ls.length cap2] 32)).alloc (.cells #[encB x0, encB x1, encB x2, encB x3, encB x4, encB x5, encB x6, encB x7] 24)) := Ext.trans (Ext.alloc _ _) (Ext.alloc _ _)
    have hz : w.heap.size + 1 < ((w.alloc (.cells #[.slice ad1 lv.length cap1, .slice ad2 ls.length cap2] 32)).alloc (.cells #[encB x0, encB x1, encB x2, encB x3, encB x4, encB x5, encB x6, encB x7] 24)).heap.size := by simp
    generalize hW : (w.alloc (.cells #[.slice ad1 lv.length cap1, .slice ad2 ls.length cap2] 32)).alloc (.cells #[encB x0, encB x1, encB x2, encB x3, encB x4, encB x5, encB x6, encB x7] 24) = W at *
    have c0 : W.cell? ⟨w.heap.size, 0, none⟩ = some (.slice ad1 lv.length cap1) := by rw [← hW]; simp
    have c1 : W.cell? ⟨w.heap.size, 1, none⟩ = some (.slice ad2 ls.length cap2) := by rw [← hW]; simp
    have d0 : W.cell? ⟨w.heap.size + 1, 0, none⟩ = some (encB x0) := by rw [← hW]; simp
    have d1 : W.cell? ⟨w.heap.size + 1, 1, none⟩ = some (encB x1) := by rw [← hW]; simp
    have d2 : W.cell? ⟨w.heap.size + 1, 2, none⟩ = some (encB x2) := by rw [← hW]; simp
    have d3 : W.cell? ⟨w.heap.size + 1, 3, none⟩ = some (encB x3) := by rw [← hW]; simp
    have d4 : W.cell? ⟨w.heap.size + 1, 4, none⟩ = some (encB x4) := by rw [← hW]; simp
    have d5 : W.cell? ⟨w.heap.size + 1, 5, none⟩ = some (encB x5) := by rw [← hW]; simp
    have d6 : W.cell? ⟨w.heap.size + 1, 6, none⟩ = some (encB x6) := by rw [← hW]; simp
    have d7 : W.cell? ⟨w.heap.size + 1, 7, none⟩ = some (encB x7) := by rw [← hW]; simp
    have hz0 : w.heap.size < W.heap.size := by omega
    have hxd := Ext.drew W
    have H1W := Lib.hid (H1.out.ext (hxW.trans hxd))
    have H2W := Lib.hid (H2.out.ext (hxW.trans hxd))
    clear hW
    refine wp_region_ext [(0, true), (1, true), (2, true), (3, true), (4, true), (5, false), (6, true), (7, true), (8, true), (9, true), (10, true), (11, true), (12, true), (13, true), (14, true), (15, true), (16, true), (17, true), (18, true), (19, true), (20, true), (21, true), (22, true), (23, true), (24, true), (25, true), (26, true), (27, false), (28, true), (29, true), (30, true)] (by kernel_rfl) (by kernel_rfl) ?_
    iterate 5 (first
     | (refine ext_move rfl rfl (by rfl) (by rfl) ?_; simp only [Act.put, List.setIfInBounds_toArray, List.set_cons_zero, List.set_cons_succ])
     | (refine ext_assign rfl rfl (by rfl) (by rfl) ?_; simp only [Act.put, List.setIfInBounds_toArray, List.set_cons_zero, List.set_cons_succ])
     | (refine ext_pick_t rfl rfl (by rfl) (by rfl) (by rfl) ?_; simp only [Act.put, List.setIfInBounds_toArray, List.set_cons_zero, List.set_cons_succ])
     | (refine ext_pick_f rfl rfl (by rfl) (by rfl) (by rfl) ?_; simp only [Act.put, List.setIfInBounds_toArray, List.set_cons_zero, List.set_cons_succ])
     | (apply ext_take rfl (by rfl)
        · intro w' hS
          have hSc := hS.cells
          (try simp only [World.size_drew, World.cell?_drew] at hSc)
          go_simp
          (try simp (disch := omega) only [i64_id, u64_id, ↓IntWalk.iteOmega, Int.tdiv_eq_ediv_of_nonneg, Int.tmod_eq_emod_of_nonneg])
          try rfl
        simp only [Act.put, List.setIfInBounds_toArray, List.set_cons_zero, List.set_cons_succ])
     | (refine ext_pass rfl (by rfl) ?_; simp only [Act.put, List.setIfInBounds_toArray, List.set_cons_zero, List.set_cons_succ]))
    (refine ext_do rfl (by rfl) (fun K hK => ?_)
     go_simp
     go_at_call 30
     refine (pieces_any _ _ lv ls _ hlv hls H1W.out H2W.out).mono ?_
     rintro e w2 ⟨rfl, hb2⟩
     have hx2 : Ext W w2 := hxd.trans hb2
     have hc2 := hx2.cells
     have hs2 := hx2.size
     have hq2 := Below.size hb2
     have hlt2 := Nat.lt_of_lt_of_le hz hs2
     skip
     refine hK _ _ (by first | exact hb2 | exact (Ext.drew _).trans hb2) ?_
     clear hK K
     (try simp only [Act.put, List.setIfInBounds_toArray, List.set_cons_zero, List.set_cons_succ]))
    iterate 21 (first
     | (refine ext_move rfl rfl (by rfl) (by rfl) ?_; simp only [Act.put, List.setIfInBounds_toArray, List.set_cons_zero, List.set_cons_succ])
     | (refine ext_assign rfl rfl (by rfl) (by rfl) ?_; simp only [Act.put, List.setIfInBounds_toArray, List.set_cons_zero, List.set_cons_succ])
     | (refine ext_pick_t rfl rfl (by rfl) (by rfl) (by rfl) ?_; simp only [Act.put, List.setIfInBounds_toArray, List.set_cons_zero, List.set_cons_succ])
     | (refine ext_pick_f rfl rfl (by rfl) (by rfl) (by rfl) ?_; simp only [Act.put, List.setIfInBounds_toArray, List.set_cons_zero, List.set_cons_succ])
     | (apply ext_take rfl (by rfl)
        · intro w' hS
          have hSc := hS.cells
          (try simp only [World.size_drew, World.cell?_drew] at hSc)
          go_simp
          (try simp (disch := omega) only [i64_id, u64_id, ↓IntWalk.iteOmega, Int.tdiv_eq_ediv_of_nonneg, Int.tmod_eq_emod_of_nonneg])
          try rfl
        simp only [Act.put, List.setIfInBounds_toArray, List.set_cons_zero, List.set_cons_succ])
     | (refine ext_pass rfl (by rfl) ?_; simp only [Act.put, List.setIfInBounds_toArray, List.set_cons_zero, List.set_cons_succ]))
    (refine ext_passE rfl (by rfl) (by first | (with_reducible exact Ext.refl _) | (with_reducible exact Ext.drew _)) ?_; simp only [Act.put, List.setIfInBounds_toArray, List.set_cons_zero, List.set_cons_succ])
    iterate 3 (first
     | (refine ext_move rfl rfl (by rfl) (by rfl) ?_; simp only [Act.put, List.setIfInBounds_toArray, List.set_cons_zero, List.set_cons_succ])
     | (refine ext_assign rfl rfl (by rfl) (by rfl) ?_; simp only [Act.put, List.setIfInBounds_toArray, List.set_cons_zero, List.set_cons_succ])
     | (refine ext_pick_t rfl rfl (by rfl) (by rfl) (by rfl) ?_; simp only [Act.put, List.setIfInBounds_toArray, List.set_cons_zero, List.set_cons_succ])
     | (refine ext_pick_f rfl rfl (by rfl) (by rfl) (by rfl) ?_; simp only [Act.put, List.setIfInBounds_toArray, List.set_cons_zero, List.set_cons_succ])
     | (apply ext_take rfl (by rfl)
        · intro w' hS
          have hSc := hS.cells
          (try simp only [World.size_drew, World.cell?_drew] at hSc)
          go_simp
          (try simp (disch := omega) only [i64_id, u64_id, ↓IntWalk.iteOmega, Int.tdiv_eq_ediv_of_nonneg, Int.tmod_eq_emod_of_nonneg])
          try rfl
        simp only [Act.put, List.setIfInBounds_toArray, List.set_cons_zero, List.set_cons_succ])
     | (refine ext_pass rfl (by rfl) ?_; simp only [Act.put, List.setIfInBounds_toArray, List.set_cons_zero, List.set_cons_succ]))
    refine ext_nil ?_
    go_wp2_with fail
    go_ret
    exact ⟨ret_bool HF.out.symm, hxW.trans hx2⟩
  have hlt : k < min lv.length ls.length := by omega
  have hk1 : k < lv.length := by omega
  have hk2 : k < ls.length := by omega
  have hltN : decide (k < min lv.length ls.length) = true := by rw [decide_eq_true_eq]; omega
  have hlt' : decide ((k : Int) < ((min lv.length ls.length : Nat) : Int)) = true := by rw [decide_eq_true_eq]; omega
  obtain ⟨b1, o1, rfl, hb1, e1⟩ := H1.out.get k hk1
  obtain ⟨b2, o2, rfl, hb2, e2⟩ := H2.out.get k hk2
  have g1 : lv.getD k 0#64 = lv[k] := by rw [List.getD_eq_getElem?_getD, List.getElem?_eq_getElem hk1]; rfl
  have g2 : ls.getD k 0#64 = ls[k] := by rw [List.getD_eq_getElem?_getD, List.getElem?_eq_getElem hk2]; rfl
  rw [← g1] at e1
  rw [← g2] at e2
  by_cases hv : lv.getD k 0#64 = v
  · have HF := Lib.hid (goodB_in (g := g) (d := [x0, x1, x2, x3, x4, x5, x6, x7]) hlt hv)
    rw [hv] at e1
    generalize ls.getD k 0#64 = q at *
    clear g1 g2 hv hge hlt hc1 hc2
    go_enter Try.func22, Try.ntmps22
    go_wp2_with fail
    have hxW : Ext w ((w.alloc (.cells #[.slice (some ⟨b1, o1, none⟩) lv.length cap1, .slice (some ⟨b2, o2, none⟩) ls.length cap2] 32)).alloc (.cells #[encB x0, encB x1, encB x2, encB x3, encB x4, encB x5, encB x6, encB x7] 24)) := Ext.trans (Ext.alloc _ _) (Ext.alloc _ _)
    have hz : w.heap.size + 1 < ((w.alloc (.cells #[.slice (some ⟨b1, o1, none⟩) lv.length cap1, .slice (some ⟨b2, o2, none⟩) ls.length cap2] 32)).alloc (.cells #[encB x0, encB x1, encB x2, encB x3, encB x4, encB x5, encB x6, encB x7] 24)).heap.size := by simp
    generalize hW : (w.alloc (.cells #[.slice (some ⟨b1, o1, none⟩) lv.length cap1, .slice (some ⟨b2, o2, none⟩) ls.length cap2] 32)).alloc (.cells #[encB x0, encB x1, encB x2, encB x3, encB x4, encB x5, encB x6, encB x7] 24) = W at *
    have c0 : W.cell? ⟨w.heap.size, 0, none⟩ = some (.slice (some ⟨b1, o1, none⟩) lv.length cap1) := by rw [← hW]; simp
    have c1 : W.cell? ⟨w.heap.size, 1, none⟩ = some (.slice (some ⟨b2, o2, none⟩) ls.length cap2) := by rw [← hW]; simp
    have d0 : W.cell? ⟨w.heap.size + 1, 0, none⟩ = some (encB x0) := by rw [← hW]; simp
    have d1 : W.cell? ⟨w.heap.size + 1, 1, none⟩ = some (encB x1) := by rw [← hW]; simp
    have d2 : W.cell? ⟨w.heap.size + 1, 2, none⟩ = some (encB x2) := by rw [← hW]; simp
    have d3 : W.cell? ⟨w.heap.size + 1, 3, none⟩ = some (encB x3) := by rw [← hW]; simp
    have d4 : W.cell? ⟨w.heap.size + 1, 4, none⟩ = some (encB x4) := by rw [← hW]; simp
    have d5 : W.cell? ⟨w.heap.size + 1, 5, none⟩ = some (encB x5) := by rw [← hW]; simp
    have d6 : W.cell? ⟨w.heap.size + 1, 6, none⟩ = some (encB x6) := by rw [← hW]; simp
    have d7 : W.cell? ⟨w.heap.size + 1, 7, none⟩ = some (encB x7) := by rw [← hW]; simp
    have hz0 : w.heap.size < W.heap.size := by omega
    have hxd := Ext.drew W
    have H1W := Lib.hid (H1.out.ext (hxW.trans hxd))
    have H2W := Lib.hid (H2.out.ext (hxW.trans hxd))
    have f1 := (hxW.cell b1 _ hb1).trans e1
    have f2 := (hxW.cell b2 _ hb2).trans e2
    have hbW1 : b1 < W.heap.size := by omega
    have hbW2 : b2 < W.heap.size := by omega
    clear hW
    refine wp_region_ext [(0, true), (1, true), (2, true), (3, true), (4, true), (5, false), (6, true), (7, true), (8, true), (9, true), (10, true), (11, true), (12, true), (13, true), (14, true), (15, true), (16, true), (17, true), (18, true), (19, true), (20, true), (21, true), (22, true), (23, true), (24, true), (25, true), (26, true), (27, false), (28, true), (29, true), (30, true)] (by kernel_rfl) (by kernel_rfl) ?_
    iterate 5 (first
     | (refine ext_move rfl rfl (by rfl) (by rfl) ?_; simp only [Act.put, List.setIfInBounds_toArray, List.set_cons_zero, List.set_cons_succ])
     | (refine ext_assign rfl rfl (by rfl) (by rfl) ?_; simp only [Act.put, List.setIfInBounds_toArray, List.set_cons_zero, List.set_cons_succ])
     | (refine ext_pick_t rfl rfl (by rfl) (by rfl) (by rfl) ?_; simp only [Act.put, List.setIfInBounds_toArray, List.set_cons_zero, List.set_cons_succ])
     | (refine ext_pick_f rfl rfl (by rfl) (by rfl) (by rfl) ?_; simp only [Act.put, List.setIfInBounds_toArray, List.set_cons_zero, List.set_cons_succ])
     | (apply ext_take rfl (by rfl)
        · intro w' hS
          have hSc := hS.cells
          (try simp only [World.size_drew, World.cell?_drew] at hSc)
          go_simp
          (try simp (disch := omega) only [i64_id, u64_id, ↓IntWalk.iteOmega, Int.tdiv_eq_ediv_of_nonneg, Int.tmod_eq_emod_of_nonneg])
          try rfl
        simp only [Act.put, List.setIfInBounds_toArray, List.set_cons_zero, List.set_cons_succ])
     | (refine ext_pass rfl (by rfl) ?_; simp only [Act.put, List.setIfInBounds_toArray, List.set_cons_zero, List.set_cons_succ]))
    (refine ext_do rfl (by rfl) (fun K hK => ?_)
     go_simp
     go_at_call 30
     refine (pieces_any _ _ lv ls _ hlv hls H1W.out H2W.out).mono ?_
     rintro e w2 ⟨rfl, hb2⟩
     have hx2 : Ext W w2 := hxd.trans hb2
     have hc2 := hx2.cells
     have hs2 := hx2.size
     have hq2 := Below.size hb2
     have hlt2 := Nat.lt_of_lt_of_le hz hs2
     have hm2 : w.heap.size < w2.heap.size := (by omega); have hn1 : b1 < w2.heap.size := (by omega); have hn2 : b2 < w2.heap.size := (by omega)
     refine hK _ _ (by first | exact hb2 | exact (Ext.drew _).trans hb2) ?_
     clear hK K
     (try simp only [Act.put, List.setIfInBounds_toArray, List.set_cons_zero, List.set_cons_succ]))
    iterate 21 (first
     | (refine ext_move rfl rfl (by rfl) (by rfl) ?_; simp only [Act.put, List.setIfInBounds_toArray, List.set_cons_zero, List.set_cons_succ])
     | (refine ext_assign rfl rfl (by rfl) (by rfl) ?_; simp only [Act.put, List.setIfInBounds_toArray, List.set_cons_zero, List.set_cons_succ])
     | (refine ext_pick_t rfl rfl (by rfl) (by rfl) (by rfl) ?_; simp only [Act.put, List.setIfInBounds_toArray, List.set_cons_zero, List.set_cons_succ])
     | (refine ext_pick_f rfl rfl (by rfl) (by rfl) (by rfl) ?_; simp only [Act.put, List.setIfInBounds_toArray, List.set_cons_zero, List.set_cons_succ])
     | (apply ext_take rfl (by rfl)
        · intro w' hS
          have hSc := hS.cells
          (try simp only [World.size_drew, World.cell?_drew] at hSc)
          go_simp
          (try simp (disch := omega) only [i64_id, u64_id, ↓IntWalk.iteOmega, Int.tdiv_eq_ediv_of_nonneg, Int.tmod_eq_emod_of_nonneg])
          try rfl
        simp only [Act.put, List.setIfInBounds_toArray, List.set_cons_zero, List.set_cons_succ])
     | (refine ext_pass rfl (by rfl) ?_; simp only [Act.put, List.setIfInBounds_toArray, List.set_cons_zero, List.set_cons_succ]))
    (refine ext_do rfl (by rfl) (fun K hK => ?_)
     go_simp
     go_at_call 11
     refine (psum_any g k v x0 x1 x2 x3 x4 x5 x6 x7 _ hg ⟨by omega, by omega⟩).mono ?_
     rintro e w3 ⟨rfl, hb3⟩
     have hx3 : Ext W w3 := hx2.trans hb3
     have hc3 := hx3.cells
     have hs3 := hx3.size
     have hq3 := Below.size hb3
     have hlt3 := Nat.lt_of_lt_of_le hz hs3
     skip
     refine hK _ _ (by first | exact hb3 | exact (Ext.drew _).trans hb3) ?_
     clear hK K
     (try simp only [Act.put, List.setIfInBounds_toArray, List.set_cons_zero, List.set_cons_succ]))
    iterate 3 (first
     | (refine ext_move rfl rfl (by rfl) (by rfl) ?_; simp only [Act.put, List.setIfInBounds_toArray, List.set_cons_zero, List.set_cons_succ])
     | (refine ext_assign rfl rfl (by rfl) (by rfl) ?_; simp only [Act.put, List.setIfInBounds_toArray, List.set_cons_zero, List.set_cons_succ])
     | (refine ext_pick_t rfl rfl (by rfl) (by rfl) (by rfl) ?_; simp only [Act.put, List.setIfInBounds_toArray, List.set_cons_zero, List.set_cons_succ])
     | (refine ext_pick_f rfl rfl (by rfl) (by rfl) (by rfl) ?_; simp only [Act.put, List.setIfInBounds_toArray, List.set_cons_zero, List.set_cons_succ])
     | (apply ext_take rfl (by rfl)
        · intro w' hS
          have hSc := hS.cells
          (try simp only [World.size_drew, World.cell?_drew] at hSc)
          go_simp
          (try simp (disch := omega) only [i64_id, u64_id, ↓IntWalk.iteOmega, Int.tdiv_eq_ediv_of_nonneg, Int.tmod_eq_emod_of_nonneg])
          try rfl
        simp only [Act.put, List.setIfInBounds_toArray, List.set_cons_zero, List.set_cons_succ])
     | (refine ext_pass rfl (by rfl) ?_; simp only [Act.put, List.setIfInBounds_toArray, List.set_cons_zero, List.set_cons_succ]))
    refine ext_nil ?_
    go_wp2_with fail
    go_ret
    exact ⟨ret_bool HF.out.symm, hxW.trans hx3⟩
  · have HF := Lib.hid (goodB_ver (ls := ls) (g := g) (k := k) (d := [x0, x1, x2, x3, x4, x5, x6, x7]) hv)
    have hvf : decide (lv.getD k 0#64 = v) = false := by rw [decide_eq_false_iff_not]; exact hv
    generalize lv.getD k 0#64 = q1 at *
    clear g1 g2 hv hge hlt hc1 hc2
    go_enter Try.func22, Try.ntmps22
    go_wp2_with fail
    have hxW : Ext w ((w.alloc (.cells #[.slice (some ⟨b1, o1, none⟩) lv.length cap1, .slice (some ⟨b2, o2, none⟩) ls.length cap2] 32)).alloc (.cells #[encB x0, encB x1, encB x2, encB x3, encB x4, encB x5, encB x6, encB x7] 24)) := Ext.trans (Ext.alloc _ _) (Ext.alloc _ _)
    have hz : w.heap.size + 1 < ((w.alloc (.cells #[.slice (some ⟨b1, o1, none⟩) lv.length cap1, .slice (some ⟨b2, o2, none⟩) ls.length cap2] 32)).alloc (.cells #[encB x0, encB x1, encB x2, encB x3, encB x4, encB x5, encB x6, encB x7] 24)).heap.size := by simp
    generalize hW : (w.alloc (.cells #[.slice (some ⟨b1, o1, none⟩) lv.length cap1, .slice (some ⟨b2, o2, none⟩) ls.length cap2] 32)).alloc (.cells #[encB x0, encB x1, encB x2, encB x3, encB x4, encB x5, encB x6, encB x7] 24) = W at *
    have c0 : W.cell? ⟨w.heap.size, 0, none⟩ = some (.slice (some ⟨b1, o1, none⟩) lv.length cap1) := by rw [← hW]; simp
    have c1 : W.cell? ⟨w.heap.size, 1, none⟩ = some (.slice (some ⟨b2, o2, none⟩) ls.length cap2) := by rw [← hW]; simp
    have d0 : W.cell? ⟨w.heap.size + 1, 0, none⟩ = some (encB x0) := by rw [← hW]; simp
    have d1 : W.cell? ⟨w.heap.size + 1, 1, none⟩ = some (encB x1) := by rw [← hW]; simp
    have d2 : W.cell? ⟨w.heap.size + 1, 2, none⟩ = some (encB x2) := by rw [← hW]; simp
    have d3 : W.cell? ⟨w.heap.size + 1, 3, none⟩ = some (encB x3) := by rw [← hW]; simp
    have d4 : W.cell? ⟨w.heap.size + 1, 4, none⟩ = some (encB x4) := by rw [← hW]; simp
    have d5 : W.cell? ⟨w.heap.size + 1, 5, none⟩ = some (encB x5) := by rw [← hW]; simp
    have d6 : W.cell? ⟨w.heap.size + 1, 6, none⟩ = some (encB x6) := by rw [← hW]; simp
    have d7 : W.cell? ⟨w.heap.size + 1, 7, none⟩ = some (encB x7) := by rw [← hW]; simp
    have hz0 : w.heap.size < W.heap.size := by omega
    have hxd := Ext.drew W
    have H1W := Lib.hid (H1.out.ext (hxW.trans hxd))
    have H2W := Lib.hid (H2.out.ext (hxW.trans hxd))
    have f1 := (hxW.cell b1 _ hb1).trans e1
    have f2 := (hxW.cell b2 _ hb2).trans e2
    have hbW1 : b1 < W.heap.size := by omega
    have hbW2 : b2 < W.heap.size := by omega
    clear hW
    refine wp_region_ext [(0, true), (1, true), (2, true), (3, true), (4, true), (5, false), (6, true), (7, true), (8, true), (9, true), (10, true), (11, true), (12, true), (13, true), (14, true), (15, true), (16, true), (17, true), (18, true), (19, true), (20, true), (21, true), (22, true), (23, true), (24, true), (25, true), (26, true), (27, false), (28, true), (29, true), (30, true)] (by kernel_rfl) (by kernel_rfl) ?_
    iterate 5 (first
     | (refine ext_move rfl rfl (by rfl) (by rfl) ?_; simp only [Act.put, List.setIfInBounds_toArray, List.set_cons_zero, List.set_cons_succ])
     | (refine ext_assign rfl rfl (by rfl) (by rfl) ?_; simp only [Act.put, List.setIfInBounds_toArray, List.set_cons_zero, List.set_cons_succ])
     | (refine ext_pick_t rfl rfl (by rfl) (by rfl) (by rfl) ?_; simp only [Act.put, List.setIfInBounds_toArray, List.set_cons_zero, List.set_cons_succ])
     | (refine ext_pick_f rfl rfl (by rfl) (by rfl) (by rfl) ?_; simp only [Act.put, List.setIfInBounds_toArray, List.set_cons_zero, List.set_cons_succ])
     | (apply ext_take rfl (by rfl)
        · intro w' hS
          have hSc := hS.cells
          (try simp only [World.size_drew, World.cell?_drew] at hSc)
          go_simp
          (try simp (disch := omega) only [i64_id, u64_id, ↓IntWalk.iteOmega, Int.tdiv_eq_ediv_of_nonneg, Int.tmod_eq_emod_of_nonneg])
          try rfl
        simp only [Act.put, List.setIfInBounds_toArray, List.set_cons_zero, List.set_cons_succ])
     | (refine ext_pass rfl (by rfl) ?_; simp only [Act.put, List.setIfInBounds_toArray, List.set_cons_zero, List.set_cons_succ]))
    (refine ext_do rfl (by rfl) (fun K hK => ?_)
     go_simp
     go_at_call 30
     refine (pieces_any _ _ lv ls _ hlv hls H1W.out H2W.out).mono ?_
     rintro e w2 ⟨rfl, hb2⟩
     have hx2 : Ext W w2 := hxd.trans hb2
     have hc2 := hx2.cells
     have hs2 := hx2.size
     have hq2 := Below.size hb2
     have hlt2 := Nat.lt_of_lt_of_le hz hs2
     have hm2 : w.heap.size < w2.heap.size := (by omega); have hn1 : b1 < w2.heap.size := (by omega); have hn2 : b2 < w2.heap.size := (by omega)
     refine hK _ _ (by first | exact hb2 | exact (Ext.drew _).trans hb2) ?_
     clear hK K
     (try simp only [Act.put, List.setIfInBounds_toArray, List.set_cons_zero, List.set_cons_succ]))
    iterate 21 (first
     | (refine ext_move rfl rfl (by rfl) (by rfl) ?_; simp only [Act.put, List.setIfInBounds_toArray, List.set_cons_zero, List.set_cons_succ])
     | (refine ext_assign rfl rfl (by rfl) (by rfl) ?_; simp only [Act.put, List.setIfInBounds_toArray, List.set_cons_zero, List.set_cons_succ])
     | (refine ext_pick_t rfl rfl (by rfl) (by rfl) (by rfl) ?_; simp only [Act.put, List.setIfInBounds_toArray, List.set_cons_zero, List.set_cons_succ])
     | (refine ext_pick_f rfl rfl (by rfl) (by rfl) (by rfl) ?_; simp only [Act.put, List.setIfInBounds_toArray, List.set_cons_zero, List.set_cons_succ])
     | (apply ext_take rfl (by rfl)
        · intro w' hS
          have hSc := hS.cells
          (try simp only [World.size_drew, World.cell?_drew] at hSc)
          go_simp
          (try simp (disch := omega) only [i64_id, u64_id, ↓IntWalk.iteOmega, Int.tdiv_eq_ediv_of_nonneg, Int.tmod_eq_emod_of_nonneg])
          try rfl
        simp only [Act.put, List.setIfInBounds_toArray, List.set_cons_zero, List.set_cons_succ])
     | (refine ext_pass rfl (by rfl) ?_; simp only [Act.put, List.setIfInBounds_toArray, List.set_cons_zero, List.set_cons_succ]))
    (refine ext_passE rfl (by rfl) (by first | (with_reducible exact Ext.refl _) | (with_reducible exact Ext.drew _)) ?_; simp only [Act.put, List.setIfInBounds_toArray, List.set_cons_zero, List.set_cons_succ])
    iterate 3 (first
     | (refine ext_move rfl rfl (by rfl) (by rfl) ?_; simp only [Act.put, List.setIfInBounds_toArray, List.set_cons_zero, List.set_cons_succ])
     | (refine ext_assign rfl rfl (by rfl) (by rfl) ?_; simp only [Act.put, List.setIfInBounds_toArray, List.set_cons_zero, List.set_cons_succ])
     | (refine ext_pick_t rfl rfl (by rfl) (by rfl) (by rfl) ?_; simp only [Act.put, List.setIfInBounds_toArray, List.set_cons_zero, List.set_cons_succ])
     | (refine ext_pick_f rfl rfl (by rfl) (by rfl) (by rfl) ?_; simp only [Act.put, List.setIfInBounds_toArray, List.set_cons_zero, List.set_cons_succ])
     | (apply ext_take rfl (by rfl)
        · intro w' hS
          have hSc := hS.cells
          (try simp only [World.size_drew, World.cell?_drew] at hSc)
          go_simp
          (try simp (disch := omega) only [i64_id, u64_id, ↓IntWalk.iteOmega, Int.tdiv_eq_ediv_of_nonneg, Int.tmod_eq_emod_of_nonneg])
          try rfl
        simp only [Act.put, List.setIfInBounds_toArray, List.set_cons_zero, List.set_cons_succ])
     | (refine ext_pass rfl (by rfl) ?_; simp only [Act.put, List.setIfInBounds_toArray, List.set_cons_zero, List.set_cons_succ]))
    refine ext_nil ?_
    go_wp2_with fail
    go_ret
    exact ⟨ret_bool HF.out.symm, hxW.trans hx2⟩

set_option maxHeartbeats 1000000 in
theorem rgood_any (vv vs : Value) (lv ls : List (BitVec 64)) (g p : Int) (v : BitVec 64) (x0 x1 x2 x3 x4 x5 x6 x7 : BitVec 8) (w : World) (hlv : lv.length ≤ 100000) (hls : ls.length ≤ 100000) (hg : -9223372036854775808 ≤ g ∧ g ≤ 9223372036854775807) (hp : -9223372036854775808 ≤ p ∧ p ≤ 9223372036854775807) (h1 : SliceAt encU w vv lv) (h2 : SliceAt encU w vs ls) :
    Calls Try.prog 23 #[.agg #[vv, vs], .int .i64 g, .int .i64 p, encU v, .agg #[encB x0, encB x1, encB x2, encB x3, encB x4, encB x5, encB x6, encB x7]] w fun e w' => e = .returned (.bool (goodB lv ls g p v [x0, x1, x2, x3, x4, x5, x6, x7])) ∧ Below w.heap.size w w' := by
  have H1 := Lib.hid h1
  have H2 := Lib.hid h2
  obtain ⟨ad1, cap1, rfl, hc1, _⟩ := h1
  obtain ⟨ad2, cap2, rfl, hc2, _⟩ := h2
  by_cases hneg : p < 0
  · have HF := Lib.hid (goodB_no (lv := lv) (ls := ls) (g := g) (p := p) (v := v) (d := [x0, x1, x2, x3, x4, x5, x6, x7]) (.inl hneg))
    have hd0 : decide (0 ≤ p) = false := by rw [decide_eq_false_iff_not]; omega
    go_enter Try.func23, Try.ntmps23
    go_wp2_with fail
    have hxW : Ext w ((w.alloc (.cells #[.slice ad1 lv.length cap1, .slice ad2 ls.length cap2] 32)).alloc (.cells #[encB x0, encB x1, encB x2, encB x3, encB x4, encB x5, encB x6, encB x7] 24)) := Ext.trans (Ext.alloc _ _) (Ext.alloc _ _)
    have hz : w.heap.size + 1 < ((w.alloc (.cells #[.slice ad1 lv.length cap1, .slice ad2 ls.length cap2] 32)).alloc (.cells #[encB x0, encB x1, encB x2, encB x3, encB x4, encB x5, encB x6, encB x7] 24)).heap.size := by simp
    generalize hW : (w.alloc (.cells #[.slice ad1 lv.length cap1, .slice ad2 ls.length cap2] 32)).alloc (.cells #[encB x0, encB x1, encB x2, encB x3, encB x4, encB x5, encB x6, encB x7] 24) = W at *
    have c0 : W.cell? ⟨w.heap.size, 0, none⟩ = some (.slice ad1 lv.length cap1) := by rw [← hW]; simp
    have c1 : W.cell? ⟨w.heap.size, 1, none⟩ = some (.slice ad2 ls.length cap2) := by rw [← hW]; simp
    have d0 : W.cell? ⟨w.heap.size + 1, 0, none⟩ = some (encB x0) := by rw [← hW]; simp
    have d1 : W.cell? ⟨w.heap.size + 1, 1, none⟩ = some (encB x1) := by rw [← hW]; simp
    have d2 : W.cell? ⟨w.heap.size + 1, 2, none⟩ = some (encB x2) := by rw [← hW]; simp
    have d3 : W.cell? ⟨w.heap.size + 1, 3, none⟩ = some (encB x3) := by rw [← hW]; simp
    have d4 : W.cell? ⟨w.heap.size + 1, 4, none⟩ = some (encB x4) := by rw [← hW]; simp
    have d5 : W.cell? ⟨w.heap.size + 1, 5, none⟩ = some (encB x5) := by rw [← hW]; simp
    have d6 : W.cell? ⟨w.heap.size + 1, 6, none⟩ = some (encB x6) := by rw [← hW]; simp
    have d7 : W.cell? ⟨w.heap.size + 1, 7, none⟩ = some (encB x7) := by rw [← hW]; simp
    have hz0 : w.heap.size < W.heap.size := by omega
    have hxd := Ext.drew W
    have H1W := Lib.hid (H1.out.ext (hxW.trans hxd))
    have H2W := Lib.hid (H2.out.ext (hxW.trans hxd))
    clear hW
    refine wp_region_ext [(0, true), (1, true), (2, true), (3, true), (4, true), (5, false), (6, true), (7, true), (8, true), (9, true), (10, true), (11, true), (12, true), (13, true), (14, true), (15, true), (16, true), (17, true), (18, true), (19, true), (20, true), (21, true), (22, true), (23, true), (24, true), (25, true), (26, true), (27, false), (28, true), (29, true), (30, true)] (by kernel_rfl) (by kernel_rfl) ?_
    iterate 5 (first
     | (refine ext_move rfl rfl (by rfl) (by rfl) ?_; simp only [Act.put, List.setIfInBounds_toArray, List.set_cons_zero, List.set_cons_succ])
     | (refine ext_assign rfl rfl (by rfl) (by rfl) ?_; simp only [Act.put, List.setIfInBounds_toArray, List.set_cons_zero, List.set_cons_succ])
     | (refine ext_pick_t rfl rfl (by rfl) (by rfl) (by rfl) ?_; simp only [Act.put, List.setIfInBounds_toArray, List.set_cons_zero, List.set_cons_succ])
     | (refine ext_pick_f rfl rfl (by rfl) (by rfl) (by rfl) ?_; simp only [Act.put, List.setIfInBounds_toArray, List.set_cons_zero, List.set_cons_succ])
     | (apply ext_take rfl (by rfl)
        · intro w' hS
          have hSc := hS.cells
          (try simp only [World.size_drew, World.cell?_drew] at hSc)
          go_simp
          (try simp (disch := omega) only [i64_id, u64_id, ↓IntWalk.iteOmega, Int.tdiv_eq_ediv_of_nonneg, Int.tmod_eq_emod_of_nonneg])
          try rfl
        simp only [Act.put, List.setIfInBounds_toArray, List.set_cons_zero, List.set_cons_succ])
     | (refine ext_pass rfl (by rfl) ?_; simp only [Act.put, List.setIfInBounds_toArray, List.set_cons_zero, List.set_cons_succ]))
    (refine ext_passE rfl (by rfl) (by first | (with_reducible exact Ext.refl _) | (with_reducible exact Ext.drew _)) ?_; simp only [Act.put, List.setIfInBounds_toArray, List.set_cons_zero, List.set_cons_succ])
    iterate 21 (first
     | (refine ext_move rfl rfl (by rfl) (by rfl) ?_; simp only [Act.put, List.setIfInBounds_toArray, List.set_cons_zero, List.set_cons_succ])
     | (refine ext_assign rfl rfl (by rfl) (by rfl) ?_; simp only [Act.put, List.setIfInBounds_toArray, List.set_cons_zero, List.set_cons_succ])
     | (refine ext_pick_t rfl rfl (by rfl) (by rfl) (by rfl) ?_; simp only [Act.put, List.setIfInBounds_toArray, List.set_cons_zero, List.set_cons_succ])
     | (refine ext_pick_f rfl rfl (by rfl) (by rfl) (by rfl) ?_; simp only [Act.put, List.setIfInBounds_toArray, List.set_cons_zero, List.set_cons_succ])
     | (apply ext_take rfl (by rfl)
        · intro w' hS
          have hSc := hS.cells
          (try simp only [World.size_drew, World.cell?_drew] at hSc)
          go_simp
          (try simp (disch := omega) only [i64_id, u64_id, ↓IntWalk.iteOmega, Int.tdiv_eq_ediv_of_nonneg, Int.tmod_eq_emod_of_nonneg])
          try rfl
        simp only [Act.put, List.setIfInBounds_toArray, List.set_cons_zero, List.set_cons_succ])
     | (refine ext_pass rfl (by rfl) ?_; simp only [Act.put, List.setIfInBounds_toArray, List.set_cons_zero, List.set_cons_succ]))
    (refine ext_passE rfl (by rfl) (by first | (with_reducible exact Ext.refl _) | (with_reducible exact Ext.drew _)) ?_; simp only [Act.put, List.setIfInBounds_toArray, List.set_cons_zero, List.set_cons_succ])
    iterate 3 (first
     | (refine ext_move rfl rfl (by rfl) (by rfl) ?_; simp only [Act.put, List.setIfInBounds_toArray, List.set_cons_zero, List.set_cons_succ])
     | (refine ext_assign rfl rfl (by rfl) (by rfl) ?_; simp only [Act.put, List.setIfInBounds_toArray, List.set_cons_zero, List.set_cons_succ])
     | (refine ext_pick_t rfl rfl (by rfl) (by rfl) (by rfl) ?_; simp only [Act.put, List.setIfInBounds_toArray, List.set_cons_zero, List.set_cons_succ])
     | (refine ext_pick_f rfl rfl (by rfl) (by rfl) (by rfl) ?_; simp only [Act.put, List.setIfInBounds_toArray, List.set_cons_zero, List.set_cons_succ])
     | (apply ext_take rfl (by rfl)
        · intro w' hS
          have hSc := hS.cells
          (try simp only [World.size_drew, World.cell?_drew] at hSc)
          go_simp
          (try simp (disch := omega) only [i64_id, u64_id, ↓IntWalk.iteOmega, Int.tdiv_eq_ediv_of_nonneg, Int.tmod_eq_emod_of_nonneg])
          try rfl
        simp only [Act.put, List.setIfInBounds_toArray, List.set_cons_zero, List.set_cons_succ])
     | (refine ext_pass rfl (by rfl) ?_; simp only [Act.put, List.setIfInBounds_toArray, List.set_cons_zero, List.set_cons_succ]))
    refine ext_nil ?_
    go_wp2_with fail
    go_ret
    exact ⟨ret_bool HF.out.symm, hxW.trans hxd⟩
  obtain ⟨k, rfl⟩ := Int.eq_ofNat_of_zero_le (show 0 ≤ p by omega)
  have hk0 : (0 : Int) ≤ (k : Int) := by omega
  clear hneg
  by_cases hge : min lv.length ls.length ≤ k
  · have HF := Lib.hid (goodB_no (lv := lv) (ls := ls) (g := g) (p := k) (v := v) (d := [x0, x1, x2, x3, x4, x5, x6, x7]) (.inr (by omega)))
    have hge' : ((min lv.length ls.length : Nat) : Int) ≤ (k : Int) := by omega
    have hgeN : decide (k < min lv.length ls.length) = false := by rw [decide_eq_false_iff_not]; omega
    have hge2 : decide ((k : Int) < ((min lv.length ls.length : Nat) : Int)) = false := by rw [decide_eq_false_iff_not]; omega
    go_enter Try.func23, Try.ntmps23
    go_wp2_with fail
    have hxW : Ext w ((w.alloc (.cells #[.slice ad1 lv.length cap1, .slice ad2 ls.length cap2] 32)).alloc (.cells #[encB x0, encB x1, encB x2, encB x3, encB x4, encB x5, encB x6, encB x7] 24)) := Ext.trans (Ext.alloc _ _) (Ext.alloc _ _)
    have hz : w.heap.size + 1 < ((w.alloc (.cells #[.slice ad1 lv.length cap1, .slice ad2 ls.length cap2] 32)).alloc (.cells #[encB x0, encB x1, encB x2, encB x3, encB x4, encB x5, encB x6, encB x7] 24)).heap.size := by simp
    generalize hW : (w.alloc (.cells #[.slice ad1 lv.length cap1, .slice ad2 ls.length cap2] 32)).alloc (.cells #[encB x0, encB x1, encB x2, encB x3, encB x4, encB x5, encB x6, encB x7] 24) = W at *
    have c0 : W.cell? ⟨w.heap.size, 0, none⟩ = some (.slice ad1 lv.length cap1) := by rw [← hW]; simp
    have c1 : W.cell? ⟨w.heap.size, 1, none⟩ = some (.slice ad2 ls.length cap2) := by rw [← hW]; simp
    have d0 : W.cell? ⟨w.heap.size + 1, 0, none⟩ = some (encB x0) := by rw [← hW]; simp
    have d1 : W.cell? ⟨w.heap.size + 1, 1, none⟩ = some (encB x1) := by rw [← hW]; simp
    have d2 : W.cell? ⟨w.heap.size + 1, 2, none⟩ = some (encB x2) := by rw [← hW]; simp
    have d3 : W.cell? ⟨w.heap.size + 1, 3, none⟩ = some (encB x3) := by rw [← hW]; simp
    have d4 : W.cell? ⟨w.heap.size + 1, 4, none⟩ = some (encB x4) := by rw [← hW]; simp
    have d5 : W.cell? ⟨w.heap.size + 1, 5, none⟩ = some (encB x5) := by rw [← hW]; simp
    have d6 : W.cell? ⟨w.heap.size + 1, 6, none⟩ = some (encB x6) := by rw [← hW]; simp
    have d7 : W.cell? ⟨w.heap.size + 1, 7, none⟩ = some (encB x7) := by rw [← hW]; simp
    have hz0 : w.heap.size < W.heap.size := by omega
    have hxd := Ext.drew W
    have H1W := Lib.hid (H1.out.ext (hxW.trans hxd))
    have H2W := Lib.hid (H2.out.ext (hxW.trans hxd))
    clear hW
    refine wp_region_ext [(0, true), (1, true), (2, true), (3, true), (4, true), (5, false), (6, true), (7, true), (8, true), (9, true), (10, true), (11, true), (12, true), (13, true), (14, true), (15, true), (16, true), (17, true), (18, true), (19, true), (20, true), (21, true), (22, true), (23, true), (24, true), (25, true), (26, true), (27, false), (28, true), (29, true), (30, true)] (by kernel_rfl) (by kernel_rfl) ?_
    iterate 5 (first
     | (refine ext_move rfl rfl (by rfl) (by rfl) ?_; simp only [Act.put, List.setIfInBounds_toArray, List.set_cons_zero, List.set_cons_succ])
     | (refine ext_assign rfl rfl (by rfl) (by rfl) ?_; simp only [Act.put, List.setIfInBounds_toArray, List.set_cons_zero, List.set_cons_succ])
     | (refine ext_pick_t rfl rfl (by rfl) (by rfl) (by rfl) ?_; simp only [Act.put, List.setIfInBounds_toArray, List.set_cons_zero, List.set_cons_succ])
     | (refine ext_pick_f rfl rfl (by rfl) (by rfl) (by rfl) ?_; simp only [Act.put, List.setIfInBounds_toArray, List.set_cons_zero, List.set_cons_succ])
     | (apply ext_take rfl (by rfl)
        · intro w' hS
          have hSc := hS.cells
          (try simp only [World.size_drew, World.cell?_drew] at hSc)
          go_simp
          (try simp (disch := omega) only [i64_id, u64_id, ↓IntWalk.iteOmega, Int.tdiv_eq_ediv_of_nonneg, Int.tmod_eq_emod_of_nonneg])
          try rfl
        simp only [Act.put, List.setIfInBounds_toArray, List.set_cons_zero, List.set_cons_succ])
     | (refine ext_pass rfl (by rfl) ?_; simp only [Act.put, List.setIfInBounds_toArray, List.set_cons_zero, List.set_cons_succ]))
    (refine ext_do rfl (by rfl) (fun K hK => ?_)
     go_simp
     go_at_call 31
     refine (width_any _ _ lv ls _ hlv hls H1W.out H2W.out).mono ?_
     rintro e w2 ⟨rfl, hb2⟩
     have hx2 : Ext W w2 := hxd.trans hb2
     have hc2 := hx2.cells
     have hs2 := hx2.size
     have hq2 := Below.size hb2
     have hlt2 := Nat.lt_of_lt_of_le hz hs2
     skip
     refine hK _ _ (by first | exact hb2 | exact (Ext.drew _).trans hb2) ?_
     clear hK K
     (try simp only [Act.put, List.setIfInBounds_toArray, List.set_cons_zero, List.set_cons_succ]))
    iterate 21 (first
     | (refine ext_move rfl rfl (by rfl) (by rfl) ?_; simp only [Act.put, List.setIfInBounds_toArray, List.set_cons_zero, List.set_cons_succ])
     | (refine ext_assign rfl rfl (by rfl) (by rfl) ?_; simp only [Act.put, List.setIfInBounds_toArray, List.set_cons_zero, List.set_cons_succ])
     | (refine ext_pick_t rfl rfl (by rfl) (by rfl) (by rfl) ?_; simp only [Act.put, List.setIfInBounds_toArray, List.set_cons_zero, List.set_cons_succ])
     | (refine ext_pick_f rfl rfl (by rfl) (by rfl) (by rfl) ?_; simp only [Act.put, List.setIfInBounds_toArray, List.set_cons_zero, List.set_cons_succ])
     | (apply ext_take rfl (by rfl)
        · intro w' hS
          have hSc := hS.cells
          (try simp only [World.size_drew, World.cell?_drew] at hSc)
          go_simp
          (try simp (disch := omega) only [i64_id, u64_id, ↓IntWalk.iteOmega, Int.tdiv_eq_ediv_of_nonneg, Int.tmod_eq_emod_of_nonneg])
          try rfl
        simp only [Act.put, List.setIfInBounds_toArray, List.set_cons_zero, List.set_cons_succ])
     | (refine ext_pass rfl (by rfl) ?_; simp only [Act.put, List.setIfInBounds_toArray, List.set_cons_zero, List.set_cons_succ]))
    (refine ext_passE rfl (by rfl) (by first | (with_reducible exact Ext.refl _) | (with_reducible exact Ext.drew _)) ?_; simp only [Act.put, List.setIfInBounds_toArray, List.set_cons_zero, List.set_cons_succ])
    iterate 3 (first
     | (refine ext_move rfl rfl (by rfl) (by rfl) ?_; simp only [Act.put, List.setIfInBounds_toArray, List.set_cons_zero, List.set_cons_succ])
     | (refine ext_assign rfl rfl (by rfl) (by rfl) ?_; simp only [Act.put, List.setIfInBounds_toArray, List.set_cons_zero, List.set_cons_succ])
     | (refine ext_pick_t rfl rfl (by rfl) (by rfl) (by rfl) ?_; simp only [Act.put, List.setIfInBounds_toArray, List.set_cons_zero, List.set_cons_succ])
     | (refine ext_pick_f rfl rfl (by rfl) (by rfl) (by rfl) ?_; simp only [Act.put, List.setIfInBounds_toArray, List.set_cons_zero, List.set_cons_succ])
     | (apply ext_take rfl (by rfl)
        · intro w' hS
          have hSc := hS.cells
          (try simp only [World.size_drew, World.cell?_drew] at hSc)
          go_simp
          (try simp (disch := omega) only [i64_id, u64_id, ↓IntWalk.iteOmega, Int.tdiv_eq_ediv_of_nonneg, Int.tmod_eq_emod_of_nonneg])
          try rfl
        simp only [Act.put, List.setIfInBounds_toArray, List.set_cons_zero, List.set_cons_succ])
     | (refine ext_pass rfl (by rfl) ?_; simp only [Act.put, List.setIfInBounds_toArray, List.set_cons_zero, List.set_cons_succ]))
    refine ext_nil ?_
    go_wp2_with fail
    go_ret
    exact ⟨ret_bool HF.out.symm, hxW.trans hx2⟩
  have hlt : k < min lv.length ls.length := by omega
  have hk1 : k < lv.length := by omega
  have hk2 : k < ls.length := by omega
  have hltN : decide (k < min lv.length ls.length) = true := by rw [decide_eq_true_eq]; omega
  have hlt' : decide ((k : Int) < ((min lv.length ls.length : Nat) : Int)) = true := by rw [decide_eq_true_eq]; omega
  obtain ⟨b1, o1, rfl, hb1, e1⟩ := H1.out.get k hk1
  obtain ⟨b2, o2, rfl, hb2, e2⟩ := H2.out.get k hk2
  have g1 : lv.getD k 0#64 = lv[k] := by rw [List.getD_eq_getElem?_getD, List.getElem?_eq_getElem hk1]; rfl
  have g2 : ls.getD k 0#64 = ls[k] := by rw [List.getD_eq_getElem?_getD, List.getElem?_eq_getElem hk2]; rfl
  rw [← g1] at e1
  rw [← g2] at e2
  by_cases hv : lv.getD k 0#64 = v
  · have HF := Lib.hid (goodB_in (g := g) (d := [x0, x1, x2, x3, x4, x5, x6, x7]) hlt hv)
    rw [hv] at e1
    generalize ls.getD k 0#64 = q at *
    clear g1 g2 hv hge hlt hc1 hc2
    go_enter Try.func23, Try.ntmps23
    go_wp2_with fail
    have hxW : Ext w ((w.alloc (.cells #[.slice (some ⟨b1, o1, none⟩) lv.length cap1, .slice (some ⟨b2, o2, none⟩) ls.length cap2] 32)).alloc (.cells #[encB x0, encB x1, encB x2, encB x3, encB x4, encB x5, encB x6, encB x7] 24)) := Ext.trans (Ext.alloc _ _) (Ext.alloc _ _)
    have hz : w.heap.size + 1 < ((w.alloc (.cells #[.slice (some ⟨b1, o1, none⟩) lv.length cap1, .slice (some ⟨b2, o2, none⟩) ls.length cap2] 32)).alloc (.cells #[encB x0, encB x1, encB x2, encB x3, encB x4, encB x5, encB x6, encB x7] 24)).heap.size := by simp
    generalize hW : (w.alloc (.cells #[.slice (some ⟨b1, o1, none⟩) lv.length cap1, .slice (some ⟨b2, o2, none⟩) ls.length cap2] 32)).alloc (.cells #[encB x0, encB x1, encB x2, encB x3, encB x4, encB x5, encB x6, encB x7] 24) = W at *
    have c0 : W.cell? ⟨w.heap.size, 0, none⟩ = some (.slice (some ⟨b1, o1, none⟩) lv.length cap1) := by rw [← hW]; simp
    have c1 : W.cell? ⟨w.heap.size, 1, none⟩ = some (.slice (some ⟨b2, o2, none⟩) ls.length cap2) := by rw [← hW]; simp
    have d0 : W.cell? ⟨w.heap.size + 1, 0, none⟩ = some (encB x0) := by rw [← hW]; simp
    have d1 : W.cell? ⟨w.heap.size + 1, 1, none⟩ = some (encB x1) := by rw [← hW]; simp
    have d2 : W.cell? ⟨w.heap.size + 1, 2, none⟩ = some (encB x2) := by rw [← hW]; simp
    have d3 : W.cell? ⟨w.heap.size + 1, 3, none⟩ = some (encB x3) := by rw [← hW]; simp
    have d4 : W.cell? ⟨w.heap.size + 1, 4, none⟩ = some (encB x4) := by rw [← hW]; simp
    have d5 : W.cell? ⟨w.heap.size + 1, 5, none⟩ = some (encB x5) := by rw [← hW]; simp
    have d6 : W.cell? ⟨w.heap.size + 1, 6, none⟩ = some (encB x6) := by rw [← hW]; simp
    have d7 : W.cell? ⟨w.heap.size + 1, 7, none⟩ = some (encB x7) := by rw [← hW]; simp
    have hz0 : w.heap.size < W.heap.size := by omega
    have hxd := Ext.drew W
    have H1W := Lib.hid (H1.out.ext (hxW.trans hxd))
    have H2W := Lib.hid (H2.out.ext (hxW.trans hxd))
    have f1 := (hxW.cell b1 _ hb1).trans e1
    have f2 := (hxW.cell b2 _ hb2).trans e2
    have hbW1 : b1 < W.heap.size := by omega
    have hbW2 : b2 < W.heap.size := by omega
    clear hW
    refine wp_region_ext [(0, true), (1, true), (2, true), (3, true), (4, true), (5, false), (6, true), (7, true), (8, true), (9, true), (10, true), (11, true), (12, true), (13, true), (14, true), (15, true), (16, true), (17, true), (18, true), (19, true), (20, true), (21, true), (22, true), (23, true), (24, true), (25, true), (26, true), (27, false), (28, true), (29, true), (30, true)] (by kernel_rfl) (by kernel_rfl) ?_
    iterate 5 (first
     | (refine ext_move rfl rfl (by rfl) (by rfl) ?_; simp only [Act.put, List.setIfInBounds_toArray, List.set_cons_zero, List.set_cons_succ])
     | (refine ext_assign rfl rfl (by rfl) (by rfl) ?_; simp only [Act.put, List.setIfInBounds_toArray, List.set_cons_zero, List.set_cons_succ])
     | (refine ext_pick_t rfl rfl (by rfl) (by rfl) (by rfl) ?_; simp only [Act.put, List.setIfInBounds_toArray, List.set_cons_zero, List.set_cons_succ])
     | (refine ext_pick_f rfl rfl (by rfl) (by rfl) (by rfl) ?_; simp only [Act.put, List.setIfInBounds_toArray, List.set_cons_zero, List.set_cons_succ])
     | (apply ext_take rfl (by rfl)
        · intro w' hS
          have hSc := hS.cells
          (try simp only [World.size_drew, World.cell?_drew] at hSc)
          go_simp
          (try simp (disch := omega) only [i64_id, u64_id, ↓IntWalk.iteOmega, Int.tdiv_eq_ediv_of_nonneg, Int.tmod_eq_emod_of_nonneg])
          try rfl
        simp only [Act.put, List.setIfInBounds_toArray, List.set_cons_zero, List.set_cons_succ])
     | (refine ext_pass rfl (by rfl) ?_; simp only [Act.put, List.setIfInBounds_toArray, List.set_cons_zero, List.set_cons_succ]))
    (refine ext_do rfl (by rfl) (fun K hK => ?_)
     go_simp
     go_at_call 31
     refine (width_any _ _ lv ls _ hlv hls H1W.out H2W.out).mono ?_
     rintro e w2 ⟨rfl, hb2⟩
     have hx2 : Ext W w2 := hxd.trans hb2
     have hc2 := hx2.cells
     have hs2 := hx2.size
     have hq2 := Below.size hb2
     have hlt2 := Nat.lt_of_lt_of_le hz hs2
     have hm2 : w.heap.size < w2.heap.size := (by omega); have hn1 : b1 < w2.heap.size := (by omega); have hn2 : b2 < w2.heap.size := (by omega)
     refine hK _ _ (by first | exact hb2 | exact (Ext.drew _).trans hb2) ?_
     clear hK K
     (try simp only [Act.put, List.setIfInBounds_toArray, List.set_cons_zero, List.set_cons_succ]))
    iterate 21 (first
     | (refine ext_move rfl rfl (by rfl) (by rfl) ?_; simp only [Act.put, List.setIfInBounds_toArray, List.set_cons_zero, List.set_cons_succ])
     | (refine ext_assign rfl rfl (by rfl) (by rfl) ?_; simp only [Act.put, List.setIfInBounds_toArray, List.set_cons_zero, List.set_cons_succ])
     | (refine ext_pick_t rfl rfl (by rfl) (by rfl) (by rfl) ?_; simp only [Act.put, List.setIfInBounds_toArray, List.set_cons_zero, List.set_cons_succ])
     | (refine ext_pick_f rfl rfl (by rfl) (by rfl) (by rfl) ?_; simp only [Act.put, List.setIfInBounds_toArray, List.set_cons_zero, List.set_cons_succ])
     | (apply ext_take rfl (by rfl)
        · intro w' hS
          have hSc := hS.cells
          (try simp only [World.size_drew, World.cell?_drew] at hSc)
          go_simp
          (try simp (disch := omega) only [i64_id, u64_id, ↓IntWalk.iteOmega, Int.tdiv_eq_ediv_of_nonneg, Int.tmod_eq_emod_of_nonneg])
          try rfl
        simp only [Act.put, List.setIfInBounds_toArray, List.set_cons_zero, List.set_cons_succ])
     | (refine ext_pass rfl (by rfl) ?_; simp only [Act.put, List.setIfInBounds_toArray, List.set_cons_zero, List.set_cons_succ]))
    (refine ext_do rfl (by rfl) (fun K hK => ?_)
     go_simp
     go_at_call 12
     refine (rpsum_any g k v x0 x1 x2 x3 x4 x5 x6 x7 _ hg ⟨by omega, by omega⟩).mono ?_
     rintro e w3 ⟨rfl, hb3⟩
     have hx3 : Ext W w3 := hx2.trans hb3
     have hc3 := hx3.cells
     have hs3 := hx3.size
     have hq3 := Below.size hb3
     have hlt3 := Nat.lt_of_lt_of_le hz hs3
     skip
     refine hK _ _ (by first | exact hb3 | exact (Ext.drew _).trans hb3) ?_
     clear hK K
     (try simp only [Act.put, List.setIfInBounds_toArray, List.set_cons_zero, List.set_cons_succ]))
    iterate 3 (first
     | (refine ext_move rfl rfl (by rfl) (by rfl) ?_; simp only [Act.put, List.setIfInBounds_toArray, List.set_cons_zero, List.set_cons_succ])
     | (refine ext_assign rfl rfl (by rfl) (by rfl) ?_; simp only [Act.put, List.setIfInBounds_toArray, List.set_cons_zero, List.set_cons_succ])
     | (refine ext_pick_t rfl rfl (by rfl) (by rfl) (by rfl) ?_; simp only [Act.put, List.setIfInBounds_toArray, List.set_cons_zero, List.set_cons_succ])
     | (refine ext_pick_f rfl rfl (by rfl) (by rfl) (by rfl) ?_; simp only [Act.put, List.setIfInBounds_toArray, List.set_cons_zero, List.set_cons_succ])
     | (apply ext_take rfl (by rfl)
        · intro w' hS
          have hSc := hS.cells
          (try simp only [World.size_drew, World.cell?_drew] at hSc)
          go_simp
          (try simp (disch := omega) only [i64_id, u64_id, ↓IntWalk.iteOmega, Int.tdiv_eq_ediv_of_nonneg, Int.tmod_eq_emod_of_nonneg])
          try rfl
        simp only [Act.put, List.setIfInBounds_toArray, List.set_cons_zero, List.set_cons_succ])
     | (refine ext_pass rfl (by rfl) ?_; simp only [Act.put, List.setIfInBounds_toArray, List.set_cons_zero, List.set_cons_succ]))
    refine ext_nil ?_
    go_wp2_with fail
    go_ret
    exact ⟨ret_bool HF.out.symm, hxW.trans hx3⟩
  · have HF := Lib.hid (goodB_ver (ls := ls) (g := g) (k := k) (d := [x0, x1, x2, x3, x4, x5, x6, x7]) hv)
    have hvf : decide (lv.getD k 0#64 = v) = false := by rw [decide_eq_false_iff_not]; exact hv
    generalize lv.getD k 0#64 = q1 at *
    clear g1 g2 hv hge hlt hc1 hc2
    go_enter Try.func23, Try.ntmps23
    go_wp2_with fail
    have hxW : Ext w ((w.alloc (.cells #[.slice (some ⟨b1, o1, none⟩) lv.length cap1, .slice (some ⟨b2, o2, none⟩) ls.length cap2] 32)).alloc (.cells #[encB x0, encB x1, encB x2, encB x3, encB x4, encB x5, encB x6, encB x7] 24)) := Ext.trans (Ext.alloc _ _) (Ext.alloc _ _)
    have hz : w.heap.size + 1 < ((w.alloc (.cells #[.slice (some ⟨b1, o1, none⟩) lv.length cap1, .slice (some ⟨b2, o2, none⟩) ls.length cap2] 32)).alloc (.cells #[encB x0, encB x1, encB x2, encB x3, encB x4, encB x5, encB x6, encB x7] 24)).heap.size := by simp
    generalize hW : (w.alloc (.cells #[.slice (some ⟨b1, o1, none⟩) lv.length cap1, .slice (some ⟨b2, o2, none⟩) ls.length cap2] 32)).alloc (.cells #[encB x0, encB x1, encB x2, encB x3, encB x4, encB x5, encB x6, encB x7] 24) = W at *
    have c0 : W.cell? ⟨w.heap.size, 0, none⟩ = some (.slice (some ⟨b1, o1, none⟩) lv.length cap1) := by rw [← hW]; simp
    have c1 : W.cell? ⟨w.heap.size, 1, none⟩ = some (.slice (some ⟨b2, o2, none⟩) ls.length cap2) := by rw [← hW]; simp
    have d0 : W.cell? ⟨w.heap.size + 1, 0, none⟩ = some (encB x0) := by rw [← hW]; simp
    have d1 : W.cell? ⟨w.heap.size + 1, 1, none⟩ = some (encB x1) := by rw [← hW]; simp
    have d2 : W.cell? ⟨w.heap.size + 1, 2, none⟩ = some (encB x2) := by rw [← hW]; simp
    have d3 : W.cell? ⟨w.heap.size + 1, 3, none⟩ = some (encB x3) := by rw [← hW]; simp
    have d4 : W.cell? ⟨w.heap.size + 1, 4, none⟩ = some (encB x4) := by rw [← hW]; simp
    have d5 : W.cell? ⟨w.heap.size + 1, 5, none⟩ = some (encB x5) := by rw [← hW]; simp
    have d6 : W.cell? ⟨w.heap.size + 1, 6, none⟩ = some (encB x6) := by rw [← hW]; simp
    have d7 : W.cell? ⟨w.heap.size + 1, 7, none⟩ = some (encB x7) := by rw [← hW]; simp
    have hz0 : w.heap.size < W.heap.size := by omega
    have hxd := Ext.drew W
    have H1W := Lib.hid (H1.out.ext (hxW.trans hxd))
    have H2W := Lib.hid (H2.out.ext (hxW.trans hxd))
    have f1 := (hxW.cell b1 _ hb1).trans e1
    have f2 := (hxW.cell b2 _ hb2).trans e2
    have hbW1 : b1 < W.heap.size := by omega
    have hbW2 : b2 < W.heap.size := by omega
    clear hW
    refine wp_region_ext [(0, true), (1, true), (2, true), (3, true), (4, true), (5, false), (6, true), (7, true), (8, true), (9, true), (10, true), (11, true), (12, true), (13, true), (14, true), (15, true), (16, true), (17, true), (18, true), (19, true), (20, true), (21, true), (22, true), (23, true), (24, true), (25, true), (26, true), (27, false), (28, true), (29, true), (30, true)] (by kernel_rfl) (by kernel_rfl) ?_
    iterate 5 (first
     | (refine ext_move rfl rfl (by rfl) (by rfl) ?_; simp only [Act.put, List.setIfInBounds_toArray, List.set_cons_zero, List.set_cons_succ])
     | (refine ext_assign rfl rfl (by rfl) (by rfl) ?_; simp only [Act.put, List.setIfInBounds_toArray, List.set_cons_zero, List.set_cons_succ])
     | (refine ext_pick_t rfl rfl (by rfl) (by rfl) (by rfl) ?_; simp only [Act.put, List.setIfInBounds_toArray, List.set_cons_zero, List.set_cons_succ])
     | (refine ext_pick_f rfl rfl (by rfl) (by rfl) (by rfl) ?_; simp only [Act.put, List.setIfInBounds_toArray, List.set_cons_zero, List.set_cons_succ])
     | (apply ext_take rfl (by rfl)
        · intro w' hS
          have hSc := hS.cells
          (try simp only [World.size_drew, World.cell?_drew] at hSc)
          go_simp
          (try simp (disch := omega) only [i64_id, u64_id, ↓IntWalk.iteOmega, Int.tdiv_eq_ediv_of_nonneg, Int.tmod_eq_emod_of_nonneg])
          try rfl
        simp only [Act.put, List.setIfInBounds_toArray, List.set_cons_zero, List.set_cons_succ])
     | (refine ext_pass rfl (by rfl) ?_; simp only [Act.put, List.setIfInBounds_toArray, List.set_cons_zero, List.set_cons_succ]))
    (refine ext_do rfl (by rfl) (fun K hK => ?_)
     go_simp
     go_at_call 31
     refine (width_any _ _ lv ls _ hlv hls H1W.out H2W.out).mono ?_
     rintro e w2 ⟨rfl, hb2⟩
     have hx2 : Ext W w2 := hxd.trans hb2
     have hc2 := hx2.cells
     have hs2 := hx2.size
     have hq2 := Below.size hb2
     have hlt2 := Nat.lt_of_lt_of_le hz hs2
     have hm2 : w.heap.size < w2.heap.size := (by omega); have hn1 : b1 < w2.heap.size := (by omega); have hn2 : b2 < w2.heap.size := (by omega)
     refine hK _ _ (by first | exact hb2 | exact (Ext.drew _).trans hb2) ?_
     clear hK K
     (try simp only [Act.put, List.setIfInBounds_toArray, List.set_cons_zero, List.set_cons_succ]))
    iterate 21 (first
     | (refine ext_move rfl rfl (by rfl) (by rfl) ?_; simp only [Act.put, List.setIfInBounds_toArray, List.set_cons_zero, List.set_cons_succ])
     | (refine ext_assign rfl rfl (by rfl) (by rfl) ?_; simp only [Act.put, List.setIfInBounds_toArray, List.set_cons_zero, List.set_cons_succ])
     | (refine ext_pick_t rfl rfl (by rfl) (by rfl) (by rfl) ?_; simp only [Act.put, List.setIfInBounds_toArray, List.set_cons_zero, List.set_cons_succ])
     | (refine ext_pick_f rfl rfl (by rfl) (by rfl) (by rfl) ?_; simp only [Act.put, List.setIfInBounds_toArray, List.set_cons_zero, List.set_cons_succ])
     | (apply ext_take rfl (by rfl)
        · intro w' hS
          have hSc := hS.cells
          (try simp only [World.size_drew, World.cell?_drew] at hSc)
          go_simp
          (try simp (disch := omega) only [i64_id, u64_id, ↓IntWalk.iteOmega, Int.tdiv_eq_ediv_of_nonneg, Int.tmod_eq_emod_of_nonneg])
          try rfl
        simp only [Act.put, List.setIfInBounds_toArray, List.set_cons_zero, List.set_cons_succ])
     | (refine ext_pass rfl (by rfl) ?_; simp only [Act.put, List.setIfInBounds_toArray, List.set_cons_zero, List.set_cons_succ]))
    (refine ext_passE rfl (by rfl) (by first | (with_reducible exact Ext.refl _) | (with_reducible exact Ext.drew _)) ?_; simp only [Act.put, List.setIfInBounds_toArray, List.set_cons_zero, List.set_cons_succ])
    iterate 3 (first
     | (refine ext_move rfl rfl (by rfl) (by rfl) ?_; simp only [Act.put, List.setIfInBounds_toArray, List.set_cons_zero, List.set_cons_succ])
     | (refine ext_assign rfl rfl (by rfl) (by rfl) ?_; simp only [Act.put, List.setIfInBounds_toArray, List.set_cons_zero, List.set_cons_succ])
     | (refine ext_pick_t rfl rfl (by rfl) (by rfl) (by rfl) ?_; simp only [Act.put, List.setIfInBounds_toArray, List.set_cons_zero, List.set_cons_succ])
     | (refine ext_pick_f rfl rfl (by rfl) (by rfl) (by rfl) ?_; simp only [Act.put, List.setIfInBounds_toArray, List.set_cons_zero, List.set_cons_succ])
     | (apply ext_take rfl (by rfl)
        · intro w' hS
          have hSc := hS.cells
          (try simp only [World.size_drew, World.cell?_drew] at hSc)
          go_simp
          (try simp (disch := omega) only [i64_id, u64_id, ↓IntWalk.iteOmega, Int.tdiv_eq_ediv_of_nonneg, Int.tmod_eq_emod_of_nonneg])
          try rfl
        simp only [Act.put, List.setIfInBounds_toArray, List.set_cons_zero, List.set_cons_succ])
     | (refine ext_pass rfl (by rfl) ?_; simp only [Act.put, List.setIfInBounds_toArray, List.set_cons_zero, List.set_cons_succ]))
    refine ext_nil ?_
    go_wp2_with fail
    go_ret
    exact ⟨ret_bool HF.out.symm, hxW.trans hx2⟩

end Go.Proofs.Ytinnikbjphkkiaa
