/-
  Chapter 25 (piecesum): LeafSum of the reference.
-/
import Derived.Test.YtinnikbjphkkiaaPsL
namespace Go.Proofs.Ytinnikbjphkkiaa
open Go.RowKit
set_option linter.unusedVariables false

theorem le4_eq (x : BitVec 64) : le (4 : Int).toNat x = le 4 x := rfl
theorem le8_eq (x : BitVec 64) : le (8 : Int).toNat x = le 8 x := rfl

set_option maxHeartbeats 800000 in
theorem rlsum_any (g : Int) (vv vs : Value) (lv ls : List (BitVec 64)) (w : World) (hlv : lv.length ≤ 1000) (hls : ls.length ≤ 1000) (hg : -9223372036854775808 ≤ g ∧ g ≤ 9223372036854775807) (h1 : SliceAt encU w vv lv) (h2 : SliceAt encU w vs ls) :
    Calls Try.prog 25 #[.int .i64 g, .agg #[vv, vs]] w fun e w' => e = .returned (encU (lsum g lv ls)) ∧ Below w.heap.size w w' := by
  have H1 := Lib.hid h1
  have H2 := Lib.hid h2
  obtain ⟨ad1, cap1, rfl, hc1, _⟩ := h1
  obtain ⟨ad2, cap2, rfl, hc2, _⟩ := h2
  have hm1 : min lv.length ls.length ≤ lv.length := Nat.min_le_left _ _
  have hm2 : min lv.length ls.length ≤ ls.length := Nat.min_le_right _ _
  have hm3 : min lv.length ls.length ≤ 1000 := by omega
  have HS : Hid (Crc.sum (headL g (min lv.length ls.length) ++ pairL lv ls (min lv.length ls.length)) = lsum g lv ls) := by show _ = _; rfl
  have HCW := Lib.hid fun (x : World) (hx : Ext w x) => width_any _ _ lv ls x (by omega) (by omega) (H1.out.ext hx) (H2.out.ext hx)
  generalize hm : min lv.length ls.length = m at *
  have HM := Lib.hid hm
  have hw1 := wrap_ofInt g
  have hm0 : IntKind.u64.wrap (m : Int) = un (BitVec.ofNat 64 m) := by rw [wrap_ofInt]; rfl
  clear hm hc1 hc2
  go_enter Try.func25, Try.ntmps25
  go_wp2_with fail
  have hz : w.heap.size < (w.alloc (.cells #[.slice ad1 lv.length cap1, .slice ad2 ls.length cap2] 32)).heap.size := by simp
  have hsz : (w.alloc (.cells #[.slice ad1 lv.length cap1, .slice ad2 ls.length cap2] 32)).heap.size = w.heap.size + 1 := by simp
  generalize hW : w.alloc (.cells #[.slice ad1 lv.length cap1, .slice ad2 ls.length cap2] 32) = W at *
  have c0_0 : W.cell? ⟨w.heap.size, 0, none⟩ = some (.slice ad1 lv.length cap1) := by rw [← hW]; first | exact (World.cell?_alloc_at (hn := by first | (simp; done) | (simp; omega)) ..).trans rfl | (simp; done) | (go_simp; done)
  have c0_1 : W.cell? ⟨w.heap.size, 1, none⟩ = some (.slice ad2 ls.length cap2) := by rw [← hW]; first | exact (World.cell?_alloc_at (hn := by first | (simp; done) | (simp; omega)) ..).trans rfl | (simp; done) | (go_simp; done)
  have hf0 : ∀ o, W.frozen? ⟨w.heap.size, o, none⟩ = false := fun o => by rw [← hW]; first | exact World.frozen?_alloc_at (hn := by first | (simp; done) | (simp; omega)) .. | (simp; done) | (go_simp; done)
  have hxW : Ext w W := by rw [← hW]; exact Ext.alloc _ _
  clear hW
  have HSZ := Lib.hid hsz
  clear hsz
  have hxd := Ext.drew W
  refine wp_region_ext [(0, true), (1, true), (3, true), (2, false), (4, false), (5, true), (6, false), (7, true)] (by kernel_rfl) (by kernel_rfl) ?_
  iterate 3 (first
   | (refine ext_move rfl rfl (by rfl) (by rfl) ?_; simp only [Act.put, List.setIfInBounds_toArray, List.set_cons_zero, List.set_cons_succ])
   | (refine ext_assign rfl rfl (by rfl) (by rfl) ?_; simp only [Act.put, List.setIfInBounds_toArray, List.set_cons_zero, List.set_cons_succ])
   | (refine ext_pick_t rfl rfl (by rfl) (by rfl) (by rfl) ?_; simp only [Act.put, List.setIfInBounds_toArray, List.set_cons_zero, List.set_cons_succ])
   | (refine ext_pick_f rfl rfl (by rfl) (by rfl) (by rfl) ?_; simp only [Act.put, List.setIfInBounds_toArray, List.set_cons_zero, List.set_cons_succ])
   | (apply ext_take rfl (by rfl)
      · intro w' hS
        have hSc := hS.cells
        (try simp only [World.size_drew, World.cell?_drew] at hSc)
        go_simp
        (try simp (disch := omega) only [i64_id, u64_id, ↓IntWalk.iteOmega, Int.tdiv_eq_ediv_of_nonneg, Int.tmod_eq_emod_of_nonneg])
        try rfl
      simp only [Act.put, List.setIfInBounds_toArray, List.set_cons_zero, List.set_cons_succ])
   | (refine ext_pass rfl (by rfl) ?_; simp only [Act.put, List.setIfInBounds_toArray, List.set_cons_zero, List.set_cons_succ]))
  (refine ext_do rfl (by rfl) (fun K hK => ?_)
   go_simp
   go_at_call 28
   refine (rput_any _ [] (BitVec.ofInt 64 g) 4 _ (by simp) (by omega) SliceAt.nil).mono ?_
   rintro e w2 ⟨v2, rfl, ho2, hb2⟩
   have hx2 : Ext W w2 := hxd.trans hb2
   have hc2 := hx2.cells
   have hs2 := hx2.size
   have hq2 := Below.size hb2
   have hlt2 := Nat.lt_of_lt_of_le hz hs2
   (try have hlu2 := Nat.lt_of_lt_of_le hz0 hs2)
   (try have hlv2 := Nat.lt_of_lt_of_le hz1 hs2)
   have HO2 := Lib.hid ho2; clear ho2
   refine hK _ _ (by first | exact hb2 | exact (Ext.drew _).trans hb2) ?_
   clear hK K
   (try simp only [Act.put, List.setIfInBounds_toArray, List.set_cons_zero, List.set_cons_succ]))
  (refine ext_do rfl (by rfl) (fun K hK => ?_)
   go_simp
   go_at_call 31
   refine (HCW.out _ (hxW.trans hx2)).mono ?_
   rintro e w3 ⟨rfl, hb3⟩
   have hx3 : Ext W w3 := hx2.trans hb3
   have hc3 := hx3.cells
   have hs3 := hx3.size
   have hq3 := Below.size hb3
   have hlt3 := Nat.lt_of_lt_of_le hz hs3
   (try have hlu3 := Nat.lt_of_lt_of_le hz0 hs3)
   (try have hlv3 := Nat.lt_of_lt_of_le hz1 hs3)
   skip
   refine hK _ _ (by first | exact hb3 | exact (Ext.drew _).trans hb3) ?_
   clear hK K
   (try simp only [Act.put, List.setIfInBounds_toArray, List.set_cons_zero, List.set_cons_succ]))
  iterate 1 (first
   | (refine ext_move rfl rfl (by rfl) (by rfl) ?_; simp only [Act.put, List.setIfInBounds_toArray, List.set_cons_zero, List.set_cons_succ])
   | (refine ext_assign rfl rfl (by rfl) (by rfl) ?_; simp only [Act.put, List.setIfInBounds_toArray, List.set_cons_zero, List.set_cons_succ])
   | (refine ext_pick_t rfl rfl (by rfl) (by rfl) (by rfl) ?_; simp only [Act.put, List.setIfInBounds_toArray, List.set_cons_zero, List.set_cons_succ])
   | (refine ext_pick_f rfl rfl (by rfl) (by rfl) (by rfl) ?_; simp only [Act.put, List.setIfInBounds_toArray, List.set_cons_zero, List.set_cons_succ])
   | (apply ext_take rfl (by rfl)
      · intro w' hS
        have hSc := hS.cells
        (try simp only [World.size_drew, World.cell?_drew] at hSc)
        go_simp
        (try simp (disch := omega) only [i64_id, u64_id, ↓IntWalk.iteOmega, Int.tdiv_eq_ediv_of_nonneg, Int.tmod_eq_emod_of_nonneg])
        try rfl
      simp only [Act.put, List.setIfInBounds_toArray, List.set_cons_zero, List.set_cons_succ])
   | (refine ext_pass rfl (by rfl) ?_; simp only [Act.put, List.setIfInBounds_toArray, List.set_cons_zero, List.set_cons_succ]))
  (refine ext_do rfl (by rfl) (fun K hK => ?_)
   go_simp
   go_at_call 28
   refine (rput_any _ ([] ++ le (4 : Int).toNat (BitVec.ofInt 64 g)) (BitVec.ofNat 64 m) 4 _ (by simp [le_length]) (by omega) (SliceAt.ext (OwnB.slice HO2.out) hb3)).mono ?_
   rintro e w4 ⟨v4, rfl, ho4, hb4⟩
   have hx4 : Ext W w4 := hx3.trans hb4
   have hc4 := hx4.cells
   have hs4 := hx4.size
   have hq4 := Below.size hb4
   have hlt4 := Nat.lt_of_lt_of_le hz hs4
   (try have hlu4 := Nat.lt_of_lt_of_le hz0 hs4)
   (try have hlv4 := Nat.lt_of_lt_of_le hz1 hs4)
   have HO4 := Lib.hid ho4; clear ho4
   refine hK _ _ (by first | exact hb4 | exact (Ext.drew _).trans hb4) ?_
   clear hK K
   (try simp only [Act.put, List.setIfInBounds_toArray, List.set_cons_zero, List.set_cons_succ]))
  iterate 1 (first
   | (refine ext_move rfl rfl (by rfl) (by rfl) ?_; simp only [Act.put, List.setIfInBounds_toArray, List.set_cons_zero, List.set_cons_succ])
   | (refine ext_assign rfl rfl (by rfl) (by rfl) ?_; simp only [Act.put, List.setIfInBounds_toArray, List.set_cons_zero, List.set_cons_succ])
   | (refine ext_pick_t rfl rfl (by rfl) (by rfl) (by rfl) ?_; simp only [Act.put, List.setIfInBounds_toArray, List.set_cons_zero, List.set_cons_succ])
   | (refine ext_pick_f rfl rfl (by rfl) (by rfl) (by rfl) ?_; simp only [Act.put, List.setIfInBounds_toArray, List.set_cons_zero, List.set_cons_succ])
   | (apply ext_take rfl (by rfl)
      · intro w' hS
        have hSc := hS.cells
        (try simp only [World.size_drew, World.cell?_drew] at hSc)
        go_simp
        (try simp (disch := omega) only [i64_id, u64_id, ↓IntWalk.iteOmega, Int.tdiv_eq_ediv_of_nonneg, Int.tmod_eq_emod_of_nonneg])
        try rfl
      simp only [Act.put, List.setIfInBounds_toArray, List.set_cons_zero, List.set_cons_succ])
   | (refine ext_pass rfl (by rfl) ?_; simp only [Act.put, List.setIfInBounds_toArray, List.set_cons_zero, List.set_cons_succ]))
  refine ext_nil ?_
  have HV0 : Hid (SliceAt encB w4 v4 (headL g m ++ pairL lv ls 0)) := OwnB.slice HO4.out
  have hx0 : Ext w w4 := hxW.trans hx4
  clear HO2 HO4
  go_wp2_with fail
  go_loopw [6, 5] (fun i vb wr => ∃ k : Nat, k ≤ m ∧ i = .int .i64 k ∧ SliceAt encB wr vb (headL g m ++ pairL lv ls k) ∧ Ext w4 wr) (fun i _ _ => m - (intOf i).toNat)
  case atStart => exact ⟨0, by omega, rfl, HV0.out, Ext.refl _⟩
  case round =>
    obtain ⟨k, hk, rfl, hr, hx⟩ := hrel
    have HR := Lib.hid hr
    have hc := (hx4.trans hx).cells
    have hsx := hx.size
    have hs4 := hx4.size
    have hzr : w.heap.size < wr.heap.size := by omega
    have hzW : W.heap.size ≤ wr.heap.size := by omega
    clear hr
    by_cases hlt : k < m
    · have hk1 : k < lv.length := by omega
      have hk2 : k < ls.length := by omega
      obtain ⟨b1, o1, rfl, hb1', e1⟩ := H1.out.get k hk1
      obtain ⟨b2, o2, rfl, hb2', e2⟩ := H2.out.get k hk2
      have g1 : lv.getD k 0#64 = lv[k] := by rw [List.getD_eq_getElem?_getD, List.getElem?_eq_getElem hk1]; rfl
      have g2 : ls.getD k 0#64 = ls[k] := by rw [List.getD_eq_getElem?_getD, List.getElem?_eq_getElem hk2]; rfl
      rw [← g1] at e1
      rw [← g2] at e2
      have f1 := (hxW.cell b1 _ hb1').trans e1
      have f2 := (hxW.cell b2 _ hb2').trans e2
      have hbw1 : b1 < W.heap.size := by omega
      have hbw2 : b2 < W.heap.size := by omega
      have HST := Lib.hid (pairL_succ lv ls k)
      have HLP : Hid ((headL g m ++ pairL lv ls k).length = 8 + 16 * k) := by show _ = _; rw [List.length_append, headL_len, pairL_len]
      generalize lv.getD k 0#64 = q1 at *
      generalize ls.getD k 0#64 = q2 at *
      clear e1 e2 g1 g2
      go_wp2_with (go_at_call 31; refine (HCW.out _ (hx0.trans hx)).mono ?_; rintro e w5 ⟨rfl, hb5⟩; have hc5 := Ext.cells hb5; have hs5 := Ext.size hb5)
      have hz5 : w.heap.size < w5.heap.size := by omega
      have hz6 : W.heap.size ≤ w5.heap.size := by omega
      have hbx1 : b1 < wr.heap.size := by omega
      have hbx2 : b2 < wr.heap.size := by omega
      have hby1 : b1 < w5.heap.size := by omega
      have hby2 : b2 < w5.heap.size := by omega
      have hxd : Ext W w5.drew := ((hx4.trans hx).trans hb5).trans (Ext.drew _)
      have HR5 := Lib.hid (HR.out.ext hb5)
      have HX5 := Lib.hid (hx.trans hb5)
      refine wp_region_ext [(0, true), (1, true), (2, true), (3, true), (4, true), (5, true), (7, true), (8, true), (9, true), (10, true), (11, true), (6, false), (12, false), (13, true)] (by kernel_rfl) (by kernel_rfl) ?_
      iterate 11 (first
       | (refine ext_move rfl rfl (by rfl) (by rfl) ?_; simp only [Act.put, List.setIfInBounds_toArray, List.set_cons_zero, List.set_cons_succ])
       | (refine ext_assign rfl rfl (by rfl) (by rfl) ?_; simp only [Act.put, List.setIfInBounds_toArray, List.set_cons_zero, List.set_cons_succ])
       | (refine ext_pick_t rfl rfl (by rfl) (by rfl) (by rfl) ?_; simp only [Act.put, List.setIfInBounds_toArray, List.set_cons_zero, List.set_cons_succ])
       | (refine ext_pick_f rfl rfl (by rfl) (by rfl) (by rfl) ?_; simp only [Act.put, List.setIfInBounds_toArray, List.set_cons_zero, List.set_cons_succ])
       | (apply ext_take rfl (by rfl)
          · intro w' hS
            have hSc := hS.cells
            (try simp only [World.size_drew, World.cell?_drew] at hSc)
            go_simp
            (try simp (disch := omega) only [i64_id, u64_id, ↓IntWalk.iteOmega, Int.tdiv_eq_ediv_of_nonneg, Int.tmod_eq_emod_of_nonneg])
            try rfl
          simp only [Act.put, List.setIfInBounds_toArray, List.set_cons_zero, List.set_cons_succ])
       | (refine ext_pass rfl (by rfl) ?_; simp only [Act.put, List.setIfInBounds_toArray, List.set_cons_zero, List.set_cons_succ]))
      (refine ext_do rfl (by rfl) (fun K hK => ?_)
       go_simp
       go_at_call 28
       refine (rput_any _ (headL g m ++ pairL lv ls k) q1 8 _ (by rw [HLP.out]; omega) (by omega) (SliceAt.ext HR5.out (Ext.drew _))).mono ?_
       rintro e w7 ⟨v7, rfl, ho7, hb7⟩
       have hx7 : Ext W w7 := hxd.trans hb7
       have hc7 := hx7.cells
       have hs7 := hx7.size
       have hq7 := Below.size hb7
       have hlt7 := Nat.lt_of_lt_of_le hz hs7
       (try have hlu7 := Nat.lt_of_lt_of_le hz0 hs7)
       (try have hlv7 := Nat.lt_of_lt_of_le hz1 hs7)
       have HO7 := Lib.hid ho7; clear ho7
       refine hK _ _ (by first | exact hb7 | exact (Ext.drew _).trans hb7) ?_
       clear hK K
       (try simp only [Act.put, List.setIfInBounds_toArray, List.set_cons_zero, List.set_cons_succ]))
      (refine ext_do rfl (by rfl) (fun K hK => ?_)
       go_simp
       go_at_call 28
       refine (rput_any _ (headL g m ++ pairL lv ls k ++ le (8 : Int).toNat q1) q2 8 _ (by rw [List.length_append, HLP.out, le_length]; omega) (by omega) (OwnB.slice HO7.out)).mono ?_
       rintro e w8 ⟨v8, rfl, ho8, hb8⟩
       have hx8 : Ext W w8 := hx7.trans hb8
       have hc8 := hx8.cells
       have hs8 := hx8.size
       have hq8 := Below.size hb8
       have hlt8 := Nat.lt_of_lt_of_le hz hs8
       (try have hlu8 := Nat.lt_of_lt_of_le hz0 hs8)
       (try have hlv8 := Nat.lt_of_lt_of_le hz1 hs8)
       have HO8 := Lib.hid ho8; clear ho8
       refine hK _ _ (by first | exact hb8 | exact (Ext.drew _).trans hb8) ?_
       clear hK K
       (try simp only [Act.put, List.setIfInBounds_toArray, List.set_cons_zero, List.set_cons_succ]))
      iterate 1 (first
       | (refine ext_move rfl rfl (by rfl) (by rfl) ?_; simp only [Act.put, List.setIfInBounds_toArray, List.set_cons_zero, List.set_cons_succ])
       | (refine ext_assign rfl rfl (by rfl) (by rfl) ?_; simp only [Act.put, List.setIfInBounds_toArray, List.set_cons_zero, List.set_cons_succ])
       | (refine ext_pick_t rfl rfl (by rfl) (by rfl) (by rfl) ?_; simp only [Act.put, List.setIfInBounds_toArray, List.set_cons_zero, List.set_cons_succ])
       | (refine ext_pick_f rfl rfl (by rfl) (by rfl) (by rfl) ?_; simp only [Act.put, List.setIfInBounds_toArray, List.set_cons_zero, List.set_cons_succ])
       | (apply ext_take rfl (by rfl)
          · intro w' hS
            have hSc := hS.cells
            (try simp only [World.size_drew, World.cell?_drew] at hSc)
            go_simp
            (try simp (disch := omega) only [i64_id, u64_id, ↓IntWalk.iteOmega, Int.tdiv_eq_ediv_of_nonneg, Int.tmod_eq_emod_of_nonneg])
            try rfl
          simp only [Act.put, List.setIfInBounds_toArray, List.set_cons_zero, List.set_cons_succ])
       | (refine ext_pass rfl (by rfl) ?_; simp only [Act.put, List.setIfInBounds_toArray, List.set_cons_zero, List.set_cons_succ]))
      refine ext_nil ?_
      have hr8 := OwnB.slice HO8.out
      rw [le8_eq, le8_eq, List.append_assoc, List.append_assoc, ← HST.out] at hr8
      have HR8 := Lib.hid hr8
      have HX8 := Lib.hid (HX5.out.trans ((Ext.drew _).trans (Ext.trans hb7 hb8)))
      clear hr8 HO7 HO8
      go_wp2
      go_roundw
      case rel => exact ⟨k + 1, by omega, by go_num, HR8.out, HX8.out⟩
      case measure => show m - (intOf (.int .i64 ((k : Int) + 1))).toNat < m - (intOf (.int .i64 (k : Int))).toNat; unfold intOf; simp only; omega
    · have hkm : k = m := by omega
      subst hkm
      go_wp2_with (go_at_call 31; refine (HCW.out _ (hx0.trans hx)).mono ?_; rintro e w5 ⟨rfl, hb5⟩; have HX5 := Lib.hid ((hx0.trans hx).trans hb5); have HR5 := Lib.hid (HR.out.ext hb5))
      go_at_call 29
      refine (rsum_as (lsum g lv ls) _ _ _ HS.out (by unfold maxLen; rw [List.length_append, headL_len, pairL_len]; omega) HR5.out).mono ?_
      rintro e w6 ⟨rfl, rfl⟩
      go_wp2_with fail
      go_ret
      exact ⟨rfl, HX5.out⟩
end Go.Proofs.Ytinnikbjphkkiaa
