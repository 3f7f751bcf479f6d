/-
  Chapter 25 (piecesum): LeafSum.
-/
import Derived.Test.YtinnikbjphkkiaaPsK
import Derived.Deep.OwnRows
namespace Go.Proofs.Ytinnikbjphkkiaa
open Go.RowKit
set_option linter.unusedVariables false

def pairL (lv ls : List (BitVec 64)) (k : Nat) : List (BitVec 8) := (List.range k).flatMap fun i => le 8 (lv.getD i 0#64) ++ le 8 (ls.getD i 0#64)
theorem pairL_succ (lv ls : List (BitVec 64)) (k : Nat) : pairL lv ls (k + 1) = pairL lv ls k ++ (le 8 (lv.getD k 0#64) ++ le 8 (ls.getD k 0#64)) := by simp [pairL, List.range_succ, List.flatMap_append]
theorem pairL_len (lv ls : List (BitVec 64)) (k : Nat) : (pairL lv ls k).length = 16 * k := by
  induction k with
  | zero => rfl
  | succ k ih => rw [pairL_succ, List.length_append, ih]; simp [le_length]; omega
def headL (g : Int) (n : Nat) : List (BitVec 8) := le 4 (BitVec.ofInt 64 g) ++ le 4 (BitVec.ofNat 64 n)
theorem headL_len (g : Int) (n : Nat) : (headL g n).length = 8 := by simp [headL, le_length]
/-- the sum of a leaf -/
def lsum (g : Int) (lv ls : List (BitVec 64)) : BitVec 64 := Crc.sum (headL g (min lv.length ls.length) ++ pairL lv ls (min lv.length ls.length))
def bufL (g : Int) (lv ls : List (BitVec 64)) (n k : Nat) : List (BitVec 8) := headL g n ++ pairL lv ls k ++ List.replicate (16 * (n - k)) 0#8
theorem bufL_len (g : Int) (lv ls : List (BitVec 64)) (n k : Nat) (h : k ≤ n) : (bufL g lv ls n k).length = 8 + 16 * n := by
  simp [bufL, headL_len, pairL_len]; omega
theorem laid8_app (A B : List (BitVec 8)) (off k : Nat) (x : BitVec 64) (h : off = A.length) : laid8 (A ++ B) off k x = A ++ (le k x ++ B.drop k) := by
  subst h
  unfold laid8
  rw [List.take_left' rfl, ← List.drop_drop, List.drop_left' rfl]
theorem bufL_step (g : Int) (lv ls : List (BitVec 64)) (n k : Nat) (h : k < n) :
    laid8 (laid8 (bufL g lv ls n k) (8 + 16 * k) 8 (lv.getD k 0#64)) (16 + 16 * k) 8 (ls.getD k 0#64) = bufL g lv ls n (k + 1) := by
  unfold bufL
  rw [laid8_app _ _ _ _ _ (by simp [headL_len, pairL_len]), ← List.append_assoc, laid8_app _ _ _ _ _ (by simp [headL_len, pairL_len, le_length]; omega), pairL_succ, List.drop_replicate, List.drop_replicate]
  simp only [List.append_assoc]
  congr 6
  omega
theorem bufL_mid_len (g : Int) (lv ls : List (BitVec 64)) (n k : Nat) (x : BitVec 64) (h : k < n) : (laid8 (bufL g lv ls n k) (8 + 16 * k) 8 x).length = 8 + 16 * n := by
  rw [laid8_len _ _ _ _ (by rw [bufL_len _ _ _ _ _ (by omega)]; omega), bufL_len _ _ _ _ _ (by omega)]
theorem bufL_start (g : Int) (lv ls : List (BitVec 64)) (n : Nat) : laid8 (laid8 (List.replicate (8 + 16 * n) 0#8) 0 4 (BitVec.ofInt 64 g)) 4 4 (BitVec.ofNat 64 n) = bufL g lv ls n 0 := by
  have e : List.replicate (8 + 16 * n) 0#8 = [] ++ List.replicate (8 + 16 * n) 0#8 := rfl
  rw [e, laid8_app _ _ _ _ _ (by rfl), List.nil_append, laid8_app _ _ _ _ _ (by rw [le_length]), List.drop_replicate, List.drop_replicate]
  unfold bufL headL
  simp only [pairL, List.range_zero, List.flatMap_nil, List.append_nil, List.append_assoc]
  congr 3
  omega
theorem bufL_end (g : Int) (lv ls : List (BitVec 64)) (n : Nat) : bufL g lv ls n n = headL g n ++ pairL lv ls n := by
  unfold bufL; simp
theorem grown_drew {w w' : World} {o : Option Nat} (h : w.grownBy w' o) : w.grownBy w'.drew o := ⟨h.os, h.tape, h.output, h.size, h.block⟩
theorem RowAt.made (w : World) (n : Nat) (t : TypeId) : RowAt (w.alloc (.cells (madeCells #[.int .u8 0] n) t)) w.heap.size (List.replicate n 0#8) t := by
  obtain ⟨c, h, hs, hc⟩ := World.rowIs_made w (.int .u8 0) n t
  unfold RowAt
  rw [h]
  have : c = ((List.replicate n 0#8).map encB).toArray := by
    refine Array.ext_getElem? fun i => ?_
    by_cases hi : i < n
    · rw [hc i hi]; simp [hi]; rfl
    · rw [Array.getElem?_eq_none (by omega)]; simp [hi]
  rw [this]

set_option maxHeartbeats 800000 in
theorem plsum_any (g : Int) (vv vs : Value) (lv ls : List (BitVec 64)) (w : World) (hlv : lv.length ≤ 1000) (hls : ls.length ≤ 1000) (hg : -9223372036854775808 ≤ g ∧ g ≤ 9223372036854775807) (h1 : SliceAt encU w vv lv) (h2 : SliceAt encU w vs ls) :
    Calls Try.prog 24 #[.int .i64 g, .agg #[vv, vs]] w fun e w' => e = .returned (encU (lsum g lv ls)) ∧ Below w.heap.size w w' := by
  have H1 := Lib.hid h1
  have H2 := Lib.hid h2
  obtain ⟨ad1, cap1, rfl, hc1, _⟩ := h1
  obtain ⟨ad2, cap2, rfl, hc2, _⟩ := h2
  have hm1 : min lv.length ls.length ≤ lv.length := Nat.min_le_left _ _
  have hm2 : min lv.length ls.length ≤ ls.length := Nat.min_le_right _ _
  have hm3 : min lv.length ls.length ≤ 1000 := by omega
  have HS : Hid (lsum g lv ls = Crc.sum (bufL g lv ls (min lv.length ls.length) (min lv.length ls.length))) := by show _ = _; rw [bufL_end]; rfl
  generalize hm : min lv.length ls.length = m at *
  have HM := Lib.hid hm
  have hw1 := wrap_ofInt g
  have hmk := fun w => run_make_row' (P := Try.prog) 54 5 (.int .u8 0) 1 Try.underlying54 infoB rfl .i64 .i64 (8 + 16 * m) (by omega) (by omega) w
  rw [show (((8 + 16 * m : Nat)) : Int) = 8 + 16 * (m : Int) by omega] at hmk
  clear hm hc1 hc2
  go_enter Try.func24, Try.ntmps24
  go_wp2_with fail
  have hz : w.heap.size < (w.alloc (.cells #[.slice ad1 lv.length cap1, .slice ad2 ls.length cap2] 32)).heap.size := by simp
  have hsz : (w.alloc (.cells #[.slice ad1 lv.length cap1, .slice ad2 ls.length cap2] 32)).heap.size = w.heap.size + 1 := by simp
  generalize hW : w.alloc (.cells #[.slice ad1 lv.length cap1, .slice ad2 ls.length cap2] 32) = W at *
  have c0_0 : W.cell? ⟨w.heap.size, 0, none⟩ = some (.slice ad1 lv.length cap1) := by rw [← hW]; first | exact (World.cell?_alloc_at (hn := by first | (simp; done) | (simp; omega)) ..).trans rfl | (simp; done) | (go_simp; done)
  have c0_1 : W.cell? ⟨w.heap.size, 1, none⟩ = some (.slice ad2 ls.length cap2) := by rw [← hW]; first | exact (World.cell?_alloc_at (hn := by first | (simp; done) | (simp; omega)) ..).trans rfl | (simp; done) | (go_simp; done)
  have hf0 : ∀ o, W.frozen? ⟨w.heap.size, o, none⟩ = false := fun o => by rw [← hW]; first | exact World.frozen?_alloc_at (hn := by first | (simp; done) | (simp; omega)) .. | (simp; done) | (go_simp; done)
  have hxW : Ext w W := by rw [← hW]; exact Ext.alloc _ _
  clear hW
  have HSZ := Lib.hid hsz
  clear hsz
  have HC := pieces_any _ _ lv ls W (by omega) (by omega) (H1.out.ext hxW) (H2.out.ext hxW)
  rw [HM.out] at HC
  have HC := Lib.hid HC
  go_wp2_with fail
  go_at_call 30
  refine HC.out.mono ?_
  rintro e w1 ⟨rfl, hb1⟩
  have hc := Ext.cells hb1
  have hs := Ext.size hb1
  have hy0 : w.heap.size < w1.heap.size := by omega
  have hx1 : Ext w w1 := hxW.trans hb1
  go_wp2_with fail
  have hR : RowAt (w1.alloc (.cells (madeCells #[.int .u8 0] (8 + 16 * m)) 5)) w1.heap.size (List.replicate (8 + 16 * m) 0#8) 5 := RowAt.made w1 (8 + 16 * m) 5
  have hx2 : Ext w1 (w1.alloc (.cells (madeCells #[.int .u8 0] (8 + 16 * m)) 5)) := Ext.alloc _ _
  have HLR : Hid ((List.replicate (8 + 16 * m) 0#8).length = 8 + 16 * m) := by show _ = _; simp
  have HB0 : Hid (laid8 (laid8 (List.replicate (8 + 16 * m) 0#8) 0 4 (BitVec.ofInt 64 g)) 4 4 (BitVec.ofNat 64 m) = bufL g lv ls m 0) := bufL_start g lv ls m
  generalize List.replicate (8 + 16 * m) 0#8 = R0 at *
  generalize hW2 : w1.alloc (.cells (madeCells #[.int .u8 0] (8 + 16 * m)) 5) = W2 at *
  have HR := Lib.hid hR
  have HX2 := Lib.hid hx2
  clear hR hx2 hW2 hmk
  go_at_call 26
  refine (pput_any w1.heap.size 0 4 _ R0 5 (BitVec.ofInt 64 g) _ (by omega) (by omega) (by rw [HLR.out]; omega) (by rw [HLR.out]; omega) HR.out).mono ?_
  rintro e w2 ⟨rfl, hr2, hg2⟩
  have HL2 : Hid ((laid8 R0 0 4 (BitVec.ofInt 64 g)).length = 8 + 16 * m) := by show _ = _; rw [laid8_len _ _ _ _ (by rw [HLR.out]; omega)]; exact HLR.out
  generalize laid8 R0 0 4 (BitVec.ofInt 64 g) = R1 at *
  have HR2 := Lib.hid hr2
  have HG2 := Lib.hid hg2
  have hs2 := hg2.size
  clear hr2 hg2
  have hm0 : IntKind.u64.wrap (m : Int) = un (BitVec.ofNat 64 m) := by rw [wrap_ofInt]; rfl
  go_wp2_with fail
  go_at_call 26
  refine (pput_any w1.heap.size 4 4 _ R1 5 (BitVec.ofNat 64 m) _ (by omega) (by omega) (by rw [HL2.out]; omega) (by rw [HL2.out]; omega) HR2.out).mono ?_
  rintro e w3 ⟨rfl, hr3, hg3⟩
  rw [HB0.out] at hr3
  have HR3 := Lib.hid hr3
  have HG3 := Lib.hid (grown_trans HG2.out hg3)
  have hs3 := hg3.size
  clear hr3 hg3
  go_wp2
  have hsz2 : w1.heap.size < W2.heap.size := HR.out.lt
  go_loopw [25] (fun i wr => ∃ k : Nat, k ≤ m ∧ i = .int .i64 k ∧ RowAt wr w1.heap.size (bufL g lv ls m k) 5 ∧ W2.grownBy wr (some w1.heap.size)) (fun i _ => m - (intOf i).toNat)
  case atStart => exact ⟨0, by omega, rfl, HR3.out, HG3.out⟩
  case round =>
    obtain ⟨k, hk, rfl, hr, hg⟩ := hrel
    have HR4 := Lib.hid hr
    have HG4 := Lib.hid hg
    have hcr : ∀ b o, b < w1.heap.size → wr.cell? ⟨b, o, none⟩ = w1.cell? ⟨b, o, none⟩ := fun b o hb =>
      (World.cell?_of_block (w := W2) (a := ⟨b, o, none⟩) (hg.block b (by omega) (fun e => by injection e with e; omega))).trans (HX2.out.cell b o hb)
    have hsr := hg.size
    have hzr : w.heap.size < wr.heap.size := by omega
    clear hr hg
    by_cases hlt : k < m
    · have hk1 : k < lv.length := by omega
      have hk2 : k < ls.length := by omega
      obtain ⟨b1, o1, rfl, hb1', e1⟩ := H1.out.get k hk1
      obtain ⟨b2, o2, rfl, hb2', e2⟩ := H2.out.get k hk2
      have g1 : lv.getD k 0#64 = lv[k] := by rw [List.getD_eq_getElem?_getD, List.getElem?_eq_getElem hk1]; rfl
      have g2 : ls.getD k 0#64 = ls[k] := by rw [List.getD_eq_getElem?_getD, List.getElem?_eq_getElem hk2]; rfl
      rw [← g1] at e1
      rw [← g2] at e2
      have f1 := (hx1.cell b1 _ hb1').trans e1
      have f2 := (hx1.cell b2 _ hb2').trans e2
      have hbw1 : b1 < w1.heap.size := by omega
      have hbw2 : b2 < w1.heap.size := by omega
      have HST := Lib.hid (bufL_step g lv ls m k hlt)
      have HLM := Lib.hid (bufL_mid_len g lv ls m k (lv.getD k 0#64) hlt)
      have HLB := Lib.hid (bufL_len g lv ls m k hk)
      generalize lv.getD k 0#64 = q1 at *
      generalize ls.getD k 0#64 = q2 at *
      clear e1 e2 g1 g2
      go_wp2_with fail
      have n1 : (8 + 16 * (k : Int)).toNat = 8 + 16 * k := by omega
      have n2 : (16 + 16 * (k : Int)).toNat = 16 + 16 * k := by omega
      have n3 : (24 + 16 * (k : Int)).toNat = 24 + 16 * k := by omega
      have n4 : 16 + 16 * k - (8 + 16 * k) = 8 := by omega
      have n5 : 24 + 16 * k - (16 + 16 * k) = 8 := by omega
      refine wp_region_fix (fun x => ∀ b o, b < w1.heap.size → x.cell? ⟨b, o, none⟩ = w1.cell? ⟨b, o, none⟩) [(0, true), (1, true), (2, true), (3, true), (4, true), (5, true), (6, true), (7, true), (8, true), (9, true), (10, true), (11, true), (12, true), (13, false)] (by kernel_rfl) (by kernel_rfl) ?_ ?_
      · exact hcr
      iterate 13 (first
       | (refine fix_move rfl rfl (by rfl) (by rfl) ?_; simp only [Act.put, List.setIfInBounds_toArray, List.set_cons_zero, List.set_cons_succ])
       | (apply fix_take rfl (by rfl)
          · intro w' hSc
            go_simp
            (try simp (disch := omega) only [i64_id, u64_id, ↓IntWalk.iteOmega, Int.tdiv_eq_ediv_of_nonneg, Int.tmod_eq_emod_of_nonneg])
            try rfl
          simp only [Act.put, List.setIfInBounds_toArray, List.set_cons_zero, List.set_cons_succ])
       | (refine fix_pass rfl (by rfl) ?_; simp only [Act.put, List.setIfInBounds_toArray, List.set_cons_zero, List.set_cons_succ]))
      (refine fix_do rfl (by rfl) (fun K hK => ?_)
       go_simp
       go_at_call 26
       with_reducible refine (pput_any w1.heap.size (8 + 16 * k) 8 (8 + 16 * m - (8 + 16 * k)) _ 5 q1 _ (by omega) (by omega) (by rw [HLB.out]; omega) (by rw [HLB.out]; omega) (HR4.out.ext (Ext.drew _))).mono ?_
       rintro e w4 ⟨rfl, hr4, hg4⟩
       have HR5 := Lib.hid hr4
       have HG5 := Lib.hid (grown_trans (grown_drew HG4.out) hg4)
       refine hK _ _ ?_ ?_
       · exact fun b o hb => (World.cell?_of_block (w := W2) (a := ⟨b, o, none⟩) (HG5.out.block b (by omega) (fun e => by injection e with e; omega))).trans (HX2.out.cell b o hb)
       clear hK K hr4 hg4
       (try simp only [Act.put, List.setIfInBounds_toArray, List.set_cons_zero, List.set_cons_succ]))
      refine fix_nil ?_
      have hs5 := HG5.out.size
      have hc5 : ∀ b o, b < w1.heap.size → w4.cell? ⟨b, o, none⟩ = w1.cell? ⟨b, o, none⟩ := fun b o hb => (World.cell?_of_block (w := W2) (a := ⟨b, o, none⟩) (HG5.out.block b (by omega) (fun e => by injection e with e; omega))).trans (HX2.out.cell b o hb)
      go_wp2_with fail
      refine wp_region_fix (fun x => ∀ b o, b < w1.heap.size → x.cell? ⟨b, o, none⟩ = w1.cell? ⟨b, o, none⟩) [(0, true), (1, true), (2, true), (3, true), (4, true), (5, true), (6, true), (7, true), (8, true), (9, true), (10, true), (11, true), (12, true), (13, false)] (by kernel_rfl) (by kernel_rfl) ?_ ?_
      · exact hc5
      iterate 13 (first
       | (refine fix_move rfl rfl (by rfl) (by rfl) ?_; simp only [Act.put, List.setIfInBounds_toArray, List.set_cons_zero, List.set_cons_succ])
       | (apply fix_take rfl (by rfl)
          · intro w' hSc
            go_simp
            (try simp (disch := omega) only [i64_id, u64_id, ↓IntWalk.iteOmega, Int.tdiv_eq_ediv_of_nonneg, Int.tmod_eq_emod_of_nonneg])
            try rfl
          simp only [Act.put, List.setIfInBounds_toArray, List.set_cons_zero, List.set_cons_succ])
       | (refine fix_pass rfl (by rfl) ?_; simp only [Act.put, List.setIfInBounds_toArray, List.set_cons_zero, List.set_cons_succ]))
      (refine fix_do rfl (by rfl) (fun K hK => ?_)
       go_simp
       go_at_call 26
       with_reducible refine (pput_any w1.heap.size (16 + 16 * k) 8 (8 + 16 * m - (16 + 16 * k)) _ 5 q2 _ (by omega) (by omega) (by rw [HLM.out]; omega) (by rw [HLM.out]; omega) (HR5.out.ext (Ext.drew _))).mono ?_
       rintro e w6 ⟨rfl, hr6, hg6⟩
       rw [HST.out] at hr6
       have HR6 := Lib.hid hr6
       have HG6 := Lib.hid (grown_trans (grown_drew HG5.out) hg6)
       refine hK _ _ ?_ ?_
       · exact fun b o hb => (World.cell?_of_block (w := W2) (a := ⟨b, o, none⟩) (HG6.out.block b (by omega) (fun e => by injection e with e; omega))).trans (HX2.out.cell b o hb)
       clear hK K hr6 hg6
       (try simp only [Act.put, List.setIfInBounds_toArray, List.set_cons_zero, List.set_cons_succ]))
      refine fix_nil ?_
      clear n1 n2 n3 n4 n5
      go_wp2
      go_roundw
      case rel => exact ⟨k + 1, by omega, by go_num, HR6.out, HG6.out⟩
      case measure => show m - (intOf (.int .i64 ((k : Int) + 1))).toNat < m - (intOf (.int .i64 (k : Int))).toNat; unfold intOf; simp only; omega
    · have hkm : k = m := by omega
      subst hkm
      have hr := HR4.out
      have HSL : Hid (SliceAt encB wr (.slice (some ⟨w1.heap.size, 0, none⟩) (8 + 16 * k) (8 + 16 * k)) (bufL g lv ls k k)) := by
        have := hr.slice 0 (8 + 16 * k) (8 + 16 * k) (by rw [bufL_len _ _ _ _ _ hk]; omega) (by omega)
        rw [List.drop_zero, List.take_of_length_le (by rw [bufL_len _ _ _ _ _ hk]; omega)] at this
        exact this
      clear hr
      go_wp2_with fail
      go_at_call 27
      refine (sum_as (lsum g lv ls) _ _ _ HS.out.symm (by unfold maxLen; rw [bufL_len _ _ _ _ _ hk]; omega) HSL.out).mono ?_
      rintro e w5 ⟨rfl, rfl⟩
      go_wp2_with fail
      go_ret
      exact ⟨rfl, hx1.trans (Below.grown HX2.out HG4.out HX2.out.size (fun q hq => by cases hq; omega))⟩
end Go.Proofs.Ytinnikbjphkkiaa
