/-
  Chapter 31 (election): SameInts; the example of the document (awake).
-/
import Derived.Test.YtpmbbeflgifgaaaElS
import Derived.Test.YtpmbbeflgifgaaaElV
namespace Go.Proofs.Ytpmbbeflgifgaaa
open Go.RowKit
set_option linter.unusedVariables false

/-- equal lists of numbers, a word that the walk does not open -/
def eqZ (x y : List Int) : Bool := decide (x = y)
theorem eqZ_len {x y : List Int} (h : x.length ≠ y.length) : eqZ x y = false := by unfold eqZ; rw [decide_eq_false_iff_not]; intro e; exact h (by rw [e])
theorem eqZ_at {x y : List Int} {i : Nat} (hx : i < x.length) (hy : i < y.length) (h : x[i] ≠ y[i]) : eqZ x y = false := by unfold eqZ; rw [decide_eq_false_iff_not]; intro e; subst e; exact h rfl
theorem eqZ_all {x y : List Int} (h : x.length = y.length) (ha : x.take x.length = y.take x.length) : eqZ x y = true := by
  unfold eqZ; rw [decide_eq_true_eq]
  rwa [List.take_length, h, List.take_length] at ha
theorem takeZ_next {x y : List Int} {i : Nat} (hx : i < x.length) (hy : i < y.length) (h : x.take i = y.take i) (he : x[i] = y[i]) : x.take (i + 1) = y.take (i + 1) := by
  rw [List.take_succ_eq_append_getElem hx, List.take_succ_eq_append_getElem hy, h, he]
set_option maxRecDepth 100000 in
set_option maxHeartbeats 1000000 in
theorem sameInts_any (v1 v2 : Value) (x y : List Int) (w : World) (hlx : x.length ≤ 100000) (hly : y.length ≤ 100000) (hx : SliceAt encI w v1 x) (hy : SliceAt encI w v2 y) :
    Calls Try.prog 14 #[v1, v2] w (BoolEnd w (eqZ x y)) := by
  obtain ⟨ad1, cap1, rfl⟩ := hx.shape
  obtain ⟨ad2, cap2, rfl⟩ := hy.shape
  have HX := Lib.hid hx
  have HY := Lib.hid hy
  obtain ⟨n, hn⟩ : ∃ n, x.length = n := ⟨_, rfl⟩
  obtain ⟨m, hm⟩ : ∃ m, y.length = m := ⟨_, rfl⟩
  have HN := Lib.hid hn
  have HM := Lib.hid hm
  rw [hn] at HX hlx ⊢
  rw [hm] at HY hly ⊢
  clear hx hy hn hm
  by_cases hnm : n = m
  · subst hnm
    have hq1 : ((n : Int) == n) = true := by simp
    have hq2 : ((n : Int) != n) = false := by simp
    have HX0 : Hid (Ext w w) := Ext.refl _
    go_enter Try.func14, Try.ntmps14
    go_wp2_with fail
    go_loopw [5] (fun iv wr => ∃ i : Nat, i ≤ n ∧ iv = .int .i64 i ∧ Hid (x.take i = y.take i) ∧ Hid (Ext w wr)) (fun iv _ => n - (intOf iv).toNat)
    case atStart => exact ⟨0, Nat.zero_le _, rfl, by show _ = _; simp, HX0⟩
    case round =>
      obtain ⟨i, hi, rfl, HT, HXr⟩ := hrel
      by_cases hlt : i < n
      · have hin : (i : Int) < (n : Int) := by omega
        have hi0 : (0 : Int) ≤ (i : Int) := by omega
        obtain ⟨b1, off1, rfl, hb1, hc1⟩ := (HX.out.ext HXr.out).get i (by rw [HN.out]; exact hlt)
        obtain ⟨b2, off2, rfl, hb2, hc2⟩ := (HY.out.ext HXr.out).get i (by rw [HM.out]; exact hlt)
        have HNE : Hid (x[i]'(by rw [HN.out]; exact hlt) ≠ y[i]'(by rw [HM.out]; exact hlt) → eqZ x y = false) := fun h => eqZ_at _ _ h
        have HEQ : Hid (x[i]'(by rw [HN.out]; exact hlt) = y[i]'(by rw [HM.out]; exact hlt) → x.take (i + 1) = y.take (i + 1)) := fun h => takeZ_next _ _ HT.out h
        generalize x[i]'(by rw [HN.out]; exact hlt) = p at *
        generalize y[i]'(by rw [HM.out]; exact hlt) = q at *
        by_cases hpq : p = q
        · have HE2 := Lib.hid (HEQ.out hpq)
          have d1 : (p == q) = true := by rw [beq_iff_eq]; exact hpq
          have d2 : (p != q) = false := by rw [bne, d1]; rfl
          clear hpq
          go_wp2_with fail
          refine wp_region_ext [(0, true), (1, true), (2, true), (3, true), (4, true), (5, true), (6, true), (7, true), (8, true)] (by kernel_rfl) (by kernel_rfl) ?_
          iterate 9 (first
           | (refine ext_move rfl rfl (by rfl) (by rfl) ?_; simp only [Act.put, List.setIfInBounds_toArray, List.set_cons_zero, List.set_cons_succ])
           | (refine ext_assign rfl rfl (by rfl) (by rfl) ?_; simp only [Act.put, List.setIfInBounds_toArray, List.set_cons_zero, List.set_cons_succ])
           | (refine ext_pick_t rfl rfl (by rfl) (by rfl) (by rfl) ?_; simp only [Act.put, List.setIfInBounds_toArray, List.set_cons_zero, List.set_cons_succ])
           | (refine ext_pick_f rfl rfl (by rfl) (by rfl) (by rfl) ?_; simp only [Act.put, List.setIfInBounds_toArray, List.set_cons_zero, List.set_cons_succ])
           | (apply ext_take rfl (by rfl)
              · intro w' hS
                have hSc := hS.cells
                (try simp only [World.size_drew, World.cell?_drew] at hSc)
                go_simp
                (try simp (disch := omega) only [i64_id, u64_id, ↓IntWalk.iteOmega, Int.tdiv_eq_ediv_of_nonneg, Int.tmod_eq_emod_of_nonneg])
                try rfl
              simp only [Act.put, List.setIfInBounds_toArray, List.set_cons_zero, List.set_cons_succ])
           | (refine ext_pass rfl (by rfl) ?_; simp only [Act.put, List.setIfInBounds_toArray, List.set_cons_zero, List.set_cons_succ]))
          refine ext_nil ?_
          go_wp2_with fail
          go_roundw
          case rel => exact ⟨i + 1, by omega, by go_num, HE2, HXr.out.trans (Ext.drew _)⟩
          case measure => simp [intOf]; omega
        · have HE2 := Lib.hid (HNE.out hpq)
          have d1 : (p == q) = false := by rw [beq_eq_false_iff_ne]; exact hpq
          have d2 : (p != q) = true := by rw [bne, d1]; rfl
          clear hpq
          go_wp2_with fail
          refine wp_region_ext [(0, true), (1, true), (2, true), (3, true), (4, true), (5, true), (6, true), (7, true), (8, true)] (by kernel_rfl) (by kernel_rfl) ?_
          iterate 9 (first
           | (refine ext_move rfl rfl (by rfl) (by rfl) ?_; simp only [Act.put, List.setIfInBounds_toArray, List.set_cons_zero, List.set_cons_succ])
           | (refine ext_assign rfl rfl (by rfl) (by rfl) ?_; simp only [Act.put, List.setIfInBounds_toArray, List.set_cons_zero, List.set_cons_succ])
           | (refine ext_pick_t rfl rfl (by rfl) (by rfl) (by rfl) ?_; simp only [Act.put, List.setIfInBounds_toArray, List.set_cons_zero, List.set_cons_succ])
           | (refine ext_pick_f rfl rfl (by rfl) (by rfl) (by rfl) ?_; simp only [Act.put, List.setIfInBounds_toArray, List.set_cons_zero, List.set_cons_succ])
           | (apply ext_take rfl (by rfl)
              · intro w' hS
                have hSc := hS.cells
                (try simp only [World.size_drew, World.cell?_drew] at hSc)
                go_simp
                (try simp (disch := omega) only [i64_id, u64_id, ↓IntWalk.iteOmega, Int.tdiv_eq_ediv_of_nonneg, Int.tmod_eq_emod_of_nonneg])
                try rfl
              simp only [Act.put, List.setIfInBounds_toArray, List.set_cons_zero, List.set_cons_succ])
           | (refine ext_pass rfl (by rfl) ?_; simp only [Act.put, List.setIfInBounds_toArray, List.set_cons_zero, List.set_cons_succ]))
          refine ext_nil ?_
          go_wp2_with fail
          go_ret
          exact ⟨by rw [HE2.out]; rfl, HXr.out.trans (Ext.drew _)⟩
      · have hin : i = n := by omega
        subst hin
        have hin2 : ¬ ((i : Int) < (i : Int)) := by omega
        go_wp2_with fail
        go_ret
        exact ⟨by rw [eqZ_all (HN.out.trans HM.out.symm) (by rw [HN.out]; exact HT.out)]; rfl, HXr.out⟩
  · have hb1 : ((n : Int) == m) = false := by rw [beq_eq_false_iff_ne]; omega
    have hb2 : ((n : Int) != m) = true := by rw [bne, hb1]; rfl
    rw [eqZ_len (by rw [HN.out, HM.out]; exact hnm)]
    go_enter Try.func14, Try.ntmps14
    go_wp2_with fail
    go_ret
    exact ⟨rfl, Ext.refl _⟩

def lsX : List LD := [(labX 0 8, List.replicate 5 false), (labX 1 7, List.replicate 5 false), (labX 2 7, List.replicate 5 false), (labX 3 7, List.replicate 5 false), (labX 4 6, List.replicate 5 false)]
def rdX : List Bool := [true, true, true, true, true]
theorem errX : errE lsX rdX = 0 := by kernel_rfl
theorem placesX : placesE lsX rdX = [0, 1, 2, 3, -1] := by kernel_rfl
theorem genX : (labE lsX rdX).1.gen = 8#64 := by kernel_rfl
/-- the cells of labels, one behind the other -/
theorem labs_lit {w : World} {ls : List LD} {dvs : List Value} {C : Array Value} {t : TypeId} {b : Nat} (hb : w.heap[b]? = some (.cells C t (0, 0))) (hl : dvs.length = ls.length)
    (hC : ∀ i (h1 : i < ls.length) (h2 : i < dvs.length), (C.extract (i * 19) (i * 19 + 19)).toList = (labA ls[i].1 dvs[i]).toList) (hd : ∀ i (h1 : i < ls.length) (h2 : i < dvs.length), SliceAt Value.bool w dvs[i] ls[i].2) :
    LabsAt w (.slice (some ⟨b, 0, none⟩) ls.length ls.length) ls := by
  refine ⟨_, _, rfl, Nat.le_refl _, .inr ⟨b, 0, rfl, fun i hi => ?_⟩⟩
  have h2 : i < dvs.length := by rw [hl]; exact hi
  refine ⟨dvs[i], ⟨?_, (Array.getElem?_eq_some_iff.1 hb).1⟩, hd i hi h2⟩
  rw [Nat.zero_add, ← hC i hi h2]
  exact World.rangeAt_of_block hb (i * 19) 19
theorem slice_lit2 {α : Type} {enc : α → Value} {w : World} {o : Obj} {l : List α} {cs : Array Value} {t : TypeId} (h : cs = (l.map enc).toArray) : SliceAt enc ((w.alloc o).alloc (.cells cs t)) (.slice (some ⟨w.heap.size + 1, 0, none⟩) l.length l.length) l := by
  have := SliceAt.lit (w.alloc o) l t (0, 0) cs h
  rwa [World.size_alloc] at this
theorem hdlX (i : Nat) : (ldN lsX i).2.length ≤ 100000 := by
  match i with
  | 0 => decide
  | 1 => decide
  | 2 => decide
  | 3 => decide
  | 4 => decide
  | n + 5 => simp [ldN, lsX, ld0]
set_option maxRecDepth 100000 in
set_option maxHeartbeats 4000000 in
theorem awake_any (w : World) : Calls Try.prog 9 #[] w fun e w' => e = .returned (.bool true) ∧ Below w.heap.size w w' := by
  have hc1 := label_any 0 8 8
  have hc2 := label_any 1 7 7
  have hc3 := label_any 2 7 7
  have hc4 := label_any 3 7 7
  have hc5 := label_any 4 6 6
  go_enter Try.func9, Try.ntmps9
  go_wp2_with fail
  go_at_call 21
  refine (hc1 _ (by decide)).mono ?_
  rintro e w1 ⟨d1, rfl, hd1, hx1⟩
  obtain ⟨a1, p1, rfl⟩ := hd1.shape
  have HD1 := Lib.hid hd1
  have HX1 := Lib.hid hx1
  clear hd1 hx1
  go_wp2_with fail
  go_at_call 21
  refine (hc2 _ (by decide)).mono ?_
  rintro e w2 ⟨d2, rfl, hd2, hx2⟩
  obtain ⟨a2, p2, rfl⟩ := hd2.shape
  have HD2 := Lib.hid hd2
  have HX2 := Lib.hid hx2
  clear hd2 hx2
  go_wp2_with fail
  go_at_call 21
  refine (hc3 _ (by decide)).mono ?_
  rintro e w3 ⟨d3, rfl, hd3, hx3⟩
  obtain ⟨a3, p3, rfl⟩ := hd3.shape
  have HD3 := Lib.hid hd3
  have HX3 := Lib.hid hx3
  clear hd3 hx3
  go_wp2_with fail
  go_at_call 21
  refine (hc4 _ (by decide)).mono ?_
  rintro e w4 ⟨d4, rfl, hd4, hx4⟩
  obtain ⟨a4, p4, rfl⟩ := hd4.shape
  have HD4 := Lib.hid hd4
  have HX4 := Lib.hid hx4
  clear hd4 hx4
  go_wp2_with fail
  go_at_call 21
  refine (hc5 _ (by decide)).mono ?_
  rintro e w5 ⟨d5, rfl, hd5, hx5⟩
  obtain ⟨a5, p5, rfl⟩ := hd5.shape
  have HD5 := Lib.hid hd5
  have HX5 := Lib.hid hx5
  clear hd5 hx5 hc1 hc2 hc3 hc4 hc5
  go_wp2_with fail
  go_at_call 11
  refine (elect_any _ _ lsX rdX _ (by decide) (by decide) hdlX ((labs_lit (ls := lsX) (dvs := [.slice a1 5 p1, .slice a2 5 p2, .slice a3 5 p3, .slice a4 5 p4, .slice a5 5 p5]) (heap_alloc_new w5 _) rfl ?_ ?_).ext (Ext.alloc _ _)) (slice_lit2 (l := rdX) rfl)).mono ?_
  · intro i h1 h2
    match i, h1 with
    | 0, _ => rfl
    | 1, _ => rfl
    | 2, _ => rfl
    | 3, _ => rfl
    | 4, _ => rfl
  · intro i h1 h2
    match i, h1 with
    | 0, _ => exact ((((HD1.out.ext HX2.out).ext HX3.out).ext HX4.out).ext HX5.out).ext (Ext.alloc _ _)
    | 1, _ => exact (((HD2.out.ext HX3.out).ext HX4.out).ext HX5.out).ext (Ext.alloc _ _)
    | 2, _ => exact ((HD3.out.ext HX4.out).ext HX5.out).ext (Ext.alloc _ _)
    | 3, _ => exact (HD4.out.ext HX5.out).ext (Ext.alloc _ _)
    | 4, _ => exact HD5.out.ext (Ext.alloc _ _)
  rintro e w7 ⟨dv, av, rfl, hd7, ha7, hx7⟩
  have HX7 : Hid (Ext w w7) := (((((((HX1.out.trans HX2.out).trans HX3.out).trans HX4.out).trans HX5.out).trans (Ext.alloc _ _)).trans (Ext.alloc _ _)).trans hx7)
  rw [placesX] at ha7
  rw [errX]
  obtain ⟨ad, cd, rfl⟩ := hd7.shape
  obtain ⟨aa, ca, rfl⟩ := ha7.shape
  have HA7 := Lib.hid ha7
  have HG : Hid ((labE lsX rdX).1.gen = 8#64) := genX
  generalize (labE lsX rdX).2 = D7 at *
  generalize (labE lsX rdX).1 = L7 at *
  clear hd7 ha7 hx7
  go_upto_region 3 with (refine wpList_store_lab (w0 := w7) (l := L7) (d := .slice ad D7.length cd) _ _ rfl (by rfl) rfl rfl (BoxAt.new _ _ _) rfl rfl (Ext.alloc _ _) (Nat.le_refl _) ?_; intro w8 hx8 hb8 hs8)
  have c2 : w8.cell? ⟨w7.heap.size, 2, none⟩ = some (.int .u64 8) := by
    have := hb8.cell 2 (v := encU L7.gen) rfl
    rw [HG.out] at this; exact this
  have hl8 := hb8.lt
  have HX8 : Hid (Ext w w8) := HX7.out.trans hx8
  have HA8 := Lib.hid (HA7.out.ext hx8)
  clear hx8 hb8 hs8
  go_wp2_with fail
  go_at_call 14
  refine (sameInts_any _ _ [0, 1, 2, 3, -1] [0, 1, 2, 3, -1] _ (by decide) (by decide) (HA8.out.ext (Ext.alloc _ _)) (SliceAt.lit w8 [0, 1, 2, 3, -1] _ (0, 0) _ rfl)).mono ?_
  rintro e w9 ⟨rfl, hx9⟩
  have HX9 : Hid (Ext w8 w9) := (Ext.alloc _ _).trans hx9
  rw [show eqZ [0, 1, 2, 3, -1] [0, 1, 2, 3, -1] = true from rfl]
  clear hx9
  go_wp2_with fail
  go_at_call 20
  refine (count_any _ [0, 1, 2, 3, -1] _ (by decide) (HA8.out.ext HX9.out)).mono ?_
  rintro e w10 ⟨rfl, rfl⟩
  rw [show cntN [0, 1, 2, 3, -1] = 1 from rfl]
  go_wp2_with fail
  go_ret
  exact ⟨rfl, HX8.out.trans HX9.out⟩
end Go.Proofs.Ytpmbbeflgifgaaa
