/-
  Chapter 29 (replica): the walk of ReplicaRestores.
-/
import Derived.Test.YtknpdoepjihceaaRpS
namespace Go.Proofs.Ytknpdoepjihceaa
open Go.ChangeShapes Go.WideShapes Go.ChangeAt Go.RowKit
set_option linter.unusedVariables false
attribute [local go_sem] eq_strB

theorem infoS3 : (Try.prog.info? 22).map (fun i => (i.zero, i.size, i.bytes)) = some (some (.slice none 0 0), 1, 24) := by kernel_rfl
theorem mk3 : ∀ w : World, (Instr.makeSlice 32 (.int .i64 3) (.int .i64 3)).run Try.prog w = .ok (.slice (some ⟨w.heap.size, 0, none⟩) 3 3) (w.alloc (.cells #[.slice none 0 0, .slice none 0 0, .slice none 0 0] 25)) := fun _ => by kernel_rfl
def mkN (n : Nat) : Array Value := madeCells #[.slice none 0 0] n
def rowV (vs : List Value) (wh : Nat → Nat) (n i c : Nat) : List Value := (List.range n).map fun k => if k < i ∧ wh k = c then vs.getD k (.slice none 0 0) else .slice none 0 0
def rowL (ls : List (List (BitVec 8))) (wh : Nat → Nat) (n c : Nat) : List (List (BitVec 8)) := (List.range n).map fun k => if wh k = c then ls.getD k [] else []
theorem rowV_len (vs : List Value) (wh : Nat → Nat) (n i c : Nat) : (rowV vs wh n i c).length = n := by simp [rowV]
theorem rowL_len (ls : List (List (BitVec 8))) (wh : Nat → Nat) (n c : Nat) : (rowL ls wh n c).length = n := by simp [rowL]
theorem rowV_zero (vs : List Value) (wh : Nat → Nat) (n c : Nat) : mkN n = (rowV vs wh n 0 c).toArray := by
  apply Array.toList_inj.1
  unfold mkN
  rw [toList_madeCells_one]
  apply List.ext_getElem (by simp [rowV])
  intro i h1 h2
  simp [rowV]
theorem rowV_off {vs : List Value} {wh : Nat → Nat} {n i c : Nat} (h : wh i ≠ c) : rowV vs wh n (i + 1) c = rowV vs wh n i c := by
  unfold rowV
  apply List.map_congr_left
  intro k _
  by_cases hk : k = i
  · subst hk; simp [h]
  · have : k < i + 1 ↔ k < i := by omega
    simp only [this]
theorem rowV_on {vs : List Value} {wh : Nat → Nat} {n i c : Nat} (hi : i < n) (hv : vs.length = n) (h : wh i = c) : rowV vs wh n (i + 1) c = (rowV vs wh n i c).set i (vs[i]'(by omega)) := by
  apply List.ext_getElem (by simp [rowV])
  intro k h1 h2
  rw [List.getElem_set]
  simp only [rowV, List.getElem_map, List.getElem_range]
  by_cases hk : i = k
  · subst hk
    rw [if_pos rfl, if_pos ⟨by omega, h⟩, getD_in (by omega)]
  · rw [if_neg hk]
    have : k < i + 1 ↔ k < i := by omega
    simp only [this]
theorem BoxAt.sliceList {w : World} {q : Nat} {xs : List Value} {t : TypeId} (h : BoxAt w q xs.toArray t) {n : Nat} (hn : xs.length = n) : SliceAt id w (.slice (some ⟨q, 0, none⟩) n n) xs := by
  subst hn
  refine ⟨_, xs.length, rfl, Nat.le_refl _, .inr ⟨q, 0, rfl, h.lt, fun i hi => ?_⟩⟩
  rw [Nat.zero_add]
  exact h.cell i (by simp [hi])
/-- what the copies' blocks hold -/
def RestS (vs : List Value) (wh : Nat → Nat) (n g : Nat) (w2 : World) (i : Nat) (W : World) : Prop :=
  BoxAt W g #[.slice (some ⟨g + 1, 0, none⟩) n n, .slice (some ⟨g + 1 + 1, 0, none⟩) n n, .slice (some ⟨g + 1 + 1 + 1, 0, none⟩) n n] 25 ∧ (∀ c, c < 3 → BoxAt W (g + 1 + c) (rowV vs wh n i c).toArray 22) ∧ Below g w2 W
theorem rest_start (vs : List Value) (wh : Nat → Nat) (n : Nat) (w2 : World) : RestS vs wh n w2.heap.size w2 0 ((((w2.alloc (.cells #[.slice (some ⟨w2.heap.size + 1, 0, none⟩) n n, .slice (some ⟨w2.heap.size + 1 + 1, 0, none⟩) n n, .slice (some ⟨w2.heap.size + 1 + 1 + 1, 0, none⟩) n n] 25)).alloc (.cells (mkN n) 22)).alloc (.cells (mkN n) 22)).alloc (.cells (mkN n) 22)) := by
  have e0 : ∀ (w : World) (o : Obj), Ext w (w.alloc o) := fun _ _ => Ext.alloc _ _
  have b1 := BoxAt.new (w2.alloc (.cells #[.slice (some ⟨w2.heap.size + 1, 0, none⟩) n n, .slice (some ⟨w2.heap.size + 1 + 1, 0, none⟩) n n, .slice (some ⟨w2.heap.size + 1 + 1 + 1, 0, none⟩) n n] 25)) (mkN n) 22
  have b2 := BoxAt.new ((w2.alloc (.cells #[.slice (some ⟨w2.heap.size + 1, 0, none⟩) n n, .slice (some ⟨w2.heap.size + 1 + 1, 0, none⟩) n n, .slice (some ⟨w2.heap.size + 1 + 1 + 1, 0, none⟩) n n] 25)).alloc (.cells (mkN n) 22)) (mkN n) 22
  have b3 := BoxAt.new (((w2.alloc (.cells #[.slice (some ⟨w2.heap.size + 1, 0, none⟩) n n, .slice (some ⟨w2.heap.size + 1 + 1, 0, none⟩) n n, .slice (some ⟨w2.heap.size + 1 + 1 + 1, 0, none⟩) n n] 25)).alloc (.cells (mkN n) 22)).alloc (.cells (mkN n) 22)) (mkN n) 22
  rw [show ∀ (w : World) (o : Obj), (w.alloc o).heap.size = w.heap.size + 1 from fun _ _ => by simp] at b1
  rw [show ∀ (w : World) (o : Obj), (w.alloc o).heap.size = w.heap.size + 1 from fun _ _ => by simp, show ∀ (w : World) (o : Obj), (w.alloc o).heap.size = w.heap.size + 1 from fun _ _ => by simp] at b2
  rw [show ∀ (w : World) (o : Obj), (w.alloc o).heap.size = w.heap.size + 1 from fun _ _ => by simp, show ∀ (w : World) (o : Obj), (w.alloc o).heap.size = w.heap.size + 1 from fun _ _ => by simp, show ∀ (w : World) (o : Obj), (w.alloc o).heap.size = w.heap.size + 1 from fun _ _ => by simp] at b3
  refine ⟨(BoxAt.new w2 _ _).ext ((e0 _ _).trans ((e0 _ _).trans (e0 _ _))), fun c hc => ?_, ?_⟩
  · rw [← rowV_zero]
    rcases c with _ | _ | _ | c
    · exact b1.ext ((e0 _ _).trans (e0 _ _))
    · exact b2.ext (e0 _ _)
    · exact b3
    · omega
  · exact (e0 _ _).trans ((e0 _ _).trans ((e0 _ _).trans (e0 _ _)))
theorem rest_step {vs : List Value} {wh : Nat → Nat} {n g i c : Nat} {w2 W : World} (h : RestS vs wh n g w2 i W) (hi : i < n) (hv : vs.length = n) (hc : wh i = c) (hc3 : c < 3) : RestS vs wh n g w2 (i + 1) (W.setCell ⟨g + 1 + c, i, none⟩ (vs[i]'(by omega))).drew := by
  obtain ⟨h1, h2, h3⟩ := h
  refine ⟨BoxAt.set_off (w := W) h1 (by omega) _ _, fun k hk => ?_, (bel_set (w' := W) h3 (by omega) _ _).drew⟩
  by_cases hkc : k = c
  · subst hkc
    have := BoxAt.set (w := W) (h2 k hk) i (vs[i]'(by omega))
    rw [rowV_on hi hv hc]
    rw [List.setIfInBounds_toArray] at this
    exact this
  · rw [rowV_off (by omega)]
    exact BoxAt.set_off (w := W) (h2 k hk) (by omega) _ _
theorem rest_cell {vs : List Value} {wh : Nat → Nat} {n g i : Nat} {w2 W : World} (h : RestS vs wh n g w2 i W) (k : Nat) (hk : k < n) (c : Nat) (hc : c < 3) : ∃ y, W.cell? ⟨g + 1 + c, k, none⟩ = some y :=
  ⟨_, (h.2.1 c hc).cell k (v := (rowV vs wh n i c)[k]'(by rw [rowV_len]; exact hk)) (by simp [rowV_len, hk])⟩
/-- copies in blocks read as lists -/
theorem rest_reads {n g : Nat} {W : World} {vv : Nat → List Value} {rr : Nat → List (List (BitVec 8))} (hn : n ≤ maxLen) (h1 : BoxAt W g #[.slice (some ⟨g + 1, 0, none⟩) n n, .slice (some ⟨g + 1 + 1, 0, none⟩) n n, .slice (some ⟨g + 1 + 1 + 1, 0, none⟩) n n] 25) (h2 : ∀ c, c < 3 → BoxAt W (g + 1 + c) (vv c).toArray 22)
    (hv : ∀ c, (vv c).length = n) (hr : ∀ c, (rr c).length = n) (he : ∀ c i (a : i < (vv c).length) (b : i < (rr c).length), SliceR Pat.u8 W (vv c)[i] (rr c)[i] ∧ (rr c)[i].length ≤ maxLen) :
    SliceR (Pat.slice (Pat.slice Pat.u8)) W (.slice (some ⟨g, 0, none⟩) 3 3) [rr 0, rr 1, rr 2] := by
  have row : ∀ c, c < 3 → SliceR (Pat.slice Pat.u8) W (.slice (some ⟨g + 1 + c, 0, none⟩) n n) (rr c) ∧ (rr c).length ≤ maxLen := fun c hc =>
    ⟨SliceR.rows ((h2 c hc).sliceList (hv c)) (by rw [hv, hr]) (he c), by rw [hr]; exact hn⟩
  refine SliceR.rows (BoxAt.sliceList (xs := [.slice (some ⟨g + 1, 0, none⟩) n n, .slice (some ⟨g + 1 + 1, 0, none⟩) n n, .slice (some ⟨g + 1 + 1 + 1, 0, none⟩) n n]) h1 rfl) rfl fun i a b => ?_
  rcases i with _ | _ | _ | i
  · exact row 0 (by omega)
  · exact row 1 (by omega)
  · exact row 2 (by omega)
  · simp at a; omega
theorem chunksL_getD {gen : BitVec 64} {l : List (BitVec 8)} {i : Nat} (hi : i < numL l.length) : (chunksL gen l).getD i [] = secL gen l i := by
  rw [getD_in (by rw [chunksL_len]; exact hi)]
  unfold chunksL chunksK
  rw [List.getElem_map, List.getElem_range]
  rfl
theorem row_getD {gen : BitVec 64} {l : List (BitVec 8)} {wh : Nat → Nat} {c i : Nat} : (rowL (chunksL gen l) wh (numL l.length) c).getD i [] = if i < numL l.length ∧ wh i = c then secL gen l i else [] := by
  by_cases hi : i < numL l.length
  · rw [getD_in (by rw [rowL_len]; exact hi)]
    simp only [rowL, List.getElem_map, List.getElem_range]
    by_cases hw : wh i = c
    · rw [if_pos hw, if_pos ⟨hi, hw⟩, chunksL_getD hi]
    · rw [if_neg hw, if_neg (fun h => hw h.2)]
  · rw [getD_out (by rw [rowL_len]; exact hi), if_neg (fun h => hi h.1)]
theorem restored {gen : BitVec 64} {l : List (BitVec 8)} {wh : Nat → Nat} (hl : l.length ≤ 600) (hw : ∀ i, wh i < 3) : gatL [rowL (chunksL gen l) wh (numL l.length) 0, rowL (chunksL gen l) wh (numL l.length) 1, rowL (chunksL gen l) wh (numL l.length) 2] gen = some l := by
  refine restore (by omega) ?_ ?_
  · intro c hc i hu
    have : ∃ k, c = rowL (chunksL gen l) wh (numL l.length) k := by
      simp only [List.mem_cons, List.not_mem_nil, or_false] at hc
      rcases hc with rfl | rfl | rfl <;> exact ⟨_, rfl⟩
    obtain ⟨k, rfl⟩ := this
    rw [row_getD] at hu ⊢
    by_cases h : i < numL l.length ∧ wh i = k
    · rw [if_pos h]; exact ⟨h.1, rfl⟩
    · rw [if_neg h, usB_nil] at hu; cases hu
  · intro i hi
    have h3 := hw i
    have : ∀ k, wh i = k → (rowL (chunksL gen l) wh (numL l.length) k).getD i [] = secL gen l i := fun k hk => by rw [row_getD, if_pos ⟨hi, hk⟩]
    have h4 : wh i = 0 ∨ wh i = 1 ∨ wh i = 2 := by omega
    rcases h4 with h | h | h
    · exact ⟨_, by simp, this _ h⟩
    · exact ⟨_, by simp, this _ h⟩
    · exact ⟨_, by simp, this _ h⟩
theorem lost {gen : BitVec 64} {l : List (BitVec 8)} {wh : Nat → Nat} (hl : l.length ≤ 600) {k : Nat} (hk : k < numL l.length) : gatL [(rowL (chunksL gen l) wh (numL l.length) 0).set k [], (rowL (chunksL gen l) wh (numL l.length) 1).set k [], (rowL (chunksL gen l) wh (numL l.length) 2).set k []] gen = none := by
  have hg : ∀ c i, ((rowL (chunksL gen l) wh (numL l.length) c).set k []).getD i [] = if i = k then [] else (rowL (chunksL gen l) wh (numL l.length) c).getD i [] := by
    intro c i
    rw [List.getD_eq_getElem?_getD, List.getD_eq_getElem?_getD, List.getElem?_set]
    by_cases h : i = k
    · subst h
      rw [if_pos rfl, if_pos rfl]
      split <;> rfl
    · rw [if_neg (fun e => h e.symm), if_neg h]
  have hcc : ∀ c ∈ [(rowL (chunksL gen l) wh (numL l.length) 0).set k [], (rowL (chunksL gen l) wh (numL l.length) 1).set k [], (rowL (chunksL gen l) wh (numL l.length) 2).set k []], ∃ j, c = (rowL (chunksL gen l) wh (numL l.length) j).set k [] := by
    intro c hc
    simp only [List.mem_cons, List.not_mem_nil, or_false] at hc
    rcases hc with rfl | rfl | rfl <;> exact ⟨_, rfl⟩
  refine restore_no (l := l) (by omega) ?_ hk ?_
  · intro c hc i hu
    obtain ⟨j, rfl⟩ := hcc c hc
    rw [hg] at hu ⊢
    by_cases hik : i = k
    · rw [if_pos hik, usB_nil] at hu; cases hu
    · rw [if_neg hik, row_getD] at hu ⊢
      by_cases h : i < numL l.length ∧ wh i = j
      · rw [if_pos h]; exact ⟨h.1, rfl⟩
      · rw [if_neg h, usB_nil] at hu; cases hu
  · intro c hc
    obtain ⟨j, rfl⟩ := hcc c hc
    rw [hg, if_pos rfl, usB_nil]
theorem three {α : Type} {P : α → Prop} {a b c : α} (ha : P a) (hb : P b) (hc : P c) : ∀ x ∈ [a, b, c], P x := by
  intro x hx
  simp only [List.mem_cons, List.not_mem_nil, or_false] at hx
  rcases hx with rfl | rfl | rfl
  · exact ha
  · exact hb
  · exact hc
theorem rowL_mem {gen : BitVec 64} {l : List (BitVec 8)} {wh : Nat → Nat} {n c : Nat} : ∀ x ∈ rowL (chunksL gen l) wh n c, x.length ≤ 57 := by
  intro x hx
  obtain ⟨k, _, rfl⟩ := List.mem_map.1 hx
  split
  · by_cases hk : k < (chunksL gen l).length
    · rw [getD_in hk]; exact (chunksL_mem gen l _ (List.getElem_mem hk)).2
    · rw [getD_out hk]; simp
  · simp
theorem three_set {vs : List Value} {wh : Nat → Nat} {n g i : Nat} {w2 w : World} (k0 : Nat) {cs : Array Value} (h0 : BoxAt w g cs 25) (h1 : ∀ c, c < 3 → BoxAt w (g + 1 + c) (rowV vs wh n i c).toArray 22) (hb : Below g w2 w) :
    BoxAt (((w.setCell ⟨g + 1, k0, none⟩ (.slice none 0 0)).setCell ⟨g + 1 + 1, k0, none⟩ (.slice none 0 0)).setCell ⟨g + 1 + 1 + 1, k0, none⟩ (.slice none 0 0)) g cs 25 ∧
    (∀ c, c < 3 → BoxAt (((w.setCell ⟨g + 1, k0, none⟩ (.slice none 0 0)).setCell ⟨g + 1 + 1, k0, none⟩ (.slice none 0 0)).setCell ⟨g + 1 + 1 + 1, k0, none⟩ (.slice none 0 0)) (g + 1 + c) ((rowV vs wh n i c).set k0 (.slice none 0 0)).toArray 22) ∧
    Below g w2 (((w.setCell ⟨g + 1, k0, none⟩ (.slice none 0 0)).setCell ⟨g + 1 + 1, k0, none⟩ (.slice none 0 0)).setCell ⟨g + 1 + 1 + 1, k0, none⟩ (.slice none 0 0)) := by
  refine ⟨((h0.set_off (by omega) _ _).set_off (by omega) _ _).set_off (by omega) _ _, fun c hc => ?_, bel_set (bel_set (bel_set hb (by omega) _ _) (by omega) _ _) (by omega) _ _⟩
  rw [← List.setIfInBounds_toArray]
  rcases c with _ | _ | _ | c
  · exact (((h1 0 hc).set k0 _).set_off (by omega) _ _).set_off (by omega) _ _
  · exact (((h1 1 hc).set_off (by omega) _ _).set k0 _).set_off (by omega) _ _
  · exact (((h1 2 hc).set_off (by omega) _ _).set_off (by omega) _ _).set k0 _
  · omega
def whN (wh : List (BitVec 8)) (i : Nat) : Nat := if i < wh.length then (wh.getD i 0#8).toNat % 3 else 0
theorem whN_lt (wh : List (BitVec 8)) (i : Nat) : whN wh i < 3 := by unfold whN; split <;> omega

set_option maxRecDepth 100000 in
set_option maxHeartbeats 4000000 in
theorem replicaRestores_walk (vb vh : Value) (l wh : List (BitVec 8)) (gen : BitVec 64) (w : World) (hm : l.length ≤ maxLen) (hmh : wh.length ≤ maxLen) (h : SliceAt encB w vb l) (h2 : SliceAt encB w vh wh) :
    Calls Try.prog 6 #[vb, encU gen, vh] w fun e w' => e = .returned (.bool true) ∧ Below w.heap.size w w' := by
  obtain ⟨ad, cap, rfl⟩ := h.shape
  obtain ⟨ah, ch, rfl⟩ := h2.shape
  have HS := Lib.hid h
  have HH := Lib.hid h2
  clear h h2
  unfold maxLen at hm hmh
  go_enter Try.func6, Try.ntmps6
  go_wp2_with fail
  go_at_call 8
  refine (awake_any _).mono ?_
  rintro e w1 ⟨rfl, hb1⟩
  have HX1 : Hid (Ext w w1) := hb1
  clear hb1
  by_cases hl : l.length ≤ 600
  · have hd : decide ((600 : Int) < (l.length : Int)) = false := by rw [decide_eq_false_iff_not]; omega
    go_wp2_with fail
    go_at_call 9
    refine (chunks_any gen _ l _ (by omega) (HS.out.ext HX1.out)).mono ?_
    rintro e w2 ⟨v2, rfl, ho2, hb2⟩
    have HX2 : Hid (Ext w w2) := HX1.out.trans hb2
    have hn0 : 0 < (chunksL gen l).length := by rw [chunksL_len]; unfold numL; omega
    have hn1 : (chunksL gen l).length ≤ 19 := by rw [chunksL_len]; unfold numL; omega
    obtain ⟨lg, c3, rfl, hg1, hg2⟩ := ho2.form hn0
    obtain ⟨vs, h1, h2, h3⟩ := ho2
    obtain ⟨n, hn⟩ : ∃ n, (chunksL gen l).length = n := ⟨_, rfl⟩
    have HN := Lib.hid hn
    have H3 := Lib.hid h3
    rw [hn] at hn0 hn1 h1 h2
    rw [hn]
    have HV := Lib.hid h2
    have H1 := Lib.hid h1
    clear h3 hb2 hn hg1
    have hmk3 := mk3
    have hmkn : ∀ w : World, (Instr.makeSlice 25 (.int .i64 (n : Int)) (.int .i64 (n : Int))).run Try.prog w = .ok (.slice (some ⟨w.heap.size, 0, none⟩) n n) (w.alloc (.cells (mkN n) 22)) :=
      run_make_row' 25 22 (.slice none 0 0) 24 Try.underlying25 infoS3 rfl .i64 .i64 n (by omega) (by omega)
    go_wp2_with fail
    refine wp_loop_rounds 4 ?_
    iterate 3 (rw [rounds_succ]; go_wp2)
    rw [rounds_succ]
    go_wp2_with fail
    have HR : Hid (RestS vs (whN wh) n w2.heap.size w2 0 _) := rest_start vs (whN wh) n w2
    generalize (((w2.alloc (.cells #[.slice (some ⟨w2.heap.size + 1, 0, none⟩) n n, .slice (some ⟨w2.heap.size + 1 + 1, 0, none⟩) n n, .slice (some ⟨w2.heap.size + 1 + 1 + 1, 0, none⟩) n n] 25)).alloc (.cells (mkN n) 22)).alloc (.cells (mkN n) 22)).alloc (.cells (mkN n) 22) = w3 at *
    obtain ⟨g, hg⟩ : ∃ g, w2.heap.size = g := ⟨_, rfl⟩
    have HG := Lib.hid hg
    rw [hg] at HR hg2 ⊢
    clear hg
    go_loopw [11] (fun x wr => ∃ i : Nat, i ≤ n ∧ x = .int .i64 i ∧ Hid (RestS vs (whN wh) n g w2 i wr)) (fun x _ => n - (intOf x).toNat)
    case atStart => exact ⟨0, by omega, rfl, HR⟩
    case round =>
      obtain ⟨i, hi, rfl, HR1⟩ := hrel
      have hgc := fun c v hv => HR1.out.1.cell c (v := v) hv
      have hgf := HR1.out.1.lt
      by_cases hin : i < n
      · have hii : (i : Int) < (n : Int) := by omega
        have hlt : lg < wr.heap.size := by omega
        have hx2r : Ext w2 wr := by have := HR1.out.2.2; rw [← HG.out] at this; exact this
        have hlc := (hx2r.cell lg i (by rw [HG.out]; exact hg2)).trans (H1.out.at HV.out.symm (k := i) (by have := HV.out; omega))
        have hq0 := HR1.out.1.cell 0 (v := .slice (some ⟨g + 1, 0, none⟩) n n) rfl
        have hq1 := HR1.out.1.cell 1 (v := .slice (some ⟨g + 1 + 1, 0, none⟩) n n) rfl
        have hq2 := HR1.out.1.cell 2 (v := .slice (some ⟨g + 1 + 1 + 1, 0, none⟩) n n) rfl
        have hf0 := (HR1.out.2.1 0 (by omega)).free i
        have hf1 := (HR1.out.2.1 1 (by omega)).free i
        have hf2 := (HR1.out.2.1 2 (by omega)).free i
        have hz0 := (HR1.out.2.1 0 (by omega)).lt
        have hz1 := (HR1.out.2.1 1 (by omega)).lt
        have hz2 := (HR1.out.2.1 2 (by omega)).lt
        obtain ⟨y0, hy0⟩ := rest_cell HR1.out i hin 0 (by omega)
        obtain ⟨y1, hy1⟩ := rest_cell HR1.out i hin 1 (by omega)
        obtain ⟨y2, hy2⟩ := rest_cell HR1.out i hin 2 (by omega)
        simp only [Nat.add_zero] at hf0 hz0 hy0
        rw [show g + 1 + 2 = g + 1 + 1 + 1 from rfl] at hf2 hz2 hy2
        have hHs := HH.out.ext (HX2.out.trans hx2r)
        have HU := Lib.hid (rest_step HR1.out hin HV.out rfl (whN_lt wh i))
        obtain ⟨au, cu, hui⟩ := (H3.out i (by have := HV.out; omega) (by have := HN.out; omega)).shape
        simp only [id] at hlc
        rw [hui] at hlc HU
        generalize ((chunksL gen l)[i]'(by have := HN.out; omega)).length = nu at *
        clear hx2r hgc hui
        by_cases hw : i < wh.length
        · have hwi : (i : Int) < (wh.length : Int) := by omega
          obtain ⟨bw, ow, rfl, hbw, hcw⟩ := hHs.get i hw
          have hwn : whN wh i = (wh[i]).toNat % 3 := by unfold whN; rw [if_pos hw, getD_in hw]
          generalize wh[i] = x at *
          have hwc : x.toNat % 3 = 0 ∨ x.toNat % 3 = 1 ∨ x.toNat % 3 = 2 := by omega
          rcases hwc with hw3 | hw3 | hw3
          all_goals (first | have hrm : wrap64 ((ub x).tmod 3) = 0 := by (rw [Int.tmod_eq_emod_of_nonneg (by unfold ub; omega)]; unfold wrap64 ub; omega) | have hrm : wrap64 ((ub x).tmod 3) = 1 := by (rw [Int.tmod_eq_emod_of_nonneg (by unfold ub; omega)]; unfold wrap64 ub; omega) | have hrm : wrap64 ((ub x).tmod 3) = 2 := by (rw [Int.tmod_eq_emod_of_nonneg (by unfold ub; omega)]; unfold wrap64 ub; omega))
          all_goals rw [hwn, hw3] at HU
          all_goals clear hw3 hwn
          all_goals go_wp2_with fail
          all_goals
            refine wp_region_ext [(0, true), (1, true), (2, true), (3, true), (4, true), (5, true), (6, true), (7, true), (8, true), (9, true), (10, false)] (by kernel_rfl) (by kernel_rfl) ?_
            iterate 10 (first
             | (refine ext_move rfl rfl (by rfl) (by rfl) ?_; simp only [Act.put, List.setIfInBounds_toArray, List.set_cons_zero, List.set_cons_succ])
             | (refine ext_assign rfl rfl (by rfl) (by rfl) ?_; simp only [Act.put, List.setIfInBounds_toArray, List.set_cons_zero, List.set_cons_succ])
             | (refine ext_pick_t rfl rfl (by rfl) (by rfl) (by rfl) ?_; simp only [Act.put, List.setIfInBounds_toArray, List.set_cons_zero, List.set_cons_succ])
             | (refine ext_pick_f rfl rfl (by rfl) (by rfl) (by rfl) ?_; simp only [Act.put, List.setIfInBounds_toArray, List.set_cons_zero, List.set_cons_succ])
             | (apply ext_take rfl (by rfl)
                · intro w' hS
                  have hSc := hS.cells
                  (try simp only [World.size_drew, World.cell?_drew] at hSc)
                  go_simp
                  (try simp (disch := omega) only [i64_id, u64_id, ↓IntWalk.iteOmega, Int.tdiv_eq_ediv_of_nonneg, Int.tmod_eq_emod_of_nonneg])
                  try rfl
                simp only [Act.put, List.setIfInBounds_toArray, List.set_cons_zero, List.set_cons_succ])
             | (refine ext_pass rfl (by rfl) ?_; simp only [Act.put, List.setIfInBounds_toArray, List.set_cons_zero, List.set_cons_succ]))
            (refine ext_last rfl (by rfl) (by kernel_rfl) (fun K hK => ?_)
             go_simp
             refine hK _ _ ?_
             clear hK K
             (try simp only [Act.put, List.setIfInBounds_toArray, List.set_cons_zero, List.set_cons_succ]))
            go_wp2
            go_roundw
            case rel => exact ⟨i + 1, by omega, by go_num, HU⟩
            case measure => show n - (intOf (.int .i64 ((i : Int) + 1))).toNat < n - (intOf (.int .i64 (i : Int))).toNat; unfold intOf; simp only; omega
        · have hwi : ¬ (i : Int) < (wh.length : Int) := by omega
          have hwd : decide ((i : Int) < (wh.length : Int)) = false := decide_eq_false hwi
          have hwn : whN wh i = 0 := by unfold whN; rw [if_neg hw]
          rw [hwn] at HU
          clear hwi hHs
          go_wp2_with fail
          refine wp_region_ext [(0, true), (1, true), (2, true), (3, true), (4, true), (5, true), (6, true), (7, true), (8, true), (9, true), (10, false)] (by kernel_rfl) (by kernel_rfl) ?_
          iterate 10 (first
           | (refine ext_move rfl rfl (by rfl) (by rfl) ?_; simp only [Act.put, List.setIfInBounds_toArray, List.set_cons_zero, List.set_cons_succ])
           | (refine ext_assign rfl rfl (by rfl) (by rfl) ?_; simp only [Act.put, List.setIfInBounds_toArray, List.set_cons_zero, List.set_cons_succ])
           | (refine ext_pick_t rfl rfl (by rfl) (by rfl) (by rfl) ?_; simp only [Act.put, List.setIfInBounds_toArray, List.set_cons_zero, List.set_cons_succ])
           | (refine ext_pick_f rfl rfl (by rfl) (by rfl) (by rfl) ?_; simp only [Act.put, List.setIfInBounds_toArray, List.set_cons_zero, List.set_cons_succ])
           | (apply ext_take rfl (by rfl)
              · intro w' hS
                have hSc := hS.cells
                (try simp only [World.size_drew, World.cell?_drew] at hSc)
                go_simp
                (try simp (disch := omega) only [i64_id, u64_id, ↓IntWalk.iteOmega, Int.tdiv_eq_ediv_of_nonneg, Int.tmod_eq_emod_of_nonneg])
                try rfl
              simp only [Act.put, List.setIfInBounds_toArray, List.set_cons_zero, List.set_cons_succ])
           | (refine ext_pass rfl (by rfl) ?_; simp only [Act.put, List.setIfInBounds_toArray, List.set_cons_zero, List.set_cons_succ]))
          (refine ext_last rfl (by rfl) (by kernel_rfl) (fun K hK => ?_)
           go_simp
           refine hK _ _ ?_
           clear hK K
           (try simp only [Act.put, List.setIfInBounds_toArray, List.set_cons_zero, List.set_cons_succ]))
          go_wp2
          go_roundw
          case rel => exact ⟨i + 1, by omega, by go_num, HU⟩
          case measure => show n - (intOf (.int .i64 ((i : Int) + 1))).toNat < n - (intOf (.int .i64 (i : Int))).toNat; unfold intOf; simp only; omega
      · have hin : i = n := by omega
        subst hin
        have hx2r : Ext w2 wr := by have := HR1.out.2.2; rw [← HG.out] at this; exact this
        have HXR := Lib.hid hx2r
        have hnl : i = numL l.length := by rw [← HN.out, chunksL_len]
        have hel : ∀ W, Ext w2 W → ∀ c k (a : k < (rowV vs (whN wh) i i c).length) (b : k < (rowL (chunksL gen l) (whN wh) i c).length), SliceR Pat.u8 W (rowV vs (whN wh) i i c)[k] (rowL (chunksL gen l) (whN wh) i c)[k] ∧ ((rowL (chunksL gen l) (whN wh) i c)[k]).length ≤ 57 := by
          intro W hW c k a b
          rw [rowV_len] at a
          simp only [rowV, rowL, List.getElem_map, List.getElem_range]
          by_cases hw : whN wh k = c
          · rw [if_pos ⟨a, hw⟩, if_pos hw, getD_in (by rw [HV.out]; exact a), getD_in (by rw [HN.out]; exact a)]
            exact ⟨((H3.out k (by rw [HV.out]; exact a) (by rw [HN.out]; exact a)).slice.ext hW).toR fun _ _ => trivial, (chunksL_mem gen l _ (List.getElem_mem _)).2⟩
          · rw [if_neg (fun h => hw h.2), if_neg hw]
            exact ⟨SliceR.nil, by simp⟩
        have HEL := Lib.hid hel
        have HSR : Hid (SliceR (Pat.slice (Pat.slice Pat.u8)) wr (.slice (some ⟨g, 0, none⟩) 3 3) [rowL (chunksL gen l) (whN wh) i 0, rowL (chunksL gen l) (whN wh) i 1, rowL (chunksL gen l) (whN wh) i 2]) :=
          rest_reads (rr := rowL (chunksL gen l) (whN wh) i) (by unfold maxLen; omega) HR1.out.1 HR1.out.2.1 (fun c => rowV_len ..) (fun c => rowL_len ..) (fun c k a b => ⟨(hel _ HXR.out c k a b).1, Nat.le_trans (hel _ HXR.out c k a b).2 (by decide)⟩)
        have HGL : Hid (gatL [rowL (chunksL gen l) (whN wh) i 0, rowL (chunksL gen l) (whN wh) i 1, rowL (chunksL gen l) (whN wh) i 2] gen = some l) := by
          show _ = _; rw [hnl]; exact restored hl (whN_lt wh)
        have HNL := Lib.hid hnl
        clear hel hx2r hgc hnl
        go_wp2_with fail
        go_at_call 13
        refine (gather_any _ [rowL (chunksL gen l) (whN wh) i 0, rowL (chunksL gen l) (whN wh) i 1, rowL (chunksL gen l) (whN wh) i 2] gen _ (by simp) (three (by rw [rowL_len]; omega) (by rw [rowL_len]; omega) (by rw [rowL_len]; omega)) (three (fun x hx => Nat.le_trans (rowL_mem x hx) (by omega)) (fun x hx => Nat.le_trans (rowL_mem x hx) (by omega)) (fun x hx => Nat.le_trans (rowL_mem x hx) (by omega))) HSR.out).mono ?_
        rintro e w4 ⟨v4, rfl, ho4, hb4⟩
        rw [HGL.out] at ho4 ⊢
        simp only [Option.getD_some] at ho4
        simp only [Option.isSome_some, if_true]
        obtain ⟨a4, c4, rfl⟩ := ho4.shape
        have HX4 : Hid (Ext wr w4) := hb4
        have k1 := run_str (P := Try.prog) Try.underlying22 Try.underlying5 Try.underlying9 w4 _ _ ho4.slice
        have k2 := run_str (P := Try.prog) Try.underlying22 Try.underlying5 Try.underlying9 w4 _ _ (HS.out.ext (HX2.out.trans (HXR.out.trans HX4.out)))
        have hll : decide (l = l) = true := decide_eq_true rfl
        obtain ⟨k0, hk0⟩ : ∃ k0 : Nat, wh.length % i = k0 := ⟨_, rfl⟩
        have hk1 : k0 < i := by rw [← hk0]; exact Nat.mod_lt _ hn0
        have hrm : (wh.length : Int).tmod (i : Int) = (k0 : Int) := by rw [← hk0, Int.tmod_eq_emod_of_nonneg (by omega)]; omega
        have hrm2 : (wh.length : Int) % (i : Int) = (k0 : Int) := by rw [← hk0]; omega
        have hk2 : (k0 : Int) < (i : Int) := by omega
        have hq0 := (HR1.out.1.ext HX4.out).cell 0 (v := .slice (some ⟨g + 1, 0, none⟩) i i) rfl
        have hq1 := (HR1.out.1.ext HX4.out).cell 1 (v := .slice (some ⟨g + 1 + 1, 0, none⟩) i i) rfl
        have hq2 := (HR1.out.1.ext HX4.out).cell 2 (v := .slice (some ⟨g + 1 + 1 + 1, 0, none⟩) i i) rfl
        have hf0 := ((HR1.out.2.1 0 (by omega)).ext HX4.out).free k0
        have hf1 := ((HR1.out.2.1 1 (by omega)).ext HX4.out).free k0
        have hf2 := ((HR1.out.2.1 2 (by omega)).ext HX4.out).free k0
        obtain ⟨y0, hy0⟩ := rest_cell HR1.out k0 hk1 0 (by omega)
        obtain ⟨y1, hy1⟩ := rest_cell HR1.out k0 hk1 1 (by omega)
        obtain ⟨y2, hy2⟩ := rest_cell HR1.out k0 hk1 2 (by omega)
        replace hy0 := (HX4.out.cell _ _ (HR1.out.2.1 0 (by omega)).lt).trans hy0
        replace hy1 := (HX4.out.cell _ _ (HR1.out.2.1 1 (by omega)).lt).trans hy1
        replace hy2 := (HX4.out.cell _ _ (HR1.out.2.1 2 (by omega)).lt).trans hy2
        simp only [Nat.add_zero] at hf0 hy0
        rw [show g + 1 + 2 = g + 1 + 1 + 1 from rfl] at hf2 hy2
        have HB0 := Lib.hid (HR1.out.1.ext HX4.out)
        have HB1 : Hid (∀ c, c < 3 → BoxAt w4 (g + 1 + c) (rowV vs (whN wh) i i c).toArray 22) := fun c hc => (HR1.out.2.1 c hc).ext HX4.out
        have HBL : Hid (Below g w2 w4) := HR1.out.2.2.trans (by have := HX4.out; rw [Ext] at this; exact this.mono (by have := HR1.out.1.lt; omega))
        have HK0 := Lib.hid hk0
        have hfin : ∀ c, g + 1 + c ≠ g := fun c => by omega
        clear ho4 hb4 hk0 hgf
        go_wp2
        refine wp_loop_rounds 4 ?_
        iterate 3 (rw [rounds_succ]; go_wp2)
        rw [rounds_succ]
        go_wp2_with fail
        go_at_call 13
        obtain ⟨HB5, HB6, HBL5⟩ := three_set k0 HB0.out HB1.out HBL.out
        have hx5 : Ext w2 (((w4.setCell ⟨g + 1, k0, none⟩ (.slice none 0 0)).setCell ⟨g + 1 + 1, k0, none⟩ (.slice none 0 0)).setCell ⟨g + 1 + 1 + 1, k0, none⟩ (.slice none 0 0)) := by rw [← HG.out] at HBL5 ⊢; exact HBL5
        generalize ((w4.setCell ⟨g + 1, k0, none⟩ (.slice none 0 0)).setCell ⟨g + 1 + 1, k0, none⟩ (.slice none 0 0)).setCell ⟨g + 1 + 1 + 1, k0, none⟩ (.slice none 0 0) = w5 at *
        have hm3 : ∀ c, ∀ x ∈ (rowL (chunksL gen l) (whN wh) i c).set k0 [], x.length ≤ 57 := by
          intro c x hx
          rcases List.mem_or_eq_of_mem_set hx with h | h
          · exact rowL_mem x h
          · rw [h]; simp
        refine (gather_any _ [(rowL (chunksL gen l) (whN wh) i 0).set k0 [], (rowL (chunksL gen l) (whN wh) i 1).set k0 [], (rowL (chunksL gen l) (whN wh) i 2).set k0 []] gen _ (by simp) (three (by rw [List.length_set, rowL_len]; omega) (by rw [List.length_set, rowL_len]; omega) (by rw [List.length_set, rowL_len]; omega)) (three (fun x hx => Nat.le_trans (hm3 _ x hx) (by omega)) (fun x hx => Nat.le_trans (hm3 _ x hx) (by omega)) (fun x hx => Nat.le_trans (hm3 _ x hx) (by omega)))
          (rest_reads (vv := fun c => (rowV vs (whN wh) i i c).set k0 (.slice none 0 0)) (rr := fun c => (rowL (chunksL gen l) (whN wh) i c).set k0 []) (by unfold maxLen; omega) HB5 HB6 (fun c => by rw [List.length_set, rowV_len]) (fun c => by rw [List.length_set, rowL_len]) (fun c k a b => ?_))).mono ?_
        · rw [List.getElem_set, List.getElem_set]
          by_cases hk : k0 = k
          · rw [if_pos hk, if_pos hk]; exact ⟨SliceR.nil, by simp⟩
          · rw [if_neg hk, if_neg hk]
            rw [List.length_set] at a b
            exact ⟨(HEL.out _ hx5 c k a b).1, Nat.le_trans (HEL.out _ hx5 c k a b).2 (by decide)⟩
        · rintro e w6 ⟨v6, rfl, ho6, hb6⟩
          have HGN : Hid (gatL [(rowL (chunksL gen l) (whN wh) i 0).set k0 [], (rowL (chunksL gen l) (whN wh) i 1).set k0 [], (rowL (chunksL gen l) (whN wh) i 2).set k0 []] gen = none) := by
            show _ = _
            rw [HNL.out]
            rw [HNL.out] at hk1
            exact lost hl hk1
          rw [HGN.out]
          simp only [Option.isSome_none]
          have HX6 : Hid (Ext w5 w6) := hb6
          have HX5 := Lib.hid hx5
          clear hb6 ho6 hx5 HB5 HB6 HBL5 hm3
          go_wp2_with fail
          go_ret
          exact ⟨rfl, HX2.out.trans (HX5.out.trans HX6.out)⟩
  · have hd : decide ((600 : Int) < (l.length : Int)) = true := by rw [decide_eq_true_eq]; omega
    go_wp2_with fail
    go_at_call 8
    refine (awake_any _).mono ?_
    rintro e w3 ⟨rfl, hb3⟩
    have HX3 : Hid (Ext w1 w3) := hb3
    clear hb3
    go_wp2_with fail
    go_ret
    exact ⟨rfl, HX1.out.trans HX3.out⟩
end Go.Proofs.Ytknpdoepjihceaa
