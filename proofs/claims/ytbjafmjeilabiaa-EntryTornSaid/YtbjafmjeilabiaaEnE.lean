/-
  Chapter 15 (entry): Decode, joined; Decode of the reference.
-/
import Derived.Test.YtbjafmjeilabiaaEnD
import Derived.Handy
namespace Go.Proofs.Ytbjafmjeilabiaa
open Go.RowKit
set_option linter.unusedVariables false

theorem decode_any (v : Value) (l : List (BitVec 8)) (w : World) (hl : l.length ≤ maxLen) (h : SliceAt encB w v l) :
    Calls Try.prog 12 #[v] w fun e w' => e = .returned (decV l) ∧ Below w.heap.size w w' := by
  unfold decV
  by_cases h1 : l.length ≠ 37
  · rw [if_pos h1]; exact decode_len v l w hl h h1
  rw [if_neg h1]
  have h1 : l.length = 37 := by omega
  by_cases h2 : dS l ≠ dC l
  · rw [if_pos h2]; exact decode_sum v l w h h1 h2
  rw [if_neg h2]
  have h2 : dS l = dC l := Classical.not_not.1 h2
  by_cases h3 : vld (dK l) (dB l) (dV l) (dD l) = true
  · rw [if_pos h3]; exact decode_yes v l w h h1 h2 h3
  · rw [if_neg h3]; exact decode_bad v l w h h1 h2 (by simpa using h3)

theorem rdecode_len (v : Value) (l : List (BitVec 8)) (w : World) (hl : l.length ≤ maxLen) (h : SliceAt encB w v l) (hne : l.length ≠ 37) :
    Calls Try.prog 13 #[v] w fun e w' => e = .returned (badE 5) ∧ Below w.heap.size w w' := by
  obtain ⟨ad, cap, rfl, _, _⟩ := h
  unfold maxLen at hl
  have hq : ((l.length : Int) != 37) = true := by rw [bne_iff_ne]; omega
  clear hne
  go_enter Try.func13, Try.ntmps13
  go_wp2
  refine bodyPost_ret (v := badE 5) ?_ rfl ⟨rfl, ?_⟩
  · unfold badE; simp [results, Try.results13, go_sem]
  · exact Ext.alloc _ _

/-- the seal fits -/
theorem seal_fits (l : List (BitVec 8)) (hl : l.length = 37) : seal8 (l.take 29) = l ↔ dS l = dC l := by
  have e1 : l.take 29 ++ l.drop 29 = l := List.take_append_drop 29 l
  have e2 : (l.take 37).drop 29 = l.drop 29 := by rw [List.take_of_length_le (by omega)]
  unfold seal8 dS dC
  rw [e2]
  constructor
  · intro h
    have h1 : l.take 29 ++ le 8 (Crc.sum (l.take 29)) = l.take 29 ++ l.drop 29 := h.trans e1.symm
    rw [← List.append_cancel_left h1, unle_le]
  · intro h
    rw [← h]
    have := le_unle (l.drop 29) (by simp; omega)
    rw [show (l.drop 29).length = 8 by simp; omega] at this
    rw [this, e1]

def sL (l : List (BitVec 8)) : List (BitVec 8) := seal8 (l.take 29)
attribute [local go_sem] eq_strE ne_strE

set_option maxHeartbeats 800000 in
theorem rdecode_sum (v : Value) (l : List (BitVec 8)) (w : World) (h : SliceAt encB w v l) (hl : l.length = 37) (hne : dS l ≠ dC l) :
    Calls Try.prog 13 #[v] w fun e w' => e = .returned (badE 6) ∧ Below w.heap.size w w' := by
  have HS := Lib.hid h
  obtain ⟨b, off, cap, rfl, hca, hb, _⟩ := h.some_of (by omega)
  have hq : eqB (sL l) l = false := eqB_false (fun e => hne ((seal_fits l hl).1 e))
  have hc37 : (37 : Int) ≤ (cap : Int) := by omega
  have hc29 : (29 : Int) ≤ (cap : Int) := by omega
  rw [hl] at HS
  rw [hl]
  have HL := Lib.hid hl
  clear hne hl hca h
  go_enter Try.func13, Try.ntmps13
  go_wp2
  have hxA := (Ext.alloc w (.cells #[.int .i64 0, .int .i64 0, .int .u64 0, .int .u8 0, .int .u8 0, .int .u8 0, .int .u8 0, .int .u8 0, .int .u8 0, .int .u8 0, .int .u8 0] 26))
  have hxd := hxA.trans (Ext.drew _)
  have HS0 := Lib.hid (HS.out.ext hxA)
  have HS1 := Lib.hid (HS.out.ext hxd)
  clear hxA
  refine wp_region_ext [(0, true), (1, true), (4, true), (5, true), (2, false), (3, true), (6, true)] (by kernel_rfl) (by kernel_rfl) ?_
  iterate 3 (first
   | (refine ext_move rfl rfl (by rfl) (by rfl) ?_; simp only [Act.put, List.setIfInBounds_toArray, List.set_cons_zero, List.set_cons_succ])
   | (refine ext_assign rfl rfl (by rfl) (by rfl) ?_; simp only [Act.put, List.setIfInBounds_toArray, List.set_cons_zero, List.set_cons_succ])
   | (refine ext_pick_t rfl rfl (by rfl) (by rfl) (by rfl) ?_; simp only [Act.put, List.setIfInBounds_toArray, List.set_cons_zero, List.set_cons_succ])
   | (refine ext_pick_f rfl rfl (by rfl) (by rfl) (by rfl) ?_; simp only [Act.put, List.setIfInBounds_toArray, List.set_cons_zero, List.set_cons_succ])
   | (apply ext_take rfl (by rfl)
      · intro w' hS
        have hSc := hS.cells
        (try simp only [World.size_drew, World.cell?_drew] at hSc)
        go_simp
        (try simp (disch := omega) only [i64_id, u64_id, ↓IntWalk.iteOmega, Int.tdiv_eq_ediv_of_nonneg, Int.tmod_eq_emod_of_nonneg])
        try rfl
      simp only [Act.put, List.setIfInBounds_toArray, List.set_cons_zero, List.set_cons_succ])
   | (refine ext_pass rfl (by rfl) ?_; simp only [Act.put, List.setIfInBounds_toArray, List.set_cons_zero, List.set_cons_succ]))
  (apply ext_take rfl (by rfl)
   · intro w' hS
     have hcv := run_str (P := Try.prog) Try.underlying27 Try.underlying5 Try.underlying9 w' _ _ (SliceAt.ext HS0.out hS)
     go_simp
     try rfl
   simp only [Act.put, List.setIfInBounds_toArray, List.set_cons_zero, List.set_cons_succ])
  (refine ext_do rfl (by rfl) (fun K hK => ?_)
   go_simp
   go_at_call 14
   refine (seal_any _ _ _ (by simp; omega) (HS1.out.sub 0 29 29 _ (by omega) (by omega) (by omega) (by omega))).mono ?_
   rintro e w1 ⟨v1, rfl, ho1, hb1⟩
   have hx1 : Ext w w1 := hxd.trans hb1
   have hc1 := Ext.cells hb1
   have hf1 := Ext.frozens hb1
   have hs1 : w.heap.size < w1.heap.size := by have := Ext.size hb1; simp at this; omega
   have hlb1 : b < w1.heap.size := by omega
   have HO1 : Hid (SliceAt encB w1 v1 (sL l)) := OwnB.slice ho1
   clear ho1
   refine hK _ _ ((Ext.drew _).trans hb1) ?_
   clear hK K
   (try simp only [Act.put, List.setIfInBounds_toArray, List.set_cons_zero, List.set_cons_succ]))
  (apply ext_take rfl (by rfl)
   · intro w' hS
     have hcv := run_str (P := Try.prog) Try.underlying27 Try.underlying5 Try.underlying9 w' _ _ (SliceAt.ext HO1.out hS)
     go_simp
     try rfl
   simp only [Act.put, List.setIfInBounds_toArray, List.set_cons_zero, List.set_cons_succ])
  iterate 1 (first
   | (refine ext_move rfl rfl (by rfl) (by rfl) ?_; simp only [Act.put, List.setIfInBounds_toArray, List.set_cons_zero, List.set_cons_succ])
   | (refine ext_assign rfl rfl (by rfl) (by rfl) ?_; simp only [Act.put, List.setIfInBounds_toArray, List.set_cons_zero, List.set_cons_succ])
   | (refine ext_pick_t rfl rfl (by rfl) (by rfl) (by rfl) ?_; simp only [Act.put, List.setIfInBounds_toArray, List.set_cons_zero, List.set_cons_succ])
   | (refine ext_pick_f rfl rfl (by rfl) (by rfl) (by rfl) ?_; simp only [Act.put, List.setIfInBounds_toArray, List.set_cons_zero, List.set_cons_succ])
   | (apply ext_take rfl (by rfl)
      · intro w' hS
        have hSc := hS.cells
        (try simp only [World.size_drew, World.cell?_drew] at hSc)
        go_simp
        (try simp (disch := omega) only [i64_id, u64_id, ↓IntWalk.iteOmega, Int.tdiv_eq_ediv_of_nonneg, Int.tmod_eq_emod_of_nonneg])
        try rfl
      simp only [Act.put, List.setIfInBounds_toArray, List.set_cons_zero, List.set_cons_succ])
   | (refine ext_pass rfl (by rfl) ?_; simp only [Act.put, List.setIfInBounds_toArray, List.set_cons_zero, List.set_cons_succ]))
  refine ext_nil ?_
  go_wp2
  refine bodyPost_ret (v := badE 6) ?_ rfl ⟨rfl, ?_⟩
  · unfold badE
    simp only [results, Try.results13]
    go_simp
  · refine below_of_ext ?_
    repeat (with_reducible refine Ext.setOwn ?_ (Nat.le_refl _))
    exact hx1

set_option maxRecDepth 100000 in
set_option maxHeartbeats 1600000 in
theorem rdecode_bad (v : Value) (l : List (BitVec 8)) (w : World) (h : SliceAt encB w v l) (hl : l.length = 37) (hs : dS l = dC l) (hv : vld (dK l) (dB l) (dV l) (dD l) = false) :
    Calls Try.prog 13 #[v] w fun e w' => e = .returned (badE 5) ∧ Below w.heap.size w w' := by
  have HS := Lib.hid h
  obtain ⟨b, off, cap, rfl, hca, hb, hcell⟩ := h.some_of (by omega)
  have hq : eqB (sL l) l = true := eqB_iff.2 ((seal_fits l hl).2 hs)
  have hc29 : (29 : Int) ≤ (cap : Int) := by omega
  have hc37 : (37 : Int) ≤ (cap : Int) := by omega
  have cx : ∀ i (hi : i < 37), w.cell? ⟨b, off + i, none⟩ = some (encB (l.getD i 0#8)) := fun i hi => by
    rw [hcell i (by omega)]; simp [List.getD, show i < l.length by omega]
  have k0 : w.cell? ⟨b, off, none⟩ = some (encB (d0 l)) := cx 0 (by omega)
  have k1 : w.cell? ⟨b, off + 13, none⟩ = some (encB (dX l 0)) := cx 13 (by omega)
  have k2 : w.cell? ⟨b, off + 14, none⟩ = some (encB (dX l 1)) := cx 14 (by omega)
  have k3 : w.cell? ⟨b, off + 15, none⟩ = some (encB (dX l 2)) := cx 15 (by omega)
  have k4 : w.cell? ⟨b, off + 16, none⟩ = some (encB (dX l 3)) := cx 16 (by omega)
  have k5 : w.cell? ⟨b, off + 17, none⟩ = some (encB (dX l 4)) := cx 17 (by omega)
  have k6 : w.cell? ⟨b, off + 18, none⟩ = some (encB (dX l 5)) := cx 18 (by omega)
  have k7 : w.cell? ⟨b, off + 19, none⟩ = some (encB (dX l 6)) := cx 19 (by omega)
  have k8 : w.cell? ⟨b, off + 20, none⟩ = some (encB (dX l 7)) := cx 20 (by omega)
  have hbd := un_bound (dBn l)
  have hlt5 := unle_lt ((l.take 5).drop 1) 4 (by simp; omega) (by omega)
  have hbd2 : un (dBn l) ≤ 9223372036854775807 := by unfold un dBn; omega
  have hub := ub_bound (d0 l)
  rw [hl] at HS
  rw [hl]
  have HL := Lib.hid hl
  have HV := Lib.hid hv
  clear hs hl hca h hcell cx hlt5 hv
  go_enter Try.func13, Try.ntmps13
  go_wp2
  have hxA := (Ext.alloc w (.cells #[.int .i64 0, .int .i64 0, .int .u64 0, .int .u8 0, .int .u8 0, .int .u8 0, .int .u8 0, .int .u8 0, .int .u8 0, .int .u8 0, .int .u8 0] 26))
  have hxd := hxA.trans (Ext.drew _)
  have HS0 := Lib.hid (HS.out.ext hxA)
  have HS1 := Lib.hid (HS.out.ext hxd)
  clear hxA
  refine wp_region_ext [(0, true), (1, true), (4, true), (5, true), (2, false), (3, true), (6, true)] (by kernel_rfl) (by kernel_rfl) ?_
  iterate 3 (first
   | (refine ext_move rfl rfl (by rfl) (by rfl) ?_; simp only [Act.put, List.setIfInBounds_toArray, List.set_cons_zero, List.set_cons_succ])
   | (refine ext_assign rfl rfl (by rfl) (by rfl) ?_; simp only [Act.put, List.setIfInBounds_toArray, List.set_cons_zero, List.set_cons_succ])
   | (refine ext_pick_t rfl rfl (by rfl) (by rfl) (by rfl) ?_; simp only [Act.put, List.setIfInBounds_toArray, List.set_cons_zero, List.set_cons_succ])
   | (refine ext_pick_f rfl rfl (by rfl) (by rfl) (by rfl) ?_; simp only [Act.put, List.setIfInBounds_toArray, List.set_cons_zero, List.set_cons_succ])
   | (apply ext_take rfl (by rfl)
      · intro w' hS
        have hSc := hS.cells
        (try simp only [World.size_drew, World.cell?_drew] at hSc)
        go_simp
        (try simp (disch := omega) only [i64_id, u64_id, ↓IntWalk.iteOmega, Int.tdiv_eq_ediv_of_nonneg, Int.tmod_eq_emod_of_nonneg])
        try rfl
      simp only [Act.put, List.setIfInBounds_toArray, List.set_cons_zero, List.set_cons_succ])
   | (refine ext_pass rfl (by rfl) ?_; simp only [Act.put, List.setIfInBounds_toArray, List.set_cons_zero, List.set_cons_succ]))
  (apply ext_take rfl (by rfl)
   · intro w' hS
     have hcv := run_str (P := Try.prog) Try.underlying27 Try.underlying5 Try.underlying9 w' _ _ (SliceAt.ext HS0.out hS)
     go_simp
     try rfl
   simp only [Act.put, List.setIfInBounds_toArray, List.set_cons_zero, List.set_cons_succ])
  (refine ext_do rfl (by rfl) (fun K hK => ?_)
   go_simp
   go_at_call 14
   refine (seal_any _ _ _ (by simp; omega) (HS1.out.sub 0 29 29 _ (by omega) (by omega) (by omega) (by omega))).mono ?_
   rintro e w1 ⟨v1, rfl, ho1, hb1⟩
   have hx1 : Ext w w1 := hxd.trans hb1
   have hc1 := Ext.cells hb1
   have hf1 := Ext.frozens hb1
   have hs1 : w.heap.size < w1.heap.size := by have := Ext.size hb1; simp at this; omega
   have hlb1 : b < w1.heap.size := by omega
   have HO1 : Hid (SliceAt encB w1 v1 (sL l)) := OwnB.slice ho1
   clear ho1
   refine hK _ _ ((Ext.drew _).trans hb1) ?_
   clear hK K
   (try simp only [Act.put, List.setIfInBounds_toArray, List.set_cons_zero, List.set_cons_succ]))
  (apply ext_take rfl (by rfl)
   · intro w' hS
     have hcv := run_str (P := Try.prog) Try.underlying27 Try.underlying5 Try.underlying9 w' _ _ (SliceAt.ext HO1.out hS)
     go_simp
     try rfl
   simp only [Act.put, List.setIfInBounds_toArray, List.set_cons_zero, List.set_cons_succ])
  iterate 1 (first
   | (refine ext_move rfl rfl (by rfl) (by rfl) ?_; simp only [Act.put, List.setIfInBounds_toArray, List.set_cons_zero, List.set_cons_succ])
   | (refine ext_assign rfl rfl (by rfl) (by rfl) ?_; simp only [Act.put, List.setIfInBounds_toArray, List.set_cons_zero, List.set_cons_succ])
   | (refine ext_pick_t rfl rfl (by rfl) (by rfl) (by rfl) ?_; simp only [Act.put, List.setIfInBounds_toArray, List.set_cons_zero, List.set_cons_succ])
   | (refine ext_pick_f rfl rfl (by rfl) (by rfl) (by rfl) ?_; simp only [Act.put, List.setIfInBounds_toArray, List.set_cons_zero, List.set_cons_succ])
   | (apply ext_take rfl (by rfl)
      · intro w' hS
        have hSc := hS.cells
        (try simp only [World.size_drew, World.cell?_drew] at hSc)
        go_simp
        (try simp (disch := omega) only [i64_id, u64_id, ↓IntWalk.iteOmega, Int.tdiv_eq_ediv_of_nonneg, Int.tmod_eq_emod_of_nonneg])
        try rfl
      simp only [Act.put, List.setIfInBounds_toArray, List.set_cons_zero, List.set_cons_succ])
   | (refine ext_pass rfl (by rfl) ?_; simp only [Act.put, List.setIfInBounds_toArray, List.set_cons_zero, List.set_cons_succ]))
  refine ext_nil ?_
  go_wp2
  have HS2 := Lib.hid (HS.out.ext (hx1.trans (Ext.drew _)))
  have HS3 := Lib.hid (HS.out.ext ((hx1.trans (Ext.alloc w1 (.cells #[.int .i64 0, .int .i64 0, .int .u64 0, .int .u8 0, .int .u8 0, .int .u8 0, .int .u8 0, .int .u8 0, .int .u8 0, .int .u8 0, .int .u8 0] 26))).trans (Ext.drew _)))
  refine wp_region_extT (.take 0 (.take 1 (.take 2 (.take 3 (.take 4 (.take 5 (.take 8 (.take 9 (.two 6 12 (.take 7 (.two 10 12 (.take 11 (.one 12 (.one 13 .done))) (.one 10 (.take 11 (.one 13 .done))))) (.one 6 (.take 7 (.one 10 (.take 11 (.one 13 .done)))))))))))))) (by kernel_rfl) (by kernel_rfl) ?_
  iterate 8 (first
   | (refine extT_move rfl rfl (by rfl) (by rfl) ?_; simp only [Act.put, List.setIfInBounds_toArray, List.set_cons_zero, List.set_cons_succ])
   | (refine extT_assign rfl rfl (by rfl) (by rfl) ?_; simp only [Act.put, List.setIfInBounds_toArray, List.set_cons_zero, List.set_cons_succ])
   | (refine extT_pick_t rfl rfl (by rfl) (by rfl) (by rfl) ?_; simp only [Act.put, List.setIfInBounds_toArray, List.set_cons_zero, List.set_cons_succ])
   | (refine extT_pick_f rfl rfl (by rfl) (by rfl) (by rfl) ?_; simp only [Act.put, List.setIfInBounds_toArray, List.set_cons_zero, List.set_cons_succ])
   | (apply extT_take rfl (by rfl)
      · intro w' hS
        have hSc := hS.cells
        (try simp only [World.size_drew, World.cell?_drew] at hSc)
        go_simp
        (try simp (disch := omega) only [i64_id, u64_id, ↓IntWalk.iteOmega, Int.tdiv_eq_ediv_of_nonneg, Int.tmod_eq_emod_of_nonneg])
        try rfl
      simp only [Act.put, List.setIfInBounds_toArray, List.set_cons_zero, List.set_cons_succ])
   | (refine extT_pass rfl (by rfl) ?_; simp only [Act.put, List.setIfInBounds_toArray, List.set_cons_zero, List.set_cons_succ]))
  refine extT_two rfl rfl (by rfl) (by rfl) (fun K hK => ?_) (fun K hK => ?_)
  go_simp
  go_at_call 21
  refine (rget_as (dBn l) _ _ _ rfl (by simp; omega) (HS2.out.sub 1 5 4 _ (by omega) (by omega) (by omega) (by omega))).mono ?_
  rintro e w' ⟨rfl, rfl⟩
  refine hK _ _ (by first | exact Ext.refl _ | exact Ext.drew _) ?_
  clear hK K
  (try simp only [Act.put, List.setIfInBounds_toArray, List.set_cons_zero, List.set_cons_succ])
  iterate 1 (first
   | (refine extT_move rfl rfl (by rfl) (by rfl) ?_; simp only [Act.put, List.setIfInBounds_toArray, List.set_cons_zero, List.set_cons_succ])
   | (refine extT_assign rfl rfl (by rfl) (by rfl) ?_; simp only [Act.put, List.setIfInBounds_toArray, List.set_cons_zero, List.set_cons_succ])
   | (refine extT_pick_t rfl rfl (by rfl) (by rfl) (by rfl) ?_; simp only [Act.put, List.setIfInBounds_toArray, List.set_cons_zero, List.set_cons_succ])
   | (refine extT_pick_f rfl rfl (by rfl) (by rfl) (by rfl) ?_; simp only [Act.put, List.setIfInBounds_toArray, List.set_cons_zero, List.set_cons_succ])
   | (apply extT_take rfl (by rfl)
      · intro w' hS
        have hSc := hS.cells
        (try simp only [World.size_drew, World.cell?_drew] at hSc)
        go_simp
        (try simp (disch := omega) only [i64_id, u64_id, ↓IntWalk.iteOmega, Int.tdiv_eq_ediv_of_nonneg, Int.tmod_eq_emod_of_nonneg])
        try rfl
      simp only [Act.put, List.setIfInBounds_toArray, List.set_cons_zero, List.set_cons_succ])
   | (refine extT_pass rfl (by rfl) ?_; simp only [Act.put, List.setIfInBounds_toArray, List.set_cons_zero, List.set_cons_succ]))
  refine extT_two rfl rfl (by rfl) (by rfl) (fun K hK => ?_) (fun K hK => ?_)
  go_simp
  go_at_call 21
  refine (rget_as (dV l) _ _ _ rfl (by simp; omega) (HS2.out.sub 5 13 8 _ (by omega) (by omega) (by omega) (by omega))).mono ?_
  rintro e w' ⟨rfl, rfl⟩
  refine hK _ _ (by first | exact Ext.refl _ | exact Ext.drew _) ?_
  clear hK K
  (try simp only [Act.put, List.setIfInBounds_toArray, List.set_cons_zero, List.set_cons_succ])
  iterate 1 (first
   | (refine extT_move rfl rfl (by rfl) (by rfl) ?_; simp only [Act.put, List.setIfInBounds_toArray, List.set_cons_zero, List.set_cons_succ])
   | (refine extT_assign rfl rfl (by rfl) (by rfl) ?_; simp only [Act.put, List.setIfInBounds_toArray, List.set_cons_zero, List.set_cons_succ])
   | (refine extT_pick_t rfl rfl (by rfl) (by rfl) (by rfl) ?_; simp only [Act.put, List.setIfInBounds_toArray, List.set_cons_zero, List.set_cons_succ])
   | (refine extT_pick_f rfl rfl (by rfl) (by rfl) (by rfl) ?_; simp only [Act.put, List.setIfInBounds_toArray, List.set_cons_zero, List.set_cons_succ])
   | (apply extT_take rfl (by rfl)
      · intro w' hS
        have hSc := hS.cells
        (try simp only [World.size_drew, World.cell?_drew] at hSc)
        go_simp
        (try simp (disch := omega) only [i64_id, u64_id, ↓IntWalk.iteOmega, Int.tdiv_eq_ediv_of_nonneg, Int.tmod_eq_emod_of_nonneg])
        try rfl
      simp only [Act.put, List.setIfInBounds_toArray, List.set_cons_zero, List.set_cons_succ])
   | (refine extT_pass rfl (by rfl) ?_; simp only [Act.put, List.setIfInBounds_toArray, List.set_cons_zero, List.set_cons_succ]))
  refine extT_do rfl (by rfl) (fun K hK => ?_)
  go_simp
  refine hK _ _ (by first | exact Ext.alloc _ _ | exact (Ext.drew _).trans (Ext.alloc _ _) | exact (Ext.alloc _ _).trans (Ext.drew _)) ?_
  clear hK K
  (try simp only [Act.put, List.setIfInBounds_toArray, List.set_cons_zero, List.set_cons_succ])
  refine extT_last rfl (by rfl) (by kernel_rfl) (fun K hK => ?_)
  go_simp
  refine hK _ _ ?_
  clear hK K
  (try simp only [Act.put, List.setIfInBounds_toArray, List.set_cons_zero, List.set_cons_succ])
  skip
  rotate_left
  go_simp
  refine hK _ _ (by first | exact Ext.alloc _ _ | exact (Ext.drew _).trans (Ext.alloc _ _) | exact (Ext.alloc _ _).trans (Ext.drew _)) ?_
  clear hK K
  (try simp only [Act.put, List.setIfInBounds_toArray, List.set_cons_zero, List.set_cons_succ])
  refine extT_do rfl (by rfl) (fun K hK => ?_)
  go_simp
  go_at_call 21
  refine (rget_as (dV l) _ _ _ rfl (by simp; omega) (HS3.out.sub 5 13 8 _ (by omega) (by omega) (by omega) (by omega))).mono ?_
  rintro e w' ⟨rfl, rfl⟩
  refine hK _ _ (by first | exact Ext.refl _ | exact Ext.drew _) ?_
  clear hK K
  (try simp only [Act.put, List.setIfInBounds_toArray, List.set_cons_zero, List.set_cons_succ])
  iterate 1 (first
   | (refine extT_move rfl rfl (by rfl) (by rfl) ?_; simp only [Act.put, List.setIfInBounds_toArray, List.set_cons_zero, List.set_cons_succ])
   | (refine extT_assign rfl rfl (by rfl) (by rfl) ?_; simp only [Act.put, List.setIfInBounds_toArray, List.set_cons_zero, List.set_cons_succ])
   | (refine extT_pick_t rfl rfl (by rfl) (by rfl) (by rfl) ?_; simp only [Act.put, List.setIfInBounds_toArray, List.set_cons_zero, List.set_cons_succ])
   | (refine extT_pick_f rfl rfl (by rfl) (by rfl) (by rfl) ?_; simp only [Act.put, List.setIfInBounds_toArray, List.set_cons_zero, List.set_cons_succ])
   | (apply extT_take rfl (by rfl)
      · intro w' hS
        have hSc := hS.cells
        (try simp only [World.size_drew, World.cell?_drew] at hSc)
        go_simp
        (try simp (disch := omega) only [i64_id, u64_id, ↓IntWalk.iteOmega, Int.tdiv_eq_ediv_of_nonneg, Int.tmod_eq_emod_of_nonneg])
        try rfl
      simp only [Act.put, List.setIfInBounds_toArray, List.set_cons_zero, List.set_cons_succ])
   | (refine extT_pass rfl (by rfl) ?_; simp only [Act.put, List.setIfInBounds_toArray, List.set_cons_zero, List.set_cons_succ]))
  refine extT_last rfl (by rfl) (by kernel_rfl) (fun K hK => ?_)
  go_simp
  refine hK _ _ ?_
  clear hK K
  (try simp only [Act.put, List.setIfInBounds_toArray, List.set_cons_zero, List.set_cons_succ])
  skip
  rotate_left
  go_simp
  refine hK _ _ (by first | exact Ext.alloc _ _ | exact (Ext.drew _).trans (Ext.alloc _ _) | exact (Ext.alloc _ _).trans (Ext.drew _)) ?_
  clear hK K
  (try simp only [Act.put, List.setIfInBounds_toArray, List.set_cons_zero, List.set_cons_succ])
  refine extT_do rfl (by rfl) (fun K hK => ?_)
  go_simp
  go_at_call 21
  refine (rget_as (dBn l) _ _ _ rfl (by simp; omega) (HS3.out.sub 1 5 4 _ (by omega) (by omega) (by omega) (by omega))).mono ?_
  rintro e w' ⟨rfl, rfl⟩
  refine hK _ _ (by first | exact Ext.refl _ | exact Ext.drew _) ?_
  clear hK K
  (try simp only [Act.put, List.setIfInBounds_toArray, List.set_cons_zero, List.set_cons_succ])
  iterate 1 (first
   | (refine extT_move rfl rfl (by rfl) (by rfl) ?_; simp only [Act.put, List.setIfInBounds_toArray, List.set_cons_zero, List.set_cons_succ])
   | (refine extT_assign rfl rfl (by rfl) (by rfl) ?_; simp only [Act.put, List.setIfInBounds_toArray, List.set_cons_zero, List.set_cons_succ])
   | (refine extT_pick_t rfl rfl (by rfl) (by rfl) (by rfl) ?_; simp only [Act.put, List.setIfInBounds_toArray, List.set_cons_zero, List.set_cons_succ])
   | (refine extT_pick_f rfl rfl (by rfl) (by rfl) (by rfl) ?_; simp only [Act.put, List.setIfInBounds_toArray, List.set_cons_zero, List.set_cons_succ])
   | (apply extT_take rfl (by rfl)
      · intro w' hS
        have hSc := hS.cells
        (try simp only [World.size_drew, World.cell?_drew] at hSc)
        go_simp
        (try simp (disch := omega) only [i64_id, u64_id, ↓IntWalk.iteOmega, Int.tdiv_eq_ediv_of_nonneg, Int.tmod_eq_emod_of_nonneg])
        try rfl
      simp only [Act.put, List.setIfInBounds_toArray, List.set_cons_zero, List.set_cons_succ])
   | (refine extT_pass rfl (by rfl) ?_; simp only [Act.put, List.setIfInBounds_toArray, List.set_cons_zero, List.set_cons_succ]))
  refine extT_do rfl (by rfl) (fun K hK => ?_)
  go_simp
  go_at_call 21
  refine (rget_as (dV l) _ _ _ rfl (by simp; omega) (HS3.out.sub 5 13 8 _ (by omega) (by omega) (by omega) (by omega))).mono ?_
  rintro e w' ⟨rfl, rfl⟩
  refine hK _ _ (by first | exact Ext.refl _ | exact Ext.drew _) ?_
  clear hK K
  (try simp only [Act.put, List.setIfInBounds_toArray, List.set_cons_zero, List.set_cons_succ])
  iterate 1 (first
   | (refine extT_move rfl rfl (by rfl) (by rfl) ?_; simp only [Act.put, List.setIfInBounds_toArray, List.set_cons_zero, List.set_cons_succ])
   | (refine extT_assign rfl rfl (by rfl) (by rfl) ?_; simp only [Act.put, List.setIfInBounds_toArray, List.set_cons_zero, List.set_cons_succ])
   | (refine extT_pick_t rfl rfl (by rfl) (by rfl) (by rfl) ?_; simp only [Act.put, List.setIfInBounds_toArray, List.set_cons_zero, List.set_cons_succ])
   | (refine extT_pick_f rfl rfl (by rfl) (by rfl) (by rfl) ?_; simp only [Act.put, List.setIfInBounds_toArray, List.set_cons_zero, List.set_cons_succ])
   | (apply extT_take rfl (by rfl)
      · intro w' hS
        have hSc := hS.cells
        (try simp only [World.size_drew, World.cell?_drew] at hSc)
        go_simp
        (try simp (disch := omega) only [i64_id, u64_id, ↓IntWalk.iteOmega, Int.tdiv_eq_ediv_of_nonneg, Int.tmod_eq_emod_of_nonneg])
        try rfl
      simp only [Act.put, List.setIfInBounds_toArray, List.set_cons_zero, List.set_cons_succ])
   | (refine extT_pass rfl (by rfl) ?_; simp only [Act.put, List.setIfInBounds_toArray, List.set_cons_zero, List.set_cons_succ]))
  refine extT_last rfl (by rfl) (by kernel_rfl) (fun K hK => ?_)
  go_simp
  refine hK _ _ ?_
  clear hK K
  (try simp only [Act.put, List.setIfInBounds_toArray, List.set_cons_zero, List.set_cons_succ])
  skip
  rotate_left
  all_goals go_wp2
  all_goals
    refine wp_loop_rounds 9 ?_
    iterate 8 (rw [rounds_succ]; go_wp2)
    rw [rounds_succ]
    go_wp2_with fail
    go_at_call 15
    refine (rvalid_any _ _ _ _ _ _ _ _ _ _ _ _).mono ?_
    rintro e w2 ⟨rfl, hb2⟩
    rw [show vld (ub (d0 l)) (un (dBn l)) (dV l) [dX l 0, dX l 1, dX l 2, dX l 3, dX l 4, dX l 5, dX l 6, dX l 7] = false from HV.out]
    have hc2 := Ext.cells hb2
    have hf2 := Ext.frozens hb2
    have hs2 := Ext.size hb2
    have hlt2 : w1.heap.size < w2.heap.size := by have := hs2; simp at this; omega
    have hlt3 : w.heap.size < w2.heap.size := by omega
    have hlb2 : b < w2.heap.size := by omega
    have hxw2 : Ext w w2 := by refine Ext.trans (Ext.trans hx1 ?_) hb2; (repeat (first | (with_reducible exact Ext.alloc _ _) | (with_reducible exact Ext.refl _) | (with_reducible refine Ext.trans ?_ (Ext.drew _)) | (with_reducible refine Ext.trans ?_ (Ext.alloc _ _))))
    have HS4 := Lib.hid (HS.out.ext hxw2)
    have hxz : Ext (w.alloc (.cells #[.int .i64 0, .int .i64 0, .int .u64 0, .int .u8 0, .int .u8 0, .int .u8 0, .int .u8 0, .int .u8 0, .int .u8 0, .int .u8 0, .int .u8 0] 26)) w2 := by refine Ext.trans (Ext.trans ((Ext.drew _).trans hb1) ?_) hb2; (repeat (first | (with_reducible exact Ext.alloc _ _) | (with_reducible exact Ext.refl _) | (with_reducible refine Ext.trans ?_ (Ext.drew _)) | (with_reducible refine Ext.trans ?_ (Ext.alloc _ _))))
    have hcz : ∀ o, w2.cell? ⟨w.heap.size, o, none⟩ = (w.alloc (.cells #[.int .i64 0, .int .i64 0, .int .u64 0, .int .u8 0, .int .u8 0, .int .u8 0, .int .u8 0, .int .u8 0, .int .u8 0, .int .u8 0, .int .u8 0] 26)).cell? ⟨w.heap.size, o, none⟩ := fun o => hxz.cell _ o (by simp)
    go_wp2
    refine bodyPost_ret (v := badE 5) ?_ rfl ⟨rfl, ?_⟩
    · unfold badE
      simp only [results, Try.results13]
      go_simp
    · refine below_of_ext ?_
      repeat (with_reducible refine Ext.setOwn ?_ (Nat.le_refl _))
      exact hxw2

set_option maxRecDepth 100000 in
set_option maxHeartbeats 1600000 in
theorem rdecode_yes (v : Value) (l : List (BitVec 8)) (w : World) (h : SliceAt encB w v l) (hl : l.length = 37) (hs : dS l = dC l) (hv : vld (dK l) (dB l) (dV l) (dD l) = true) :
    Calls Try.prog 13 #[v] w fun e w' => e = .returned (.tuple #[.agg #[encI (dK l), encI (dB l), encU (dV l), encB (dX l 0), encB (dX l 1), encB (dX l 2), encB (dX l 3), encB (dX l 4), encB (dX l 5), encB (dX l 6), encB (dX l 7)], encU (dT l), .int .i64 0]) ∧ Below w.heap.size w w' := by
  have HS := Lib.hid h
  obtain ⟨b, off, cap, rfl, hca, hb, hcell⟩ := h.some_of (by omega)
  have hq : eqB (sL l) l = true := eqB_iff.2 ((seal_fits l hl).2 hs)
  have hc29 : (29 : Int) ≤ (cap : Int) := by omega
  have hc37 : (37 : Int) ≤ (cap : Int) := by omega
  have cx : ∀ i (hi : i < 37), w.cell? ⟨b, off + i, none⟩ = some (encB (l.getD i 0#8)) := fun i hi => by
    rw [hcell i (by omega)]; simp [List.getD, show i < l.length by omega]
  have k0 : w.cell? ⟨b, off, none⟩ = some (encB (d0 l)) := cx 0 (by omega)
  have k1 : w.cell? ⟨b, off + 13, none⟩ = some (encB (dX l 0)) := cx 13 (by omega)
  have k2 : w.cell? ⟨b, off + 14, none⟩ = some (encB (dX l 1)) := cx 14 (by omega)
  have k3 : w.cell? ⟨b, off + 15, none⟩ = some (encB (dX l 2)) := cx 15 (by omega)
  have k4 : w.cell? ⟨b, off + 16, none⟩ = some (encB (dX l 3)) := cx 16 (by omega)
  have k5 : w.cell? ⟨b, off + 17, none⟩ = some (encB (dX l 4)) := cx 17 (by omega)
  have k6 : w.cell? ⟨b, off + 18, none⟩ = some (encB (dX l 5)) := cx 18 (by omega)
  have k7 : w.cell? ⟨b, off + 19, none⟩ = some (encB (dX l 6)) := cx 19 (by omega)
  have k8 : w.cell? ⟨b, off + 20, none⟩ = some (encB (dX l 7)) := cx 20 (by omega)
  have hbd := un_bound (dBn l)
  have hlt5 := unle_lt ((l.take 5).drop 1) 4 (by simp; omega) (by omega)
  have hbd2 : un (dBn l) ≤ 9223372036854775807 := by unfold un dBn; omega
  have hub := ub_bound (d0 l)
  rw [hl] at HS
  rw [hl]
  have HL := Lib.hid hl
  have HV := Lib.hid hv
  clear hs hl hca h hcell cx hlt5 hv
  go_enter Try.func13, Try.ntmps13
  go_wp2
  have hxA := (Ext.alloc w (.cells #[.int .i64 0, .int .i64 0, .int .u64 0, .int .u8 0, .int .u8 0, .int .u8 0, .int .u8 0, .int .u8 0, .int .u8 0, .int .u8 0, .int .u8 0] 26))
  have hxd := hxA.trans (Ext.drew _)
  have HS0 := Lib.hid (HS.out.ext hxA)
  have HS1 := Lib.hid (HS.out.ext hxd)
  clear hxA
  refine wp_region_ext [(0, true), (1, true), (4, true), (5, true), (2, false), (3, true), (6, true)] (by kernel_rfl) (by kernel_rfl) ?_
  iterate 3 (first
   | (refine ext_move rfl rfl (by rfl) (by rfl) ?_; simp only [Act.put, List.setIfInBounds_toArray, List.set_cons_zero, List.set_cons_succ])
   | (refine ext_assign rfl rfl (by rfl) (by rfl) ?_; simp only [Act.put, List.setIfInBounds_toArray, List.set_cons_zero, List.set_cons_succ])
   | (refine ext_pick_t rfl rfl (by rfl) (by rfl) (by rfl) ?_; simp only [Act.put, List.setIfInBounds_toArray, List.set_cons_zero, List.set_cons_succ])
   | (refine ext_pick_f rfl rfl (by rfl) (by rfl) (by rfl) ?_; simp only [Act.put, List.setIfInBounds_toArray, List.set_cons_zero, List.set_cons_succ])
   | (apply ext_take rfl (by rfl)
      · intro w' hS
        have hSc := hS.cells
        (try simp only [World.size_drew, World.cell?_drew] at hSc)
        go_simp
        (try simp (disch := omega) only [i64_id, u64_id, ↓IntWalk.iteOmega, Int.tdiv_eq_ediv_of_nonneg, Int.tmod_eq_emod_of_nonneg])
        try rfl
      simp only [Act.put, List.setIfInBounds_toArray, List.set_cons_zero, List.set_cons_succ])
   | (refine ext_pass rfl (by rfl) ?_; simp only [Act.put, List.setIfInBounds_toArray, List.set_cons_zero, List.set_cons_succ]))
  (apply ext_take rfl (by rfl)
   · intro w' hS
     have hcv := run_str (P := Try.prog) Try.underlying27 Try.underlying5 Try.underlying9 w' _ _ (SliceAt.ext HS0.out hS)
     go_simp
     try rfl
   simp only [Act.put, List.setIfInBounds_toArray, List.set_cons_zero, List.set_cons_succ])
  (refine ext_do rfl (by rfl) (fun K hK => ?_)
   go_simp
   go_at_call 14
   refine (seal_any _ _ _ (by simp; omega) (HS1.out.sub 0 29 29 _ (by omega) (by omega) (by omega) (by omega))).mono ?_
   rintro e w1 ⟨v1, rfl, ho1, hb1⟩
   have hx1 : Ext w w1 := hxd.trans hb1
   have hc1 := Ext.cells hb1
   have hf1 := Ext.frozens hb1
   have hs1 : w.heap.size < w1.heap.size := by have := Ext.size hb1; simp at this; omega
   have hlb1 : b < w1.heap.size := by omega
   have HO1 : Hid (SliceAt encB w1 v1 (sL l)) := OwnB.slice ho1
   clear ho1
   refine hK _ _ ((Ext.drew _).trans hb1) ?_
   clear hK K
   (try simp only [Act.put, List.setIfInBounds_toArray, List.set_cons_zero, List.set_cons_succ]))
  (apply ext_take rfl (by rfl)
   · intro w' hS
     have hcv := run_str (P := Try.prog) Try.underlying27 Try.underlying5 Try.underlying9 w' _ _ (SliceAt.ext HO1.out hS)
     go_simp
     try rfl
   simp only [Act.put, List.setIfInBounds_toArray, List.set_cons_zero, List.set_cons_succ])
  iterate 1 (first
   | (refine ext_move rfl rfl (by rfl) (by rfl) ?_; simp only [Act.put, List.setIfInBounds_toArray, List.set_cons_zero, List.set_cons_succ])
   | (refine ext_assign rfl rfl (by rfl) (by rfl) ?_; simp only [Act.put, List.setIfInBounds_toArray, List.set_cons_zero, List.set_cons_succ])
   | (refine ext_pick_t rfl rfl (by rfl) (by rfl) (by rfl) ?_; simp only [Act.put, List.setIfInBounds_toArray, List.set_cons_zero, List.set_cons_succ])
   | (refine ext_pick_f rfl rfl (by rfl) (by rfl) (by rfl) ?_; simp only [Act.put, List.setIfInBounds_toArray, List.set_cons_zero, List.set_cons_succ])
   | (apply ext_take rfl (by rfl)
      · intro w' hS
        have hSc := hS.cells
        (try simp only [World.size_drew, World.cell?_drew] at hSc)
        go_simp
        (try simp (disch := omega) only [i64_id, u64_id, ↓IntWalk.iteOmega, Int.tdiv_eq_ediv_of_nonneg, Int.tmod_eq_emod_of_nonneg])
        try rfl
      simp only [Act.put, List.setIfInBounds_toArray, List.set_cons_zero, List.set_cons_succ])
   | (refine ext_pass rfl (by rfl) ?_; simp only [Act.put, List.setIfInBounds_toArray, List.set_cons_zero, List.set_cons_succ]))
  refine ext_nil ?_
  go_wp2
  have HS2 := Lib.hid (HS.out.ext (hx1.trans (Ext.drew _)))
  have HS3 := Lib.hid (HS.out.ext ((hx1.trans (Ext.alloc w1 (.cells #[.int .i64 0, .int .i64 0, .int .u64 0, .int .u8 0, .int .u8 0, .int .u8 0, .int .u8 0, .int .u8 0, .int .u8 0, .int .u8 0, .int .u8 0] 26))).trans (Ext.drew _)))
  refine wp_region_extT (.take 0 (.take 1 (.take 2 (.take 3 (.take 4 (.take 5 (.take 8 (.take 9 (.two 6 12 (.take 7 (.two 10 12 (.take 11 (.one 12 (.one 13 .done))) (.one 10 (.take 11 (.one 13 .done))))) (.one 6 (.take 7 (.one 10 (.take 11 (.one 13 .done)))))))))))))) (by kernel_rfl) (by kernel_rfl) ?_
  iterate 8 (first
   | (refine extT_move rfl rfl (by rfl) (by rfl) ?_; simp only [Act.put, List.setIfInBounds_toArray, List.set_cons_zero, List.set_cons_succ])
   | (refine extT_assign rfl rfl (by rfl) (by rfl) ?_; simp only [Act.put, List.setIfInBounds_toArray, List.set_cons_zero, List.set_cons_succ])
   | (refine extT_pick_t rfl rfl (by rfl) (by rfl) (by rfl) ?_; simp only [Act.put, List.setIfInBounds_toArray, List.set_cons_zero, List.set_cons_succ])
   | (refine extT_pick_f rfl rfl (by rfl) (by rfl) (by rfl) ?_; simp only [Act.put, List.setIfInBounds_toArray, List.set_cons_zero, List.set_cons_succ])
   | (apply extT_take rfl (by rfl)
      · intro w' hS
        have hSc := hS.cells
        (try simp only [World.size_drew, World.cell?_drew] at hSc)
        go_simp
        (try simp (disch := omega) only [i64_id, u64_id, ↓IntWalk.iteOmega, Int.tdiv_eq_ediv_of_nonneg, Int.tmod_eq_emod_of_nonneg])
        try rfl
      simp only [Act.put, List.setIfInBounds_toArray, List.set_cons_zero, List.set_cons_succ])
   | (refine extT_pass rfl (by rfl) ?_; simp only [Act.put, List.setIfInBounds_toArray, List.set_cons_zero, List.set_cons_succ]))
  refine extT_two rfl rfl (by rfl) (by rfl) (fun K hK => ?_) (fun K hK => ?_)
  go_simp
  go_at_call 21
  refine (rget_as (dBn l) _ _ _ rfl (by simp; omega) (HS2.out.sub 1 5 4 _ (by omega) (by omega) (by omega) (by omega))).mono ?_
  rintro e w' ⟨rfl, rfl⟩
  refine hK _ _ (by first | exact Ext.refl _ | exact Ext.drew _) ?_
  clear hK K
  (try simp only [Act.put, List.setIfInBounds_toArray, List.set_cons_zero, List.set_cons_succ])
  iterate 1 (first
   | (refine extT_move rfl rfl (by rfl) (by rfl) ?_; simp only [Act.put, List.setIfInBounds_toArray, List.set_cons_zero, List.set_cons_succ])
   | (refine extT_assign rfl rfl (by rfl) (by rfl) ?_; simp only [Act.put, List.setIfInBounds_toArray, List.set_cons_zero, List.set_cons_succ])
   | (refine extT_pick_t rfl rfl (by rfl) (by rfl) (by rfl) ?_; simp only [Act.put, List.setIfInBounds_toArray, List.set_cons_zero, List.set_cons_succ])
   | (refine extT_pick_f rfl rfl (by rfl) (by rfl) (by rfl) ?_; simp only [Act.put, List.setIfInBounds_toArray, List.set_cons_zero, List.set_cons_succ])
   | (apply extT_take rfl (by rfl)
      · intro w' hS
        have hSc := hS.cells
        (try simp only [World.size_drew, World.cell?_drew] at hSc)
        go_simp
        (try simp (disch := omega) only [i64_id, u64_id, ↓IntWalk.iteOmega, Int.tdiv_eq_ediv_of_nonneg, Int.tmod_eq_emod_of_nonneg])
        try rfl
      simp only [Act.put, List.setIfInBounds_toArray, List.set_cons_zero, List.set_cons_succ])
   | (refine extT_pass rfl (by rfl) ?_; simp only [Act.put, List.setIfInBounds_toArray, List.set_cons_zero, List.set_cons_succ]))
  refine extT_two rfl rfl (by rfl) (by rfl) (fun K hK => ?_) (fun K hK => ?_)
  go_simp
  go_at_call 21
  refine (rget_as (dV l) _ _ _ rfl (by simp; omega) (HS2.out.sub 5 13 8 _ (by omega) (by omega) (by omega) (by omega))).mono ?_
  rintro e w' ⟨rfl, rfl⟩
  refine hK _ _ (by first | exact Ext.refl _ | exact Ext.drew _) ?_
  clear hK K
  (try simp only [Act.put, List.setIfInBounds_toArray, List.set_cons_zero, List.set_cons_succ])
  iterate 1 (first
   | (refine extT_move rfl rfl (by rfl) (by rfl) ?_; simp only [Act.put, List.setIfInBounds_toArray, List.set_cons_zero, List.set_cons_succ])
   | (refine extT_assign rfl rfl (by rfl) (by rfl) ?_; simp only [Act.put, List.setIfInBounds_toArray, List.set_cons_zero, List.set_cons_succ])
   | (refine extT_pick_t rfl rfl (by rfl) (by rfl) (by rfl) ?_; simp only [Act.put, List.setIfInBounds_toArray, List.set_cons_zero, List.set_cons_succ])
   | (refine extT_pick_f rfl rfl (by rfl) (by rfl) (by rfl) ?_; simp only [Act.put, List.setIfInBounds_toArray, List.set_cons_zero, List.set_cons_succ])
   | (apply extT_take rfl (by rfl)
      · intro w' hS
        have hSc := hS.cells
        (try simp only [World.size_drew, World.cell?_drew] at hSc)
        go_simp
        (try simp (disch := omega) only [i64_id, u64_id, ↓IntWalk.iteOmega, Int.tdiv_eq_ediv_of_nonneg, Int.tmod_eq_emod_of_nonneg])
        try rfl
      simp only [Act.put, List.setIfInBounds_toArray, List.set_cons_zero, List.set_cons_succ])
   | (refine extT_pass rfl (by rfl) ?_; simp only [Act.put, List.setIfInBounds_toArray, List.set_cons_zero, List.set_cons_succ]))
  refine extT_do rfl (by rfl) (fun K hK => ?_)
  go_simp
  refine hK _ _ (by first | exact Ext.alloc _ _ | exact (Ext.drew _).trans (Ext.alloc _ _) | exact (Ext.alloc _ _).trans (Ext.drew _)) ?_
  clear hK K
  (try simp only [Act.put, List.setIfInBounds_toArray, List.set_cons_zero, List.set_cons_succ])
  refine extT_last rfl (by rfl) (by kernel_rfl) (fun K hK => ?_)
  go_simp
  refine hK _ _ ?_
  clear hK K
  (try simp only [Act.put, List.setIfInBounds_toArray, List.set_cons_zero, List.set_cons_succ])
  skip
  rotate_left
  go_simp
  refine hK _ _ (by first | exact Ext.alloc _ _ | exact (Ext.drew _).trans (Ext.alloc _ _) | exact (Ext.alloc _ _).trans (Ext.drew _)) ?_
  clear hK K
  (try simp only [Act.put, List.setIfInBounds_toArray, List.set_cons_zero, List.set_cons_succ])
  refine extT_do rfl (by rfl) (fun K hK => ?_)
  go_simp
  go_at_call 21
  refine (rget_as (dV l) _ _ _ rfl (by simp; omega) (HS3.out.sub 5 13 8 _ (by omega) (by omega) (by omega) (by omega))).mono ?_
  rintro e w' ⟨rfl, rfl⟩
  refine hK _ _ (by first | exact Ext.refl _ | exact Ext.drew _) ?_
  clear hK K
  (try simp only [Act.put, List.setIfInBounds_toArray, List.set_cons_zero, List.set_cons_succ])
  iterate 1 (first
   | (refine extT_move rfl rfl (by rfl) (by rfl) ?_; simp only [Act.put, List.setIfInBounds_toArray, List.set_cons_zero, List.set_cons_succ])
   | (refine extT_assign rfl rfl (by rfl) (by rfl) ?_; simp only [Act.put, List.setIfInBounds_toArray, List.set_cons_zero, List.set_cons_succ])
   | (refine extT_pick_t rfl rfl (by rfl) (by rfl) (by rfl) ?_; simp only [Act.put, List.setIfInBounds_toArray, List.set_cons_zero, List.set_cons_succ])
   | (refine extT_pick_f rfl rfl (by rfl) (by rfl) (by rfl) ?_; simp only [Act.put, List.setIfInBounds_toArray, List.set_cons_zero, List.set_cons_succ])
   | (apply extT_take rfl (by rfl)
      · intro w' hS
        have hSc := hS.cells
        (try simp only [World.size_drew, World.cell?_drew] at hSc)
        go_simp
        (try simp (disch := omega) only [i64_id, u64_id, ↓IntWalk.iteOmega, Int.tdiv_eq_ediv_of_nonneg, Int.tmod_eq_emod_of_nonneg])
        try rfl
      simp only [Act.put, List.setIfInBounds_toArray, List.set_cons_zero, List.set_cons_succ])
   | (refine extT_pass rfl (by rfl) ?_; simp only [Act.put, List.setIfInBounds_toArray, List.set_cons_zero, List.set_cons_succ]))
  refine extT_last rfl (by rfl) (by kernel_rfl) (fun K hK => ?_)
  go_simp
  refine hK _ _ ?_
  clear hK K
  (try simp only [Act.put, List.setIfInBounds_toArray, List.set_cons_zero, List.set_cons_succ])
  skip
  rotate_left
  go_simp
  refine hK _ _ (by first | exact Ext.alloc _ _ | exact (Ext.drew _).trans (Ext.alloc _ _) | exact (Ext.alloc _ _).trans (Ext.drew _)) ?_
  clear hK K
  (try simp only [Act.put, List.setIfInBounds_toArray, List.set_cons_zero, List.set_cons_succ])
  refine extT_do rfl (by rfl) (fun K hK => ?_)
  go_simp
  go_at_call 21
  refine (rget_as (dBn l) _ _ _ rfl (by simp; omega) (HS3.out.sub 1 5 4 _ (by omega) (by omega) (by omega) (by omega))).mono ?_
  rintro e w' ⟨rfl, rfl⟩
  refine hK _ _ (by first | exact Ext.refl _ | exact Ext.drew _) ?_
  clear hK K
  (try simp only [Act.put, List.setIfInBounds_toArray, List.set_cons_zero, List.set_cons_succ])
  iterate 1 (first
   | (refine extT_move rfl rfl (by rfl) (by rfl) ?_; simp only [Act.put, List.setIfInBounds_toArray, List.set_cons_zero, List.set_cons_succ])
   | (refine extT_assign rfl rfl (by rfl) (by rfl) ?_; simp only [Act.put, List.setIfInBounds_toArray, List.set_cons_zero, List.set_cons_succ])
   | (refine extT_pick_t rfl rfl (by rfl) (by rfl) (by rfl) ?_; simp only [Act.put, List.setIfInBounds_toArray, List.set_cons_zero, List.set_cons_succ])
   | (refine extT_pick_f rfl rfl (by rfl) (by rfl) (by rfl) ?_; simp only [Act.put, List.setIfInBounds_toArray, List.set_cons_zero, List.set_cons_succ])
   | (apply extT_take rfl (by rfl)
      · intro w' hS
        have hSc := hS.cells
        (try simp only [World.size_drew, World.cell?_drew] at hSc)
        go_simp
        (try simp (disch := omega) only [i64_id, u64_id, ↓IntWalk.iteOmega, Int.tdiv_eq_ediv_of_nonneg, Int.tmod_eq_emod_of_nonneg])
        try rfl
      simp only [Act.put, List.setIfInBounds_toArray, List.set_cons_zero, List.set_cons_succ])
   | (refine extT_pass rfl (by rfl) ?_; simp only [Act.put, List.setIfInBounds_toArray, List.set_cons_zero, List.set_cons_succ]))
  refine extT_do rfl (by rfl) (fun K hK => ?_)
  go_simp
  go_at_call 21
  refine (rget_as (dV l) _ _ _ rfl (by simp; omega) (HS3.out.sub 5 13 8 _ (by omega) (by omega) (by omega) (by omega))).mono ?_
  rintro e w' ⟨rfl, rfl⟩
  refine hK _ _ (by first | exact Ext.refl _ | exact Ext.drew _) ?_
  clear hK K
  (try simp only [Act.put, List.setIfInBounds_toArray, List.set_cons_zero, List.set_cons_succ])
  iterate 1 (first
   | (refine extT_move rfl rfl (by rfl) (by rfl) ?_; simp only [Act.put, List.setIfInBounds_toArray, List.set_cons_zero, List.set_cons_succ])
   | (refine extT_assign rfl rfl (by rfl) (by rfl) ?_; simp only [Act.put, List.setIfInBounds_toArray, List.set_cons_zero, List.set_cons_succ])
   | (refine extT_pick_t rfl rfl (by rfl) (by rfl) (by rfl) ?_; simp only [Act.put, List.setIfInBounds_toArray, List.set_cons_zero, List.set_cons_succ])
   | (refine extT_pick_f rfl rfl (by rfl) (by rfl) (by rfl) ?_; simp only [Act.put, List.setIfInBounds_toArray, List.set_cons_zero, List.set_cons_succ])
   | (apply extT_take rfl (by rfl)
      · intro w' hS
        have hSc := hS.cells
        (try simp only [World.size_drew, World.cell?_drew] at hSc)
        go_simp
        (try simp (disch := omega) only [i64_id, u64_id, ↓IntWalk.iteOmega, Int.tdiv_eq_ediv_of_nonneg, Int.tmod_eq_emod_of_nonneg])
        try rfl
      simp only [Act.put, List.setIfInBounds_toArray, List.set_cons_zero, List.set_cons_succ])
   | (refine extT_pass rfl (by rfl) ?_; simp only [Act.put, List.setIfInBounds_toArray, List.set_cons_zero, List.set_cons_succ]))
  refine extT_last rfl (by rfl) (by kernel_rfl) (fun K hK => ?_)
  go_simp
  refine hK _ _ ?_
  clear hK K
  (try simp only [Act.put, List.setIfInBounds_toArray, List.set_cons_zero, List.set_cons_succ])
  skip
  rotate_left
  all_goals go_wp2
  all_goals
    refine wp_loop_rounds 9 ?_
    iterate 8 (rw [rounds_succ]; go_wp2)
    rw [rounds_succ]
    go_wp2_with fail
    go_at_call 15
    refine (rvalid_any _ _ _ _ _ _ _ _ _ _ _ _).mono ?_
    rintro e w2 ⟨rfl, hb2⟩
    rw [show vld (ub (d0 l)) (un (dBn l)) (dV l) [dX l 0, dX l 1, dX l 2, dX l 3, dX l 4, dX l 5, dX l 6, dX l 7] = true from HV.out]
    have hc2 := Ext.cells hb2
    have hf2 := Ext.frozens hb2
    have hs2 := Ext.size hb2
    have hlt2 : w1.heap.size < w2.heap.size := by have := hs2; simp at this; omega
    have hlt3 : w.heap.size < w2.heap.size := by omega
    have hlb2 : b < w2.heap.size := by omega
    have hxw2 : Ext w w2 := by refine Ext.trans (Ext.trans hx1 ?_) hb2; (repeat (first | (with_reducible exact Ext.alloc _ _) | (with_reducible exact Ext.refl _) | (with_reducible refine Ext.trans ?_ (Ext.drew _)) | (with_reducible refine Ext.trans ?_ (Ext.alloc _ _))))
    have HS4 := Lib.hid (HS.out.ext hxw2)
    have hxz : Ext (w.alloc (.cells #[.int .i64 0, .int .i64 0, .int .u64 0, .int .u8 0, .int .u8 0, .int .u8 0, .int .u8 0, .int .u8 0, .int .u8 0, .int .u8 0, .int .u8 0] 26)) w2 := by refine Ext.trans (Ext.trans ((Ext.drew _).trans hb1) ?_) hb2; (repeat (first | (with_reducible exact Ext.alloc _ _) | (with_reducible exact Ext.refl _) | (with_reducible refine Ext.trans ?_ (Ext.drew _)) | (with_reducible refine Ext.trans ?_ (Ext.alloc _ _))))
    have hcz : ∀ o, w2.cell? ⟨w.heap.size, o, none⟩ = (w.alloc (.cells #[.int .i64 0, .int .i64 0, .int .u64 0, .int .u8 0, .int .u8 0, .int .u8 0, .int .u8 0, .int .u8 0, .int .u8 0, .int .u8 0, .int .u8 0] 26)).cell? ⟨w.heap.size, o, none⟩ := fun o => hxz.cell _ o (by simp)
    go_wp2
    refine wp_region_ext [(0, true), (1, true), (2, true), (3, false), (4, false), (5, true), (6, true)] (by kernel_rfl) (by kernel_rfl) ?_
    iterate 3 (first
     | (refine ext_move rfl rfl (by rfl) (by rfl) ?_; simp only [Act.put, List.setIfInBounds_toArray, List.set_cons_zero, List.set_cons_succ])
     | (refine ext_assign rfl rfl (by rfl) (by rfl) ?_; simp only [Act.put, List.setIfInBounds_toArray, List.set_cons_zero, List.set_cons_succ])
     | (refine ext_pick_t rfl rfl (by rfl) (by rfl) (by rfl) ?_; simp only [Act.put, List.setIfInBounds_toArray, List.set_cons_zero, List.set_cons_succ])
     | (refine ext_pick_f rfl rfl (by rfl) (by rfl) (by rfl) ?_; simp only [Act.put, List.setIfInBounds_toArray, List.set_cons_zero, List.set_cons_succ])
     | (apply ext_take rfl (by rfl)
        · intro w' hS
          have hSc := hS.cells
          (try simp only [World.size_drew, World.cell?_drew] at hSc)
          go_simp
          (try simp (disch := omega) only [i64_id, u64_id, ↓IntWalk.iteOmega, Int.tdiv_eq_ediv_of_nonneg, Int.tmod_eq_emod_of_nonneg])
          try rfl
        simp only [Act.put, List.setIfInBounds_toArray, List.set_cons_zero, List.set_cons_succ])
     | (refine ext_pass rfl (by rfl) ?_; simp only [Act.put, List.setIfInBounds_toArray, List.set_cons_zero, List.set_cons_succ]))
    (refine ext_do rfl (by rfl) (fun K hK => ?_)
     go_simp
     go_at_call 21
     refine (rget_as (dT l) _ _ _ rfl (by simp; omega) ((HS4.out.ext (Ext.drew _)).sub 21 29 8 _ (by omega) (by omega) (by omega) (by omega))).mono ?_
     rintro e w' ⟨rfl, rfl⟩
     refine hK _ _ (by first | exact Ext.refl _ | exact Ext.drew _) ?_
     clear hK K
     (try simp only [Act.put, List.setIfInBounds_toArray, List.set_cons_zero, List.set_cons_succ]))
    (refine ext_store rfl (by rfl) (by kernel_rfl) (fun K hK => ?_)
     go_simp
     refine hK _ _ ?_
     clear hK K
     (try simp only [Act.put, List.setIfInBounds_toArray, List.set_cons_zero, List.set_cons_succ]))
    iterate 2 (first
     | (refine ext_move rfl rfl (by rfl) (by rfl) ?_; simp only [Act.put, List.setIfInBounds_toArray, List.set_cons_zero, List.set_cons_succ])
     | (refine ext_assign rfl rfl (by rfl) (by rfl) ?_; simp only [Act.put, List.setIfInBounds_toArray, List.set_cons_zero, List.set_cons_succ])
     | (refine ext_pick_t rfl rfl (by rfl) (by rfl) (by rfl) ?_; simp only [Act.put, List.setIfInBounds_toArray, List.set_cons_zero, List.set_cons_succ])
     | (refine ext_pick_f rfl rfl (by rfl) (by rfl) (by rfl) ?_; simp only [Act.put, List.setIfInBounds_toArray, List.set_cons_zero, List.set_cons_succ])
     | (apply ext_take rfl (by rfl)
        · intro w' hS
          have hSc := hS.cells
          (try simp only [World.size_drew, World.cell?_drew] at hSc)
          go_simp
          (try simp (disch := omega) only [i64_id, u64_id, ↓IntWalk.iteOmega, Int.tdiv_eq_ediv_of_nonneg, Int.tmod_eq_emod_of_nonneg])
          try rfl
        simp only [Act.put, List.setIfInBounds_toArray, List.set_cons_zero, List.set_cons_succ])
     | (refine ext_pass rfl (by rfl) ?_; simp only [Act.put, List.setIfInBounds_toArray, List.set_cons_zero, List.set_cons_succ]))
    refine ext_nil ?_
    go_wp2
    refine bodyPost_ret (v := .tuple #[.agg #[encI (dK l), encI (dB l), encU (dV l), encB (dX l 0), encB (dX l 1), encB (dX l 2), encB (dX l 3), encB (dX l 4), encB (dX l 5), encB (dX l 6), encB (dX l 7)], encU (dT l), .int .i64 0]) ?_ rfl ⟨rfl, ?_⟩
    · simp only [results, Try.results13, dK, dB]
      go_simp
    · refine below_of_ext ?_
      refine Ext.trans ?_ (Ext.drew _)
      repeat (with_reducible refine Ext.setOwn ?_ (Nat.le_refl _))
      exact hxw2

theorem rdecode_any (v : Value) (l : List (BitVec 8)) (w : World) (hl : l.length ≤ maxLen) (h : SliceAt encB w v l) :
    Calls Try.prog 13 #[v] w fun e w' => e = .returned (decV l) ∧ Below w.heap.size w w' := by
  unfold decV
  by_cases h1 : l.length ≠ 37
  · rw [if_pos h1]; exact rdecode_len v l w hl h h1
  rw [if_neg h1]
  have h1 : l.length = 37 := by omega
  by_cases h2 : dS l ≠ dC l
  · rw [if_pos h2]; exact rdecode_sum v l w h h1 h2
  rw [if_neg h2]
  have h2 : dS l = dC l := Classical.not_not.1 h2
  by_cases h3 : vld (dK l) (dB l) (dV l) (dD l) = true
  · rw [if_pos h3]; exact rdecode_yes v l w h h1 h2 h3
  · rw [if_neg h3]; exact rdecode_bad v l w h h1 h2 (by simpa using h3)
end Go.Proofs.Ytbjafmjeilabiaa
