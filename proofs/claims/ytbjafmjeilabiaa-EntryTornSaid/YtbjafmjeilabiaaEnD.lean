/-
  Chapter 15 (entry): Decode, in package entry.
-/
import Derived.Test.YtbjafmjeilabiaaEnC
import Derived.Test.YtbjafmjeilabiaaAlt
namespace Go.Proofs.Ytbjafmjeilabiaa
open Go.RowKit
set_option linter.unusedVariables false

def badE (n : Int) : Value := .tuple #[.agg #[.int .i64 0, .int .i64 0, .int .u64 0, .int .u8 0, .int .u8 0, .int .u8 0, .int .u8 0, .int .u8 0, .int .u8 0, .int .u8 0, .int .u8 0], .int .u64 0, .int .i64 n]
def d0 (l : List (BitVec 8)) : BitVec 8 := l.getD 0 0#8
def dBn (l : List (BitVec 8)) : BitVec 64 := unle ((l.take 5).drop 1)
def dC (l : List (BitVec 8)) : BitVec 64 := Crc.sum (l.take 29)
def dK (l : List (BitVec 8)) : Int := ub (d0 l)
def dB (l : List (BitVec 8)) : Int := un (dBn l)
def dV (l : List (BitVec 8)) : BitVec 64 := unle ((l.take 13).drop 5)
def dX (l : List (BitVec 8)) (i : Nat) : BitVec 8 := l.getD (13 + i) 0#8
def dD (l : List (BitVec 8)) : List (BitVec 8) := [dX l 0, dX l 1, dX l 2, dX l 3, dX l 4, dX l 5, dX l 6, dX l 7]
def dT (l : List (BitVec 8)) : BitVec 64 := unle ((l.take 29).drop 21)
def dS (l : List (BitVec 8)) : BitVec 64 := unle ((l.take 37).drop 29)
def decV (l : List (BitVec 8)) : Value :=
  if l.length ≠ 37 then badE 5 else if dS l ≠ dC l then badE 6
  else if vld (dK l) (dB l) (dV l) (dD l) = true then .tuple #[.agg #[encI (dK l), encI (dB l), encU (dV l), encB (dX l 0), encB (dX l 1), encB (dX l 2), encB (dX l 3), encB (dX l 4), encB (dX l 5), encB (dX l 6), encB (dX l 7)], encU (dT l), .int .i64 0] else badE 5
/-- a part of a slice -/
theorem SliceAt.sub {α : Type} {enc : α → Value} {w : World} {b off n cap : Nat} {l : List α} (h : SliceAt enc w (.slice (some ⟨b, off, none⟩) n cap) l) (i j n' cap' : Nat) (hij : i ≤ j) (hj : j ≤ n) (hn : n' = j - i) (hc : n' ≤ cap') :
    SliceAt enc w (.slice (some ⟨b, off + i, none⟩) n' cap') ((l.take j).drop i) := by
  obtain ⟨ad, cap0, hv, hca, h⟩ := h
  injection hv with h1 h2 h3
  have hl : ((l.take j).drop i).length = n' := by rw [List.length_drop, List.length_take, Nat.min_eq_left (by omega)]; omega
  refine ⟨_, cap', by rw [hl], by omega, ?_⟩
  rcases h with ⟨h4, _⟩ | ⟨b', off', h4, h5, h6⟩
  · left; exact ⟨by rw [h4]; simp, fun h => by cases h⟩
  · right
    rw [← h1] at h4; cases h4
    refine ⟨b, off + i, rfl, h5, fun k hk => ?_⟩
    rw [hl] at hk
    rw [Nat.add_assoc, h6 (i + k) (by omega), List.getElem_drop, List.getElem_take]
theorem SliceAt.some_of {α : Type} {enc : α → Value} {w : World} {v : Value} {l : List α} (h : SliceAt enc w v l) (hl : 0 < l.length) :
    ∃ b off cap, v = .slice (some ⟨b, off, none⟩) l.length cap ∧ l.length ≤ cap ∧ b < w.heap.size ∧ ∀ i (h : i < l.length), w.cell? ⟨b, off + i, none⟩ = some (enc l[i]) := by
  obtain ⟨ad, cap, rfl, hca, h⟩ := h
  rcases h with ⟨h1, _⟩ | ⟨b, off, rfl, h2, h3⟩
  · subst h1; simp at hl
  · exact ⟨b, off, cap, rfl, hca, h2, h3⟩

theorem decode_len (v : Value) (l : List (BitVec 8)) (w : World) (hl : l.length ≤ maxLen) (h : SliceAt encB w v l) (hne : l.length ≠ 37) :
    Calls Try.prog 12 #[v] w fun e w' => e = .returned (badE 5) ∧ Below w.heap.size w w' := by
  obtain ⟨ad, cap, rfl, _, _⟩ := h
  unfold maxLen at hl
  have hq : ((l.length : Int) != 37) = true := by rw [bne_iff_ne]; omega
  clear hne
  go_enter Try.func12, Try.ntmps12
  go_wp2
  refine bodyPost_ret (v := badE 5) ?_ rfl ⟨rfl, ?_⟩
  · unfold badE; simp [results, Try.results12, go_sem]
  · exact Ext.alloc _ _

set_option maxHeartbeats 800000 in
theorem decode_sum (v : Value) (l : List (BitVec 8)) (w : World) (h : SliceAt encB w v l) (hl : l.length = 37) (hne : dS l ≠ dC l) :
    Calls Try.prog 12 #[v] w fun e w' => e = .returned (badE 6) ∧ Below w.heap.size w w' := by
  have HS := Lib.hid h
  obtain ⟨b, off, cap, rfl, hca, hb, _⟩ := h.some_of (by omega)
  have hq : (un (dS l) != un (dC l)) = true := by rw [bne_iff_ne]; exact fun e => hne (un_inj e)
  have hc37 : (37 : Int) ≤ (cap : Int) := by omega
  rw [hl] at HS
  rw [hl]
  have HL := Lib.hid hl
  clear hne hl hca h
  go_enter Try.func12, Try.ntmps12
  go_wp2
  have hxA := (Ext.alloc w (.cells #[.int .i64 0, .int .i64 0, .int .u64 0, .int .u8 0, .int .u8 0, .int .u8 0, .int .u8 0, .int .u8 0, .int .u8 0, .int .u8 0, .int .u8 0] 26))
  have HS1 := Lib.hid (HS.out.ext (hxA.trans (Ext.drew _)))
  clear hxA
  refine wp_region_ext [(0, true), (1, true), (3, true), (4, true), (2, false), (5, false), (6, true)] (by kernel_rfl) (by kernel_rfl) ?_
  iterate 4 (first
   | (refine ext_move rfl rfl (by rfl) (by rfl) ?_; simp only [Act.put, List.setIfInBounds_toArray, List.set_cons_zero, List.set_cons_succ])
   | (refine ext_assign rfl rfl (by rfl) (by rfl) ?_; simp only [Act.put, List.setIfInBounds_toArray, List.set_cons_zero, List.set_cons_succ])
   | (refine ext_pick_t rfl rfl (by rfl) (by rfl) (by rfl) ?_; simp only [Act.put, List.setIfInBounds_toArray, List.set_cons_zero, List.set_cons_succ])
   | (refine ext_pick_f rfl rfl (by rfl) (by rfl) (by rfl) ?_; simp only [Act.put, List.setIfInBounds_toArray, List.set_cons_zero, List.set_cons_succ])
   | (apply ext_take rfl (by rfl)
      · intro w' hS
        have hSc := hS.cells
        (try simp only [World.size_drew, World.cell?_drew] at hSc)
        go_simp
        (try simp (disch := omega) only [i64_id, u64_id, ↓IntWalk.iteOmega, Int.tdiv_eq_ediv_of_nonneg, Int.tmod_eq_emod_of_nonneg])
        try rfl
      simp only [Act.put, List.setIfInBounds_toArray, List.set_cons_zero, List.set_cons_succ])
   | (refine ext_pass rfl (by rfl) ?_; simp only [Act.put, List.setIfInBounds_toArray, List.set_cons_zero, List.set_cons_succ]))
  (refine ext_do rfl (by rfl) (fun K hK => ?_)
   go_simp
   go_at_call 20
   refine (get_as (dS l) _ _ _ rfl (by simp; omega) (HS1.out.sub 29 37 8 _ (by omega) (by omega) (by omega) (by omega))).mono ?_
   rintro e w' ⟨rfl, rfl⟩
   refine hK _ _ (by first | exact Ext.refl _ | exact Ext.drew _) ?_
   clear hK K
   (try simp only [Act.put, List.setIfInBounds_toArray, List.set_cons_zero, List.set_cons_succ]))
  (refine ext_do rfl (by rfl) (fun K hK => ?_)
   go_simp
   go_at_call 18
   refine (sum_as (dC l) _ _ _ rfl (by unfold maxLen; simp; omega) (HS1.out.sub 0 29 29 _ (by omega) (by omega) (by omega) (by omega))).mono ?_
   rintro e w' ⟨rfl, rfl⟩
   refine hK _ _ (by first | exact Ext.refl _ | exact Ext.drew _) ?_
   clear hK K
   (try simp only [Act.put, List.setIfInBounds_toArray, List.set_cons_zero, List.set_cons_succ]))
  iterate 1 (first
   | (refine ext_move rfl rfl (by rfl) (by rfl) ?_; simp only [Act.put, List.setIfInBounds_toArray, List.set_cons_zero, List.set_cons_succ])
   | (refine ext_assign rfl rfl (by rfl) (by rfl) ?_; simp only [Act.put, List.setIfInBounds_toArray, List.set_cons_zero, List.set_cons_succ])
   | (refine ext_pick_t rfl rfl (by rfl) (by rfl) (by rfl) ?_; simp only [Act.put, List.setIfInBounds_toArray, List.set_cons_zero, List.set_cons_succ])
   | (refine ext_pick_f rfl rfl (by rfl) (by rfl) (by rfl) ?_; simp only [Act.put, List.setIfInBounds_toArray, List.set_cons_zero, List.set_cons_succ])
   | (apply ext_take rfl (by rfl)
      · intro w' hS
        have hSc := hS.cells
        (try simp only [World.size_drew, World.cell?_drew] at hSc)
        go_simp
        (try simp (disch := omega) only [i64_id, u64_id, ↓IntWalk.iteOmega, Int.tdiv_eq_ediv_of_nonneg, Int.tmod_eq_emod_of_nonneg])
        try rfl
      simp only [Act.put, List.setIfInBounds_toArray, List.set_cons_zero, List.set_cons_succ])
   | (refine ext_pass rfl (by rfl) ?_; simp only [Act.put, List.setIfInBounds_toArray, List.set_cons_zero, List.set_cons_succ]))
  refine ext_nil ?_
  go_wp2
  refine bodyPost_ret (v := badE 6) ?_ rfl ⟨rfl, ?_⟩
  · unfold badE; simp [results, Try.results12, go_sem]
  · exact (Ext.alloc _ _).trans (Ext.drew _)

set_option maxHeartbeats 800000 in
theorem decode_bad (v : Value) (l : List (BitVec 8)) (w : World) (h : SliceAt encB w v l) (hl : l.length = 37) (hs : dS l = dC l) (hv : vld (dK l) (dB l) (dV l) (dD l) = false) :
    Calls Try.prog 12 #[v] w fun e w' => e = .returned (badE 5) ∧ Below w.heap.size w w' := by
  have HS := Lib.hid h
  obtain ⟨b, off, cap, rfl, hca, hb, hcell⟩ := h.some_of (by omega)
  have hq : (un (dS l) != un (dC l)) = false := by rw [bne_eq_false_iff_eq]; exact congrArg un hs
  have hc37 : (37 : Int) ≤ (cap : Int) := by omega
  have cx : ∀ i (hi : i < 37), w.cell? ⟨b, off + i, none⟩ = some (encB (l.getD i 0#8)) := fun i hi => by
    rw [hcell i (by omega)]; simp [List.getD, show i < l.length by omega]
  have k0 : w.cell? ⟨b, off, none⟩ = some (encB (d0 l)) := cx 0 (by omega)
  have k1 : w.cell? ⟨b, off + 13, none⟩ = some (encB (dX l 0)) := cx 13 (by omega)
  have k2 : w.cell? ⟨b, off + 14, none⟩ = some (encB (dX l 1)) := cx 14 (by omega)
  have k3 : w.cell? ⟨b, off + 15, none⟩ = some (encB (dX l 2)) := cx 15 (by omega)
  have k4 : w.cell? ⟨b, off + 16, none⟩ = some (encB (dX l 3)) := cx 16 (by omega)
  have k5 : w.cell? ⟨b, off + 17, none⟩ = some (encB (dX l 4)) := cx 17 (by omega)
  have k6 : w.cell? ⟨b, off + 18, none⟩ = some (encB (dX l 5)) := cx 18 (by omega)
  have k7 : w.cell? ⟨b, off + 19, none⟩ = some (encB (dX l 6)) := cx 19 (by omega)
  have k8 : w.cell? ⟨b, off + 20, none⟩ = some (encB (dX l 7)) := cx 20 (by omega)
  have hbd := un_bound (dBn l)
  have hlt5 := unle_lt ((l.take 5).drop 1) 4 (by simp; omega) (by omega)
  have hbd2 : un (dBn l) ≤ 9223372036854775807 := by unfold un dBn; omega
  have hub := ub_bound (d0 l)
  rw [hl] at HS
  rw [hl]
  have HL := Lib.hid hl
  have HV := Lib.hid hv
  clear hs hl hca h hcell cx hlt5 hv
  go_enter Try.func12, Try.ntmps12
  go_wp2
  have hxA := (Ext.alloc w (.cells #[.int .i64 0, .int .i64 0, .int .u64 0, .int .u8 0, .int .u8 0, .int .u8 0, .int .u8 0, .int .u8 0, .int .u8 0, .int .u8 0, .int .u8 0] 26))
  have HS1 := Lib.hid (HS.out.ext (hxA.trans (Ext.drew _)))
  clear hxA
  refine wp_region_ext [(0, true), (1, true), (3, true), (4, true), (2, false), (5, false), (6, true)] (by kernel_rfl) (by kernel_rfl) ?_
  iterate 4 (first
   | (refine ext_move rfl rfl (by rfl) (by rfl) ?_; simp only [Act.put, List.setIfInBounds_toArray, List.set_cons_zero, List.set_cons_succ])
   | (refine ext_assign rfl rfl (by rfl) (by rfl) ?_; simp only [Act.put, List.setIfInBounds_toArray, List.set_cons_zero, List.set_cons_succ])
   | (refine ext_pick_t rfl rfl (by rfl) (by rfl) (by rfl) ?_; simp only [Act.put, List.setIfInBounds_toArray, List.set_cons_zero, List.set_cons_succ])
   | (refine ext_pick_f rfl rfl (by rfl) (by rfl) (by rfl) ?_; simp only [Act.put, List.setIfInBounds_toArray, List.set_cons_zero, List.set_cons_succ])
   | (apply ext_take rfl (by rfl)
      · intro w' hS
        have hSc := hS.cells
        (try simp only [World.size_drew, World.cell?_drew] at hSc)
        go_simp
        (try simp (disch := omega) only [i64_id, u64_id, ↓IntWalk.iteOmega, Int.tdiv_eq_ediv_of_nonneg, Int.tmod_eq_emod_of_nonneg])
        try rfl
      simp only [Act.put, List.setIfInBounds_toArray, List.set_cons_zero, List.set_cons_succ])
   | (refine ext_pass rfl (by rfl) ?_; simp only [Act.put, List.setIfInBounds_toArray, List.set_cons_zero, List.set_cons_succ]))
  (refine ext_do rfl (by rfl) (fun K hK => ?_)
   go_simp
   go_at_call 20
   refine (get_as (dS l) _ _ _ rfl (by simp; omega) (HS1.out.sub 29 37 8 _ (by omega) (by omega) (by omega) (by omega))).mono ?_
   rintro e w' ⟨rfl, rfl⟩
   refine hK _ _ (by first | exact Ext.refl _ | exact Ext.drew _) ?_
   clear hK K
   (try simp only [Act.put, List.setIfInBounds_toArray, List.set_cons_zero, List.set_cons_succ]))
  (refine ext_do rfl (by rfl) (fun K hK => ?_)
   go_simp
   go_at_call 18
   refine (sum_as (dC l) _ _ _ rfl (by unfold maxLen; simp; omega) (HS1.out.sub 0 29 29 _ (by omega) (by omega) (by omega) (by omega))).mono ?_
   rintro e w' ⟨rfl, rfl⟩
   refine hK _ _ (by first | exact Ext.refl _ | exact Ext.drew _) ?_
   clear hK K
   (try simp only [Act.put, List.setIfInBounds_toArray, List.set_cons_zero, List.set_cons_succ]))
  iterate 1 (first
   | (refine ext_move rfl rfl (by rfl) (by rfl) ?_; simp only [Act.put, List.setIfInBounds_toArray, List.set_cons_zero, List.set_cons_succ])
   | (refine ext_assign rfl rfl (by rfl) (by rfl) ?_; simp only [Act.put, List.setIfInBounds_toArray, List.set_cons_zero, List.set_cons_succ])
   | (refine ext_pick_t rfl rfl (by rfl) (by rfl) (by rfl) ?_; simp only [Act.put, List.setIfInBounds_toArray, List.set_cons_zero, List.set_cons_succ])
   | (refine ext_pick_f rfl rfl (by rfl) (by rfl) (by rfl) ?_; simp only [Act.put, List.setIfInBounds_toArray, List.set_cons_zero, List.set_cons_succ])
   | (apply ext_take rfl (by rfl)
      · intro w' hS
        have hSc := hS.cells
        (try simp only [World.size_drew, World.cell?_drew] at hSc)
        go_simp
        (try simp (disch := omega) only [i64_id, u64_id, ↓IntWalk.iteOmega, Int.tdiv_eq_ediv_of_nonneg, Int.tmod_eq_emod_of_nonneg])
        try rfl
      simp only [Act.put, List.setIfInBounds_toArray, List.set_cons_zero, List.set_cons_succ])
   | (refine ext_pass rfl (by rfl) ?_; simp only [Act.put, List.setIfInBounds_toArray, List.set_cons_zero, List.set_cons_succ]))
  refine ext_nil ?_
  go_wp2
  have HS2 := Lib.hid (HS1.out.ext (Ext.drew _))
  refine wp_region_ext [(0, true), (1, true), (2, true), (3, true), (4, true), (5, true), (8, true), (9, true), (11, true), (12, true), (13, true), (14, true), (6, false), (7, true), (10, false), (15, true), (16, false)] (by kernel_rfl) (by kernel_rfl) ?_
  iterate 12 (first
   | (refine ext_move rfl rfl (by rfl) (by rfl) ?_; simp only [Act.put, List.setIfInBounds_toArray, List.set_cons_zero, List.set_cons_succ])
   | (refine ext_assign rfl rfl (by rfl) (by rfl) ?_; simp only [Act.put, List.setIfInBounds_toArray, List.set_cons_zero, List.set_cons_succ])
   | (refine ext_pick_t rfl rfl (by rfl) (by rfl) (by rfl) ?_; simp only [Act.put, List.setIfInBounds_toArray, List.set_cons_zero, List.set_cons_succ])
   | (refine ext_pick_f rfl rfl (by rfl) (by rfl) (by rfl) ?_; simp only [Act.put, List.setIfInBounds_toArray, List.set_cons_zero, List.set_cons_succ])
   | (apply ext_take rfl (by rfl)
      · intro w' hS
        have hSc := hS.cells
        (try simp only [World.size_drew, World.cell?_drew] at hSc)
        go_simp
        (try simp (disch := omega) only [i64_id, u64_id, ↓IntWalk.iteOmega, Int.tdiv_eq_ediv_of_nonneg, Int.tmod_eq_emod_of_nonneg])
        try rfl
      simp only [Act.put, List.setIfInBounds_toArray, List.set_cons_zero, List.set_cons_succ])
   | (refine ext_pass rfl (by rfl) ?_; simp only [Act.put, List.setIfInBounds_toArray, List.set_cons_zero, List.set_cons_succ]))
  (refine ext_do rfl (by rfl) (fun K hK => ?_)
   go_simp
   go_at_call 20
   refine (get_as (dBn l) _ _ _ rfl (by simp; omega) (HS2.out.sub 1 5 4 _ (by omega) (by omega) (by omega) (by omega))).mono ?_
   rintro e w' ⟨rfl, rfl⟩
   refine hK _ _ (by first | exact Ext.refl _ | exact Ext.drew _) ?_
   clear hK K
   (try simp only [Act.put, List.setIfInBounds_toArray, List.set_cons_zero, List.set_cons_succ]))
  iterate 1 (first
   | (refine ext_move rfl rfl (by rfl) (by rfl) ?_; simp only [Act.put, List.setIfInBounds_toArray, List.set_cons_zero, List.set_cons_succ])
   | (refine ext_assign rfl rfl (by rfl) (by rfl) ?_; simp only [Act.put, List.setIfInBounds_toArray, List.set_cons_zero, List.set_cons_succ])
   | (refine ext_pick_t rfl rfl (by rfl) (by rfl) (by rfl) ?_; simp only [Act.put, List.setIfInBounds_toArray, List.set_cons_zero, List.set_cons_succ])
   | (refine ext_pick_f rfl rfl (by rfl) (by rfl) (by rfl) ?_; simp only [Act.put, List.setIfInBounds_toArray, List.set_cons_zero, List.set_cons_succ])
   | (apply ext_take rfl (by rfl)
      · intro w' hS
        have hSc := hS.cells
        (try simp only [World.size_drew, World.cell?_drew] at hSc)
        go_simp
        (try simp (disch := omega) only [i64_id, u64_id, ↓IntWalk.iteOmega, Int.tdiv_eq_ediv_of_nonneg, Int.tmod_eq_emod_of_nonneg])
        try rfl
      simp only [Act.put, List.setIfInBounds_toArray, List.set_cons_zero, List.set_cons_succ])
   | (refine ext_pass rfl (by rfl) ?_; simp only [Act.put, List.setIfInBounds_toArray, List.set_cons_zero, List.set_cons_succ]))
  (refine ext_do rfl (by rfl) (fun K hK => ?_)
   go_simp
   go_at_call 20
   refine (get_as (dV l) _ _ _ rfl (by simp; omega) (HS2.out.sub 5 13 8 _ (by omega) (by omega) (by omega) (by omega))).mono ?_
   rintro e w' ⟨rfl, rfl⟩
   refine hK _ _ (by first | exact Ext.refl _ | exact Ext.drew _) ?_
   clear hK K
   (try simp only [Act.put, List.setIfInBounds_toArray, List.set_cons_zero, List.set_cons_succ]))
  iterate 1 (first
   | (refine ext_move rfl rfl (by rfl) (by rfl) ?_; simp only [Act.put, List.setIfInBounds_toArray, List.set_cons_zero, List.set_cons_succ])
   | (refine ext_assign rfl rfl (by rfl) (by rfl) ?_; simp only [Act.put, List.setIfInBounds_toArray, List.set_cons_zero, List.set_cons_succ])
   | (refine ext_pick_t rfl rfl (by rfl) (by rfl) (by rfl) ?_; simp only [Act.put, List.setIfInBounds_toArray, List.set_cons_zero, List.set_cons_succ])
   | (refine ext_pick_f rfl rfl (by rfl) (by rfl) (by rfl) ?_; simp only [Act.put, List.setIfInBounds_toArray, List.set_cons_zero, List.set_cons_succ])
   | (apply ext_take rfl (by rfl)
      · intro w' hS
        have hSc := hS.cells
        (try simp only [World.size_drew, World.cell?_drew] at hSc)
        go_simp
        (try simp (disch := omega) only [i64_id, u64_id, ↓IntWalk.iteOmega, Int.tdiv_eq_ediv_of_nonneg, Int.tmod_eq_emod_of_nonneg])
        try rfl
      simp only [Act.put, List.setIfInBounds_toArray, List.set_cons_zero, List.set_cons_succ])
   | (refine ext_pass rfl (by rfl) ?_; simp only [Act.put, List.setIfInBounds_toArray, List.set_cons_zero, List.set_cons_succ]))
  (refine ext_last rfl (by rfl) (by kernel_rfl) (fun K hK => ?_)
   go_simp
   refine hK _ _ ?_
   clear hK K
   (try simp only [Act.put, List.setIfInBounds_toArray, List.set_cons_zero, List.set_cons_succ]))
  go_wp2_with fail
  go_at_call 16
  refine (valid_any _ _ _ _ _ _ _ _ _ _ _ _).mono ?_
  rintro e w1 ⟨rfl, hx1⟩
  rw [show vld (ub (d0 l)) (un (dBn l)) (dV l) [dX l 0, dX l 1, dX l 2, dX l 3, dX l 4, dX l 5, dX l 6, dX l 7] = false from HV.out]
  have hc1 := Ext.cells hx1
  have hf1 := Ext.frozens hx1
  have hs1 := Ext.size hx1
  have hlt1 : w.heap.size < w1.heap.size := by have := hs1; simp at this; omega
  have hxw1 : Ext w w1 := by refine Ext.trans ?_ hx1; (repeat (first | (with_reducible exact Ext.alloc _ _) | (with_reducible exact Ext.refl _) | (with_reducible refine Ext.trans ?_ (Ext.drew _)) | (with_reducible refine Ext.trans ?_ (Ext.alloc _ _))))
  go_wp2
  refine bodyPost_ret (v := badE 5) ?_ rfl ⟨rfl, ?_⟩
  · unfold badE
    simp only [results, Try.results12]
    go_simp
  · refine below_of_ext ?_
    repeat (with_reducible refine Ext.setOwn ?_ (Nat.le_refl _))
    exact hxw1

set_option maxHeartbeats 800000 in
theorem decode_yes (v : Value) (l : List (BitVec 8)) (w : World) (h : SliceAt encB w v l) (hl : l.length = 37) (hs : dS l = dC l) (hv : vld (dK l) (dB l) (dV l) (dD l) = true) :
    Calls Try.prog 12 #[v] w fun e w' => e = .returned (.tuple #[.agg #[encI (dK l), encI (dB l), encU (dV l), encB (dX l 0), encB (dX l 1), encB (dX l 2), encB (dX l 3), encB (dX l 4), encB (dX l 5), encB (dX l 6), encB (dX l 7)], encU (dT l), .int .i64 0]) ∧ Below w.heap.size w w' := by
  have HS := Lib.hid h
  obtain ⟨b, off, cap, rfl, hca, hb, hcell⟩ := h.some_of (by omega)
  have hq : (un (dS l) != un (dC l)) = false := by rw [bne_eq_false_iff_eq]; exact congrArg un hs
  have hc37 : (37 : Int) ≤ (cap : Int) := by omega
  have cx : ∀ i (hi : i < 37), w.cell? ⟨b, off + i, none⟩ = some (encB (l.getD i 0#8)) := fun i hi => by
    rw [hcell i (by omega)]; simp [List.getD, show i < l.length by omega]
  have k0 : w.cell? ⟨b, off, none⟩ = some (encB (d0 l)) := cx 0 (by omega)
  have k1 : w.cell? ⟨b, off + 13, none⟩ = some (encB (dX l 0)) := cx 13 (by omega)
  have k2 : w.cell? ⟨b, off + 14, none⟩ = some (encB (dX l 1)) := cx 14 (by omega)
  have k3 : w.cell? ⟨b, off + 15, none⟩ = some (encB (dX l 2)) := cx 15 (by omega)
  have k4 : w.cell? ⟨b, off + 16, none⟩ = some (encB (dX l 3)) := cx 16 (by omega)
  have k5 : w.cell? ⟨b, off + 17, none⟩ = some (encB (dX l 4)) := cx 17 (by omega)
  have k6 : w.cell? ⟨b, off + 18, none⟩ = some (encB (dX l 5)) := cx 18 (by omega)
  have k7 : w.cell? ⟨b, off + 19, none⟩ = some (encB (dX l 6)) := cx 19 (by omega)
  have k8 : w.cell? ⟨b, off + 20, none⟩ = some (encB (dX l 7)) := cx 20 (by omega)
  have hbd := un_bound (dBn l)
  have hlt5 := unle_lt ((l.take 5).drop 1) 4 (by simp; omega) (by omega)
  have hbd2 : un (dBn l) ≤ 9223372036854775807 := by unfold un dBn; omega
  have hub := ub_bound (d0 l)
  rw [hl] at HS
  rw [hl]
  have HL := Lib.hid hl
  have HV := Lib.hid hv
  clear hs hl hca h hcell cx hlt5 hv
  go_enter Try.func12, Try.ntmps12
  go_wp2
  have hxA := (Ext.alloc w (.cells #[.int .i64 0, .int .i64 0, .int .u64 0, .int .u8 0, .int .u8 0, .int .u8 0, .int .u8 0, .int .u8 0, .int .u8 0, .int .u8 0, .int .u8 0] 26))
  have HS1 := Lib.hid (HS.out.ext (hxA.trans (Ext.drew _)))
  clear hxA
  refine wp_region_ext [(0, true), (1, true), (3, true), (4, true), (2, false), (5, false), (6, true)] (by kernel_rfl) (by kernel_rfl) ?_
  iterate 4 (first
   | (refine ext_move rfl rfl (by rfl) (by rfl) ?_; simp only [Act.put, List.setIfInBounds_toArray, List.set_cons_zero, List.set_cons_succ])
   | (refine ext_assign rfl rfl (by rfl) (by rfl) ?_; simp only [Act.put, List.setIfInBounds_toArray, List.set_cons_zero, List.set_cons_succ])
   | (refine ext_pick_t rfl rfl (by rfl) (by rfl) (by rfl) ?_; simp only [Act.put, List.setIfInBounds_toArray, List.set_cons_zero, List.set_cons_succ])
   | (refine ext_pick_f rfl rfl (by rfl) (by rfl) (by rfl) ?_; simp only [Act.put, List.setIfInBounds_toArray, List.set_cons_zero, List.set_cons_succ])
   | (apply ext_take rfl (by rfl)
      · intro w' hS
        have hSc := hS.cells
        (try simp only [World.size_drew, World.cell?_drew] at hSc)
        go_simp
        (try simp (disch := omega) only [i64_id, u64_id, ↓IntWalk.iteOmega, Int.tdiv_eq_ediv_of_nonneg, Int.tmod_eq_emod_of_nonneg])
        try rfl
      simp only [Act.put, List.setIfInBounds_toArray, List.set_cons_zero, List.set_cons_succ])
   | (refine ext_pass rfl (by rfl) ?_; simp only [Act.put, List.setIfInBounds_toArray, List.set_cons_zero, List.set_cons_succ]))
  (refine ext_do rfl (by rfl) (fun K hK => ?_)
   go_simp
   go_at_call 20
   refine (get_as (dS l) _ _ _ rfl (by simp; omega) (HS1.out.sub 29 37 8 _ (by omega) (by omega) (by omega) (by omega))).mono ?_
   rintro e w' ⟨rfl, rfl⟩
   refine hK _ _ (by first | exact Ext.refl _ | exact Ext.drew _) ?_
   clear hK K
   (try simp only [Act.put, List.setIfInBounds_toArray, List.set_cons_zero, List.set_cons_succ]))
  (refine ext_do rfl (by rfl) (fun K hK => ?_)
   go_simp
   go_at_call 18
   refine (sum_as (dC l) _ _ _ rfl (by unfold maxLen; simp; omega) (HS1.out.sub 0 29 29 _ (by omega) (by omega) (by omega) (by omega))).mono ?_
   rintro e w' ⟨rfl, rfl⟩
   refine hK _ _ (by first | exact Ext.refl _ | exact Ext.drew _) ?_
   clear hK K
   (try simp only [Act.put, List.setIfInBounds_toArray, List.set_cons_zero, List.set_cons_succ]))
  iterate 1 (first
   | (refine ext_move rfl rfl (by rfl) (by rfl) ?_; simp only [Act.put, List.setIfInBounds_toArray, List.set_cons_zero, List.set_cons_succ])
   | (refine ext_assign rfl rfl (by rfl) (by rfl) ?_; simp only [Act.put, List.setIfInBounds_toArray, List.set_cons_zero, List.set_cons_succ])
   | (refine ext_pick_t rfl rfl (by rfl) (by rfl) (by rfl) ?_; simp only [Act.put, List.setIfInBounds_toArray, List.set_cons_zero, List.set_cons_succ])
   | (refine ext_pick_f rfl rfl (by rfl) (by rfl) (by rfl) ?_; simp only [Act.put, List.setIfInBounds_toArray, List.set_cons_zero, List.set_cons_succ])
   | (apply ext_take rfl (by rfl)
      · intro w' hS
        have hSc := hS.cells
        (try simp only [World.size_drew, World.cell?_drew] at hSc)
        go_simp
        (try simp (disch := omega) only [i64_id, u64_id, ↓IntWalk.iteOmega, Int.tdiv_eq_ediv_of_nonneg, Int.tmod_eq_emod_of_nonneg])
        try rfl
      simp only [Act.put, List.setIfInBounds_toArray, List.set_cons_zero, List.set_cons_succ])
   | (refine ext_pass rfl (by rfl) ?_; simp only [Act.put, List.setIfInBounds_toArray, List.set_cons_zero, List.set_cons_succ]))
  refine ext_nil ?_
  go_wp2
  have HS2 := Lib.hid (HS1.out.ext (Ext.drew _))
  refine wp_region_ext [(0, true), (1, true), (2, true), (3, true), (4, true), (5, true), (8, true), (9, true), (11, true), (12, true), (13, true), (14, true), (6, false), (7, true), (10, false), (15, true), (16, false)] (by kernel_rfl) (by kernel_rfl) ?_
  iterate 12 (first
   | (refine ext_move rfl rfl (by rfl) (by rfl) ?_; simp only [Act.put, List.setIfInBounds_toArray, List.set_cons_zero, List.set_cons_succ])
   | (refine ext_assign rfl rfl (by rfl) (by rfl) ?_; simp only [Act.put, List.setIfInBounds_toArray, List.set_cons_zero, List.set_cons_succ])
   | (refine ext_pick_t rfl rfl (by rfl) (by rfl) (by rfl) ?_; simp only [Act.put, List.setIfInBounds_toArray, List.set_cons_zero, List.set_cons_succ])
   | (refine ext_pick_f rfl rfl (by rfl) (by rfl) (by rfl) ?_; simp only [Act.put, List.setIfInBounds_toArray, List.set_cons_zero, List.set_cons_succ])
   | (apply ext_take rfl (by rfl)
      · intro w' hS
        have hSc := hS.cells
        (try simp only [World.size_drew, World.cell?_drew] at hSc)
        go_simp
        (try simp (disch := omega) only [i64_id, u64_id, ↓IntWalk.iteOmega, Int.tdiv_eq_ediv_of_nonneg, Int.tmod_eq_emod_of_nonneg])
        try rfl
      simp only [Act.put, List.setIfInBounds_toArray, List.set_cons_zero, List.set_cons_succ])
   | (refine ext_pass rfl (by rfl) ?_; simp only [Act.put, List.setIfInBounds_toArray, List.set_cons_zero, List.set_cons_succ]))
  (refine ext_do rfl (by rfl) (fun K hK => ?_)
   go_simp
   go_at_call 20
   refine (get_as (dBn l) _ _ _ rfl (by simp; omega) (HS2.out.sub 1 5 4 _ (by omega) (by omega) (by omega) (by omega))).mono ?_
   rintro e w' ⟨rfl, rfl⟩
   refine hK _ _ (by first | exact Ext.refl _ | exact Ext.drew _) ?_
   clear hK K
   (try simp only [Act.put, List.setIfInBounds_toArray, List.set_cons_zero, List.set_cons_succ]))
  iterate 1 (first
   | (refine ext_move rfl rfl (by rfl) (by rfl) ?_; simp only [Act.put, List.setIfInBounds_toArray, List.set_cons_zero, List.set_cons_succ])
   | (refine ext_assign rfl rfl (by rfl) (by rfl) ?_; simp only [Act.put, List.setIfInBounds_toArray, List.set_cons_zero, List.set_cons_succ])
   | (refine ext_pick_t rfl rfl (by rfl) (by rfl) (by rfl) ?_; simp only [Act.put, List.setIfInBounds_toArray, List.set_cons_zero, List.set_cons_succ])
   | (refine ext_pick_f rfl rfl (by rfl) (by rfl) (by rfl) ?_; simp only [Act.put, List.setIfInBounds_toArray, List.set_cons_zero, List.set_cons_succ])
   | (apply ext_take rfl (by rfl)
      · intro w' hS
        have hSc := hS.cells
        (try simp only [World.size_drew, World.cell?_drew] at hSc)
        go_simp
        (try simp (disch := omega) only [i64_id, u64_id, ↓IntWalk.iteOmega, Int.tdiv_eq_ediv_of_nonneg, Int.tmod_eq_emod_of_nonneg])
        try rfl
      simp only [Act.put, List.setIfInBounds_toArray, List.set_cons_zero, List.set_cons_succ])
   | (refine ext_pass rfl (by rfl) ?_; simp only [Act.put, List.setIfInBounds_toArray, List.set_cons_zero, List.set_cons_succ]))
  (refine ext_do rfl (by rfl) (fun K hK => ?_)
   go_simp
   go_at_call 20
   refine (get_as (dV l) _ _ _ rfl (by simp; omega) (HS2.out.sub 5 13 8 _ (by omega) (by omega) (by omega) (by omega))).mono ?_
   rintro e w' ⟨rfl, rfl⟩
   refine hK _ _ (by first | exact Ext.refl _ | exact Ext.drew _) ?_
   clear hK K
   (try simp only [Act.put, List.setIfInBounds_toArray, List.set_cons_zero, List.set_cons_succ]))
  iterate 1 (first
   | (refine ext_move rfl rfl (by rfl) (by rfl) ?_; simp only [Act.put, List.setIfInBounds_toArray, List.set_cons_zero, List.set_cons_succ])
   | (refine ext_assign rfl rfl (by rfl) (by rfl) ?_; simp only [Act.put, List.setIfInBounds_toArray, List.set_cons_zero, List.set_cons_succ])
   | (refine ext_pick_t rfl rfl (by rfl) (by rfl) (by rfl) ?_; simp only [Act.put, List.setIfInBounds_toArray, List.set_cons_zero, List.set_cons_succ])
   | (refine ext_pick_f rfl rfl (by rfl) (by rfl) (by rfl) ?_; simp only [Act.put, List.setIfInBounds_toArray, List.set_cons_zero, List.set_cons_succ])
   | (apply ext_take rfl (by rfl)
      · intro w' hS
        have hSc := hS.cells
        (try simp only [World.size_drew, World.cell?_drew] at hSc)
        go_simp
        (try simp (disch := omega) only [i64_id, u64_id, ↓IntWalk.iteOmega, Int.tdiv_eq_ediv_of_nonneg, Int.tmod_eq_emod_of_nonneg])
        try rfl
      simp only [Act.put, List.setIfInBounds_toArray, List.set_cons_zero, List.set_cons_succ])
   | (refine ext_pass rfl (by rfl) ?_; simp only [Act.put, List.setIfInBounds_toArray, List.set_cons_zero, List.set_cons_succ]))
  (refine ext_last rfl (by rfl) (by kernel_rfl) (fun K hK => ?_)
   go_simp
   refine hK _ _ ?_
   clear hK K
   (try simp only [Act.put, List.setIfInBounds_toArray, List.set_cons_zero, List.set_cons_succ]))
  go_wp2_with fail
  go_at_call 16
  refine (valid_any _ _ _ _ _ _ _ _ _ _ _ _).mono ?_
  rintro e w1 ⟨rfl, hx1⟩
  rw [show vld (ub (d0 l)) (un (dBn l)) (dV l) [dX l 0, dX l 1, dX l 2, dX l 3, dX l 4, dX l 5, dX l 6, dX l 7] = true from HV.out]
  have hc1 := Ext.cells hx1
  have hf1 := Ext.frozens hx1
  have hs1 := Ext.size hx1
  have hlt1 : w.heap.size < w1.heap.size := by have := hs1; simp at this; omega
  have hxw1 : Ext w w1 := by refine Ext.trans ?_ hx1; (repeat (first | (with_reducible exact Ext.alloc _ _) | (with_reducible exact Ext.refl _) | (with_reducible refine Ext.trans ?_ (Ext.drew _)) | (with_reducible refine Ext.trans ?_ (Ext.alloc _ _))))
  have HS3 := Lib.hid (HS.out.ext hxw1)
  go_wp2
  refine wp_region_ext [(0, true), (1, true), (2, true), (3, false), (4, false), (5, true), (6, true)] (by kernel_rfl) (by kernel_rfl) ?_
  iterate 3 (first
   | (refine ext_move rfl rfl (by rfl) (by rfl) ?_; simp only [Act.put, List.setIfInBounds_toArray, List.set_cons_zero, List.set_cons_succ])
   | (refine ext_assign rfl rfl (by rfl) (by rfl) ?_; simp only [Act.put, List.setIfInBounds_toArray, List.set_cons_zero, List.set_cons_succ])
   | (refine ext_pick_t rfl rfl (by rfl) (by rfl) (by rfl) ?_; simp only [Act.put, List.setIfInBounds_toArray, List.set_cons_zero, List.set_cons_succ])
   | (refine ext_pick_f rfl rfl (by rfl) (by rfl) (by rfl) ?_; simp only [Act.put, List.setIfInBounds_toArray, List.set_cons_zero, List.set_cons_succ])
   | (apply ext_take rfl (by rfl)
      · intro w' hS
        have hSc := hS.cells
        (try simp only [World.size_drew, World.cell?_drew] at hSc)
        go_simp
        (try simp (disch := omega) only [i64_id, u64_id, ↓IntWalk.iteOmega, Int.tdiv_eq_ediv_of_nonneg, Int.tmod_eq_emod_of_nonneg])
        try rfl
      simp only [Act.put, List.setIfInBounds_toArray, List.set_cons_zero, List.set_cons_succ])
   | (refine ext_pass rfl (by rfl) ?_; simp only [Act.put, List.setIfInBounds_toArray, List.set_cons_zero, List.set_cons_succ]))
  (refine ext_do rfl (by rfl) (fun K hK => ?_)
   go_simp
   go_at_call 20
   refine (get_as (dT l) _ _ _ rfl (by simp; omega) ((HS3.out.ext (Ext.drew _)).sub 21 29 8 _ (by omega) (by omega) (by omega) (by omega))).mono ?_
   rintro e w' ⟨rfl, rfl⟩
   refine hK _ _ (by first | exact Ext.refl _ | exact Ext.drew _) ?_
   clear hK K
   (try simp only [Act.put, List.setIfInBounds_toArray, List.set_cons_zero, List.set_cons_succ]))
  (refine ext_store rfl (by rfl) (by kernel_rfl) (fun K hK => ?_)
   go_simp
   refine hK _ _ ?_
   clear hK K
   (try simp only [Act.put, List.setIfInBounds_toArray, List.set_cons_zero, List.set_cons_succ]))
  iterate 2 (first
   | (refine ext_move rfl rfl (by rfl) (by rfl) ?_; simp only [Act.put, List.setIfInBounds_toArray, List.set_cons_zero, List.set_cons_succ])
   | (refine ext_assign rfl rfl (by rfl) (by rfl) ?_; simp only [Act.put, List.setIfInBounds_toArray, List.set_cons_zero, List.set_cons_succ])
   | (refine ext_pick_t rfl rfl (by rfl) (by rfl) (by rfl) ?_; simp only [Act.put, List.setIfInBounds_toArray, List.set_cons_zero, List.set_cons_succ])
   | (refine ext_pick_f rfl rfl (by rfl) (by rfl) (by rfl) ?_; simp only [Act.put, List.setIfInBounds_toArray, List.set_cons_zero, List.set_cons_succ])
   | (apply ext_take rfl (by rfl)
      · intro w' hS
        have hSc := hS.cells
        (try simp only [World.size_drew, World.cell?_drew] at hSc)
        go_simp
        (try simp (disch := omega) only [i64_id, u64_id, ↓IntWalk.iteOmega, Int.tdiv_eq_ediv_of_nonneg, Int.tmod_eq_emod_of_nonneg])
        try rfl
      simp only [Act.put, List.setIfInBounds_toArray, List.set_cons_zero, List.set_cons_succ])
   | (refine ext_pass rfl (by rfl) ?_; simp only [Act.put, List.setIfInBounds_toArray, List.set_cons_zero, List.set_cons_succ]))
  refine ext_nil ?_
  go_wp2
  refine bodyPost_ret (v := .tuple #[.agg #[encI (dK l), encI (dB l), encU (dV l), encB (dX l 0), encB (dX l 1), encB (dX l 2), encB (dX l 3), encB (dX l 4), encB (dX l 5), encB (dX l 6), encB (dX l 7)], encU (dT l), .int .i64 0]) ?_ rfl ⟨rfl, ?_⟩
  · simp only [results, Try.results12, dK, dB]
    go_simp
  · refine below_of_ext ?_
    refine Ext.trans ?_ (Ext.drew _)
    repeat (with_reducible refine Ext.setOwn ?_ (Nat.le_refl _))
    exact hxw1
end Go.Proofs.Ytbjafmjeilabiaa
