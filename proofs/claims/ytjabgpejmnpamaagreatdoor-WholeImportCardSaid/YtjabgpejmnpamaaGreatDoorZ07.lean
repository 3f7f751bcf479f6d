/-
  Part 7 of the proof: The disk layers: the small geometry, faults, the power, new media. The disk layers: media: New, Clone. The disk layers: stores of a part of a block; the power; a disk's stat The disk layers: an operation of a disk that is performed. The disk layers: what a media does. The disk layers: a sector of a media is written and read. The disk layers: the cache: New, do. The disk layers: the cache: bands erased, the power cut, Flush. The disk layers: a disk's bands are erased, and it is flushed. The disk layers: a disk is made. The disk layers: a sector of a disk is written. The disk layers: a disk's Wr
-/
import Derived.Test.YtjabgpejmnpamaaGreatDoorZ06
import Derived.Test.YtjabgpejmnpamaaGreatDoorZ03
import Derived.Test.YtjabgpejmnpamaaGreatDoorZ01
import Derived.Shelf.Abstract
set_option linter.unusedVariables false
namespace Go.Proofs.YtjabgpejmnpamaaGreatDoor
open Go.RowKit
set_option maxRecDepth 100000
abbrev gV : Value := .agg #[.int .i64 60, .int .i64 5, .int .i64 2, .int .i64 3, .int .i64 1]
theorem gV_ok : dgvalidB 60 5 2 3 1 = true := by decide
theorem svalid_any (w : World) : Calls Tryz.prog 105 #[gV] w fun e w' => e = .returned (.bool true) ∧ Ext w w' := valid_yes _ _ _ _ _ gV_ok w
theorem ssize_any (w : World) : Calls Tryz.prog 106 #[gV] w fun e w' => e = .returned (.int .i64 90) ∧ Ext w w' := size_any_yes 60 5 2 3 1 gV_ok w
theorem sband_any (w : World) : Calls Tryz.prog 110 #[gV] w fun e w' => e = .returned (.int .i64 6) ∧ Ext w w' := bsz_any_yes 60 5 2 3 1 gV_ok w
theorem saddr_any (k : Nat) (hk : k < 5) (w : World) : Calls Tryz.prog 209 #[gV, .int .i64 k, .int .i64 0, .int .i64 0] w fun e w' => e = .returned (.tuple #[.int .i64 (60 + 6 * (k : Int)), .int .i64 0]) ∧ Ext w w' := by
  have h := address_any 60 5 2 3 1 (k : Int) 0 0 w
  rw [adr_in gV_ok (by simp only [inS, decide_eq_true_eq]; omega), show (60 + ((k : Int) * 2 + 0) * 3 + 0) = 60 + 6 * (k : Int) by omega] at h
  exact h
theorem shw_small : shw 60 5 2 3 1 60 = [63] := by decide
theorem sshadow_any (w : World) : Calls Tryz.prog 263 #[gV, .int .i64 60] w fun e w' => ∃ v, e = .returned v ∧ SliceAt encI w' v [63] ∧ Ext w w' := by
  have h := shadow_any 60 5 2 3 1 60 w
  rw [shw_small] at h
  exact h
set_option maxHeartbeats 1000000 in
theorem newPower_any (w : World) : Calls Tryz.prog 23 #[] w fun e w' => e = .returned (.pointer (some ⟨w.heap.size, 0, none⟩)) ∧ w' = w.alloc (.cells #[.bool false, .bool false, .int .i64 0, .int .i64 0] 124) := by
  go_enter Tryz.func23, Tryz.ntmps23
  go_wp2
  go_ret
  exact ⟨rfl, rfl⟩
set_option maxHeartbeats 1000000 in
theorem fvalid_any (w : World) : Calls Tryz.prog 54 #[.slice none 0 0] w fun e w' => e = .returned (.bool true) ∧ Ext w w' := by
  go_enter Tryz.func54, Tryz.ntmps54
  go_wp2
  refine wp_loop_rounds 1 ?_
  rw [rounds_succ]
  go_wp2_with fail
  go_ret
  exact ⟨rfl, Ext.refl _⟩
set_option maxHeartbeats 1000000 in
theorem fat_any (n : Int) (w : World) : Calls Tryz.prog 162 #[.slice none 0 0, .int .i64 n] w fun e w' => e = .returned (.tuple #[.agg #[.int .i64 0, .int .i64 0, .int .i64 0], .bool false]) ∧ Ext w w' := by
  go_enter Tryz.func162, Tryz.ntmps162
  go_wp2
  refine wp_loop_rounds 1 ?_
  rw [rounds_succ]
  go_wp2_with fail
  refine bodyPost_ret (results_cell_tmpA rfl _ _ rfl (box_result (BoxAt.new _ _ _) Tryz.underlying134 rfl (by kernel_rfl))) rfl ⟨rfl, Ext.alloc _ _⟩
set_option maxHeartbeats 1000000 in
theorem fclone_any (w : World) : Calls Tryz.prog 56 #[.slice none 0 0] w fun e w' => e = .returned (.slice none 0 0) ∧ Ext w w' := by
  have hq := fun (w : World) => Lib.run_eql_slice_nil (P := Tryz.prog) w 125 134 none 0 0 0 0 Tryz.underlying125
  go_enter Tryz.func56, Tryz.ntmps56
  go_wp2
  go_ret
  exact ⟨rfl, Ext.refl _⟩
end Go.Proofs.YtjabgpejmnpamaaGreatDoor

namespace Go.Proofs.YtjabgpejmnpamaaGreatDoor
open Go.RowKit
set_option maxRecDepth 100000
theorem infoSec : (Tryz.prog.info? 270).map (fun i => (i.zero, i.size, i.bytes)) = some (some (.agg #[.int .i64 0, .slice none 0 0]), 2, 32) := by kernel_rfl
def blankL : List Value := (madeCells #[.int .i64 0, .slice none 0 0] 180).toList
theorem blankL_len : blankL.length = 180 := by simp [blankL, madeCells]
def Blank (A : Array Value) : Prop := A.toList.take 180 = blankL
theorem blankL_get (j : Nat) (h : j < 180) : blankL[j]? = some (if j % 2 = 0 then .int .i64 0 else .slice none 0 0) := by
  unfold blankL madeCells
  rw [Array.getElem?_toList, Array.getElem?_map, Array.getElem?_range]
  rw [if_pos h]
  rcases Nat.mod_two_eq_zero_or_one j with h2 | h2
  · simp [h2]
  · simp [h2]
theorem Blank.get {A : Array Value} (h : Blank A) (j : Nat) (hj : j < 180) : A[j]? = blankL[j]? := by
  unfold Blank at h
  rw [← h, List.getElem?_take_of_lt hj, Array.getElem?_toList]
theorem Blank.even {A : Array Value} (h : Blank A) (i : Nat) (hi : i < 90) : A[2 * i]? = some (.int .i64 0) := by
  rw [h.get _ (by omega), blankL_get _ (by omega), if_pos (by omega)]
theorem Blank.odd {A : Array Value} (h : Blank A) (i : Nat) (hi : i < 90) : A[2 * i + 1]? = some (.slice none 0 0) := by
  rw [h.get _ (by omega), blankL_get _ (by omega), if_neg (by omega)]
theorem Blank.size {A : Array Value} (h : Blank A) : 180 ≤ A.size := by
  have h1 := h.get 179 (by omega)
  rw [blankL_get _ (by omega)] at h1
  have := (Array.getElem?_eq_some_iff.1 h1).1
  omega
theorem blank_made : Blank (madeCells #[.int .i64 0, .slice none 0 0] 180) := by
  unfold Blank
  rw [List.take_of_length_le (by simp [madeCells])]
  rfl
abbrev mdC (S c : Nat) : Array Value := #[.int .i64 60, .int .i64 5, .int .i64 2, .int .i64 3, .int .i64 1, .slice (some ⟨S, 0, none⟩) 90 c]
structure Med (B : Nat) (w : World) (M S c : Nat) (A : Array Value) : Prop where
  geM : B ≤ M
  geS : B ≤ S
  cap : 90 ≤ c
  med : BoxAt w M (mdC S c) 204
  sec : BoxAt w S A 270
  len : 180 ≤ A.size
theorem Med.ext {B : Nat} {w w' : World} {M S c : Nat} {A : Array Value} (h : Med B w M S c A) (e : Ext w w') : Med B w' M S c A := ⟨h.geM, h.geS, h.cap, h.med.ext e, h.sec.ext e, h.len⟩
theorem Med.lower {B B' : Nat} {w : World} {M S c : Nat} {A : Array Value} (h : Med B w M S c A) (hb : B' ≤ B) : Med B' w M S c A := ⟨Nat.le_trans hb h.geM, Nat.le_trans hb h.geS, h.cap, h.med, h.sec, h.len⟩
theorem Med.chg {B B' : Nat} {T : List TypeId} {w w' : World} {M S c : Nat} {A : Array Value} (h : Med B w M S c A) (e : Chg B' T w w') (h1 : 204 ∉ T) (h2 : 270 ∉ T) : Med B w' M S c A := ⟨h.geM, h.geS, h.cap, h.med.chg e h1, h.sec.chg e h2, h.len⟩
set_option maxHeartbeats 1000000 in
theorem sclone_any (S c : Nat) (A : Array Value) (w : World) (h : BoxAt w S A 270) (hb : Blank A) :
    Calls Tryz.prog 159 #[.slice (some ⟨S, 0, none⟩) 90 c] w fun e w' => ∃ S' c' A', e = .returned (.slice (some ⟨S', 0, none⟩) 90 c') ∧ 90 ≤ c' ∧ Blank A' ∧ BoxAt w' S' A' 270 ∧ w.heap.size ≤ S' ∧ Ext w w' := by
  obtain ⟨i0, hi, hz0, hz1, hz2⟩ := info_parts infoSec
  have HA := Lib.hid h
  have HB := Lib.hid hb
  clear h hb
  have hq := fun (w : World) => Lib.run_eql_slice_nil (P := Tryz.prog) w 201 270 (some ⟨S, 0, none⟩) 90 c 0 0 Tryz.underlying201
  have hcell : ∀ j u, blankL[j]? = some u → (w.alloc (.cells #[] 270)).cell? ((⟨S, 0, none⟩ : Addr).add j) = some u := by
    intro j u hu
    have hj : j < 180 := by rw [← blankL_len]; exact (List.getElem?_eq_some_iff.1 hu).1
    rw [add_plain, Nat.zero_add]
    exact (HA.out.ext (Ext.alloc _ _)).cell j ((HB.out.get j hj).trans hu)
  have HC := Lib.hid hcell
  clear hcell
  have hone : ∀ u, u ∈ blankL → u.oneCell' = true := by
    intro u hu
    obtain ⟨j, hj, he⟩ := List.getElem_of_mem hu
    have h1 := blankL_get j (by rw [← blankL_len]; exact hj)
    rw [List.getElem?_eq_getElem hj] at h1
    injection h1 with h1
    rw [← he, h1]
    split <;> rfl
  have HN := Lib.hid hone
  clear hone
  go_enter Tryz.func159, Tryz.ntmps159
  go_wp2_with (at_builtin; refine wpList_append_own_at _ rfl (.tmp 5) (.tmp 6) 201 rfl w.heap.size 270 i0 _ 2 32 Tryz.underlying201 hi hz0 hz1 hz2 rfl (by decide) _ 0 [] rfl (World.ownsRow_lit w #[] 0 (Nat.le_refl _) (by decide) rfl) ⟨S, 0, none⟩ 90 c blankL rfl blankL_len HC.out HN.out (by unfold maxLen; omega) (by omega) (by simp) ?_; intro v1 w1 hown1 hgrow1 _ _; simp only [Nat.zero_add, List.nil_append] at hown1; have hx1 : Ext w w1 := (Ext.alloc _ _).grown hgrow1 (by simp) (fun k hk => by cases hk; exact Nat.le_refl _))
  go_ret
  rcases hown1.2 with ⟨_, h2⟩ | ⟨g, cap, cur, h1, h2, h3, h4, h5, h6, h7⟩
  · exact absurd h2 (by decide)
  · subst h1
    exact ⟨g, cap, cur, rfl, h4, h7, h3, h2, hx1⟩
set_option maxHeartbeats 2000000 in
theorem mclone_any (B M S c : Nat) (A : Array Value) (w : World) (h : Med B w M S c A) (hb : Blank A) :
    Calls Tryz.prog 108 #[.pointer (some ⟨M, 0, none⟩)] w fun e w' => ∃ M' S' c' A', e = .returned (.pointer (some ⟨M', 0, none⟩)) ∧ Blank A' ∧ Med w.heap.size w' M' S' c' A' ∧ Ext w w' := by
  have HB := Lib.hid hb
  have HM := Lib.hid h
  have c0 := h.med.cell 0 (v := .int .i64 60) rfl
  have c1 := h.med.cell 1 (v := .int .i64 5) rfl
  have c2 := h.med.cell 2 (v := .int .i64 2) rfl
  have c3 := h.med.cell 3 (v := .int .i64 3) rfl
  have c4 := h.med.cell 4 (v := .int .i64 1) rfl
  have c5 := h.med.cell 5 (v := .slice (some ⟨S, 0, none⟩) 90 c) rfl
  have hl := h.med.lt
  clear h hb
  go_enter Tryz.func108, Tryz.ntmps108
  go_wp2
  refine wp_region_ext [(0, true), (1, true), (2, true), (3, true), (4, true), (5, true), (6, true), (7, true), (8, false), (9, true), (10, false), (11, true)] (by kernel_rfl) (by kernel_rfl) ?_
  iterate 8 ((first
   | refine ext_move rfl rfl (by rfl) (by rfl) ?_
   | refine ext_assign rfl rfl (by rfl) (by rfl) ?_
   | refine ext_pick_t rfl rfl (by rfl) (by rfl) (by rfl) ?_
   | refine ext_pick_f rfl rfl (by rfl) (by rfl) (by rfl) ?_
   | (apply ext_take rfl (by rfl)
      · intro w' hS
        have hSc := hS.cells
        (try simp only [World.size_drew, World.cell?_drew] at hSc)
        go_simp
        (try simp (disch := omega) only [i64_id, u64_id, ↓IntWalk.iteOmega, Int.tdiv_eq_ediv_of_nonneg, Int.tmod_eq_emod_of_nonneg])
        try rfl)
   | refine ext_pass rfl (by rfl) ?_); simp only [Act.put, setZa, setZ0, setZ1])
  (refine ext_do rfl (by rfl) (fun K hK => ?_)
   go_simp
   go_at_call 159
   refine (sclone_any S c A _ (HM.out.sec.ext (by first | exact Ext.refl _ | exact Ext.drew _)) HB.out).mono ?_
   rintro e W1 ⟨S', c', A', rfl, hc', hb', hs', hge, hx1⟩
   have HX1 : Hid (Ext w W1) := Ext.trans (by first | exact Ext.refl _ | exact Ext.drew _) hx1
   refine hK _ _ (by first | exact hx1 | exact HX1.out) ?_
   clear hK K
   (try simp only [Act.put, setZa, setZ0, setZ1]))
  iterate 1 ((first
   | refine ext_move rfl rfl (by rfl) (by rfl) ?_
   | refine ext_assign rfl rfl (by rfl) (by rfl) ?_
   | refine ext_pick_t rfl rfl (by rfl) (by rfl) (by rfl) ?_
   | refine ext_pick_f rfl rfl (by rfl) (by rfl) (by rfl) ?_
   | (apply ext_take rfl (by rfl)
      · intro w' hS
        have hSc := hS.cells
        (try simp only [World.size_drew, World.cell?_drew] at hSc)
        go_simp
        (try simp (disch := omega) only [i64_id, u64_id, ↓IntWalk.iteOmega, Int.tdiv_eq_ediv_of_nonneg, Int.tmod_eq_emod_of_nonneg])
        try rfl)
   | refine ext_pass rfl (by rfl) ?_); simp only [Act.put, setZa, setZ0, setZ1])
  (refine ext_do rfl (by rfl) (fun K hK => ?_)
   go_simp
   refine hK _ _ (by first | exact Ext.alloc _ _ | exact (Ext.drew _).trans (Ext.alloc _ _)) ?_
   clear hK K
   (try simp only [Act.put, setZa, setZ0, setZ1]))
  iterate 1 ((first
   | refine ext_move rfl rfl (by rfl) (by rfl) ?_
   | refine ext_assign rfl rfl (by rfl) (by rfl) ?_
   | refine ext_pick_t rfl rfl (by rfl) (by rfl) (by rfl) ?_
   | refine ext_pick_f rfl rfl (by rfl) (by rfl) (by rfl) ?_
   | (apply ext_take rfl (by rfl)
      · intro w' hS
        have hSc := hS.cells
        (try simp only [World.size_drew, World.cell?_drew] at hSc)
        go_simp
        (try simp (disch := omega) only [i64_id, u64_id, ↓IntWalk.iteOmega, Int.tdiv_eq_ediv_of_nonneg, Int.tmod_eq_emod_of_nonneg])
        try rfl)
   | refine ext_pass rfl (by rfl) ?_); simp only [Act.put, setZa, setZ0, setZ1])
  refine ext_nil ?_
  go_wp2_with fail
  go_ret
  exact ⟨W1.heap.size, S', c', A', rfl, hb', ⟨HX1.out.size, hge, hc', BoxAt.new _ _ _, hs'.ext (Ext.alloc _ _), hb'.size⟩, HX1.out.trans (Ext.alloc _ _)⟩
theorem run_make_sec (w : World) : (Instr.makeSlice 201 (.int .i64 90) (.int .i64 90)).run Tryz.prog w = .ok (.slice (some ⟨w.heap.size, 0, none⟩) 90 90) (w.alloc (.cells (madeCells #[.int .i64 0, .slice none 0 0] 180) 270)) := by
  obtain ⟨i0, hi, hz0, hz1, hz2⟩ := info_parts infoSec
  have h := run_make (P := Tryz.prog) w 201 270 i0 _ Tryz.underlying201 hi hz0 .i64 .i64 90 90 (by decide) (by decide) (by rw [hz2]; decide) (by decide)
  rw [hz1] at h
  exact h
set_option maxHeartbeats 2000000 in
theorem mnew_any (w : World) :
    Calls Tryz.prog 53 #[gV] w fun e w' => ∃ M S A, e = .returned (.tuple #[.pointer (some ⟨M, 0, none⟩), .int .i64 0]) ∧ Blank A ∧ Med w.heap.size w' M S 90 A ∧ Ext w w' := by
  have hmk := run_make_sec
  go_enter Tryz.func53, Tryz.ntmps53
  go_wp2_with (go_at_call 105; refine (svalid_any _).mono ?_; rintro e W1 ⟨rfl, hx1⟩; have hB := (BoxAt.new w #[.int .i64 60, .int .i64 5, .int .i64 2, .int .i64 3, .int .i64 1] 24).ext hx1; have c0 := hB.cell 0 (v := .int .i64 60) rfl; have c1 := hB.cell 1 (v := .int .i64 5) rfl; have c2 := hB.cell 2 (v := .int .i64 2) rfl; have c3 := hB.cell 3 (v := .int .i64 3) rfl; have c4 := hB.cell 4 (v := .int .i64 1) rfl; have hl := hB.lt; have HX1 : Hid (Ext w W1) := (Ext.alloc _ _).trans hx1; clear hB hx1)
  refine wp_region_ext [(0, true), (1, true), (2, false), (3, false), (4, true), (5, false), (6, true), (7, true)] (by kernel_rfl) (by kernel_rfl) ?_
  iterate 2 ((first
   | refine ext_move rfl rfl (by rfl) (by rfl) ?_
   | refine ext_assign rfl rfl (by rfl) (by rfl) ?_
   | refine ext_pick_t rfl rfl (by rfl) (by rfl) (by rfl) ?_
   | refine ext_pick_f rfl rfl (by rfl) (by rfl) (by rfl) ?_
   | (apply ext_take rfl (by rfl)
      · intro w' hS
        have hSc := hS.cells
        (try simp only [World.size_drew, World.cell?_drew] at hSc)
        go_simp
        (try simp (disch := omega) only [i64_id, u64_id, ↓IntWalk.iteOmega, Int.tdiv_eq_ediv_of_nonneg, Int.tmod_eq_emod_of_nonneg])
        try rfl)
   | refine ext_pass rfl (by rfl) ?_); simp only [Act.put, setZa, setZ0, setZ1])
  (refine ext_do rfl (by rfl) (fun K hK => ?_)
   go_simp
   go_at_call 106
   refine (ssize_any _).mono ?_
   rintro e W2 ⟨rfl, hx2⟩
   have HX2 : Hid (Ext w W2) := HX1.out.trans (Ext.trans (by first | exact Ext.refl _ | exact Ext.drew _) hx2)
   refine hK _ _ (by first | exact hx2 | exact Ext.trans (Ext.drew _) hx2) ?_
   clear hK K
   (try simp only [Act.put, setZa, setZ0, setZ1]))
  (refine ext_do rfl (by rfl) (fun K hK => ?_)
   go_simp
   refine hK _ _ (by first | exact Ext.alloc _ _ | exact (Ext.drew _).trans (Ext.alloc _ _)) ?_
   clear hK K
   (try simp only [Act.put, setZa, setZ0, setZ1]))
  iterate 1 ((first
   | refine ext_move rfl rfl (by rfl) (by rfl) ?_
   | refine ext_assign rfl rfl (by rfl) (by rfl) ?_
   | refine ext_pick_t rfl rfl (by rfl) (by rfl) (by rfl) ?_
   | refine ext_pick_f rfl rfl (by rfl) (by rfl) (by rfl) ?_
   | (apply ext_take rfl (by rfl)
      · intro w' hS
        have hSc := hS.cells
        (try simp only [World.size_drew, World.cell?_drew] at hSc)
        go_simp
        (try simp (disch := omega) only [i64_id, u64_id, ↓IntWalk.iteOmega, Int.tdiv_eq_ediv_of_nonneg, Int.tmod_eq_emod_of_nonneg])
        try rfl)
   | refine ext_pass rfl (by rfl) ?_); simp only [Act.put, setZa, setZ0, setZ1])
  (refine ext_do rfl (by rfl) (fun K hK => ?_)
   go_simp
   refine hK _ _ (by first | exact Ext.alloc _ _ | exact (Ext.drew _).trans (Ext.alloc _ _)) ?_
   clear hK K
   (try simp only [Act.put, setZa, setZ0, setZ1]))
  iterate 2 ((first
   | refine ext_move rfl rfl (by rfl) (by rfl) ?_
   | refine ext_assign rfl rfl (by rfl) (by rfl) ?_
   | refine ext_pick_t rfl rfl (by rfl) (by rfl) (by rfl) ?_
   | refine ext_pick_f rfl rfl (by rfl) (by rfl) (by rfl) ?_
   | (apply ext_take rfl (by rfl)
      · intro w' hS
        have hSc := hS.cells
        (try simp only [World.size_drew, World.cell?_drew] at hSc)
        go_simp
        (try simp (disch := omega) only [i64_id, u64_id, ↓IntWalk.iteOmega, Int.tdiv_eq_ediv_of_nonneg, Int.tmod_eq_emod_of_nonneg])
        try rfl)
   | refine ext_pass rfl (by rfl) ?_); simp only [Act.put, setZa, setZ0, setZ1])
  refine ext_nil ?_
  go_wp2_with fail
  go_ret2
  have hs := BoxAt.new W2 (madeCells #[.int .i64 0, .slice none 0 0] 180) 270
  have hm := BoxAt.new (W2.alloc (.cells (madeCells #[.int .i64 0, .slice none 0 0] 180) 270)) (mdC W2.heap.size 90) 204
  rw [World.size_alloc] at hm
  have hz := HX2.out.size
  exact ⟨W2.heap.size + 1, W2.heap.size, _, rfl, blank_made, ⟨by omega, hz, by decide, hm, hs.ext (Ext.alloc _ _), blank_made.size⟩, HX2.out.trans ((Ext.alloc _ _).trans (Ext.alloc _ _))⟩
end Go.Proofs.YtjabgpejmnpamaaGreatDoor

namespace Go.Proofs.YtjabgpejmnpamaaGreatDoor
open Go.RowKit
set_option maxRecDepth 100000
def putL (cs : Array Value) (o : Nat) : List Value → Array Value
  | [] => cs
  | v :: r => putL (cs.setIfInBounds o v) (o + 1) r
theorem putL_size : ∀ (vs : List Value) (cs : Array Value) (o : Nat), (putL cs o vs).size = cs.size
  | [], _, _ => rfl
  | v :: r, cs, o => by rw [putL, putL_size r]; simp
theorem setCells_box {g : Nat} {t : TypeId} : ∀ (vs : List Value) (o : Nat) (w : World) (cs : Array Value), BoxAt w g cs t → BoxAt (w.setCells g o vs) g (putL cs o vs) t
  | [], _, _, _, h => h
  | v :: r, o, w, cs, h => by rw [World.setCells, putL]; exact setCells_box r _ _ _ (h.set o v)
theorem stored_part {w : World} {g o : Nat} {cs : Array Value} {t : TypeId} (hb : BoxAt w g cs t) (vs : List Value) : Stored w (w.setCells g o vs) g (putL cs o vs) t :=
  ⟨setCells_box vs o w cs hb, arrc_grown _ _ _ _, arrc_size _ _ _, fun k hk => arrc_other _ _ _ k hk⟩
theorem there_box {w : World} {g o n : Nat} {cs : Array Value} {t : TypeId} (hb : BoxAt w g cs t) (h : o + n ≤ cs.size) : w.there g o n := by
  intro j hj
  obtain ⟨v, hv⟩ : ∃ v, cs[o + j]? = some v := ⟨_, Array.getElem?_eq_getElem (by omega)⟩
  exact ⟨by rw [hb.cell _ hv]; rfl, hb.free _⟩
theorem run_store_part {P : Program} {w : World} {g o : Nat} {ty t : TypeId} {cs cells : Array Value} (hb : BoxAt w g cs t) (hs : o + cells.size ≤ cs.size) (hi : (P.info? ty).map (·.size) = some cells.size) (h1 : cells.all (·.oneCell') = true) :
    (Instr.storeAt ty (.pointer (some ⟨g, o, none⟩)) (.agg cells)).run P w = .ok () (w.setCells g o cells.toList) :=
  run_storeAt_mid (P := P) w g o ty cells (there_box hb hs) hi h1
theorem run_store_cell {P : Program} {w : World} {g o : Nat} {ty t : TypeId} {cs : Array Value} {v : Value} (hb : BoxAt w g cs t) (hs : o < cs.size) (hi : (P.info? ty).map (·.size) = some 1) (h1 : v.oneCell' = true) :
    (Instr.storeAt ty (.pointer (some ⟨g, o, none⟩)) v).run P w = .ok () (w.setCells g o [v]) := by
  have ht := there_box hb (show o + 1 ≤ cs.size by omega)
  have := run_storeCells_cells (P := P) g o [v] 0 w (fun j hj => by simpa using (ht j (by simpa using hj)).1) (fun j hj => by simpa using (ht j (by simpa using hj)).2) (fun u hu => by simp at hu; subst hu; exact h1)
  have hc : v.cells = #[v] := by cases v <;> first | rfl | cases h1
  cases hq : P.info? ty with
  | none => simp [hq] at hi
  | some i =>
    have hs : i.size = 1 := by simpa [hq] using hi
    simp only [Nat.add_zero] at this
    simp only [Instr.storeAt, Instr.sureAddr, Sem.run_bind, Sem.run_pure, Result.andThen_ok]
    simp [storeVar, sizeOf, typeInfo, hq, hc, hs, this]
theorem wpList_store_part {P : Program} {ops : Array Oper} {rest : List Oper} {o : Oper} {a : Act} {w : World} {Q : Exit → Act → World → Prop} (ty : TypeId) (x y : Operand) (ho : o.op = .store ty x y)
    (hw : Region.wanted o (yielded ops a.tmps) = true) {g i : Nat} {cs cells : Array Value} {t : TypeId} (hx : a.eval x = .pointer (some ⟨g, i, none⟩)) (hy : a.eval y = .agg cells) (hb : BoxAt w g cs t) (hs : i + cells.size ≤ cs.size) (hi : (P.info? ty).map (·.size) = some cells.size) (h1 : cells.all (·.oneCell') = true)
    (h : ∀ w', Stored w w' g (putL cs i cells.toList) t → wpList P ops Q rest (a.put o.dst undef) w') : wpList P ops Q (o :: rest) a w := by
  refine wpList_step fun K hK => ?_
  rw [if_pos hw]
  have hrun := run_store_part (P := P) hb hs hi h1
  unfold Oper.wp execOp
  simp only [ho, hx, hy, Sem.run_bind, Sem.run_pure, Result.andThen_ok, hrun]
  exact hK _ _ (h _ (stored_part hb _))
theorem wpList_store_cell {P : Program} {ops : Array Oper} {rest : List Oper} {o : Oper} {a : Act} {w : World} {Q : Exit → Act → World → Prop} (ty : TypeId) (x y : Operand) (ho : o.op = .store ty x y)
    (hw : Region.wanted o (yielded ops a.tmps) = true) {g i : Nat} {cs : Array Value} {t : TypeId} {v : Value} (hx : a.eval x = .pointer (some ⟨g, i, none⟩)) (hy : a.eval y = v) (hb : BoxAt w g cs t) (hs : i < cs.size) (hi : (P.info? ty).map (·.size) = some 1) (h1 : v.oneCell' = true)
    (h : ∀ w', Stored w w' g (cs.setIfInBounds i v) t → wpList P ops Q rest (a.put o.dst undef) w') : wpList P ops Q (o :: rest) a w := by
  refine wpList_step fun K hK => ?_
  rw [if_pos hw]
  have hrun := run_store_cell (P := P) hb hs hi h1
  unfold Oper.wp execOp
  simp only [ho, hx, hy, Sem.run_bind, Sem.run_pure, Result.andThen_ok, hrun]
  exact hK _ _ (h _ (stored_part hb [v]))
theorem Chg.fresh {B : Nat} {T : List TypeId} {a b c : World} {g : Nat} {cells : Array Value} {t : TypeId} (h : Chg B T a b) (hB : B ≤ a.heap.size) (hs : Stored b c g cells t) (hg : a.heap.size ≤ g) : Chg B T a c := by
  refine ⟨hs.bel h.bel (Nat.le_trans hB hg), fun k cs' t' hb ht' => ?_⟩
  exact (hs.other k (by have := hb.lt; omega)).trans (h.box k cs' t' hb ht')
abbrev pwC (l : Int) : Array Value := #[.bool false, .bool false, .int .i64 l, .int .i64 0]
abbrev dkC (r wr e f o : Int) (C P : Nat) : Array Value := #[.int .i64 r, .int .i64 wr, .int .i64 e, .int .i64 f, .int .i64 o, .int .i64 60, .int .i64 5, .int .i64 2, .int .i64 3, .int .i64 1, .pointer (some ⟨C, 0, none⟩), .slice none 0 0, .pointer (some ⟨P, 0, none⟩), .int .i64 0, .int .u64 0, .bool false]
structure Dsk (B : Nat) (w : World) (D P C : Nat) : Prop where
  disk : ∃ r wr e f o, BoxAt w D (dkC r wr e f o C P) 140
  pow : ∃ l, BoxAt w P (pwC l) 124
  geD : B ≤ D
  geP : B ≤ P
theorem Dsk.ext {B : Nat} {w w' : World} {D P C : Nat} (h : Dsk B w D P C) (e : Ext w w') : Dsk B w' D P C := by
  obtain ⟨⟨r, wr, er, f, o, h1⟩, ⟨l, h2⟩, h3, h4⟩ := h
  exact ⟨⟨r, wr, er, f, o, h1.ext e⟩, ⟨l, h2.ext e⟩, h3, h4⟩
theorem Dsk.chg {B B' : Nat} {T : List TypeId} {w w' : World} {D P C : Nat} (h : Dsk B w D P C) (e : Chg B' T w w') (h1 : 140 ∉ T) (h2 : 124 ∉ T) : Dsk B w' D P C := by
  obtain ⟨⟨r, wr, er, f, o, k1⟩, ⟨l, k2⟩, k3, k4⟩ := h
  exact ⟨⟨r, wr, er, f, o, k1.chg e h1⟩, ⟨l, k2.chg e h2⟩, k3, k4⟩
set_option maxHeartbeats 1000000 in
theorem pcall_any (B P : Nat) (l : Int) (w : World) (hB : B ≤ P) (h : BoxAt w P (pwC l) 124) :
    Calls Tryz.prog 161 #[.pointer (some ⟨P, 0, none⟩)] w fun e w' => e = .returned (.bool true) ∧ (∃ l', BoxAt w' P (pwC l') 124) ∧ Chg B [124] w w' := by
  have c0 := h.cell 0 (v := .bool false) rfl
  have c1 := h.cell 1 (v := .bool false) rfl
  have c2 := h.cell 2 (v := .int .i64 l) rfl
  have c3 := h.cell 3 (v := .int .i64 0) rfl
  have HB := Lib.hid h
  have hl := h.lt
  clear h
  go_enter Tryz.func161, Tryz.ntmps161
  go_wp2_with (refine wpList_store_cell 3 _ _ rfl (by rfl) rfl rfl HB.out (by simp) (by kernel_rfl) rfl ?_; intro w1 hS; have HS := Lib.hid hS; have e0 := hS.box.cell 0 (v := .bool false) rfl; have hl1 := hS.box.lt; clear hS)
  go_ret
  exact ⟨rfl, ⟨_, HS.out.box⟩, (Chg.refl _ _ _).stored HB.out HS.out (by simp) hB⟩
set_option maxHeartbeats 1000000 in
theorem dstate_any (B D P C : Nat) (w : World) (h : Dsk B w D P C) :
    Calls Tryz.prog 160 #[.pointer (some ⟨D, 0, none⟩)] w fun e w' => e = .returned (.int .i64 0) ∧ Ext w w' := by
  obtain ⟨⟨r, wr, er, f, o, h1⟩, ⟨l, h2⟩, _, _⟩ := h
  have c12 := h1.cell 12 (v := .pointer (some ⟨P, 0, none⟩)) rfl
  have c13 := h1.cell 13 (v := .int .i64 0) rfl
  have c15 := h1.cell 15 (v := .bool false) rfl
  have p0 := h2.cell 0 (v := .bool false) rfl
  have p3 := h2.cell 3 (v := .int .i64 0) rfl
  have hl := h1.lt
  have hl2 := h2.lt
  clear h1 h2
  go_enter Tryz.func160, Tryz.ntmps160
  go_wp2
  refine wp_region_ext [(0, true), (1, true), (2, true), (3, true), (4, true), (5, true), (6, true), (7, true), (8, true), (9, true), (10, true), (11, true), (12, true), (13, true), (14, true), (15, true), (16, true), (17, true), (18, true), (19, true), (20, true), (21, true)] (by kernel_rfl) (by kernel_rfl) ?_
  iterate 22 ((first
   | refine ext_move rfl rfl (by rfl) (by rfl) ?_
   | refine ext_assign rfl rfl (by rfl) (by rfl) ?_
   | refine ext_pick_t rfl rfl (by rfl) (by rfl) (by rfl) ?_
   | refine ext_pick_f rfl rfl (by rfl) (by rfl) (by rfl) ?_
   | (apply ext_take rfl (by rfl)
      · intro w' hS
        have hSc := hS.cells
        (try simp only [World.size_drew, World.cell?_drew] at hSc)
        go_simp
        (try simp (disch := omega) only [i64_id, u64_id, ↓IntWalk.iteOmega, Int.tdiv_eq_ediv_of_nonneg, Int.tmod_eq_emod_of_nonneg])
        try rfl)
   | refine ext_pass rfl (by rfl) ?_); simp only [Act.put, setZa, setZ0, setZ1])
  refine ext_nil ?_
  go_wp2_with fail
  go_ret
  exact ⟨rfl, Ext.drew _⟩
set_option maxHeartbeats 1000000 in
theorem dgeo_any (B D P C : Nat) (w : World) (h : Dsk B w D P C) :
    Calls Tryz.prog 109 #[.pointer (some ⟨D, 0, none⟩)] w fun e w' => e = .returned gV ∧ Ext w w' := by
  obtain ⟨⟨r, wr, er, f, o, h1⟩, ⟨l, h2⟩, _, _⟩ := h
  have c5 := h1.cell 5 (v := .int .i64 60) rfl
  have c6 := h1.cell 6 (v := .int .i64 5) rfl
  have c7 := h1.cell 7 (v := .int .i64 2) rfl
  have c8 := h1.cell 8 (v := .int .i64 3) rfl
  have c9 := h1.cell 9 (v := .int .i64 1) rfl
  have hl := h1.lt
  clear h1 h2
  go_enter Tryz.func109, Tryz.ntmps109
  go_wp2_with (refine wpList_store_box 24 _ _ rfl (by rfl) rfl rfl (BoxAt.new w #[.int .i64 0, .int .i64 0, .int .i64 0, .int .i64 0, .int .i64 0] 24) rfl (by kernel_rfl) (by simp [Value.oneCell']) ?_; intro w1 hS; have HS := Lib.hid hS; clear hS)
  refine bodyPost_ret (results_cell_run rfl _ _ rfl (box_result HS.out.box Tryz.underlying24 rfl (by kernel_rfl))) rfl ⟨rfl, HS.out.bel (Ext.alloc _ _) (Nat.le_refl _)⟩
end Go.Proofs.YtjabgpejmnpamaaGreatDoor

namespace Go.Proofs.YtjabgpejmnpamaaGreatDoor
open Go.RowKit
set_option maxRecDepth 100000
abbrev fltV : Value := .agg #[.int .i64 0, .int .i64 0, .int .i64 0]
theorem Stored.keep {w w' : World} {g k : Nat} {cells cs : Array Value} {t t' : TypeId} (h : Stored w w' g cells t) (hb : BoxAt w k cs t') (hk : k ≠ g) : BoxAt w' k cs t' := (h.other k hk).trans hb
theorem Dsk.cells {B : Nat} {w : World} {D P C : Nat} (h : Dsk B w D P C) : ∃ r wr e f o l, BoxAt w D (dkC r wr e f o C P) 140 ∧ BoxAt w P (pwC l) 124 := by
  obtain ⟨⟨r, wr, e, f, o, h1⟩, ⟨l, h2⟩, _, _⟩ := h
  exact ⟨r, wr, e, f, o, l, h1, h2⟩
set_option maxHeartbeats 2000000 in
theorem perform_any (F : Nat) (eg : ∀ args w, (callFunc F args).run Tryz.prog w = .ok (.enter F args) w) (cap : Array Value) (B D P C : Nat) (w : World) (h : Dsk B w D P C) (hBw : B ≤ w.heap.size) (R : World → Prop)
    (hw : ∀ w1, Dsk B w1 D P C → Chg B [140, 124] w w1 → Calls Tryz.prog F (#[fltV] ++ cap) w1 fun e w' => e = .returned (.int .i64 0) ∧ R w') :
    Calls Tryz.prog 111 #[.pointer (some ⟨D, 0, none⟩), .int .u64 0, .func (.func F) #[] cap] w fun e w' => e = .returned (.int .i64 0) ∧ R w' := by
  have HW := Lib.hid hw
  have HK := Lib.hid h
  have hgD := h.geD
  have hgP := h.geP
  clear hw h
  go_enter Tryz.func111, Tryz.ntmps111
  go_wp2_with first | (go_at_call 160; refine (dstate_any B D P C _ HK.out).mono ?_; rintro e W1 ⟨rfl, hx1⟩; obtain ⟨r, wr, er, f, o, l, hd1, hp1⟩ := (HK.out.ext hx1).cells; have HD1 := Lib.hid hd1; have HP1 := Lib.hid hp1; have HX1 := Lib.hid hx1; have c12 := hd1.cell 12 (v := .pointer (some ⟨P, 0, none⟩)) rfl; have hl := hd1.lt; clear hd1 hp1 hx1) | (go_at_call 161; refine (pcall_any B P l _ hgP HP1.out).mono ?_; rintro e W2 ⟨rfl, ⟨l2, hp2⟩, hch2⟩; have HC2 := Lib.hid hch2; have HP2 := Lib.hid hp2; have HD2 := Lib.hid (HD1.out.chg hch2 (by decide)); have d14 := HD2.out.cell 14 (v := .int .u64 0) rfl; have d11 := HD2.out.cell 11 (v := .slice none 0 0) rfl; have d4 := HD2.out.cell 4 (v := .int .i64 o) rfl; have hl2 := HD2.out.lt; clear hp2 hch2 c12 hl)
  refine wp_region_extTB (.take 0 (.take 1 (.take 2 (.take 3 (.take 4 (.take 5 (.take 6 (.take 7 (.take 8 (.two 9 13 (.take 10 (.take 11 (.take 12 (.one 13 (.one 14 (.take 15 .done)))))) (.one 9 (.take 10 (.take 11 (.take 12 (.one 14 (.take 15 .done)))))))))))))))) (by kernel_rfl) (by kernel_rfl) (fun wc hxc => ?_)
  have hq := hxc
  iterate 9 ((first
   | refine extT_move rfl rfl (by rfl) (by rfl) ?_
   | refine extT_assign rfl rfl (by rfl) (by rfl) ?_
   | refine extT_pick_t rfl rfl (by rfl) (by rfl) (by rfl) ?_
   | refine extT_pick_f rfl rfl (by rfl) (by rfl) (by rfl) ?_
   | (apply extT_take rfl (by rfl)
      · intro w' hS
        have hSc := hS.cells
        (try simp only [World.size_drew, World.cell?_drew] at hSc)
        go_simp
        (try simp (disch := omega) only [i64_id, u64_id, ↓IntWalk.iteOmega, Int.tdiv_eq_ediv_of_nonneg, Int.tmod_eq_emod_of_nonneg])
        try rfl)
   | refine extT_pass rfl (by rfl) ?_); simp only [Act.put, setZa, setZ0, setZ1])
  refine extT_twoB rfl rfl (by rfl) (by rfl) (fun K hK => ?_) (fun K hK => ?_)
  go_simp
  go_at_call 162
  refine (fat_any _ _).mono ?_
  rintro e W3 ⟨rfl, hx3⟩
  refine hK _ _ (by first | exact hxc.trans hx3 | exact hxc.trans ((Ext.alloc _ _).trans hx3)) ?_
  clear hK K
  (try simp only [Act.put, setZa, setZ0, setZ1])
  iterate 3 ((first
   | refine extT_move rfl rfl (by rfl) (by rfl) ?_
   | refine extT_assign rfl rfl (by rfl) (by rfl) ?_
   | refine extT_pick_t rfl rfl (by rfl) (by rfl) (by rfl) ?_
   | refine extT_pick_f rfl rfl (by rfl) (by rfl) (by rfl) ?_
   | (apply extT_take rfl (by rfl)
      · intro w' hS
        have hSc := hS.cells
        (try simp only [World.size_drew, World.cell?_drew] at hSc)
        go_simp
        (try simp (disch := omega) only [i64_id, u64_id, ↓IntWalk.iteOmega, Int.tdiv_eq_ediv_of_nonneg, Int.tmod_eq_emod_of_nonneg])
        try rfl)
   | refine extT_pass rfl (by rfl) ?_); simp only [Act.put, setZa, setZ0, setZ1])
  refine extT_doB rfl (by rfl) (fun K hK => ?_)
  go_simp
  refine hK _ _ (by first | exact hxc.trans (Ext.alloc _ _) | exact (hxc.trans hx3).trans (Ext.alloc _ _)) ?_
  clear hK K
  (try simp only [Act.put, setZa, setZ0, setZ1])
  refine extT_doB rfl (by rfl) (fun K hK => ?_)
  refine wp_of_list rfl ?_
  refine wpList_store_box 134 _ _ rfl (by rfl) rfl rfl (by first | exact BoxAt.new W3 #[.int .i64 0, .int .i64 0, .int .i64 0] 134 | exact (BoxAt.new wc #[.int .i64 0, .int .i64 0, .int .i64 0] 134).ext hx3) rfl (by kernel_rfl) (by simp [Value.oneCell']) ?_
  intro W4 hS
  have hx4 : Ext W2 W4 := hS.bel (by first | exact (hxc.trans hx3).trans (Ext.alloc _ _) | exact hxc.trans ((Ext.alloc _ _).trans hx3)) (by first | exact (hxc.trans hx3).size | exact hxc.size)
  have HB4 := Lib.hid hS.box
  have HX4 := Lib.hid hx4
  refine hK _ _ hx4 ?_
  clear hK K hS hx4
  (try simp only [Act.put])
  iterate 1 ((first
   | refine extT_move rfl rfl (by rfl) (by rfl) ?_
   | refine extT_assign rfl rfl (by rfl) (by rfl) ?_
   | refine extT_pick_t rfl rfl (by rfl) (by rfl) (by rfl) ?_
   | refine extT_pick_f rfl rfl (by rfl) (by rfl) (by rfl) ?_
   | (apply extT_take rfl (by rfl)
      · intro w' hS
        have hSc := hS.cells
        (try simp only [World.size_drew, World.cell?_drew] at hSc)
        go_simp
        (try simp (disch := omega) only [i64_id, u64_id, ↓IntWalk.iteOmega, Int.tdiv_eq_ediv_of_nonneg, Int.tmod_eq_emod_of_nonneg])
        try rfl)
   | refine extT_pass rfl (by rfl) ?_); simp only [Act.put, setZa, setZ0, setZ1])
  refine extT_nil ?_
  skip
  rotate_left
  go_simp
  refine hK _ _ (by first | exact hxc.trans (Ext.alloc _ _) | exact (hxc.trans hx3).trans (Ext.alloc _ _)) ?_
  clear hK K
  (try simp only [Act.put, setZa, setZ0, setZ1])
  refine extT_doB rfl (by rfl) (fun K hK => ?_)
  go_simp
  go_at_call 162
  refine (fat_any _ _).mono ?_
  rintro e W3 ⟨rfl, hx3⟩
  refine hK _ _ (by first | exact hxc.trans hx3 | exact hxc.trans ((Ext.alloc _ _).trans hx3)) ?_
  clear hK K
  (try simp only [Act.put, setZa, setZ0, setZ1])
  iterate 3 ((first
   | refine extT_move rfl rfl (by rfl) (by rfl) ?_
   | refine extT_assign rfl rfl (by rfl) (by rfl) ?_
   | refine extT_pick_t rfl rfl (by rfl) (by rfl) (by rfl) ?_
   | refine extT_pick_f rfl rfl (by rfl) (by rfl) (by rfl) ?_
   | (apply extT_take rfl (by rfl)
      · intro w' hS
        have hSc := hS.cells
        (try simp only [World.size_drew, World.cell?_drew] at hSc)
        go_simp
        (try simp (disch := omega) only [i64_id, u64_id, ↓IntWalk.iteOmega, Int.tdiv_eq_ediv_of_nonneg, Int.tmod_eq_emod_of_nonneg])
        try rfl)
   | refine extT_pass rfl (by rfl) ?_); simp only [Act.put, setZa, setZ0, setZ1])
  refine extT_doB rfl (by rfl) (fun K hK => ?_)
  refine wp_of_list rfl ?_
  refine wpList_store_box 134 _ _ rfl (by rfl) rfl rfl (by first | exact BoxAt.new W3 #[.int .i64 0, .int .i64 0, .int .i64 0] 134 | exact (BoxAt.new wc #[.int .i64 0, .int .i64 0, .int .i64 0] 134).ext hx3) rfl (by kernel_rfl) (by simp [Value.oneCell']) ?_
  intro W4 hS
  have hx4 : Ext W2 W4 := hS.bel (by first | exact (hxc.trans hx3).trans (Ext.alloc _ _) | exact hxc.trans ((Ext.alloc _ _).trans hx3)) (by first | exact (hxc.trans hx3).size | exact hxc.size)
  have HB4 := Lib.hid hS.box
  have HX4 := Lib.hid hx4
  refine hK _ _ hx4 ?_
  clear hK K hS hx4
  (try simp only [Act.put])
  iterate 1 ((first
   | refine extT_move rfl rfl (by rfl) (by rfl) ?_
   | refine extT_assign rfl rfl (by rfl) (by rfl) ?_
   | refine extT_pick_t rfl rfl (by rfl) (by rfl) (by rfl) ?_
   | refine extT_pick_f rfl rfl (by rfl) (by rfl) (by rfl) ?_
   | (apply extT_take rfl (by rfl)
      · intro w' hS
        have hSc := hS.cells
        (try simp only [World.size_drew, World.cell?_drew] at hSc)
        go_simp
        (try simp (disch := omega) only [i64_id, u64_id, ↓IntWalk.iteOmega, Int.tdiv_eq_ediv_of_nonneg, Int.tmod_eq_emod_of_nonneg])
        try rfl)
   | refine extT_pass rfl (by rfl) ?_); simp only [Act.put, setZa, setZ0, setZ1])
  refine extT_nil ?_
  skip
  rotate_left
  all_goals
    have HD4 := Lib.hid (HD2.out.ext HX4.out)
    have e4 := HD4.out.cell 4 (v := .int .i64 o) rfl
    have hl4 := HD4.out.lt
    clear d14 d11 d4 hl2
    go_wp2_with (refine wpList_store_cell 3 _ _ rfl (by rfl) rfl rfl HD4.out (by simp) (by kernel_rfl) rfl ?_; intro W5 hS5; have HS5 := Lib.hid hS5; have HB5 := Lib.hid (hS5.keep HB4.out (box_ne HB4.out HD4.out (by decide))); have f0 := HB5.out.cell 0 (v := .int .i64 0) rfl; have f1 := HB5.out.cell 1 (v := .int .i64 0) rfl; have f2 := HB5.out.cell 2 (v := .int .i64 0) rfl; have hl5 := HB5.out.lt; clear hS5 e4 hl4)
    refine (HW.out W5 ⟨⟨_, _, _, _, _, HS5.out.box⟩, ⟨_, HS5.out.keep (HP2.out.ext HX4.out) (box_ne (HP2.out.ext HX4.out) HD4.out (by decide))⟩, hgD, hgP⟩ ?_).mono ?_
    · exact ((((Chg.ext HX1.out hBw).trans (HC2.out.wide (by decide))).more HX4.out hBw).stored HD4.out HS5.out (by decide) hgD)
    · rintro e W6 ⟨rfl, hR⟩
      go_wp2_with fail
      go_ret
      exact ⟨rfl, hR⟩
end Go.Proofs.YtjabgpejmnpamaaGreatDoor

namespace Go.Proofs.YtjabgpejmnpamaaGreatDoor
open Go.RowKit
set_option maxRecDepth 100000
structure Sct (B S : Nat) (w w' : World) : Prop where
  chg : Chg B [270] w w'
  off : ∀ g cs, g ≠ S → BoxAt w g cs 270 → BoxAt w' g cs 270
theorem Sct.trans {B S : Nat} {a b c : World} (h : Sct B S a b) (k : Sct B S b c) : Sct B S a c := ⟨h.chg.trans k.chg, fun g cs hg hb => k.off g cs hg (h.off g cs hg hb)⟩
theorem Sct.ext {B S : Nat} {a b : World} (e : Ext a b) (hB : B ≤ a.heap.size) : Sct B S a b := ⟨Chg.ext e hB, fun _ _ _ h => h.ext e⟩
theorem Sct.stored {B S : Nat} {a b c : World} {cs cells : Array Value} (h : Sct B S a b) (hx : BoxAt b S cs 270) (hs : Stored b c S cells 270) (hg : B ≤ S) : Sct B S a c :=
  ⟨h.chg.stored hx hs (by simp) hg, fun g cs hne hb => hs.keep (h.off g cs hne hb) hne⟩
theorem Sct.med {B B' S S' M' c : Nat} {A : Array Value} {a b : World} (h : Sct B S a b) (m : Med B' a M' S' c A) (hne : S' ≠ S) : Med B' b M' S' c A :=
  ⟨m.geM, m.geS, m.cap, m.med.chg h.chg (by decide), h.off _ _ hne m.sec, m.len⟩
theorem Med.store {B B' M S c : Nat} {A A' : Array Value} {a b d : World} (m : Med B a M S c A) (h : Chg B' [270] a b) (hs : Stored b d S A' 270) (hx : BoxAt b S A 270) (hl : 180 ≤ A'.size) : Med B d M S c A' :=
  ⟨m.geM, m.geS, m.cap, hs.keep (m.med.chg h (by decide)) (box_ne (m.med.chg h (by decide)) hx (by decide)), hs.box, hl⟩
theorem set_eq {A : Array Value} {i : Nat} {v : Value} (h : A[i]? = some v) : A.setIfInBounds i v = A := by
  obtain ⟨hlt, he⟩ := Array.getElem?_eq_some_iff.1 h
  refine Array.ext (by simp) (fun k h1 h2 => ?_)
  rw [Array.getElem_setIfInBounds h2]
  split
  · next hk => subst hk; exact he.symm
  · rfl
theorem Blank.put {A : Array Value} (h : Blank A) (q : Nat) (hq : q < 90) : Blank (putL A (q * 2) [.int .i64 0, .slice none 0 0]) := by
  simp only [putL]
  rw [Nat.mul_comm q 2, set_eq (h.even q hq), set_eq (h.odd q hq)]
  exact h
set_option maxHeartbeats 2000000 in
theorem merase_any (B M S c k : Nat) (A : Array Value) (hk : k < 5) (w : World) (h : Med B w M S c A) (hb : Blank A) (hB : B ≤ w.heap.size) :
    Calls Tryz.prog 165 #[.pointer (some ⟨M, 0, none⟩), .int .i64 k] w fun e w' => e = .returned (.int .i64 0) ∧ (∃ A', Blank A' ∧ Med B w' M S c A') ∧ Sct B S w w' := by
  have HA := Lib.hid hb
  have HM := Lib.hid h
  have c0 := h.med.cell 0 (v := .int .i64 60) rfl
  have c1 := h.med.cell 1 (v := .int .i64 5) rfl
  have c2 := h.med.cell 2 (v := .int .i64 2) rfl
  have c3 := h.med.cell 3 (v := .int .i64 3) rfl
  have c4 := h.med.cell 4 (v := .int .i64 1) rfl
  have hl := h.med.lt
  clear h hb
  go_enter Tryz.func165, Tryz.ntmps165
  go_wp2_with first | (go_at_call 209; refine (saddr_any k hk _).mono ?_; rintro e W1 ⟨rfl, hx1⟩; have HM1 := Lib.hid (HM.out.ext hx1); have HX1 := Lib.hid hx1; have d0 := HM1.out.med.cell 0 (v := .int .i64 60) rfl; have d1 := HM1.out.med.cell 1 (v := .int .i64 5) rfl; have d2 := HM1.out.med.cell 2 (v := .int .i64 2) rfl; have d3 := HM1.out.med.cell 3 (v := .int .i64 3) rfl; have d4 := HM1.out.med.cell 4 (v := .int .i64 1) rfl; have hl1 := HM1.out.med.lt; clear hx1 c0 c1 c2 c3 c4 hl) | (go_at_call 110; refine (sband_any _).mono ?_; rintro e W2 ⟨rfl, hx2⟩; have HM2 := Lib.hid (HM1.out.ext hx2); have HX2 := Lib.hid (HX1.out.trans hx2); clear hx2 d0 d1 d2 d3 d4 hl1)
  go_loopw [26] (fun it wr => ∃ j : Nat, j ≤ 6 ∧ it = .int .i64 j ∧ Hid (∃ A', Blank A' ∧ Med B wr M S c A') ∧ Hid (Sct B S w wr)) (fun it _ => 6 - (intOf it).toNat)
  case atStart => exact ⟨0, Nat.zero_le _, rfl, Lib.hid ⟨A, HA.out, HM2.out⟩, Lib.hid (Sct.ext HX2.out hB)⟩
  case round =>
    obtain ⟨j, hj, rfl, HL, HC⟩ := hrel
    obtain ⟨A', hbl, hm⟩ := HL.out
    have HBL := Lib.hid hbl
    have HMr := Lib.hid hm
    have e5 := hm.med.cell 5 (v := .slice (some ⟨S, 0, none⟩) 90 c) rfl
    have hlr := hm.med.lt
    have hsr := hm.sec.lt
    clear HL hbl hm
    by_cases hlt : j < 6
    · have hjI : (j : Int) < 6 := by omega
      have hq90 : 60 + 6 * k + j < 90 := by omega
      go_wp2_with (refine wpList_store_part 270 _ _ rfl (by rfl) (i := (60 + 6 * k + j) * 2) (cells := #[.int .i64 0, .slice none 0 0]) rfl rfl HMr.out.sec (by have := HMr.out.len; simp; omega) (by kernel_rfl) (by simp [Value.oneCell']) ?_; intro w3 hS; have HS := Lib.hid hS; clear hS)
      go_roundw
      case rel => exact ⟨j + 1, by omega, by go_num, Lib.hid ⟨_, HBL.out.put _ hq90, HMr.out.store (Chg.refl B _ _) HS.out HMr.out.sec (by rw [putL_size]; exact HMr.out.len)⟩, Lib.hid (HC.out.stored HMr.out.sec HS.out HMr.out.geS)⟩
      case measure => simp [intOf]; omega
    · have hj6 : j = 6 := by omega
      subst hj6
      go_wp2_with fail
      go_ret
      exact ⟨rfl, ⟨A', HBL.out, HMr.out⟩, HC.out⟩
end Go.Proofs.YtjabgpejmnpamaaGreatDoor

namespace Go.Proofs.YtjabgpejmnpamaaGreatDoor
open Go.RowKit
set_option maxRecDepth 100000
theorem putL_get_off : ∀ (vs : List Value) (A : Array Value) (o i : Nat), (i < o ∨ o + vs.length ≤ i) → (putL A o vs)[i]? = A[i]?
  | [], _, _, _, _ => rfl
  | v :: r, A, o, i, h => by
    rw [putL, putL_get_off r _ _ _ (by simp only [List.length_cons] at h; omega), Array.getElem?_setIfInBounds]
    rw [if_neg (by simp only [List.length_cons] at h; omega)]
theorem putL_get0 {A : Array Value} {o : Nat} {v : Value} {r : List Value} (h : o < A.size) : (putL A o (v :: r))[o]? = some v := by
  rw [putL, putL_get_off r _ _ _ (by omega), Array.getElem?_setIfInBounds]
  simp [h]
theorem putL_get1 {A : Array Value} {o : Nat} {u v : Value} (h : o + 1 < A.size) : (putL A o [u, v])[o + 1]? = some v := by
  rw [putL]
  exact putL_get0 (r := []) (by simpa using h)
set_option maxHeartbeats 1000000 in
theorem mhas_any (B M S c : Nat) (A : Array Value) (a : Nat) (ha : a < 90) (w : World) (h : Med B w M S c A) :
    Calls Tryz.prog 262 #[.pointer (some ⟨M, 0, none⟩), .int .i64 a] w fun e w' => e = .returned (.bool true) ∧ w = w' := by
  have c5 := h.med.cell 5 (v := .slice (some ⟨S, 0, none⟩) 90 c) rfl
  have hl := h.med.lt
  have haI : (a : Int) < 90 := by omega
  have haI0 : (0 : Int) ≤ (a : Int) := by omega
  clear h
  go_enter Tryz.func262, Tryz.ntmps262
  go_wp2
  go_ret
  exact ⟨rfl, rfl⟩
set_option maxHeartbeats 2000000 in
theorem mread_any (B bb M S c : Nat) (A : Array Value) (v : Value) (l : List (BitVec 8)) (hll : l.length ≤ 64) (w : World) (h : Med B w M S c A) (h0 : A[120]? = some (.int .i64 1)) (h1 : A[121]? = some v) (ho : OwnB w bb v l) :
    Calls Tryz.prog 252 #[.pointer (some ⟨M, 0, none⟩), .int .i64 60] w fun e w' => ∃ v', e = .returned (.tuple #[v', .int .i64 0]) ∧ OwnB w' w.heap.size v' l ∧ Ext w w' := by
  have HM := Lib.hid h
  have HO := Lib.hid ho
  have c5 := h.med.cell 5 (v := .slice (some ⟨S, 0, none⟩) 90 c) rfl
  have e0 := h.sec.cell 120 h0
  have e1 := h.sec.cell 121 h1
  have hl := h.med.lt
  have hls := h.sec.lt
  clear h ho h0 h1
  go_enter Tryz.func252, Tryz.ntmps252
  go_wp2_with first | (go_at_call 262; refine (mhas_any B M S c A 60 (by decide) _ HM.out).mono ?_; rintro e w' ⟨rfl, rfl⟩) | (go_at_call 122; refine (clone_any v l _ (by omega) (OwnB.slice HO.out)).mono ?_; rintro e W1 ⟨v', rfl, hO1, hx1⟩)
  go_ret2
  exact ⟨v', rfl, hO1, hx1⟩
set_option maxHeartbeats 4000000 in
theorem mwrite_any (B M S c : Nat) (A : Array Value) (v : Value) (l : List (BitVec 8)) (hll : l.length ≤ 64) (w : World) (h : Med B w M S c A) (ho : SliceAt encB w v l) (hB : B ≤ w.heap.size) :
    Calls Tryz.prog 251 #[.pointer (some ⟨M, 0, none⟩), .int .i64 60, v] w fun e w' => e = .returned (.int .i64 0) ∧ (∃ A' v', A'[120]? = some (.int .i64 1) ∧ A'[121]? = some v' ∧ Med B w' M S c A' ∧ OwnB w' w.heap.size v' l) ∧ Sct B S w w' := by
  have HM := Lib.hid h
  have HO := Lib.hid ho
  obtain ⟨va, vc, rfl⟩ := ho.shape
  have c5 := h.med.cell 5 (v := .slice (some ⟨S, 0, none⟩) 90 c) rfl
  have hl := h.med.lt
  have hls := h.sec.lt
  have hlI : (l.length : Int) ≤ 64 := by omega
  obtain ⟨n, hn⟩ : ∃ n, l.length = n := ⟨_, rfl⟩
  rw [hn] at hlI HO ⊢
  clear h ho
  go_enter Tryz.func251, Tryz.ntmps251
  go_wp2_with (go_at_call 262; refine (mhas_any B M S c A 60 (by decide) _ HM.out).mono ?_; rintro e w' ⟨rfl, rfl⟩)
  refine wp_region_ext [(0, true), (1, true), (2, true), (3, true), (4, true), (5, true), (6, false), (7, true), (8, true), (9, false)] (by kernel_rfl) (by kernel_rfl) ?_
  iterate 6 ((first
   | refine ext_move rfl rfl (by rfl) (by rfl) ?_
   | refine ext_assign rfl rfl (by rfl) (by rfl) ?_
   | refine ext_pick_t rfl rfl (by rfl) (by rfl) (by rfl) ?_
   | refine ext_pick_f rfl rfl (by rfl) (by rfl) (by rfl) ?_
   | (apply ext_take rfl (by rfl)
      · intro w' hS
        have hSc := hS.cells
        (try simp only [World.size_drew, World.cell?_drew] at hSc)
        go_simp
        (try simp (disch := omega) only [i64_id, u64_id, ↓IntWalk.iteOmega, Int.tdiv_eq_ediv_of_nonneg, Int.tmod_eq_emod_of_nonneg])
        try rfl)
   | refine ext_pass rfl (by rfl) ?_); simp only [Act.put, setZa, setZ0, setZ1])
  (refine ext_do rfl (by rfl) (fun K hK => ?_)
   go_simp
   go_at_call 122
   refine (clone_any (.slice va n vc) l _ (by omega) (HO.out.ext (by first | exact Ext.refl _ | exact Ext.drew _))).mono ?_
   rintro e W1 ⟨v', rfl, hO1, hx1⟩
   obtain ⟨a1, c1, rfl⟩ := own_shape hO1
   rw [hn] at hO1 ⊢
   have HX1 : Hid (Ext w W1) := Ext.trans (by first | exact Ext.refl _ | exact Ext.drew _) hx1
   have HO1 := Lib.hid hO1
   refine hK _ _ (by first | exact hx1 | exact HX1.out) ?_
   clear hK K hx1 hO1
   (try simp only [Act.put, setZa, setZ0, setZ1]))
  iterate 2 ((first
   | refine ext_move rfl rfl (by rfl) (by rfl) ?_
   | refine ext_assign rfl rfl (by rfl) (by rfl) ?_
   | refine ext_pick_t rfl rfl (by rfl) (by rfl) (by rfl) ?_
   | refine ext_pick_f rfl rfl (by rfl) (by rfl) (by rfl) ?_
   | (apply ext_take rfl (by rfl)
      · intro w' hS
        have hSc := hS.cells
        (try simp only [World.size_drew, World.cell?_drew] at hSc)
        go_simp
        (try simp (disch := omega) only [i64_id, u64_id, ↓IntWalk.iteOmega, Int.tdiv_eq_ediv_of_nonneg, Int.tmod_eq_emod_of_nonneg])
        try rfl)
   | refine ext_pass rfl (by rfl) ?_); simp only [Act.put, setZa, setZ0, setZ1])
  (refine ext_last rfl (by rfl) (by kernel_rfl) (fun K hK => ?_)
   refine wp_of_list rfl ?_
   refine wpList_store_part 270 _ _ rfl (by rfl) (i := 120) (cells := #[.int .i64 1, .slice a1 n c1]) rfl rfl (HM.out.ext HX1.out).sec (by have := HM.out.len; simp; omega) (by kernel_rfl) (by simp [Value.oneCell']) ?_
   intro W2 hS
   have HS2 := Lib.hid hS
   refine hK _ _ ?_
   clear hK K hS
   (try simp only [Act.put]))
  have hx1 := HX1.out
  have HM1 := Lib.hid (HM.out.ext HX1.out)
  have HC2 : Hid (Sct B S w W2) := Lib.hid ((Sct.ext HX1.out hB).stored HM1.out.sec HS2.out HM1.out.geS)
  have HM2 := Lib.hid (HM1.out.store (Chg.refl B _ _) HS2.out HM1.out.sec (by rw [putL_size]; exact HM1.out.len))
  have HO2 := Lib.hid (ownsRow_chg ((Chg.refl B [270] W1).stored HM1.out.sec HS2.out (by simp) HM1.out.geS) HO1.out (by decide))
  have d0 := HM2.out.med.cell 0 (v := .int .i64 60) rfl
  have d1 := HM2.out.med.cell 1 (v := .int .i64 5) rfl
  have d2 := HM2.out.med.cell 2 (v := .int .i64 2) rfl
  have d3 := HM2.out.med.cell 3 (v := .int .i64 3) rfl
  have d4 := HM2.out.med.cell 4 (v := .int .i64 1) rfl
  have hl2 := HM2.out.med.lt
  clear hx1 c5 hl hls
  go_wp2_with (go_at_call 263; refine (sshadow_any _).mono ?_; rintro e W3 ⟨sv, rfl, hsv, hx3⟩; obtain ⟨sa, sc, rfl⟩ := hsv.shape; obtain ⟨sb, so, rfl, hsl, hsc⟩ := hsv.get 0 (by decide); have hsc0 : W3.cell? ⟨sb, so, none⟩ = some (.int .i64 63) := hsc; have HX3 := Lib.hid hx3; have HM3 := Lib.hid (HM2.out.ext hx3); have e5 := HM3.out.med.cell 5 (v := .slice (some ⟨S, 0, none⟩) 90 c) rfl; have hl3 := HM3.out.med.lt; clear hx3 hsv hsc d0 d1 d2 d3 d4 hl2)
  refine wp_loop_rounds 2 ?_
  rw [rounds_succ]
  go_wp2_with (refine wpList_store_part 270 _ _ rfl (by rfl) (i := 126) (cells := #[.int .i64 2, .slice none 0 0]) rfl rfl HM3.out.sec (by rw [putL_size]; have := HM.out.len; simp; omega) (by kernel_rfl) (by simp [Value.oneCell']) ?_; intro W4 hS; have HS4 := Lib.hid hS; clear hS)
  rw [rounds_succ]
  go_wp2_with fail
  go_ret
  have hlen := HM.out.len
  refine ⟨rfl, ⟨_, _, ?_, ?_, HM3.out.store (Chg.refl B _ _) HS4.out HM3.out.sec (by rw [putL_size, putL_size]; exact hlen), ownsRow_chg ((Chg.refl B [270] W3).stored HM3.out.sec HS4.out (by simp) HM3.out.geS) (ownsRow_chg (Chg.ext (T := [270]) HX3.out (Nat.zero_le _)) HO2.out (by decide)) (by decide)⟩, ?_⟩
  · rw [putL_get_off _ _ _ _ (.inl (by decide))]; exact putL_get0 (by omega)
  · rw [putL_get_off _ _ _ _ (.inl (by decide))]; exact putL_get1 (by omega)
  · have hBW2 : B ≤ W2.heap.size := Nat.le_trans hB HC2.out.chg.size
    exact (HC2.out.trans (Sct.ext HX3.out hBW2)).stored HM3.out.sec HS4.out HM3.out.geS
end Go.Proofs.YtjabgpejmnpamaaGreatDoor

namespace Go.Proofs.YtjabgpejmnpamaaGreatDoor
open Go.RowKit
set_option maxRecDepth 100000
theorem infoOp : (Tryz.prog.info? 310).map (fun i => (i.zero, i.size, i.bytes)) = some (some .nilFunc, 1, 8) := by kernel_rfl
structure Cn where
  C : Nat
  M1 : Nat
  S1 : Nat
  c1 : Nat
  M2 : Nat
  S2 : Nat
  c2 : Nat
abbrev chC (n : Cn) (pv : Value) : Array Value := #[.pointer (some ⟨n.M1, 0, none⟩), .pointer (some ⟨n.M2, 0, none⟩), pv]
structure Csh (B : Nat) (w : World) (n : Cn) (A1 A2 : Array Value) (pv : Value) : Prop where
  box : BoxAt w n.C (chC n pv) 208
  geC : B ≤ n.C
  m1 : Med B w n.M1 n.S1 n.c1 A1
  m2 : Med B w n.M2 n.S2 n.c2 A2
  ne : n.S1 ≠ n.S2
theorem Csh.ext {B : Nat} {w w' : World} {n : Cn} {A1 A2 : Array Value} {pv : Value} (h : Csh B w n A1 A2 pv) (e : Ext w w') : Csh B w' n A1 A2 pv := ⟨h.box.ext e, h.geC, h.m1.ext e, h.m2.ext e, h.ne⟩
theorem Csh.chg {B B' : Nat} {T : List TypeId} {w w' : World} {n : Cn} {A1 A2 : Array Value} {pv : Value} (h : Csh B w n A1 A2 pv) (e : Chg B' T w w') (h0 : 208 ∉ T) (h1 : 204 ∉ T) (h2 : 270 ∉ T) : Csh B w' n A1 A2 pv :=
  ⟨h.box.chg e h0, h.geC, h.m1.chg e h1 h2, h.m2.chg e h1 h2, h.ne⟩
theorem Csh.lower {B B' : Nat} {w : World} {n : Cn} {A1 A2 : Array Value} {pv : Value} (h : Csh B w n A1 A2 pv) (hb : B' ≤ B) : Csh B' w n A1 A2 pv := ⟨h.box, Nat.le_trans hb h.geC, h.m1.lower hb, h.m2.lower hb, h.ne⟩
abbrev OwnO (w : World) (B : Nat) (v : Value) (l : List Value) : Prop := w.ownsRow B 310 1 v l.length l
set_option maxHeartbeats 2000000 in
theorem cnew_any (B M S c : Nat) (A : Array Value) (w : World) (h : Med B w M S c A) (hb : Blank A) :
    Calls Tryz.prog 55 #[.pointer (some ⟨M, 0, none⟩)] w fun e w' => ∃ n A1 A2, e = .returned (.pointer (some ⟨n.C, 0, none⟩)) ∧ Blank A1 ∧ Blank A2 ∧ Csh w.heap.size w' n A1 A2 (.slice none 0 0) ∧ Ext w w' := by
  have HA := Lib.hid hb
  have HM := Lib.hid h
  clear h hb
  go_enter Tryz.func55, Tryz.ntmps55
  go_wp2_with first | (go_at_call 108; refine (mclone_any B M S c A _ (by assumption) HA.out).mono ?_; fail) | (go_at_call 108; with_reducible refine (mclone_any B M S c A w HM.out HA.out).mono ?_; rintro e W1 ⟨M1, S1, c1, A1, rfl, hb1, hm1, hx1⟩; have HB1 := Lib.hid hb1; have HM1 := Lib.hid hm1; have HX1 := Lib.hid hx1; have HMM := Lib.hid (HM.out.ext hx1); clear hb1 hm1 hx1 HM) | (go_at_call 108; refine (mclone_any B M S c A W1 HMM.out HA.out).mono ?_; rintro e W2 ⟨M2, S2, c2, A2, rfl, hb2, hm2, hx2⟩; have HB2 := Lib.hid hb2; have HM2 := Lib.hid hm2; have HX2 := Lib.hid hx2; clear hb2 hm2 hx2)
  go_ret
  have hs1 := HM1.out.sec.lt
  have hs2 := HM2.out.geS
  refine ⟨⟨W2.heap.size, M1, S1, c1, M2, S2, c2⟩, A1, A2, rfl, HB1.out, HB2.out, ⟨BoxAt.new _ _ _, Nat.le_trans HX1.out.size HX2.out.size, (HM1.out.ext HX2.out).ext (Ext.alloc _ _), (HM2.out.lower HX1.out.size).ext (Ext.alloc _ _), ?_⟩, (HX1.out.trans HX2.out).trans (Ext.alloc _ _)⟩
  show S1 ≠ S2
  omega
set_option maxHeartbeats 4000000 in
theorem do_any (F : Nat) (eg : ∀ args w, (callFunc F args).run Tryz.prog w = .ok (.enter F args) w) (cap : Array Value) (B : Nat) (n : Cn) (A1 A2 : Array Value) (pv : Value) (l : List Value) (hll : l.length ≤ 1000) (w : World) (h : Csh B w n A1 A2 pv) (ho : OwnO w B pv l) (hBw : B ≤ w.heap.size)
    (Pm : Array Value → World → Prop) (hP : ∀ A a b, Pm A a → Chg B [208, 310] a b → Pm A b)
    (hw : Calls Tryz.prog F (#[.pointer (some ⟨n.M2, 0, none⟩)] ++ cap) w fun e w' => e = .returned (.int .i64 0) ∧ (∃ A2', Pm A2' w' ∧ Med B w' n.M2 n.S2 n.c2 A2') ∧ Sct B n.S2 w w') :
    Calls Tryz.prog 163 #[.pointer (some ⟨n.C, 0, none⟩), .func (.func F) #[] cap] w fun e w' => e = .returned (.int .i64 0) ∧
      (∃ A2' pv', Pm A2' w' ∧ Csh B w' n A1 A2' pv' ∧ OwnO w' B pv' (l ++ [.func (.func F) #[] cap])) ∧ Chg B [270, 208, 310] w w' := by
  obtain ⟨i0, hi, hz0, hz1, hz2⟩ := info_parts infoOp
  have HW := Lib.hid hw
  have HC := Lib.hid h
  have HO := Lib.hid ho
  have hPm := Lib.hid hP
  obtain ⟨pa, pc, hpv⟩ := own_shape ho
  obtain ⟨k, hk⟩ : ∃ k, l.length = k := ⟨_, rfl⟩
  subst hpv
  rw [hk] at HC HO
  have e1 := h.box.cell 1 (v := .pointer (some ⟨n.M2, 0, none⟩)) rfl
  have hl := h.box.lt
  clear h hw ho hP
  go_enter Tryz.func163, Tryz.ntmps163
  go_wp2_with fail
  refine HW.out.mono ?_
  rintro e W1 ⟨rfl, ⟨A2', hp2, hm2⟩, hsc⟩
  have HP2 := Lib.hid hp2
  have HM2 := Lib.hid hm2
  have HSC := Lib.hid hsc
  have hb1 := HC.out.box.chg hsc.chg (by decide)
  have HB1 := Lib.hid hb1
  have HO1 := Lib.hid (ownsRow_chg hsc.chg HO.out (by decide))
  have d2 := hb1.cell 2 (v := .slice pa k pc) rfl
  have hl1 := hb1.lt
  have hsz1 := hsc.chg.size
  have HOA := Lib.hid (ownsRow_chg (Chg.ext (B := 0) (T := []) (Ext.alloc W1 (.cells #[.func (.func F) #[] cap] 310)) (Nat.zero_le _)) HO1.out (by simp))
  clear hp2 hm2 hsc hb1 e1 hl
  go_wp2_with first | (at_builtin; refine wpList_append_one rfl _ _ _ rfl B 310 i0 .nilFunc 8 Tryz.underlying206 hi hz0 hz1 hz2 rfl _ _ _ rfl HOA.out _ (.func (.func F) #[] cap) rfl rfl (cell_new1 _ _ _) (by unfold maxLen; omega) (by omega) (by simp; omega) ?_; intro v2 W2 ho2 hg2 _; obtain ⟨a2, c2, rfl⟩ := own_shape ho2; have hch : Chg B [310] W1 W2 := (Chg.ext (Ext.alloc W1 _) (by omega)).grown HOA.out (by simp) (Nat.le_refl _) (by omega) hg2; have HO2 := Lib.hid ho2; have HCH := Lib.hid hch; have HB2 := Lib.hid (HB1.out.chg hch (by decide)); have f2 := HB2.out.cell 2 (v := .slice pa k pc) rfl; have hl2 := HB2.out.lt; clear ho2 hg2 hch d2 hl1) | (refine wpList_store_cell 206 _ _ rfl (by rfl) rfl rfl (HB2.out) (by simp) (by kernel_rfl) rfl ?_; intro W3 hS; have HS := Lib.hid hS; clear hS f2 hl2)
  go_ret
  have hcs : Chg B [208] W2 W3 := (Chg.refl _ _ _).stored HB2.out HS.out (by simp) HC.out.geC
  have hc13 : Chg B [208, 310] W1 W3 := (HCH.out.wide (by decide)).trans (hcs.wide (by decide))
  refine ⟨rfl, ⟨A2', .slice a2 (k + 1) c2, hPm.out _ _ _ HP2.out hc13, ⟨HS.out.box, HC.out.geC, (HSC.out.med HC.out.m1 HC.out.ne).chg hc13 (by decide) (by decide), HM2.out.chg hc13 (by decide) (by decide), HC.out.ne⟩, ?_⟩, (HSC.out.chg.wide (by decide)).trans (hc13.wide (by decide))⟩
  have h3 := ownsRow_chg hcs HO2.out (by decide)
  show W3.ownsRow B _ 1 _ (l ++ [_]).length _
  rw [List.length_append, ← hk]
  exact h3
end Go.Proofs.YtjabgpejmnpamaaGreatDoor

namespace Go.Proofs.YtjabgpejmnpamaaGreatDoor
open Go.RowKit Go.Shelf
set_option maxRecDepth 100000
theorem run_minD {P : Program} (w : World) (ts : Array TypeId) (t : TypeId) (a : Int) :
    (Builtin.min_ ts t #[.int .i64 a, .int .i64 a]).run P w = .ok (.int .i64 a) w := by
  have e : (if a < a then a else a) = a := by split <;> rfl
  have : (Builtin.min_ ts t #[.int .i64 a, .int .i64 a]).run P w = .ok (.int .i64 (if a < a then a else a)) w := rfl
  rw [this, e]
theorem run_maxD {P : Program} (w : World) (ts : Array TypeId) (t : TypeId) (a : Int) (h : 0 ≤ a) :
    (Builtin.max_ ts t #[.int .i64 a, .int .i64 0]).run P w = .ok (.int .i64 a) w := by
  have e : (if a < 0 then 0 else a) = a := by split <;> omega
  have : (Builtin.max_ ts t #[.int .i64 a, .int .i64 0]).run P w = .ok (.int .i64 (if a < 0 then 0 else a)) w := rfl
  rw [this, e]
abbrev opE (g : Nat) : Value := .func (.func 164) #[] #[.pointer (some ⟨g, 0, none⟩)]
def Bands (w : World) (gs : List Nat) : Prop := ∀ g, g ∈ gs → ∃ k : Nat, k < 5 ∧ BoxAt w g #[.int .i64 k] 3
theorem Bands.chg {B : Nat} {T : List TypeId} {w w' : World} {gs : List Nat} (h : Bands w gs) (e : Chg B T w w') (ht : 3 ∉ T) : Bands w' gs := fun g hg => by
  obtain ⟨k, hk, hb⟩ := h g hg
  exact ⟨k, hk, hb.chg e ht⟩
set_option maxHeartbeats 1000000 in
theorem erase1_any (B M S c g k : Nat) (A : Array Value) (hk : k < 5) (w : World) (h : Med B w M S c A) (hb : Blank A) (hB : B ≤ w.heap.size) (hg : BoxAt w g #[.int .i64 k] 3) :
    Calls Tryz.prog 164 #[.pointer (some ⟨M, 0, none⟩), .pointer (some ⟨g, 0, none⟩)] w fun e w' => e = .returned (.int .i64 0) ∧ (∃ A', Blank A' ∧ Med B w' M S c A') ∧ Sct B S w w' := by
  have HA := Lib.hid hb
  have HM := Lib.hid h
  have c0 := hg.cell 0 (v := .int .i64 k) rfl
  have hl := hg.lt
  clear h hb hg
  go_enter Tryz.func164, Tryz.ntmps164
  go_wp2_with (go_at_call 165; refine (merase_any B M S c k A hk _ HM.out HA.out hB).mono ?_; rintro e W1 ⟨rfl, h1, h2⟩; have H1 := Lib.hid h1; have H2 := Lib.hid h2; clear h1 h2)
  go_ret
  exact ⟨rfl, H1.out, H2.out⟩
set_option maxHeartbeats 2000000 in
theorem cerase_any (B : Nat) (n : Cn) (A1 A2 : Array Value) (pv : Value) (gs : List Nat) (k : Nat) (hk : k < 5) (hll : gs.length ≤ 1000) (w : World) (h : Csh B w n A1 A2 pv) (hb : Blank A2) (ho : OwnO w B pv (gs.map opE)) (hBw : B ≤ w.heap.size) (hgs : Bands w gs) :
    Calls Tryz.prog 113 #[.pointer (some ⟨n.C, 0, none⟩), .int .i64 k] w fun e w' => e = .returned (.int .i64 0) ∧
      (∃ A2' pv' g, Blank A2' ∧ Csh B w' n A1 A2' pv' ∧ OwnO w' B pv' ((gs ++ [g]).map opE) ∧ Bands w' (gs ++ [g])) ∧ Chg B [270, 208, 310] w w' := by
  have HB := Lib.hid hb
  have HC := Lib.hid h
  have HO := Lib.hid ho
  have HG := Lib.hid hgs
  clear h hb ho hgs
  have hx : Ext w (w.alloc (.cells #[.int .i64 k] 3)) := Ext.alloc _ _
  have hbx := BoxAt.new w #[.int .i64 k] 3
  have HX := Lib.hid hx
  have HBX := Lib.hid hbx
  clear hx hbx
  go_enter Tryz.func113, Tryz.ntmps113
  go_wp2_with (go_at_call 163; refine (do_any 164 (enters_of Tryz.func164 (by kernel_rfl) rfl) #[.pointer (some ⟨w.heap.size, 0, none⟩)] B n A1 A2 pv (gs.map opE) (by simpa using hll) _ (HC.out.ext HX.out) (ownsRow_chg (Chg.ext (B := 0) (T := []) HX.out (Nat.zero_le _)) HO.out (by simp)) (by simp; omega) (fun A _ => Blank A) (fun A a b h _ => h) (erase1_any B n.M2 n.S2 n.c2 w.heap.size k A2 hk _ (HC.out.m2.ext HX.out) HB.out (by simp; omega) HBX.out)).mono ?_; rintro e W1 ⟨rfl, ⟨A2', pv', hb2, hc2, ho2⟩, hch⟩; have HB2 := Lib.hid hb2; have HC2 := Lib.hid hc2; have HO2 := Lib.hid ho2; have HCH := Lib.hid hch; clear hb2 hc2 ho2 hch)
  go_ret
  refine ⟨rfl, ⟨A2', pv', w.heap.size, HB2.out, HC2.out, ?_, ?_⟩, (Chg.ext HX.out hBw).trans HCH.out⟩
  · have := HO2.out
    rw [List.map_append]
    exact this
  · intro g hg
    rw [List.mem_append, List.mem_singleton] at hg
    rcases hg with hg | rfl
    · exact ((HG.out.chg (Chg.ext (B := 0) (T := []) HX.out (Nat.zero_le _)) (by simp)).chg HCH.out (by decide)) g hg
    · exact ⟨k, hk, HBX.out.chg HCH.out (by decide)⟩
theorem ops_block {w : World} {B : Nat} {pv : Value} {gs : List Nat} (h : OwnO w B pv (gs.map opE)) (hp : 0 < gs.length) : ∃ q cap cur, pv = .slice (some ⟨q, 0, none⟩) gs.length cap ∧ BoxAt w q cur 310 ∧ gs.length ≤ cap ∧ ∀ j (hj : j < gs.length), cur[j]? = some (opE gs[j]) := by
  rcases h.2 with ⟨_, h2⟩ | ⟨g, cap, cur, h1, _, h3, h4, _, _, h7⟩
  · rw [List.length_map] at h2; omega
  · rw [List.length_map] at h1 h4
    refine ⟨g, cap, cur, h1, h3, h4, fun j hj => ?_⟩
    have e1 : (cur.toList.take ((gs.map opE).length * 1))[j]? = (gs.map opE)[j]? := by rw [h7]
    rw [List.getElem?_take_of_lt (by rw [List.length_map]; omega), Array.getElem?_toList, List.getElem?_map, List.getElem?_eq_getElem hj] at e1
    exact e1
set_option maxHeartbeats 4000000 in
theorem cut_any (B : Nat) (n : Cn) (A1 A2 : Array Value) (pv : Value) (gs : List Nat) (m : Nat) (hm : gs.length = m) (hp : 0 < m) (hll : m ≤ 1000) (w : World) (h : Csh B w n A1 A2 pv) (hb : Blank A1) (ho : OwnO w B pv (gs.map opE)) (hBw : B ≤ w.heap.size) (hgs : Bands w gs) :
    Calls Tryz.prog 166 #[.pointer (some ⟨n.C, 0, none⟩), .int .i64 m] w fun e w' => e = .returned (.tuple #[]) ∧
      (∃ A1', Blank A1' ∧ Csh B w' n A1' A2 (.slice none 0 0)) ∧ Chg B [270, 208] w w' := by
  obtain ⟨q, cap, cur, rfl, hq, hcap, hcur⟩ := ops_block ho (by omega)
  rw [hm] at h hcap
  have HB := Lib.hid hb
  have HC := Lib.hid h
  have HG := Lib.hid hgs
  have HQ := Lib.hid hq
  have HCUR := Lib.hid hcur
  have HM := Lib.hid hm
  have c0 := h.box.cell 0 (v := .pointer (some ⟨n.M1, 0, none⟩)) rfl
  have c2 := h.box.cell 2 (v := .slice (some ⟨q, 0, none⟩) m cap) rfl
  have hl := h.box.lt
  have hmin := fun (w : World) (ts : Array TypeId) (t : TypeId) => run_minD (P := Tryz.prog) w ts t (m : Int)
  have hmax := fun (w : World) (ts : Array TypeId) (t : TypeId) => run_maxD (P := Tryz.prog) w ts t (m : Int) (by omega)
  have hcI : (m : Int) ≤ (cap : Int) := by omega
  have hc0 : ¬ (cap = 0) := by omega
  have hc0I : ¬ ((cap : Int) = 0) := by omega
  clear h hb hgs hq hcur ho hm
  go_enter Tryz.func166, Tryz.ntmps166
  go_wp2_with fail
  refine wp_region_ext [(0, true), (1, true), (2, true), (3, true), (4, true), (5, true), (6, true), (7, true), (8, true), (9, true), (10, true), (11, true), (12, true), (13, true), (14, true)] (by kernel_rfl) (by kernel_rfl) ?_
  iterate 15 ((first
   | refine ext_move rfl rfl (by rfl) (by rfl) ?_
   | refine ext_assign rfl rfl (by rfl) (by rfl) ?_
   | refine ext_pick_t rfl rfl (by rfl) (by rfl) (by rfl) ?_
   | refine ext_pick_f rfl rfl (by rfl) (by rfl) (by rfl) ?_
   | (apply ext_take rfl (by rfl)
      · intro w' hS
        have hSc := hS.cells
        (try simp only [World.size_drew, World.cell?_drew] at hSc)
        go_simp
        (try simp (disch := omega) only [i64_id, u64_id, ↓IntWalk.iteOmega, Int.tdiv_eq_ediv_of_nonneg, Int.tmod_eq_emod_of_nonneg])
        try rfl)
   | refine ext_pass rfl (by rfl) ?_); simp only [Act.put, setZa, setZ0, setZ1])
  refine ext_nil ?_
  go_wp2_with fail
  go_loopw [30] (fun it wr => ∃ j : Nat, j ≤ m ∧ it = .int .i64 j ∧ Hid (∃ A', Blank A' ∧ Med B wr n.M1 n.S1 n.c1 A') ∧ Hid (Sct B n.S1 w wr)) (fun it _ => m - (intOf it).toNat)
  case atStart => exact ⟨0, Nat.zero_le _, rfl, Lib.hid ⟨A1, HB.out, HC.out.m1.ext (Ext.drew _)⟩, Lib.hid (Sct.ext (Ext.drew _) hBw)⟩
  case round =>
    obtain ⟨j, hj, rfl, HL, HS⟩ := hrel
    obtain ⟨A', hbl, hmd⟩ := HL.out
    have HBL := Lib.hid hbl
    have HMr := Lib.hid hmd
    have hcb := HC.out.box.chg HS.out.chg (by decide)
    have hqb := HQ.out.chg HS.out.chg (by decide)
    have e0 := hcb.cell 0 (v := .pointer (some ⟨n.M1, 0, none⟩)) rfl
    have hlr := hcb.lt
    have hlq := hqb.lt
    have HCB := Lib.hid hcb
    have HQB := Lib.hid hqb
    have hszr := HS.out.chg.size
    clear HL hbl hmd hcb hqb c0 c2 hl
    by_cases hlt : j < m
    · have hjI : (j : Int) < (m : Int) := by omega
      have hjg : j < gs.length := by rw [HM.out]; exact hlt
      obtain ⟨k, hk, hbg⟩ := (HG.out.chg HS.out.chg (by decide)) gs[j] (List.getElem_mem hjg)
      have hje := HQB.out.cell j (HCUR.out j hjg)
      have HBG := Lib.hid hbg
      clear hbg
      obtain ⟨g, hgj⟩ : ∃ g, gs[j] = g := ⟨_, rfl⟩
      rw [hgj] at hje HBG
      clear hgj
      go_wp2_with (go_at_call 164; refine (erase1_any B n.M1 n.S1 n.c1 g k A' hk _ HMr.out HBL.out (by omega) HBG.out).mono ?_; rintro e W3 ⟨rfl, h1, h2⟩; have H1 := Lib.hid h1; have H2 := Lib.hid (HS.out.trans h2); clear h1 h2)
      go_roundw
      case rel => exact ⟨j + 1, by omega, by go_num, H1, H2⟩
      case measure => simp [intOf]; omega
    · have hjm : j = m := by omega
      have HJ := Lib.hid hjm
      go_wp2_with (refine wpList_store_cell 206 _ _ rfl (by rfl) rfl rfl (HCB.out) (by simp) (by kernel_rfl) rfl ?_; intro W3 hS3; have HS3 := Lib.hid hS3; clear hS3 e0 hlr)
      go_end0
      have hcs : Chg B [208] wr W3 := (Chg.refl _ _ _).stored HCB.out HS3.out (by simp) HC.out.geC
      exact ⟨rfl, ⟨A', HBL.out, HS3.out.box, HC.out.geC, HMr.out.chg hcs (by decide) (by decide), (HS.out.med HC.out.m2 (Ne.symm HC.out.ne)).chg hcs (by decide) (by decide), HC.out.ne⟩, (HS.out.chg.wide (by decide)).trans (hcs.wide (by decide))⟩
set_option maxHeartbeats 2000000 in
theorem cflush_any (B : Nat) (n : Cn) (A1 A2 : Array Value) (pv : Value) (gs : List Nat) (m : Nat) (hm : gs.length = m) (hp : 0 < m) (hll : m ≤ 1000) (w : World) (h : Csh B w n A1 A2 pv) (hb : Blank A1) (ho : OwnO w B pv (gs.map opE)) (hBw : B ≤ w.heap.size) (hgs : Bands w gs) :
    Calls Tryz.prog 115 #[.pointer (some ⟨n.C, 0, none⟩)] w fun e w' => e = .returned (.tuple #[]) ∧
      (∃ A1', Blank A1' ∧ Csh B w' n A1' A2 (.slice none 0 0)) ∧ Chg B [270, 208] w w' := by
  have HF := Lib.hid (cut_any B n A1 A2 pv gs m hm hp hll w h hb ho hBw hgs)
  obtain ⟨q, cap, cur, rfl, hq, hcap, hcur⟩ := ops_block ho (by omega)
  rw [hm] at h
  have c2 := h.box.cell 2 (v := .slice (some ⟨q, 0, none⟩) m cap) rfl
  have hl := h.box.lt
  clear h hb ho hgs hq hcur hm
  go_enter Tryz.func115, Tryz.ntmps115
  go_wp2_with (go_at_call 166; refine HF.out.mono ?_; rintro e W1 ⟨rfl, h1, h2⟩; have H1 := Lib.hid h1; have H2 := Lib.hid h2; clear h1 h2)
  go_end0
  exact ⟨rfl, H1.out, H2.out⟩
end Go.Proofs.YtjabgpejmnpamaaGreatDoor

namespace Go.Proofs.YtjabgpejmnpamaaGreatDoor
open Go.RowKit Go.Shelf
set_option maxRecDepth 100000
abbrev TTd : List TypeId := [140, 124, 270, 208, 310]
structure Ph (B : Nat) (w : World) (D P : Nat) (n : Cn) (gs : List Nat) : Prop where
  dsk : Dsk B w D P n.C
  csh : ∃ A1 A2 pv, Blank A1 ∧ Blank A2 ∧ Csh B w n A1 A2 pv ∧ OwnO w B pv (gs.map opE)
  bands : Bands w gs
theorem Ph.ext {B : Nat} {w w' : World} {D P : Nat} {n : Cn} {gs : List Nat} (h : Ph B w D P n gs) (e : Ext w w') : Ph B w' D P n gs := by
  obtain ⟨h1, ⟨A1, A2, pv, a, b, c, d⟩, h3⟩ := h
  have hc : Chg 0 [] w w' := Chg.ext e (Nat.zero_le _)
  exact ⟨h1.ext e, ⟨A1, A2, pv, a, b, c.ext e, ownsRow_chg hc d (by simp)⟩, h3.chg hc (by simp)⟩
set_option maxHeartbeats 4000000 in
theorem derase1_any (B D P gD gK : Nat) (n : Cn) (gs : List Nat) (k : Nat) (hk : k < 5) (hll : gs.length ≤ 1000) (w : World) (h : Ph B w D P n gs) (hBw : B ≤ w.heap.size) (hD : BoxAt w gD #[.pointer (some ⟨D, 0, none⟩)] 68) (hK : BoxAt w gK #[.int .i64 k] 3) :
    Calls Tryz.prog 112 #[fltV, .pointer (some ⟨gD, 0, none⟩), .pointer (some ⟨gK, 0, none⟩)] w fun e w' => e = .returned (.int .i64 0) ∧ (∃ g, Ph B w' D P n (gs ++ [g])) ∧ Chg B TTd w w' := by
  obtain ⟨hd, ⟨A1, A2, pv, ha1, ha2, hc, ho⟩, hb⟩ := h
  obtain ⟨r, wr, er, f, o, l, hd1, hp1⟩ := hd.cells
  have HDk := Lib.hid hd
  have HC := Lib.hid hc
  have HO := Lib.hid ho
  have HBn := Lib.hid hb
  have HA1 := Lib.hid ha1
  have HA2 := Lib.hid ha2
  have HX := Lib.hid (Ext.alloc w (.cells #[.int .i64 0, .int .i64 0, .int .i64 0] 134))
  have b0 := hD.cell 0 (v := .pointer (some ⟨D, 0, none⟩)) rfl
  have b1 := hK.cell 0 (v := .int .i64 k) rfl
  have b2 := hd1.cell 10 (v := .pointer (some ⟨n.C, 0, none⟩)) rfl
  have lb0 := hD.lt
  have lb1 := hK.lt
  have lb2 := hd1.lt
  have HBD := Lib.hid hD
  clear hd hd1 hp1 hc ho hb hD hK ha1 ha2
  go_enter Tryz.func112, Tryz.ntmps112
  go_wp2_with fail
  refine wp_region_ext [(0, true), (1, true), (2, true), (3, true), (4, true), (5, false), (6, true)] (by kernel_rfl) (by kernel_rfl) ?_
  iterate 5 ((first
   | refine ext_move rfl rfl (by rfl) (by rfl) ?_
   | refine ext_assign rfl rfl (by rfl) (by rfl) ?_
   | refine ext_pick_t rfl rfl (by rfl) (by rfl) (by rfl) ?_
   | refine ext_pick_f rfl rfl (by rfl) (by rfl) (by rfl) ?_
   | (apply ext_take rfl (by rfl)
      · intro w' hS
        have hSc := hS.cells
        (try simp only [World.size_drew, World.cell?_drew] at hSc)
        go_simp
        (try simp (disch := omega) only [i64_id, u64_id, ↓IntWalk.iteOmega, Int.tdiv_eq_ediv_of_nonneg, Int.tmod_eq_emod_of_nonneg])
        try rfl)
   | refine ext_pass rfl (by rfl) ?_); simp only [Act.put, setZa, setZ0, setZ1])
  (refine ext_store rfl (by rfl) (by kernel_rfl) (fun K hK => ?_)
   go_simp
   go_at_call 113
   have hx0 : Ext w (w.alloc (.cells #[.int .i64 0, .int .i64 0, .int .i64 0] 134)).drew := HX.out.trans (Ext.drew _)
   refine (cerase_any B n A1 A2 pv gs k hk hll _ (HC.out.ext (by first | exact hx0 | exact HX.out)) HA2.out (ownsRow_chg (Chg.ext (B := 0) (T := []) (by first | exact hx0 | exact HX.out) (Nat.zero_le _)) HO.out (by simp)) (by first | exact Nat.le_trans hBw hx0.size | exact Nat.le_trans hBw HX.out.size) (HBn.out.chg (Chg.ext (B := 0) (T := []) (by first | exact hx0 | exact HX.out) (Nat.zero_le _)) (by simp))).mono ?_
   rintro e W1 ⟨rfl, ⟨A2', pv', g, hb2, hc2, ho2, hbn2⟩, hch⟩
   have HP1 : Hid (∃ g, Ph B W1 D P n (gs ++ [g])) := Lib.hid ⟨g, HDk.out.ext (by first | exact hx0 | exact HX.out) |>.chg hch (by decide) (by decide), ⟨A1, A2', pv', HA1.out, hb2, hc2, ho2⟩, hbn2⟩
   have HC1 : Hid (Chg B TTd w W1) := Lib.hid ((Chg.ext (by first | exact hx0 | exact HX.out) hBw).trans (hch.wide (by decide)))
   have HBD1 := Lib.hid ((HBD.out.ext (by first | exact hx0 | exact HX.out)).chg hch (by decide))
   refine hK _ _ ?_
   clear hK K hch hb2 hc2 ho2 hbn2 HX
   (try simp only [Act.put, setZa, setZ0, setZ1]))
  iterate 1 ((first
   | refine ext_move rfl rfl (by rfl) (by rfl) ?_
   | refine ext_assign rfl rfl (by rfl) (by rfl) ?_
   | refine ext_pick_t rfl rfl (by rfl) (by rfl) (by rfl) ?_
   | refine ext_pick_f rfl rfl (by rfl) (by rfl) (by rfl) ?_
   | (apply ext_take rfl (by rfl)
      · intro w' hS
        have hSc := hS.cells
        (try simp only [World.size_drew, World.cell?_drew] at hSc)
        go_simp
        (try simp (disch := omega) only [i64_id, u64_id, ↓IntWalk.iteOmega, Int.tdiv_eq_ediv_of_nonneg, Int.tmod_eq_emod_of_nonneg])
        try rfl)
   | refine ext_pass rfl (by rfl) ?_); simp only [Act.put, setZa, setZ0, setZ1])
  refine ext_nil ?_
  obtain ⟨g, hph⟩ := HP1.out
  obtain ⟨r2, wr2, er2, f2, o2, l2, hd2, hp2⟩ := hph.dsk.cells
  have HPH := Lib.hid hph
  have HD2 := Lib.hid hd2
  have HP2 := Lib.hid hp2
  have d0 := HBD1.out.cell 0 (v := .pointer (some ⟨D, 0, none⟩)) rfl
  have dl0 := HBD1.out.lt
  have d1 := hd2.cell 2 (v := .int .i64 er2) rfl
  have dl1 := hd2.lt
  clear b0 b1 b2 lb0 lb1 lb2 hph hd2 hp2
  go_wp2_with (refine wpList_store_cell 3 _ _ rfl (by rfl) rfl rfl (HD2.out) (by simp) (by kernel_rfl) rfl ?_; intro W3 hS3; have HS3 := Lib.hid hS3; clear hS3 d0 dl0 d1 dl1)
  go_ret
  have hcs : Chg B [140] W1 W3 := (Chg.refl _ _ _).stored HD2.out HS3.out (by simp) HDk.out.geD
  obtain ⟨_, ⟨A1', A2'', pv'', x1, x2, x3, x4⟩, x5⟩ := HPH.out
  exact ⟨rfl, ⟨g, ⟨⟨_, _, _, _, _, HS3.out.box⟩, ⟨_, HP2.out.chg hcs (by decide)⟩, HDk.out.geD, HDk.out.geP⟩, ⟨A1', A2'', pv'', x1, x2, x3.chg hcs (by decide) (by decide) (by decide), ownsRow_chg hcs x4 (by decide)⟩, x5.chg hcs (by decide)⟩, HC1.out.trans (hcs.wide (by decide))⟩
theorem Ph.of {B B' : Nat} {w w' : World} {D P : Nat} {n : Cn} {gs : List Nat} (h : Ph B w D P n gs) (hd : Dsk B w' D P n.C) (e : Chg B' [140, 124] w w') : Ph B w' D P n gs := by
  obtain ⟨h1, ⟨A1, A2, pv, a, b, c, d⟩, h3⟩ := h
  exact ⟨hd, ⟨A1, A2, pv, a, b, c.chg e (by decide) (by decide) (by decide), ownsRow_chg e d (by decide)⟩, h3.chg e (by decide)⟩
set_option maxHeartbeats 4000000 in
theorem derase_any (B D P : Nat) (n : Cn) (gs : List Nat) (k : Nat) (hk : k < 5) (hll : gs.length ≤ 1000) (w : World) (h : Ph B w D P n gs) (hBw : B ≤ w.heap.size) :
    Calls Tryz.prog 60 #[.pointer (some ⟨D, 0, none⟩), .int .u64 0, .int .i64 k] w fun e w' => e = .returned (.int .i64 0) ∧ (∃ g, Ph B w' D P n (gs ++ [g])) ∧ Chg B TTd w w' := by
  have hx1 : Ext w ((w.alloc (.cells #[.pointer (some ⟨D, 0, none⟩)] 68)).alloc (.cells #[.int .i64 k] 3)) := (Ext.alloc _ _).trans (Ext.alloc _ _)
  have hb0 := (BoxAt.new w #[.pointer (some ⟨D, 0, none⟩)] 68).ext (Ext.alloc _ (.cells #[.int .i64 k] 3))
  have hb1 := BoxAt.new (w.alloc (.cells #[.pointer (some ⟨D, 0, none⟩)] 68)) #[.int .i64 k] 3
  rw [World.size_alloc] at hb1
  have HX1 := Lib.hid hx1
  have HB0 := Lib.hid hb0
  have HB1 := Lib.hid hb1
  have HP := Lib.hid (h.ext hx1)
  have hz1 := hx1.size
  have HZ := Lib.hid hz1
  clear h hx1 hb0 hb1 hz1
  go_enter Tryz.func60, Tryz.ntmps60
  go_wp2_with (go_at_call 111; refine (perform_any 112 (enters_of Tryz.func112 (by kernel_rfl) rfl) #[.pointer (some ⟨w.heap.size, 0, none⟩), .pointer (some ⟨w.heap.size + 1, 0, none⟩)] B D P n.C _ HP.out.dsk (Nat.le_trans hBw HZ.out) (fun w' => (∃ g, Ph B w' D P n (gs ++ [g])) ∧ Chg B TTd w w') (fun w1 hd1 hc1 => (derase1_any B D P w.heap.size (w.heap.size + 1) n gs k hk hll w1 (HP.out.of hd1 hc1) (Nat.le_trans hBw (Nat.le_trans HZ.out hc1.size)) (HB0.out.chg hc1 (by decide)) (HB1.out.chg hc1 (by decide))).mono (fun e w' hp => ⟨hp.1, hp.2.1, (Chg.ext HX1.out hBw).trans ((hc1.wide (by decide)).trans hp.2.2)⟩))).mono ?_; rintro e W3 ⟨rfl, hR⟩; have HR := Lib.hid hR; clear hR)
  go_ret
  exact ⟨rfl, HR.out⟩
set_option maxHeartbeats 4000000 in
theorem dflush1_any (B D P gD : Nat) (n : Cn) (gs : List Nat) (m : Nat) (hm : gs.length = m) (hp : 0 < m) (hll : m ≤ 1000) (w : World) (h : Ph B w D P n gs) (hBw : B ≤ w.heap.size) (hD : BoxAt w gD #[.pointer (some ⟨D, 0, none⟩)] 68) :
    Calls Tryz.prog 114 #[fltV, .pointer (some ⟨gD, 0, none⟩)] w fun e w' => e = .returned (.int .i64 0) ∧ Ph B w' D P n [] ∧ Chg B TTd w w' := by
  obtain ⟨hd, ⟨A1, A2, pv, ha1, ha2, hc, ho⟩, hb⟩ := h
  obtain ⟨r, wr, er, f, o, l, hd1, hp1⟩ := hd.cells
  have HX := Lib.hid (Ext.alloc w (.cells #[.int .i64 0, .int .i64 0, .int .i64 0] 134))
  have h0 : Chg 0 [] w (w.alloc (.cells #[.int .i64 0, .int .i64 0, .int .i64 0] 134)) := Chg.ext HX.out (Nat.zero_le _)
  have hd' := hd.ext HX.out
  have hd1' := hd1.ext HX.out
  have hp1' := hp1.ext HX.out
  have HF := Lib.hid (cflush_any B n A1 A2 pv gs m hm hp hll _ (hc.ext HX.out) ha1 (ownsRow_chg h0 ho (by simp)) (Nat.le_trans hBw HX.out.size) (hb.chg h0 (by simp)))
  have HDk := Lib.hid hd'
  have HDb := Lib.hid hd1'
  have HPb := Lib.hid hp1'
  have HBD := Lib.hid (hD.ext HX.out)
  have HA2 := Lib.hid ha2
  have b0 := hD.cell 0 (v := .pointer (some ⟨D, 0, none⟩)) rfl
  have b2 := hd1.cell 10 (v := .pointer (some ⟨n.C, 0, none⟩)) rfl
  have lb0 := hD.lt
  have lb2 := hd1.lt
  clear hd hd1 hp1 hd' hd1' hp1' hc ho hb hD ha1 ha2 h0
  go_enter Tryz.func114, Tryz.ntmps114
  go_wp2_with first | (go_at_call 115; refine HF.out.mono ?_; rintro e W1 ⟨rfl, ⟨A1', h1, h2⟩, h3⟩; have H1 := Lib.hid h1; have H2 := Lib.hid h2; have H3 := Lib.hid h3; have hdd := HDb.out.chg h3 (by decide); have HD2 := Lib.hid hdd; have hbb := HBD.out.chg h3 (by decide); have d0 := hbb.cell 0 (v := .pointer (some ⟨D, 0, none⟩)) rfl; have dl0 := hbb.lt; have d1 := hdd.cell 3 (v := .int .i64 f) rfl; have dl1 := hdd.lt; clear h1 h2 h3 hdd hbb b0 b2 lb0 lb2) | (refine wpList_store_cell 3 _ _ rfl (by rfl) rfl rfl (HD2.out) (by simp) (by kernel_rfl) rfl ?_; intro W3 hS3; have HS3 := Lib.hid hS3; clear hS3 d0 dl0 d1 dl1)
  go_ret
  have hcs : Chg B [140] W1 W3 := (Chg.refl _ _ _).stored HD2.out HS3.out (by simp) HDk.out.geD
  exact ⟨rfl, ⟨⟨⟨_, _, _, _, _, HS3.out.box⟩, ⟨_, (HPb.out.chg H3.out (by decide)).chg hcs (by decide)⟩, HDk.out.geD, HDk.out.geP⟩, ⟨A1', A2, .slice none 0 0, H1.out, HA2.out, H2.out.chg hcs (by decide) (by decide) (by decide), World.ownsRow_nil _ _ _ _⟩, fun g hg => by cases hg⟩, (Chg.ext HX.out hBw).trans ((H3.out.wide (by decide)).trans (hcs.wide (by decide)))⟩
set_option maxHeartbeats 4000000 in
theorem dflush_any (B D P : Nat) (n : Cn) (gs : List Nat) (m : Nat) (hm : gs.length = m) (hp : 0 < m) (hll : m ≤ 1000) (w : World) (h : Ph B w D P n gs) (hBw : B ≤ w.heap.size) :
    Calls Tryz.prog 62 #[.pointer (some ⟨D, 0, none⟩), .int .u64 0] w fun e w' => e = .returned (.int .i64 0) ∧ Ph B w' D P n [] ∧ Chg B TTd w w' := by
  have hx1 : Ext w (w.alloc (.cells #[.pointer (some ⟨D, 0, none⟩)] 68)) := Ext.alloc _ _
  have hb0 := BoxAt.new w #[.pointer (some ⟨D, 0, none⟩)] 68
  have HX1 := Lib.hid hx1
  have HB0 := Lib.hid hb0
  have HP := Lib.hid (h.ext hx1)
  have hz1 := hx1.size
  have HZ := Lib.hid hz1
  have HM := Lib.hid hm
  clear h hx1 hb0 hz1 hm
  go_enter Tryz.func62, Tryz.ntmps62
  go_wp2_with (go_at_call 111; refine (perform_any 114 (enters_of Tryz.func114 (by kernel_rfl) rfl) #[.pointer (some ⟨w.heap.size, 0, none⟩)] B D P n.C _ HP.out.dsk (Nat.le_trans hBw HZ.out) (fun w' => Ph B w' D P n [] ∧ Chg B TTd w w') (fun w1 hd1 hc1 => (dflush1_any B D P w.heap.size n gs m HM.out hp hll w1 (HP.out.of hd1 hc1) (Nat.le_trans hBw (Nat.le_trans HZ.out hc1.size)) (HB0.out.chg hc1 (by decide))).mono (fun e w' hp => ⟨hp.1, hp.2.1, (Chg.ext HX1.out hBw).trans ((hc1.wide (by decide)).trans hp.2.2)⟩))).mono ?_; rintro e W3 ⟨rfl, hR⟩; have HR := Lib.hid hR; clear hR)
  go_ret
  exact ⟨rfl, HR.out⟩
end Go.Proofs.YtjabgpejmnpamaaGreatDoor

namespace Go.Proofs.YtjabgpejmnpamaaGreatDoor
open Go.RowKit Go.Shelf
set_option maxRecDepth 100000
set_option maxHeartbeats 4000000 in
theorem dnew_any (B P : Nat) (w : World) (hP : BoxAt w P (pwC 0) 124) (hB : B ≤ P) :
    Calls Tryz.prog 24 #[gV, .slice none 0 0, .pointer (some ⟨P, 0, none⟩)] w fun e w' => ∃ D n, e = .returned (.tuple #[.pointer (some ⟨D, 0, none⟩), .int .i64 0]) ∧ Ph B w' D P n [] ∧ Ext w w' := by
  have HP := Lib.hid hP
  have lP := hP.lt
  have hx0 := Ext.alloc w (.cells #[.int .i64 60, .int .i64 5, .int .i64 2, .int .i64 3, .int .i64 1] 24)
  have HG := Lib.hid (BoxAt.new w #[.int .i64 60, .int .i64 5, .int .i64 2, .int .i64 3, .int .i64 1] 24)
  have HX0 := Lib.hid hx0
  clear hP hx0
  go_enter Tryz.func24, Tryz.ntmps24
  go_wp2_with first | (go_at_call 53; refine (mnew_any _).mono ?_; rintro e W1 ⟨M, S, A, rfl, hbl, hmd, hx1⟩; have HBL := Lib.hid hbl; have HM := Lib.hid hmd; have HX1 := Lib.hid (HX0.out.trans hx1); have hG := HG.out.ext hx1; have HG1 := Lib.hid hG; have g0 := hG.cell 0 (v := .int .i64 60) rfl; have g1 := hG.cell 1 (v := .int .i64 5) rfl; have g2 := hG.cell 2 (v := .int .i64 2) rfl; have g3 := hG.cell 3 (v := .int .i64 3) rfl; have g4 := hG.cell 4 (v := .int .i64 1) rfl; have lg := hG.lt; clear hbl hmd hx1 hG) | (go_at_call 54; refine (fvalid_any _).mono ?_; rintro e W2 ⟨rfl, hx2⟩; have HM2 := Lib.hid (HM.out.ext hx2); have HX2 := Lib.hid (HX1.out.trans hx2); have hG := HG1.out.ext hx2; have f0 := hG.cell 0 (v := .int .i64 60) rfl; have f1 := hG.cell 1 (v := .int .i64 5) rfl; have f2 := hG.cell 2 (v := .int .i64 2) rfl; have f3 := hG.cell 3 (v := .int .i64 3) rfl; have f4 := hG.cell 4 (v := .int .i64 1) rfl; have lg2 := hG.lt; have hP2 := HP.out.ext HX2.out; have p3 := hP2.cell 3 (v := .int .i64 0) rfl; have lp2 := hP2.lt; clear hx2 hG hP2 g0 g1 g2 g3 g4 lg)
  refine wp_region_ext [(0, true), (1, true), (3, true), (5, true), (6, true), (7, true), (8, true), (9, true), (2, false), (4, false), (10, true), (11, false), (12, true), (13, true)] (by kernel_rfl) (by kernel_rfl) ?_
  iterate 8 ((first
   | refine ext_move rfl rfl (by rfl) (by rfl) ?_
   | refine ext_assign rfl rfl (by rfl) (by rfl) ?_
   | refine ext_pick_t rfl rfl (by rfl) (by rfl) (by rfl) ?_
   | refine ext_pick_f rfl rfl (by rfl) (by rfl) (by rfl) ?_
   | (apply ext_take rfl (by rfl)
      · intro w' hS
        have hSc := hS.cells
        (try simp only [World.size_drew, World.cell?_drew] at hSc)
        go_simp
        (try simp (disch := omega) only [i64_id, u64_id, ↓IntWalk.iteOmega, Int.tdiv_eq_ediv_of_nonneg, Int.tmod_eq_emod_of_nonneg])
        try rfl)
   | refine ext_pass rfl (by rfl) ?_); simp only [Act.put, setZa, setZ0, setZ1])
  (refine ext_do rfl (by rfl) (fun K hK => ?_)
   go_simp
   go_at_call 55
   refine (cnew_any _ M S 90 A _ (HM2.out.ext (by first | exact Ext.refl _ | exact Ext.drew _)) HBL.out).mono ?_
   rintro e W3 ⟨n, A1, A2, rfl, hb1, hb2, hc3, hx3⟩
   have HX3 : Hid (Ext W2 W3) := Lib.hid (Ext.trans (by first | exact Ext.refl _ | exact Ext.drew _) hx3)
   have HB1 := Lib.hid hb1
   have HB2 := Lib.hid hb2
   have HC3 := Lib.hid hc3
   refine hK _ _ (by first | exact hx3 | exact HX3.out) ?_
   clear hK K hb1 hb2 hc3 hx3
   (try simp only [Act.put, setZa, setZ0, setZ1]))
  (refine ext_do rfl (by rfl) (fun K hK => ?_)
   go_simp
   go_at_call 56
   refine (fclone_any _).mono ?_
   rintro e W4 ⟨rfl, hx4⟩
   have HX4 := Lib.hid hx4
   refine hK _ _ hx4 ?_
   clear hK K hx4
   (try simp only [Act.put, setZa, setZ0, setZ1]))
  iterate 1 ((first
   | refine ext_move rfl rfl (by rfl) (by rfl) ?_
   | refine ext_assign rfl rfl (by rfl) (by rfl) ?_
   | refine ext_pick_t rfl rfl (by rfl) (by rfl) (by rfl) ?_
   | refine ext_pick_f rfl rfl (by rfl) (by rfl) (by rfl) ?_
   | (apply ext_take rfl (by rfl)
      · intro w' hS
        have hSc := hS.cells
        (try simp only [World.size_drew, World.cell?_drew] at hSc)
        go_simp
        (try simp (disch := omega) only [i64_id, u64_id, ↓IntWalk.iteOmega, Int.tdiv_eq_ediv_of_nonneg, Int.tmod_eq_emod_of_nonneg])
        try rfl)
   | refine ext_pass rfl (by rfl) ?_); simp only [Act.put, setZa, setZ0, setZ1])
  (refine ext_do rfl (by rfl) (fun K hK => ?_)
   go_simp
   refine hK _ _ (by first | exact Ext.alloc _ _ | exact (Ext.drew _).trans (Ext.alloc _ _)) ?_
   clear hK K
   (try simp only [Act.put, setZa, setZ0, setZ1]))
  iterate 2 ((first
   | refine ext_move rfl rfl (by rfl) (by rfl) ?_
   | refine ext_assign rfl rfl (by rfl) (by rfl) ?_
   | refine ext_pick_t rfl rfl (by rfl) (by rfl) (by rfl) ?_
   | refine ext_pick_f rfl rfl (by rfl) (by rfl) (by rfl) ?_
   | (apply ext_take rfl (by rfl)
      · intro w' hS
        have hSc := hS.cells
        (try simp only [World.size_drew, World.cell?_drew] at hSc)
        go_simp
        (try simp (disch := omega) only [i64_id, u64_id, ↓IntWalk.iteOmega, Int.tdiv_eq_ediv_of_nonneg, Int.tmod_eq_emod_of_nonneg])
        try rfl)
   | refine ext_pass rfl (by rfl) ?_); simp only [Act.put, setZa, setZ0, setZ1])
  refine ext_nil ?_
  go_wp2_with fail
  go_ret2
  have hx := (HX3.out.trans HX4.out).trans (Ext.alloc W4 (.cells (dkC 0 0 0 0 0 n.C P) 140))
  have hz2 := HX2.out.size
  have hz4 := (HX3.out.trans HX4.out).size
  have hzm : W2.heap.size ≤ W2.drew.heap.size := Nat.le_refl _
  refine ⟨W4.heap.size, n, rfl, ⟨⟨⟨0, 0, 0, 0, 0, BoxAt.new W4 _ _⟩, ⟨0, (HP.out.ext HX2.out).ext hx⟩, by omega, hB⟩, ⟨A1, A2, .slice none 0 0, HB1.out, HB2.out, ((HC3.out.lower ?_).ext HX4.out).ext (Ext.alloc _ _), World.ownsRow_nil _ _ _ _⟩, fun g hg => by cases hg⟩, HX2.out.trans hx⟩
  have : B ≤ W2.heap.size := by omega
  exact this
end Go.Proofs.YtjabgpejmnpamaaGreatDoor

namespace Go.Proofs.YtjabgpejmnpamaaGreatDoor
open Go.RowKit Go.Shelf
set_option maxRecDepth 100000
def Wrt (l : List (BitVec 8)) (A : Array Value) (w : World) : Prop := ∃ v bb, A[120]? = some (.int .i64 1) ∧ A[121]? = some v ∧ OwnB w bb v l
theorem Wrt.chg {l : List (BitVec 8)} {A : Array Value} {B : Nat} {T : List TypeId} {w w' : World} (h : Wrt l A w) (e : Chg B T w w') (ht : 5 ∉ T) : Wrt l A w' := by
  obtain ⟨v, bb, h1, h2, h3⟩ := h
  exact ⟨v, bb, h1, h2, ownsRow_chg e h3 ht⟩
structure Pw (B : Nat) (w : World) (D P : Nat) (n : Cn) (l : List (BitVec 8)) : Prop where
  dsk : Dsk B w D P n.C
  csh : ∃ A1 A2 pv, Csh B w n A1 A2 pv ∧ Wrt l A2 w
theorem Pw.chg {B B' : Nat} {T : List TypeId} {w w' : World} {D P : Nat} {n : Cn} {l : List (BitVec 8)} (h : Pw B w D P n l) (e : Chg B' T w w') (hT : ∀ t, t ∈ T → t ∉ [140, 124, 270, 208, 204, 5]) : Pw B w' D P n l := by
  obtain ⟨h1, ⟨A1, A2, pv, c, d⟩⟩ := h
  have k := fun t (ht : t ∈ [140, 124, 270, 208, 204, 5]) => fun (hm : t ∈ T) => hT t hm ht
  exact ⟨h1.chg e (k _ (by simp)) (k _ (by simp)), ⟨A1, A2, pv, c.chg e (k _ (by simp)) (k _ (by simp)) (k _ (by simp)), d.chg e (k _ (by simp))⟩⟩
theorem Pw.ext {B : Nat} {w w' : World} {D P : Nat} {n : Cn} {l : List (BitVec 8)} (h : Pw B w D P n l) (e : Ext w w') : Pw B w' D P n l := h.chg (Chg.ext (B := 0) (T := []) e (Nat.zero_le _)) (by simp)
theorem Pw.of {B B' : Nat} {w w' : World} {D P : Nat} {n : Cn} {l : List (BitVec 8)} (h : Pw B w D P n l) (hd : Dsk B w' D P n.C) (e : Chg B' [140, 124] w w') : Pw B w' D P n l := by
  obtain ⟨h1, ⟨A1, A2, pv, c, d⟩⟩ := h
  exact ⟨hd, ⟨A1, A2, pv, c.chg e (by decide) (by decide) (by decide), d.chg e (by decide)⟩⟩
theorem OwnB.ext0 {w w' : World} {bb : Nat} {v : Value} {l : List (BitVec 8)} (h : OwnB w bb v l) (e : Ext w w') : OwnB w' bb v l := ownsRow_chg (Chg.ext (B := 0) (T := []) e (Nat.zero_le _)) h (by simp)
set_option maxHeartbeats 1000000 in
theorem write1_any (B M S c gA gB bb : Nat) (A : Array Value) (v : Value) (l : List (BitVec 8)) (hll : l.length ≤ 64) (w : World) (h : Med B w M S c A) (hB : B ≤ w.heap.size) (hA : BoxAt w gA #[.int .i64 60] 3) (hV : BoxAt w gB #[v] 47) (ho : OwnB w bb v l) :
    Calls Tryz.prog 250 #[.pointer (some ⟨M, 0, none⟩), .pointer (some ⟨gA, 0, none⟩), .pointer (some ⟨gB, 0, none⟩)] w fun e w' => e = .returned (.int .i64 0) ∧ (∃ A', Wrt l A' w' ∧ Med B w' M S c A') ∧ Sct B S w w' := by
  have HM := Lib.hid h
  have HO := Lib.hid (OwnB.slice ho)
  obtain ⟨va, vc, rfl⟩ := own_shape ho
  have c0 := hA.cell 0 (v := .int .i64 60) rfl
  have hl := hA.lt
  have c1 := hV.cell 0 rfl
  have hl1 := hV.lt
  clear h hA hV ho
  go_enter Tryz.func250, Tryz.ntmps250
  go_wp2_with (go_at_call 251; refine (mwrite_any B M S c A (.slice va l.length vc) l hll _ HM.out HO.out hB).mono ?_; rintro e W1 ⟨rfl, ⟨A', v', h1, h2, h3, h4⟩, h5⟩; have H3 := Lib.hid (show Wrt l A' W1 from ⟨v', _, h1, h2, h4⟩); have H4 := Lib.hid h3; have H5 := Lib.hid h5; clear h1 h2 h3 h4 h5)
  go_ret
  exact ⟨rfl, ⟨A', H3.out, H4.out⟩, H5.out⟩
set_option maxHeartbeats 4000000 in
theorem cwrite_any (B bb : Nat) (n : Cn) (A1 A2 : Array Value) (pv v : Value) (ops : List Value) (l : List (BitVec 8)) (hll : l.length ≤ 64) (hlo : ops.length ≤ 1000) (w : World) (h : Csh B w n A1 A2 pv) (ho : OwnO w B pv ops) (hBw : B ≤ w.heap.size) (hv : OwnB w bb v l) :
    Calls Tryz.prog 223 #[.pointer (some ⟨n.C, 0, none⟩), .int .i64 60, v] w fun e w' => e = .returned (.int .i64 0) ∧
      (∃ A2' pv', Wrt l A2' w' ∧ Csh B w' n A1 A2' pv') ∧ Chg B [270, 208, 310] w w' := by
  obtain ⟨va, vc, rfl⟩ := own_shape hv
  obtain ⟨k, hk⟩ : ∃ k, l.length = k := ⟨_, rfl⟩
  have hx := (Ext.alloc w (.cells #[.int .i64 60] 3)).trans (Ext.alloc _ (.cells #[.slice va l.length vc] 47))
  have hbA := (BoxAt.new w #[.int .i64 60] 3).ext (Ext.alloc _ (.cells #[.slice va l.length vc] 47))
  have hbV := BoxAt.new (w.alloc (.cells #[.int .i64 60] 3)) #[.slice va l.length vc] 47
  rw [World.size_alloc] at hbV
  have hz := hx.size
  rw [hk] at hx hbA hbV hz
  have HX := Lib.hid hx
  have HBA := Lib.hid hbA
  have HBV := Lib.hid hbV
  have HC := Lib.hid h
  have HO := Lib.hid ho
  have HV := Lib.hid (OwnB.ext0 hv hx)
  have HZ := Lib.hid hz
  have HK := Lib.hid hk
  clear hx hbA hbV h ho hv hz hk
  have HK2 := HK.out
  rw [HK.out] at HV
  go_enter Tryz.func223, Tryz.ntmps223
  rw [HK.out]
  go_wp2_with first | (go_at_call 122; refine (clone_any (.slice va k vc) l _ (by omega) (OwnB.slice HV.out)).mono ?_; rintro e W3 ⟨v', rfl, hO3, hx3⟩; obtain ⟨va3, vc3, rfl⟩ := own_shape hO3; rw [HK.out] at hO3 ⊢; have HO3 := Lib.hid hO3; have HB3 := Lib.hid (HBV.out.ext hx3); have HA3 := Lib.hid (HBA.out.ext hx3); have HX3 := Lib.hid (HX.out.trans hx3); have lb3 := HB3.out.lt; have fb3 := HB3.out.cell 0 (v := .slice va k vc) rfl; clear hO3 hx3) | (refine wpList_store_cell 47 _ _ rfl (by rfl) rfl rfl (HB3.out) (by simp) (by kernel_rfl) rfl ?_; intro W4 hS; have HS := Lib.hid hS; have HX4 := Lib.hid (show Ext w W4 from hS.bel HX3.out (Nat.le_succ _)); have HO4 := Lib.hid (ownsRow_chg ((Chg.refl 0 [47] W3).stored HB3.out hS (by simp) (Nat.zero_le _)) HO3.out (by decide)); have HA4 := Lib.hid (hS.keep HA3.out (by omega)); clear hS fb3 lb3) | (go_at_call 163; refine (do_any 250 (enters_of Tryz.func250 (by kernel_rfl) rfl) #[.pointer (some ⟨w.heap.size, 0, none⟩), .pointer (some ⟨w.heap.size + 1, 0, none⟩)] B n A1 A2 pv ops hlo _ (HC.out.ext HX4.out) (ownsRow_chg (Chg.ext (B := 0) (T := []) HX4.out (Nat.zero_le _)) HO.out (by simp)) (Nat.le_trans hBw HX4.out.size) (fun A w => Wrt l A w) (fun A a b h e => h.chg e (by decide)) (write1_any B n.M2 n.S2 n.c2 w.heap.size (w.heap.size + 1) _ A2 _ l hll _ (HC.out.m2.ext HX4.out) (Nat.le_trans hBw HX4.out.size) HA4.out HS.out.box HO4.out)).mono ?_; rintro e W5 ⟨rfl, ⟨A2', pv', h1, h2, h3⟩, h4⟩; have H1 := Lib.hid h1; have H2 := Lib.hid h2; have H4 := Lib.hid h4; clear h1 h2 h3 h4)
  go_ret
  exact ⟨rfl, ⟨A2', pv', H1.out, H2.out⟩, (Chg.ext HX4.out hBw).trans H4.out⟩
end Go.Proofs.YtjabgpejmnpamaaGreatDoor

namespace Go.Proofs.YtjabgpejmnpamaaGreatDoor
open Go.RowKit Go.Shelf
set_option maxRecDepth 100000
set_option maxHeartbeats 1000000 in
theorem dhas_any (B D P C : Nat) (w : World) (h : Dsk B w D P C) :
    Calls Tryz.prog 222 #[.pointer (some ⟨D, 0, none⟩), .int .i64 60] w fun e w' => e = .returned (.bool true) ∧ Ext w w' := by
  obtain ⟨⟨r, wr, er, f, o, h1⟩, ⟨l, h2⟩, _, _⟩ := h
  have c5 := h1.cell 5 (v := .int .i64 60) rfl
  have c6 := h1.cell 6 (v := .int .i64 5) rfl
  have c7 := h1.cell 7 (v := .int .i64 2) rfl
  have c8 := h1.cell 8 (v := .int .i64 3) rfl
  have c9 := h1.cell 9 (v := .int .i64 1) rfl
  have hl := h1.lt
  clear h1 h2
  go_enter Tryz.func222, Tryz.ntmps222
  go_wp2_with (go_at_call 106; refine (ssize_any _).mono ?_; rintro e W1 ⟨rfl, hx1⟩)
  go_ret
  exact ⟨rfl, hx1⟩
set_option maxHeartbeats 4000000 in
theorem dwrite1_any (B D P gD gA gV gF bb : Nat) (n : Cn) (v : Value) (l : List (BitVec 8)) (hll : l.length ≤ 64) (w : World) (h : Ph B w D P n []) (hBw : B ≤ w.heap.size) (hD : BoxAt w gD #[.pointer (some ⟨D, 0, none⟩)] 68) (hA : BoxAt w gA #[.int .i64 60] 3) (hV : BoxAt w gV #[v] 47) (hF : BoxAt w gF #[.bool false] 4) (hv : OwnB w bb v l) :
    Calls Tryz.prog 221 #[fltV, .pointer (some ⟨gD, 0, none⟩), .pointer (some ⟨gA, 0, none⟩), .pointer (some ⟨gV, 0, none⟩), .pointer (some ⟨gF, 0, none⟩)] w fun e w' => e = .returned (.int .i64 0) ∧ Pw B w' D P n l ∧ Chg B TTd w w' := by
  obtain ⟨va, vc, rfl⟩ := own_shape hv
  obtain ⟨k, hk⟩ : ∃ k, l.length = k := ⟨_, rfl⟩
  rw [hk] at hv hV
  have hk64 : (k : Int) ≤ 64 := by omega
  obtain ⟨hd, ⟨A1, A2, pv, ha1, ha2, hc, ho⟩, hb⟩ := h
  have hx : Ext w (w.alloc (.cells #[.int .i64 0, .int .i64 0, .int .i64 0] 134)) := Ext.alloc _ _
  have HX := Lib.hid hx
  have HFl := Lib.hid (BoxAt.new w #[.int .i64 0, .int .i64 0, .int .i64 0] 134)
  have HD := Lib.hid (hD.ext hx)
  have HA := Lib.hid (hA.ext hx)
  have HV := Lib.hid (hV.ext hx)
  have HF := Lib.hid (hF.ext hx)
  have HO := Lib.hid (OwnB.ext0 hv hx)
  have HDk := Lib.hid (hd.ext hx)
  have HC := Lib.hid (hc.ext hx)
  have HOp := Lib.hid (ownsRow_chg (Chg.ext (B := 0) (T := []) hx (Nat.zero_le _)) ho (by simp))
  have HK := Lib.hid hk
  have b0 := hD.cell 0 (v := .pointer (some ⟨D, 0, none⟩)) rfl
  have b1 := hA.cell 0 (v := .int .i64 60) rfl
  have lb0 := hD.lt
  have lb1 := hA.lt
  clear hx hD hA hV hF hv hd hc ho hb ha1 ha2
  go_enter Tryz.func221, Tryz.ntmps221
  go_wp2_with (go_at_call 222; refine (dhas_any B D P n.C _ HDk.out).mono ?_; rintro e W1 ⟨rfl, hx1⟩; have HX1 := Lib.hid (HX.out.trans hx1); have HXA := Lib.hid hx1; have hDk1 := HDk.out.ext hx1; obtain ⟨r, wr, er, f, o, l2, hd1, hp1⟩ := hDk1.cells; have c0 := (HD.out.ext hx1).cell 0 (v := .pointer (some ⟨D, 0, none⟩)) rfl; have lc0 := (HD.out.ext hx1).lt; have c1 := (HA.out.ext hx1).cell 0 (v := .int .i64 60) rfl; have lc1 := (HA.out.ext hx1).lt; have c2 := (HV.out.ext hx1).cell 0 (v := .slice va k vc) rfl; have lc2 := (HV.out.ext hx1).lt; have c3 := (HF.out.ext hx1).cell 0 (v := .bool false) rfl; have lc3 := (HF.out.ext hx1).lt; have c4 := (HFl.out.ext hx1).cell 1 (v := .int .i64 0) rfl; have lc4 := (HFl.out.ext hx1).lt; have c5 := hd1.cell 10 (v := .pointer (some ⟨n.C, 0, none⟩)) rfl; have lc5 := hd1.lt; have HD1 := Lib.hid hd1; have HP1 := Lib.hid hp1; have HF1 := Lib.hid (HF.out.ext hx1); have HDB := Lib.hid (HD.out.ext hx1); clear hx1 hDk1 hd1 hp1 b0 b1 lb0 lb1)
  refine wp_region_ext [(0, true), (1, true), (2, true), (3, true)] (by kernel_rfl) (by kernel_rfl) ?_
  iterate 4 ((first
   | refine ext_move rfl rfl (by rfl) (by rfl) ?_
   | refine ext_assign rfl rfl (by rfl) (by rfl) ?_
   | refine ext_pick_t rfl rfl (by rfl) (by rfl) (by rfl) ?_
   | refine ext_pick_f rfl rfl (by rfl) (by rfl) (by rfl) ?_
   | (apply ext_take rfl (by rfl)
      · intro w' hS
        have hSc := hS.cells
        (try simp only [World.size_drew, World.cell?_drew] at hSc)
        go_simp
        (try simp (disch := omega) only [i64_id, u64_id, ↓IntWalk.iteOmega, Int.tdiv_eq_ediv_of_nonneg, Int.tmod_eq_emod_of_nonneg])
        try rfl)
   | refine ext_pass rfl (by rfl) ?_); simp only [Act.put, setZa, setZ0, setZ1])
  refine ext_nil ?_
  have HX2 := Lib.hid (HX1.out.trans (Ext.drew W1))
  have HXB := Lib.hid (HXA.out.trans (Ext.drew W1))
  go_wp2_with first | (go_at_call 223; go_loud (refine (cwrite_any B bb n A1 A2 pv (.slice va k vc) ([].map opE) l hll (by simp) _ (HC.out.ext HXB.out) (ownsRow_chg (Chg.ext (B := 0) (T := []) HXB.out (Nat.zero_le _)) HOp.out (by simp)) (Nat.le_trans hBw HX2.out.size) (OwnB.ext0 HO.out HXB.out)).mono ?_); rintro e W3 ⟨rfl, ⟨A2', pv', h1, h2⟩, h3⟩; have H1 := Lib.hid h1; have H2 := Lib.hid h2; have H3 := Lib.hid h3; have hd3 := (HD1.out.ext (Ext.drew W1)).chg h3 (by decide); have HD3 := Lib.hid hd3; have hb3 := (HDB.out.ext (Ext.drew W1)).chg h3 (by decide); have e0 := hb3.cell 0 (v := .pointer (some ⟨D, 0, none⟩)) rfl; have le0 := hb3.lt; have e1 := hd3.cell 1 (v := .int .i64 wr) rfl; have le1 := hd3.lt; have hf3 := (HF1.out.ext (Ext.drew W1)).chg h3 (by decide); have e2 := hf3.cell 0 (v := .bool false) rfl; have le2 := hf3.lt; clear h1 h2 h3 hd3 hb3 hf3 c0 c1 c2 c3 c4 c5 lc0 lc1 lc2 lc3 lc4 lc5) | (refine wpList_store_cell 3 _ _ rfl (by rfl) rfl rfl (HD3.out) (by simp) (by kernel_rfl) rfl ?_; intro W4 hS; have HS4 := Lib.hid hS; clear hS e0 le0 e1 le1 e2 le2)
  go_ret
  have hcs : Chg B [140] W3 W4 := (Chg.refl _ _ _).stored HD3.out HS4.out (by simp) HDk.out.geD
  refine ⟨rfl, ⟨⟨⟨_, _, _, _, _, HS4.out.box⟩, ⟨_, ((HP1.out.ext (Ext.drew W1)).chg H3.out (by decide)).chg hcs (by decide)⟩, HDk.out.geD, HDk.out.geP⟩, ⟨A1, A2', pv', H2.out.chg hcs (by decide) (by decide) (by decide), H1.out.chg hcs (by decide)⟩⟩, (Chg.ext HX2.out hBw).trans ((H3.out.wide (by decide)).trans (hcs.wide (by decide)))⟩
abbrev wrW (w : World) (D : Nat) (v : Value) : World := (((w.alloc (.cells #[.pointer (some ⟨D, 0, none⟩)] 68)).alloc (.cells #[.int .i64 60] 3)).alloc (.cells #[v] 47)).alloc (.cells #[.bool false] 4)
theorem wrW_ext (w : World) (D : Nat) (v : Value) : Ext w (wrW w D v) := ((((Ext.alloc _ _).trans (Ext.alloc _ _)).trans (Ext.alloc _ _)).trans (Ext.alloc _ _))
theorem wrW_0 (w : World) (D : Nat) (v : Value) : BoxAt (wrW w D v) w.heap.size #[.pointer (some ⟨D, 0, none⟩)] 68 := (BoxAt.new w _ _).ext (((Ext.alloc _ _).trans (Ext.alloc _ _)).trans (Ext.alloc _ _))
theorem wrW_1 (w : World) (D : Nat) (v : Value) : BoxAt (wrW w D v) (w.heap.size + 1) #[.int .i64 60] 3 := by
  have h := (BoxAt.new (w.alloc (.cells #[.pointer (some ⟨D, 0, none⟩)] 68)) #[.int .i64 60] 3).ext ((Ext.alloc _ (.cells #[v] 47)).trans (Ext.alloc _ (.cells #[.bool false] 4)))
  rwa [World.size_alloc] at h
theorem wrW_2 (w : World) (D : Nat) (v : Value) : BoxAt (wrW w D v) (w.heap.size + 2) #[v] 47 := by
  have h := (BoxAt.new ((w.alloc (.cells #[.pointer (some ⟨D, 0, none⟩)] 68)).alloc (.cells #[.int .i64 60] 3)) #[v] 47).ext (Ext.alloc _ (.cells #[.bool false] 4))
  rwa [World.size_alloc, World.size_alloc] at h
theorem wrW_3 (w : World) (D : Nat) (v : Value) : BoxAt (wrW w D v) (w.heap.size + 3) #[.bool false] 4 := by
  have h := BoxAt.new (((w.alloc (.cells #[.pointer (some ⟨D, 0, none⟩)] 68)).alloc (.cells #[.int .i64 60] 3)).alloc (.cells #[v] 47)) #[.bool false] 4
  rwa [World.size_alloc, World.size_alloc, World.size_alloc] at h
set_option maxHeartbeats 4000000 in
theorem dwrite_any (B D P bb : Nat) (n : Cn) (v : Value) (l : List (BitVec 8)) (hll : l.length ≤ 64) (w : World) (h : Ph B w D P n []) (hBw : B ≤ w.heap.size) (hv : OwnB w bb v l) :
    Calls Tryz.prog 181 #[.pointer (some ⟨D, 0, none⟩), .int .u64 0, .int .i64 60, v, .bool false] w fun e w' => e = .returned (.int .i64 0) ∧ Pw B w' D P n l ∧ Chg B TTd w w' := by
  obtain ⟨va, vc, hvv⟩ := own_shape hv
  obtain ⟨k, hk⟩ : ∃ k, l.length = k := ⟨_, rfl⟩
  rw [hk] at hvv
  subst hvv
  have HX1 := Lib.hid (wrW_ext w D (.slice va k vc))
  have HP := Lib.hid (h.ext HX1.out)
  have HV := Lib.hid (OwnB.ext0 hv HX1.out)
  have HZ := Lib.hid HX1.out.size
  clear h hv hk
  go_enter Tryz.func181, Tryz.ntmps181
  go_wp2_with (go_at_call 111; go_loud (refine (perform_any 221 (enters_of Tryz.func221 (by kernel_rfl) rfl) #[.pointer (some ⟨w.heap.size, 0, none⟩), .pointer (some ⟨w.heap.size + 1, 0, none⟩), .pointer (some ⟨w.heap.size + 2, 0, none⟩), .pointer (some ⟨w.heap.size + 3, 0, none⟩)] B D P n.C _ HP.out.dsk (Nat.le_trans hBw HZ.out) (fun w' => Pw B w' D P n l ∧ Chg B TTd w w') (fun w1 hd1 hc1 => (dwrite1_any B D P w.heap.size (w.heap.size + 1) (w.heap.size + 2) (w.heap.size + 3) bb n (.slice va k vc) l hll w1 (HP.out.of hd1 hc1) (Nat.le_trans hBw (Nat.le_trans HZ.out hc1.size)) ((wrW_0 w D (.slice va k vc)).chg hc1 (by decide)) ((wrW_1 w D (.slice va k vc)).chg hc1 (by decide)) ((wrW_2 w D (.slice va k vc)).chg hc1 (by decide)) ((wrW_3 w D (.slice va k vc)).chg hc1 (by decide)) (ownsRow_chg hc1 HV.out (by decide))).mono (fun e w' hp => ⟨hp.1, hp.2.1, (Chg.ext HX1.out hBw).trans ((hc1.wide (by decide)).trans hp.2.2)⟩))).mono ?_); rintro e W3 ⟨rfl, hR⟩; have HR := Lib.hid hR; clear hR)
  go_ret
  exact ⟨rfl, HR.out⟩
end Go.Proofs.YtjabgpejmnpamaaGreatDoor

namespace Go.Proofs.YtjabgpejmnpamaaGreatDoor
open Go.RowKit Go.Shelf
set_option maxRecDepth 100000
structure Chx (B : Nat) (T : List TypeId) (x : Nat) (w w' : World) : Prop where
  bel : Below B w w'
  box : ∀ k cs t, k ≠ x → BoxAt w k cs t → t ∉ T → BoxAt w' k cs t
theorem Chg.chx {B : Nat} {T : List TypeId} {w w' : World} (h : Chg B T w w') (x : Nat) : Chx B T x w w' := ⟨h.bel, fun k cs t _ => h.box k cs t⟩
theorem Chx.trans {B x : Nat} {T : List TypeId} {a b c : World} (h : Chx B T x a b) (k : Chx B T x b c) : Chx B T x a c := ⟨h.bel.trans k.bel, fun g cs t hg hb ht => k.box g cs t hg (h.box g cs t hg hb ht) ht⟩
theorem Stored.chx {B g : Nat} {T : List TypeId} {cells : Array Value} {t : TypeId} {a b : World} (h : Stored a b g cells t) (hg : B ≤ g) : Chx B T g a b := ⟨h.bel (Below.refl _ _) hg, fun k cs t' hk hb _ => h.keep hb hk⟩
theorem Chx.fresh {B x : Nat} {T : List TypeId} {a b c : World} (h : Chg B T a b) (k : Chx B T x b c) (hx : a.heap.size ≤ x) : Chg B T a c := ⟨h.bel.trans k.bel, fun g cs t hb ht => k.box g cs t (by have := hb.lt; omega) (h.box g cs t hb ht) ht⟩
set_option maxHeartbeats 1000000 in
theorem cread_any (B : Nat) (n : Cn) (A1 A2 : Array Value) (pv : Value) (l : List (BitVec 8)) (hll : l.length ≤ 64) (w : World) (h : Csh B w n A1 A2 pv) (hw : Wrt l A2 w) :
    Calls Tryz.prog 226 #[.pointer (some ⟨n.C, 0, none⟩), .int .i64 60] w fun e w' => ∃ v', e = .returned (.tuple #[v', .int .i64 0]) ∧ OwnB w' w.heap.size v' l ∧ Ext w w' := by
  obtain ⟨v, bb, h1, h2, h3⟩ := hw
  have HM := Lib.hid h.m2
  have HO := Lib.hid h3
  have H1 := Lib.hid h1
  have H2 := Lib.hid h2
  have c1 := h.box.cell 1 (v := .pointer (some ⟨n.M2, 0, none⟩)) rfl
  have hl := h.box.lt
  clear h h1 h2 h3
  go_enter Tryz.func226, Tryz.ntmps226
  go_wp2_with (go_at_call 252; refine (mread_any B bb n.M2 n.S2 n.c2 A2 v l hll _ HM.out H1.out H2.out HO.out).mono ?_; rintro e W1 ⟨v', rfl, hO1, hx1⟩; have HO1 := Lib.hid hO1; have HX1 := Lib.hid hx1; clear hO1 hx1)
  go_ret2
  exact ⟨v', rfl, HO1.out, HX1.out⟩
set_option maxHeartbeats 4000000 in
theorem dread1_any (B D P gD gA gO : Nat) (x0 : Value) (n : Cn) (l : List (BitVec 8)) (hll : l.length ≤ 64) (w : World) (h : Pw B w D P n l) (hBw : B ≤ w.heap.size) (hD : BoxAt w gD #[.pointer (some ⟨D, 0, none⟩)] 68) (hA : BoxAt w gA #[.int .i64 60] 3) (hO : BoxAt w gO #[x0] 47) (hgO : B ≤ gO) :
    Calls Tryz.prog 225 #[fltV, .pointer (some ⟨gD, 0, none⟩), .pointer (some ⟨gA, 0, none⟩), .pointer (some ⟨gO, 0, none⟩)] w fun e w' => e = .returned (.int .i64 0) ∧ Pw B w' D P n l ∧ (∃ v' bb', BoxAt w' gO #[v'] 47 ∧ OwnB w' bb' v' l) ∧ Chx B TTd gO w w' := by
  obtain ⟨hd, ⟨A1, A2, pv, hc, hwr⟩⟩ := h
  have hx : Ext w (w.alloc (.cells #[.int .i64 0, .int .i64 0, .int .i64 0] 134)) := Ext.alloc _ _
  have HX := Lib.hid hx
  have HFl := Lib.hid (BoxAt.new w #[.int .i64 0, .int .i64 0, .int .i64 0] 134)
  have HD := Lib.hid (hD.ext hx)
  have HA := Lib.hid (hA.ext hx)
  have HO := Lib.hid (hO.ext hx)
  have HDk := Lib.hid (hd.ext hx)
  have HC := Lib.hid (hc.ext hx)
  have HW := Lib.hid (hwr.chg (Chg.ext (B := 0) (T := []) hx (Nat.zero_le _)) (by simp))
  have b0 := hD.cell 0 (v := .pointer (some ⟨D, 0, none⟩)) rfl
  have b1 := hA.cell 0 (v := .int .i64 60) rfl
  have lb0 := hD.lt
  have lb1 := hA.lt
  clear hx hD hA hO hd hc hwr
  go_enter Tryz.func225, Tryz.ntmps225
  go_wp2_with first | (go_at_call 222; refine (dhas_any B D P n.C _ HDk.out).mono ?_; rintro e W1 ⟨rfl, hx1⟩; have HX1 := Lib.hid (HX.out.trans hx1); have HXA := Lib.hid hx1; have hDk1 := HDk.out.ext hx1; obtain ⟨r, wr, er, f, o, l2, hd1, hp1⟩ := hDk1.cells; have c0 := (HD.out.ext hx1).cell 0 (v := .pointer (some ⟨D, 0, none⟩)) rfl; have lc0 := (HD.out.ext hx1).lt; have c1 := (HA.out.ext hx1).cell 0 (v := .int .i64 60) rfl; have lc1 := (HA.out.ext hx1).lt; have c4 := (HFl.out.ext hx1).cell 1 (v := .int .i64 0) rfl; have lc4 := (HFl.out.ext hx1).lt; have c5 := hd1.cell 10 (v := .pointer (some ⟨n.C, 0, none⟩)) rfl; have lc5 := hd1.lt; have HD1 := Lib.hid hd1; have HP1 := Lib.hid hp1; have HDB := Lib.hid (HD.out.ext hx1); have HOB := Lib.hid (HO.out.ext hx1); have HC1 := Lib.hid (HC.out.ext hx1); have HW1 := Lib.hid (HW.out.chg (Chg.ext (B := 0) (T := []) hx1 (Nat.zero_le _)) (by simp)); clear hx1 hDk1 hd1 hp1 b0 b1 lb0 lb1) | (go_at_call 226; refine (cread_any B n A1 A2 pv l hll _ HC1.out HW1.out).mono ?_; rintro e W2 ⟨v', rfl, hO2, hx2⟩; obtain ⟨va, vc, rfl⟩ := own_shape hO2; have HO2 := Lib.hid hO2; have HX2 := Lib.hid hx2; have HOB2 := Lib.hid (HOB.out.ext hx2); have lo2 := HOB2.out.lt; have co2 := HOB2.out.cell 0 (v := x0) rfl; have HDB2 := Lib.hid (HDB.out.ext hx2); have d0 := HDB2.out.cell 0 (v := .pointer (some ⟨D, 0, none⟩)) rfl; have ld0 := HDB2.out.lt; have HD2 := Lib.hid (HD1.out.ext hx2); have d1 := HD2.out.cell 0 (v := .int .i64 r) rfl; have ld1 := HD2.out.lt; clear hO2 hx2 c0 c1 c4 c5 lc0 lc1 lc4 lc5) | (refine wpList_store_cell 47 _ _ rfl (by rfl) rfl rfl (HOB2.out) (by simp) (by kernel_rfl) rfl ?_; intro W3 hS; have HS3 := Lib.hid hS; have HDB3 := Lib.hid (hS.keep HDB2.out (box_ne HDB2.out HOB2.out (by decide))); have HD3 := Lib.hid (hS.keep HD2.out (box_ne HD2.out HOB2.out (by decide))); have e0 := HDB3.out.cell 0 (v := .pointer (some ⟨D, 0, none⟩)) rfl; have le0 := HDB3.out.lt; have e1 := HD3.out.cell 0 (v := .int .i64 r) rfl; have le1 := HD3.out.lt; clear hS d0 d1 ld0 ld1 lo2 co2) | (refine wpList_store_cell 3 _ _ rfl (by rfl) rfl rfl (HD3.out) (by simp) (by kernel_rfl) rfl ?_; intro W4 hS; have HS4 := Lib.hid hS; clear hS e0 le0 e1 le1)
  go_ret
  have hc1 : Chg B TTd w W2 := (Chg.ext HX1.out hBw).more HX2.out hBw
  have hc3 : Chg B [47] W2 W3 := (Chg.refl _ _ _).stored HOB2.out HS3.out (by simp) hgO
  have hcs : Chg B [140] W3 W4 := (Chg.refl _ _ _).stored HD3.out HS4.out (by simp) HDk.out.geD
  have h0 : Chg 0 [] W1 W2 := Chg.ext HX2.out (Nat.zero_le _)
  refine ⟨rfl, ⟨⟨⟨_, _, _, _, _, HS4.out.box⟩, ⟨_, ((HP1.out.ext HX2.out).chg hc3 (by decide)).chg hcs (by decide)⟩, HDk.out.geD, HDk.out.geP⟩, ⟨A1, A2, pv, ((HC1.out.ext HX2.out).chg hc3 (by decide) (by decide) (by decide)).chg hcs (by decide) (by decide) (by decide), ((HW1.out.chg h0 (by simp)).chg hc3 (by decide)).chg hcs (by decide)⟩⟩, ⟨_, _, HS4.out.keep HS3.out.box (box_ne HS3.out.box HD3.out (by decide)), ownsRow_chg hcs (ownsRow_chg hc3 HO2.out (by decide)) (by decide)⟩, ?_⟩
  exact ((hc1.chx gO).trans (HS3.out.chx hgO)).trans ((hcs.wide (by decide)).chx gO)
abbrev rdW (w : World) (D : Nat) : World := ((w.alloc (.cells #[.pointer (some ⟨D, 0, none⟩)] 68)).alloc (.cells #[.int .i64 60] 3)).alloc (.cells #[.slice none 0 0] 47)
theorem rdW_ext (w : World) (D : Nat) : Ext w (rdW w D) := ((Ext.alloc _ _).trans (Ext.alloc _ _)).trans (Ext.alloc _ _)
theorem rdW_0 (w : World) (D : Nat) : BoxAt (rdW w D) w.heap.size #[.pointer (some ⟨D, 0, none⟩)] 68 := (BoxAt.new w _ _).ext ((Ext.alloc _ _).trans (Ext.alloc _ _))
theorem rdW_1 (w : World) (D : Nat) : BoxAt (rdW w D) (w.heap.size + 1) #[.int .i64 60] 3 := by
  have h := (BoxAt.new (w.alloc (.cells #[.pointer (some ⟨D, 0, none⟩)] 68)) #[.int .i64 60] 3).ext (Ext.alloc _ (.cells #[.slice none 0 0] 47))
  rwa [World.size_alloc] at h
theorem rdW_2 (w : World) (D : Nat) : BoxAt (rdW w D) (w.heap.size + 2) #[.slice none 0 0] 47 := by
  have h := BoxAt.new ((w.alloc (.cells #[.pointer (some ⟨D, 0, none⟩)] 68)).alloc (.cells #[.int .i64 60] 3)) #[.slice none 0 0] 47
  rwa [World.size_alloc, World.size_alloc] at h
set_option maxHeartbeats 4000000 in
theorem dread_any (B D P : Nat) (n : Cn) (l : List (BitVec 8)) (hll : l.length ≤ 64) (w : World) (h : Pw B w D P n l) (hBw : B ≤ w.heap.size) :
    Calls Tryz.prog 184 #[.pointer (some ⟨D, 0, none⟩), .int .u64 0, .int .i64 60] w fun e w' => ∃ v' bb', e = .returned (.tuple #[v', .int .i64 0]) ∧ Pw B w' D P n l ∧ OwnB w' bb' v' l ∧ Chg B TTd w w' := by
  have HX1 := Lib.hid (rdW_ext w D)
  have HP := Lib.hid (h.ext HX1.out)
  have HZ := Lib.hid HX1.out.size
  clear h
  go_enter Tryz.func184, Tryz.ntmps184
  go_wp2_with (go_at_call 111; go_loud (refine (perform_any 225 (enters_of Tryz.func225 (by kernel_rfl) rfl) #[.pointer (some ⟨w.heap.size, 0, none⟩), .pointer (some ⟨w.heap.size + 1, 0, none⟩), .pointer (some ⟨w.heap.size + 2, 0, none⟩)] B D P n.C _ HP.out.dsk (Nat.le_trans hBw HZ.out) (fun w' => Pw B w' D P n l ∧ (∃ v' bb', BoxAt w' (w.heap.size + 2) #[v'] 47 ∧ OwnB w' bb' v' l) ∧ Chg B TTd w w') (fun w1 hd1 hc1 => (dread1_any B D P w.heap.size (w.heap.size + 1) (w.heap.size + 2) (.slice none 0 0) n l hll w1 (HP.out.of hd1 hc1) (Nat.le_trans hBw (Nat.le_trans HZ.out hc1.size)) ((rdW_0 w D).chg hc1 (by decide)) ((rdW_1 w D).chg hc1 (by decide)) ((rdW_2 w D).chg hc1 (by decide)) (by omega)).mono (fun e w' hp => ⟨hp.1, hp.2.1, hp.2.2.1, Chx.fresh ((Chg.ext HX1.out hBw).trans (hc1.wide (by decide))) hp.2.2.2 (by omega)⟩))).mono ?_); rintro e W3 ⟨rfl, hR, ⟨v', bb', hR2, hR3⟩, hR4⟩; obtain ⟨va, vc, rfl⟩ := own_shape hR3; have HR := Lib.hid hR; have HR3 := Lib.hid hR3; have HR4 := Lib.hid hR4; have d0 := hR2.cell 0 rfl; have ld := hR2.lt; clear hR hR2 hR3 hR4)
  go_ret2
  exact ⟨_, bb', rfl, HR.out, HR3.out, HR4.out⟩
end Go.Proofs.YtjabgpejmnpamaaGreatDoor
