/-
  Part 21 of the proof.
-/
import Derived.Test.YtjabgpejmnpamaaGreatDoorY18
import Derived.Shelf.RegionOpen
set_option linter.unusedVariables false
namespace Go.Proofs.YtjabgpejmnpamaaGreatDoor
open Go.RowKit
set_option maxRecDepth 100000
abbrev gV : Value := .agg #[.int .i64 60, .int .i64 5, .int .i64 2, .int .i64 3, .int .i64 1]
theorem gV_ok : dgvalidB 60 5 2 3 1 = true := by decide
theorem svalid_any (w : World) : Calls Tryz.prog 105 #[gV] w fun e w' => e = .returned (.bool true) ∧ Ext w w' := valid_yes _ _ _ _ _ gV_ok w
theorem ssize_any (w : World) : Calls Tryz.prog 106 #[gV] w fun e w' => e = .returned (.int .i64 90) ∧ Ext w w' := size_any_yes 60 5 2 3 1 gV_ok w
theorem sband_any (w : World) : Calls Tryz.prog 110 #[gV] w fun e w' => e = .returned (.int .i64 6) ∧ Ext w w' := bsz_any_yes 60 5 2 3 1 gV_ok w
theorem saddr_any (k : Nat) (hk : k < 5) (w : World) : Calls Tryz.prog 209 #[gV, .int .i64 k, .int .i64 0, .int .i64 0] w fun e w' => e = .returned (.tuple #[.int .i64 (60 + 6 * (k : Int)), .int .i64 0]) ∧ Ext w w' := by
  have h := address_any 60 5 2 3 1 (k : Int) 0 0 w
  rw [adr_in gV_ok (by simp only [inS, decide_eq_true_eq]; omega), show (60 + ((k : Int) * 2 + 0) * 3 + 0) = 60 + 6 * (k : Int) by omega] at h
  exact h
theorem shw_small : shw 60 5 2 3 1 60 = [63] := by decide
theorem sshadow_any (w : World) : Calls Tryz.prog 263 #[gV, .int .i64 60] w fun e w' => ∃ v, e = .returned v ∧ SliceAt encI w' v [63] ∧ Ext w w' := by
  have h := shadow_any 60 5 2 3 1 60 w
  rw [shw_small] at h
  exact h
set_option maxHeartbeats 1000000 in
theorem newPower_any (w : World) : Calls Tryz.prog 23 #[] w fun e w' => e = .returned (.pointer (some ⟨w.heap.size, 0, none⟩)) ∧ w' = w.alloc (.cells #[.bool false, .bool false, .int .i64 0, .int .i64 0] 124) := by
  go_enter Tryz.func23, Tryz.ntmps23
  go_wp2
  go_ret
  exact ⟨rfl, rfl⟩
set_option maxHeartbeats 1000000 in
theorem fvalid_any (w : World) : Calls Tryz.prog 54 #[.slice none 0 0] w fun e w' => e = .returned (.bool true) ∧ Ext w w' := by
  go_enter Tryz.func54, Tryz.ntmps54
  go_wp2
  refine wp_loop_rounds 1 ?_
  rw [rounds_succ]
  go_wp2_with fail
  go_ret
  exact ⟨rfl, Ext.refl _⟩
set_option maxHeartbeats 1000000 in
theorem fat_any (n : Int) (w : World) : Calls Tryz.prog 162 #[.slice none 0 0, .int .i64 n] w fun e w' => e = .returned (.tuple #[.agg #[.int .i64 0, .int .i64 0, .int .i64 0], .bool false]) ∧ Ext w w' := by
  go_enter Tryz.func162, Tryz.ntmps162
  go_wp2
  refine wp_loop_rounds 1 ?_
  rw [rounds_succ]
  go_wp2_with fail
  refine bodyPost_ret (results_cell_tmpA rfl _ _ rfl (box_result (BoxAt.new _ _ _) Tryz.underlying134 rfl (by kernel_rfl))) rfl ⟨rfl, Ext.alloc _ _⟩
set_option maxHeartbeats 1000000 in
theorem fclone_any (w : World) : Calls Tryz.prog 56 #[.slice none 0 0] w fun e w' => e = .returned (.slice none 0 0) ∧ Ext w w' := by
  have hq := fun (w : World) => Lib.run_eql_slice_nil (P := Tryz.prog) w 125 134 none 0 0 0 0 Tryz.underlying125
  go_enter Tryz.func56, Tryz.ntmps56
  go_wp2
  go_ret
  exact ⟨rfl, Ext.refl _⟩
end Go.Proofs.YtjabgpejmnpamaaGreatDoor

namespace Go.Proofs.YtjabgpejmnpamaaGreatDoor
open Go.RowKit
set_option maxRecDepth 100000
theorem infoSec : (Tryz.prog.info? 270).map (fun i => (i.zero, i.size, i.bytes)) = some (some (.agg #[.int .i64 0, .slice none 0 0]), 2, 32) := by kernel_rfl
def blankL : List Value := (madeCells #[.int .i64 0, .slice none 0 0] 180).toList
theorem blankL_len : blankL.length = 180 := by simp [blankL, madeCells]
def Blank (A : Array Value) : Prop := A.toList.take 180 = blankL
theorem blankL_get (j : Nat) (h : j < 180) : blankL[j]? = some (if j % 2 = 0 then .int .i64 0 else .slice none 0 0) := by
  unfold blankL madeCells
  rw [Array.getElem?_toList, Array.getElem?_map, Array.getElem?_range]
  rw [if_pos h]
  rcases Nat.mod_two_eq_zero_or_one j with h2 | h2
  · simp [h2]
  · simp [h2]
theorem Blank.get {A : Array Value} (h : Blank A) (j : Nat) (hj : j < 180) : A[j]? = blankL[j]? := by
  unfold Blank at h
  rw [← h, List.getElem?_take_of_lt hj, Array.getElem?_toList]
theorem Blank.even {A : Array Value} (h : Blank A) (i : Nat) (hi : i < 90) : A[2 * i]? = some (.int .i64 0) := by
  rw [h.get _ (by omega), blankL_get _ (by omega), if_pos (by omega)]
theorem Blank.odd {A : Array Value} (h : Blank A) (i : Nat) (hi : i < 90) : A[2 * i + 1]? = some (.slice none 0 0) := by
  rw [h.get _ (by omega), blankL_get _ (by omega), if_neg (by omega)]
theorem Blank.size {A : Array Value} (h : Blank A) : 180 ≤ A.size := by
  have h1 := h.get 179 (by omega)
  rw [blankL_get _ (by omega)] at h1
  have := (Array.getElem?_eq_some_iff.1 h1).1
  omega
theorem blank_made : Blank (madeCells #[.int .i64 0, .slice none 0 0] 180) := by
  unfold Blank
  rw [List.take_of_length_le (by simp [madeCells])]
  rfl
abbrev mdC (S c : Nat) : Array Value := #[.int .i64 60, .int .i64 5, .int .i64 2, .int .i64 3, .int .i64 1, .slice (some ⟨S, 0, none⟩) 90 c]
structure Med (B : Nat) (w : World) (M S c : Nat) (A : Array Value) : Prop where
  geM : B ≤ M
  geS : B ≤ S
  cap : 90 ≤ c
  med : BoxAt w M (mdC S c) 204
  sec : BoxAt w S A 270
  len : 180 ≤ A.size
theorem Med.ext {B : Nat} {w w' : World} {M S c : Nat} {A : Array Value} (h : Med B w M S c A) (e : Ext w w') : Med B w' M S c A := ⟨h.geM, h.geS, h.cap, h.med.ext e, h.sec.ext e, h.len⟩
theorem Med.lower {B B' : Nat} {w : World} {M S c : Nat} {A : Array Value} (h : Med B w M S c A) (hb : B' ≤ B) : Med B' w M S c A := ⟨Nat.le_trans hb h.geM, Nat.le_trans hb h.geS, h.cap, h.med, h.sec, h.len⟩
theorem Med.chg {B B' : Nat} {T : List TypeId} {w w' : World} {M S c : Nat} {A : Array Value} (h : Med B w M S c A) (e : Chg B' T w w') (h1 : 204 ∉ T) (h2 : 270 ∉ T) : Med B w' M S c A := ⟨h.geM, h.geS, h.cap, h.med.chg e h1, h.sec.chg e h2, h.len⟩
set_option maxHeartbeats 1000000 in
theorem sclone_any (S c : Nat) (A : Array Value) (w : World) (h : BoxAt w S A 270) (hb : Blank A) :
    Calls Tryz.prog 159 #[.slice (some ⟨S, 0, none⟩) 90 c] w fun e w' => ∃ S' c' A', e = .returned (.slice (some ⟨S', 0, none⟩) 90 c') ∧ 90 ≤ c' ∧ Blank A' ∧ BoxAt w' S' A' 270 ∧ w.heap.size ≤ S' ∧ Ext w w' := by
  obtain ⟨i0, hi, hz0, hz1, hz2⟩ := info_parts infoSec
  have HA := Lib.hid h
  have HB := Lib.hid hb
  clear h hb
  have hq := fun (w : World) => Lib.run_eql_slice_nil (P := Tryz.prog) w 201 270 (some ⟨S, 0, none⟩) 90 c 0 0 Tryz.underlying201
  have hcell : ∀ j u, blankL[j]? = some u → (w.alloc (.cells #[] 270)).cell? ((⟨S, 0, none⟩ : Addr).add j) = some u := by
    intro j u hu
    have hj : j < 180 := by rw [← blankL_len]; exact (List.getElem?_eq_some_iff.1 hu).1
    rw [add_plain, Nat.zero_add]
    exact (HA.out.ext (Ext.alloc _ _)).cell j ((HB.out.get j hj).trans hu)
  have HC := Lib.hid hcell
  clear hcell
  have hone : ∀ u, u ∈ blankL → u.oneCell' = true := by
    intro u hu
    obtain ⟨j, hj, he⟩ := List.getElem_of_mem hu
    have h1 := blankL_get j (by rw [← blankL_len]; exact hj)
    rw [List.getElem?_eq_getElem hj] at h1
    injection h1 with h1
    rw [← he, h1]
    split <;> rfl
  have HN := Lib.hid hone
  clear hone
  go_enter Tryz.func159, Tryz.ntmps159
  go_wp2_with (at_builtin; refine wpList_append_own_at _ rfl (.tmp 5) (.tmp 6) 201 rfl w.heap.size 270 i0 _ 2 32 Tryz.underlying201 hi hz0 hz1 hz2 rfl (by decide) _ 0 [] rfl (World.ownsRow_lit w #[] 0 (Nat.le_refl _) (by decide) rfl) ⟨S, 0, none⟩ 90 c blankL rfl blankL_len HC.out HN.out (by unfold maxLen; omega) (by omega) (by simp) ?_; intro v1 w1 hown1 hgrow1 _ _; simp only [Nat.zero_add, List.nil_append] at hown1; have hx1 : Ext w w1 := (Ext.alloc _ _).grown hgrow1 (by simp) (fun k hk => by cases hk; exact Nat.le_refl _))
  go_ret
  rcases hown1.2 with ⟨_, h2⟩ | ⟨g, cap, cur, h1, h2, h3, h4, h5, h6, h7⟩
  · exact absurd h2 (by decide)
  · subst h1
    exact ⟨g, cap, cur, rfl, h4, h7, h3, h2, hx1⟩
set_option maxHeartbeats 2000000 in
theorem mclone_any (B M S c : Nat) (A : Array Value) (w : World) (h : Med B w M S c A) (hb : Blank A) :
    Calls Tryz.prog 108 #[.pointer (some ⟨M, 0, none⟩)] w fun e w' => ∃ M' S' c' A', e = .returned (.pointer (some ⟨M', 0, none⟩)) ∧ Blank A' ∧ Med w.heap.size w' M' S' c' A' ∧ Ext w w' := by
  have HB := Lib.hid hb
  have HM := Lib.hid h
  have c0 := h.med.cell 0 (v := .int .i64 60) rfl
  have c1 := h.med.cell 1 (v := .int .i64 5) rfl
  have c2 := h.med.cell 2 (v := .int .i64 2) rfl
  have c3 := h.med.cell 3 (v := .int .i64 3) rfl
  have c4 := h.med.cell 4 (v := .int .i64 1) rfl
  have c5 := h.med.cell 5 (v := .slice (some ⟨S, 0, none⟩) 90 c) rfl
  have hl := h.med.lt
  clear h hb
  go_enter Tryz.func108, Tryz.ntmps108
  go_wp2
  refine wp_region_ext [(0, true), (1, true), (2, true), (3, true), (4, true), (5, true), (6, true), (7, true), (8, false), (9, true), (10, false), (11, true)] (by kernel_rfl) (by kernel_rfl) ?_
  iterate 8 ((first
   | refine ext_move rfl rfl (by rfl) (by rfl) ?_
   | refine ext_assign rfl rfl (by rfl) (by rfl) ?_
   | refine ext_pick_t rfl rfl (by rfl) (by rfl) (by rfl) ?_
   | refine ext_pick_f rfl rfl (by rfl) (by rfl) (by rfl) ?_
   | (apply ext_take rfl (by rfl)
      · intro w' hS
        have hSc := hS.cells
        (try simp only [World.size_drew, World.cell?_drew] at hSc)
        go_simp
        (try simp (disch := omega) only [i64_id, u64_id, ↓IntWalk.iteOmega, Int.tdiv_eq_ediv_of_nonneg, Int.tmod_eq_emod_of_nonneg])
        try rfl)
   | refine ext_pass rfl (by rfl) ?_); simp only [Act.put, setZa, setZ0, setZ1])
  (refine ext_do rfl (by rfl) (fun K hK => ?_)
   go_simp
   go_at_call 159
   refine (sclone_any S c A _ (HM.out.sec.ext (by first | exact Ext.refl _ | exact Ext.drew _)) HB.out).mono ?_
   rintro e W1 ⟨S', c', A', rfl, hc', hb', hs', hge, hx1⟩
   have HX1 : Hid (Ext w W1) := Ext.trans (by first | exact Ext.refl _ | exact Ext.drew _) hx1
   refine hK _ _ (by first | exact hx1 | exact HX1.out) ?_
   clear hK K
   (try simp only [Act.put, setZa, setZ0, setZ1]))
  iterate 1 ((first
   | refine ext_move rfl rfl (by rfl) (by rfl) ?_
   | refine ext_assign rfl rfl (by rfl) (by rfl) ?_
   | refine ext_pick_t rfl rfl (by rfl) (by rfl) (by rfl) ?_
   | refine ext_pick_f rfl rfl (by rfl) (by rfl) (by rfl) ?_
   | (apply ext_take rfl (by rfl)
      · intro w' hS
        have hSc := hS.cells
        (try simp only [World.size_drew, World.cell?_drew] at hSc)
        go_simp
        (try simp (disch := omega) only [i64_id, u64_id, ↓IntWalk.iteOmega, Int.tdiv_eq_ediv_of_nonneg, Int.tmod_eq_emod_of_nonneg])
        try rfl)
   | refine ext_pass rfl (by rfl) ?_); simp only [Act.put, setZa, setZ0, setZ1])
  (refine ext_do rfl (by rfl) (fun K hK => ?_)
   go_simp
   refine hK _ _ (by first | exact Ext.alloc _ _ | exact (Ext.drew _).trans (Ext.alloc _ _)) ?_
   clear hK K
   (try simp only [Act.put, setZa, setZ0, setZ1]))
  iterate 1 ((first
   | refine ext_move rfl rfl (by rfl) (by rfl) ?_
   | refine ext_assign rfl rfl (by rfl) (by rfl) ?_
   | refine ext_pick_t rfl rfl (by rfl) (by rfl) (by rfl) ?_
   | refine ext_pick_f rfl rfl (by rfl) (by rfl) (by rfl) ?_
   | (apply ext_take rfl (by rfl)
      · intro w' hS
        have hSc := hS.cells
        (try simp only [World.size_drew, World.cell?_drew] at hSc)
        go_simp
        (try simp (disch := omega) only [i64_id, u64_id, ↓IntWalk.iteOmega, Int.tdiv_eq_ediv_of_nonneg, Int.tmod_eq_emod_of_nonneg])
        try rfl)
   | refine ext_pass rfl (by rfl) ?_); simp only [Act.put, setZa, setZ0, setZ1])
  refine ext_nil ?_
  go_wp2_with fail
  go_ret
  exact ⟨W1.heap.size, S', c', A', rfl, hb', ⟨HX1.out.size, hge, hc', BoxAt.new _ _ _, hs'.ext (Ext.alloc _ _), hb'.size⟩, HX1.out.trans (Ext.alloc _ _)⟩
theorem run_make_sec (w : World) : (Instr.makeSlice 201 (.int .i64 90) (.int .i64 90)).run Tryz.prog w = .ok (.slice (some ⟨w.heap.size, 0, none⟩) 90 90) (w.alloc (.cells (madeCells #[.int .i64 0, .slice none 0 0] 180) 270)) := by
  obtain ⟨i0, hi, hz0, hz1, hz2⟩ := info_parts infoSec
  have h := run_make (P := Tryz.prog) w 201 270 i0 _ Tryz.underlying201 hi hz0 .i64 .i64 90 90 (by decide) (by decide) (by rw [hz2]; decide) (by decide)
  rw [hz1] at h
  exact h
set_option maxHeartbeats 2000000 in
theorem mnew_any (w : World) :
    Calls Tryz.prog 53 #[gV] w fun e w' => ∃ M S A, e = .returned (.tuple #[.pointer (some ⟨M, 0, none⟩), .int .i64 0]) ∧ Blank A ∧ Med w.heap.size w' M S 90 A ∧ Ext w w' := by
  have hmk := run_make_sec
  go_enter Tryz.func53, Tryz.ntmps53
  go_wp2_with (go_at_call 105; refine (svalid_any _).mono ?_; rintro e W1 ⟨rfl, hx1⟩; have hB := (BoxAt.new w #[.int .i64 60, .int .i64 5, .int .i64 2, .int .i64 3, .int .i64 1] 24).ext hx1; have c0 := hB.cell 0 (v := .int .i64 60) rfl; have c1 := hB.cell 1 (v := .int .i64 5) rfl; have c2 := hB.cell 2 (v := .int .i64 2) rfl; have c3 := hB.cell 3 (v := .int .i64 3) rfl; have c4 := hB.cell 4 (v := .int .i64 1) rfl; have hl := hB.lt; have HX1 : Hid (Ext w W1) := (Ext.alloc _ _).trans hx1; clear hB hx1)
  refine wp_region_ext [(0, true), (1, true), (2, false), (3, false), (4, true), (5, false), (6, true), (7, true)] (by kernel_rfl) (by kernel_rfl) ?_
  iterate 2 ((first
   | refine ext_move rfl rfl (by rfl) (by rfl) ?_
   | refine ext_assign rfl rfl (by rfl) (by rfl) ?_
   | refine ext_pick_t rfl rfl (by rfl) (by rfl) (by rfl) ?_
   | refine ext_pick_f rfl rfl (by rfl) (by rfl) (by rfl) ?_
   | (apply ext_take rfl (by rfl)
      · intro w' hS
        have hSc := hS.cells
        (try simp only [World.size_drew, World.cell?_drew] at hSc)
        go_simp
        (try simp (disch := omega) only [i64_id, u64_id, ↓IntWalk.iteOmega, Int.tdiv_eq_ediv_of_nonneg, Int.tmod_eq_emod_of_nonneg])
        try rfl)
   | refine ext_pass rfl (by rfl) ?_); simp only [Act.put, setZa, setZ0, setZ1])
  (refine ext_do rfl (by rfl) (fun K hK => ?_)
   go_simp
   go_at_call 106
   refine (ssize_any _).mono ?_
   rintro e W2 ⟨rfl, hx2⟩
   have HX2 : Hid (Ext w W2) := HX1.out.trans (Ext.trans (by first | exact Ext.refl _ | exact Ext.drew _) hx2)
   refine hK _ _ (by first | exact hx2 | exact Ext.trans (Ext.drew _) hx2) ?_
   clear hK K
   (try simp only [Act.put, setZa, setZ0, setZ1]))
  (refine ext_do rfl (by rfl) (fun K hK => ?_)
   go_simp
   refine hK _ _ (by first | exact Ext.alloc _ _ | exact (Ext.drew _).trans (Ext.alloc _ _)) ?_
   clear hK K
   (try simp only [Act.put, setZa, setZ0, setZ1]))
  iterate 1 ((first
   | refine ext_move rfl rfl (by rfl) (by rfl) ?_
   | refine ext_assign rfl rfl (by rfl) (by rfl) ?_
   | refine ext_pick_t rfl rfl (by rfl) (by rfl) (by rfl) ?_
   | refine ext_pick_f rfl rfl (by rfl) (by rfl) (by rfl) ?_
   | (apply ext_take rfl (by rfl)
      · intro w' hS
        have hSc := hS.cells
        (try simp only [World.size_drew, World.cell?_drew] at hSc)
        go_simp
        (try simp (disch := omega) only [i64_id, u64_id, ↓IntWalk.iteOmega, Int.tdiv_eq_ediv_of_nonneg, Int.tmod_eq_emod_of_nonneg])
        try rfl)
   | refine ext_pass rfl (by rfl) ?_); simp only [Act.put, setZa, setZ0, setZ1])
  (refine ext_do rfl (by rfl) (fun K hK => ?_)
   go_simp
   refine hK _ _ (by first | exact Ext.alloc _ _ | exact (Ext.drew _).trans (Ext.alloc _ _)) ?_
   clear hK K
   (try simp only [Act.put, setZa, setZ0, setZ1]))
  iterate 2 ((first
   | refine ext_move rfl rfl (by rfl) (by rfl) ?_
   | refine ext_assign rfl rfl (by rfl) (by rfl) ?_
   | refine ext_pick_t rfl rfl (by rfl) (by rfl) (by rfl) ?_
   | refine ext_pick_f rfl rfl (by rfl) (by rfl) (by rfl) ?_
   | (apply ext_take rfl (by rfl)
      · intro w' hS
        have hSc := hS.cells
        (try simp only [World.size_drew, World.cell?_drew] at hSc)
        go_simp
        (try simp (disch := omega) only [i64_id, u64_id, ↓IntWalk.iteOmega, Int.tdiv_eq_ediv_of_nonneg, Int.tmod_eq_emod_of_nonneg])
        try rfl)
   | refine ext_pass rfl (by rfl) ?_); simp only [Act.put, setZa, setZ0, setZ1])
  refine ext_nil ?_
  go_wp2_with fail
  go_ret2
  have hs := BoxAt.new W2 (madeCells #[.int .i64 0, .slice none 0 0] 180) 270
  have hm := BoxAt.new (W2.alloc (.cells (madeCells #[.int .i64 0, .slice none 0 0] 180) 270)) (mdC W2.heap.size 90) 204
  rw [World.size_alloc] at hm
  have hz := HX2.out.size
  exact ⟨W2.heap.size + 1, W2.heap.size, _, rfl, blank_made, ⟨by omega, hz, by decide, hm, hs.ext (Ext.alloc _ _), blank_made.size⟩, HX2.out.trans ((Ext.alloc _ _).trans (Ext.alloc _ _))⟩
end Go.Proofs.YtjabgpejmnpamaaGreatDoor

namespace Go.Proofs.YtjabgpejmnpamaaGreatDoor
open Go.RowKit
set_option maxRecDepth 100000
def putL (cs : Array Value) (o : Nat) : List Value → Array Value
  | [] => cs
  | v :: r => putL (cs.setIfInBounds o v) (o + 1) r
theorem putL_size : ∀ (vs : List Value) (cs : Array Value) (o : Nat), (putL cs o vs).size = cs.size
  | [], _, _ => rfl
  | v :: r, cs, o => by rw [putL, putL_size r]; simp
theorem setCells_box {g : Nat} {t : TypeId} : ∀ (vs : List Value) (o : Nat) (w : World) (cs : Array Value), BoxAt w g cs t → BoxAt (w.setCells g o vs) g (putL cs o vs) t
  | [], _, _, _, h => h
  | v :: r, o, w, cs, h => by rw [World.setCells, putL]; exact setCells_box r _ _ _ (h.set o v)
theorem stored_part {w : World} {g o : Nat} {cs : Array Value} {t : TypeId} (hb : BoxAt w g cs t) (vs : List Value) : Stored w (w.setCells g o vs) g (putL cs o vs) t :=
  ⟨setCells_box vs o w cs hb, arrc_grown _ _ _ _, arrc_size _ _ _, fun k hk => arrc_other _ _ _ k hk⟩
theorem there_box {w : World} {g o n : Nat} {cs : Array Value} {t : TypeId} (hb : BoxAt w g cs t) (h : o + n ≤ cs.size) : w.there g o n := by
  intro j hj
  obtain ⟨v, hv⟩ : ∃ v, cs[o + j]? = some v := ⟨_, Array.getElem?_eq_getElem (by omega)⟩
  exact ⟨by rw [hb.cell _ hv]; rfl, hb.free _⟩
theorem run_store_part {P : Program} {w : World} {g o : Nat} {ty t : TypeId} {cs cells : Array Value} (hb : BoxAt w g cs t) (hs : o + cells.size ≤ cs.size) (hi : (P.info? ty).map (·.size) = some cells.size) (h1 : cells.all (·.oneCell') = true) :
    (Instr.storeAt ty (.pointer (some ⟨g, o, none⟩)) (.agg cells)).run P w = .ok () (w.setCells g o cells.toList) :=
  run_storeAt_mid (P := P) w g o ty cells (there_box hb hs) hi h1
theorem run_store_cell {P : Program} {w : World} {g o : Nat} {ty t : TypeId} {cs : Array Value} {v : Value} (hb : BoxAt w g cs t) (hs : o < cs.size) (hi : (P.info? ty).map (·.size) = some 1) (h1 : v.oneCell' = true) :
    (Instr.storeAt ty (.pointer (some ⟨g, o, none⟩)) v).run P w = .ok () (w.setCells g o [v]) := by
  have ht := there_box hb (show o + 1 ≤ cs.size by omega)
  have := run_storeCells_cells (P := P) g o [v] 0 w (fun j hj => by simpa using (ht j (by simpa using hj)).1) (fun j hj => by simpa using (ht j (by simpa using hj)).2) (fun u hu => by simp at hu; subst hu; exact h1)
  have hc : v.cells = #[v] := by cases v <;> first | rfl | cases h1
  cases hq : P.info? ty with
  | none => simp [hq] at hi
  | some i =>
    have hs : i.size = 1 := by simpa [hq] using hi
    simp only [Nat.add_zero] at this
    simp only [Instr.storeAt, Instr.sureAddr, Sem.run_bind, Sem.run_pure, Result.andThen_ok]
    simp [storeVar, sizeOf, typeInfo, hq, hc, hs, this]
theorem wpList_store_part {P : Program} {ops : Array Oper} {rest : List Oper} {o : Oper} {a : Act} {w : World} {Q : Exit → Act → World → Prop} (ty : TypeId) (x y : Operand) (ho : o.op = .store ty x y)
    (hw : Region.wanted o (yielded ops a.tmps) = true) {g i : Nat} {cs cells : Array Value} {t : TypeId} (hx : a.eval x = .pointer (some ⟨g, i, none⟩)) (hy : a.eval y = .agg cells) (hb : BoxAt w g cs t) (hs : i + cells.size ≤ cs.size) (hi : (P.info? ty).map (·.size) = some cells.size) (h1 : cells.all (·.oneCell') = true)
    (h : ∀ w', Stored w w' g (putL cs i cells.toList) t → wpList P ops Q rest (a.put o.dst undef) w') : wpList P ops Q (o :: rest) a w := by
  refine wpList_step fun K hK => ?_
  rw [if_pos hw]
  have hrun := run_store_part (P := P) hb hs hi h1
  unfold Oper.wp execOp
  simp only [ho, hx, hy, Sem.run_bind, Sem.run_pure, Result.andThen_ok, hrun]
  exact hK _ _ (h _ (stored_part hb _))
theorem wpList_store_cell {P : Program} {ops : Array Oper} {rest : List Oper} {o : Oper} {a : Act} {w : World} {Q : Exit → Act → World → Prop} (ty : TypeId) (x y : Operand) (ho : o.op = .store ty x y)
    (hw : Region.wanted o (yielded ops a.tmps) = true) {g i : Nat} {cs : Array Value} {t : TypeId} {v : Value} (hx : a.eval x = .pointer (some ⟨g, i, none⟩)) (hy : a.eval y = v) (hb : BoxAt w g cs t) (hs : i < cs.size) (hi : (P.info? ty).map (·.size) = some 1) (h1 : v.oneCell' = true)
    (h : ∀ w', Stored w w' g (cs.setIfInBounds i v) t → wpList P ops Q rest (a.put o.dst undef) w') : wpList P ops Q (o :: rest) a w := by
  refine wpList_step fun K hK => ?_
  rw [if_pos hw]
  have hrun := run_store_cell (P := P) hb hs hi h1
  unfold Oper.wp execOp
  simp only [ho, hx, hy, Sem.run_bind, Sem.run_pure, Result.andThen_ok, hrun]
  exact hK _ _ (h _ (stored_part hb [v]))
theorem Chg.fresh {B : Nat} {T : List TypeId} {a b c : World} {g : Nat} {cells : Array Value} {t : TypeId} (h : Chg B T a b) (hB : B ≤ a.heap.size) (hs : Stored b c g cells t) (hg : a.heap.size ≤ g) : Chg B T a c := by
  refine ⟨hs.bel h.bel (Nat.le_trans hB hg), fun k cs' t' hb ht' => ?_⟩
  exact (hs.other k (by have := hb.lt; omega)).trans (h.box k cs' t' hb ht')
abbrev pwC (l : Int) : Array Value := #[.bool false, .bool false, .int .i64 l, .int .i64 0]
abbrev dkC (r wr e f o : Int) (C P : Nat) : Array Value := #[.int .i64 r, .int .i64 wr, .int .i64 e, .int .i64 f, .int .i64 o, .int .i64 60, .int .i64 5, .int .i64 2, .int .i64 3, .int .i64 1, .pointer (some ⟨C, 0, none⟩), .slice none 0 0, .pointer (some ⟨P, 0, none⟩), .int .i64 0, .int .u64 0, .bool false]
structure Dsk (B : Nat) (w : World) (D P C : Nat) : Prop where
  disk : ∃ r wr e f o, BoxAt w D (dkC r wr e f o C P) 140
  pow : ∃ l, BoxAt w P (pwC l) 124
  geD : B ≤ D
  geP : B ≤ P
theorem Dsk.ext {B : Nat} {w w' : World} {D P C : Nat} (h : Dsk B w D P C) (e : Ext w w') : Dsk B w' D P C := by
  obtain ⟨⟨r, wr, er, f, o, h1⟩, ⟨l, h2⟩, h3, h4⟩ := h
  exact ⟨⟨r, wr, er, f, o, h1.ext e⟩, ⟨l, h2.ext e⟩, h3, h4⟩
theorem Dsk.chg {B B' : Nat} {T : List TypeId} {w w' : World} {D P C : Nat} (h : Dsk B w D P C) (e : Chg B' T w w') (h1 : 140 ∉ T) (h2 : 124 ∉ T) : Dsk B w' D P C := by
  obtain ⟨⟨r, wr, er, f, o, k1⟩, ⟨l, k2⟩, k3, k4⟩ := h
  exact ⟨⟨r, wr, er, f, o, k1.chg e h1⟩, ⟨l, k2.chg e h2⟩, k3, k4⟩
set_option maxHeartbeats 1000000 in
theorem pcall_any (B P : Nat) (l : Int) (w : World) (hB : B ≤ P) (h : BoxAt w P (pwC l) 124) :
    Calls Tryz.prog 161 #[.pointer (some ⟨P, 0, none⟩)] w fun e w' => e = .returned (.bool true) ∧ (∃ l', BoxAt w' P (pwC l') 124) ∧ Chg B [124] w w' := by
  have c0 := h.cell 0 (v := .bool false) rfl
  have c1 := h.cell 1 (v := .bool false) rfl
  have c2 := h.cell 2 (v := .int .i64 l) rfl
  have c3 := h.cell 3 (v := .int .i64 0) rfl
  have HB := Lib.hid h
  have hl := h.lt
  clear h
  go_enter Tryz.func161, Tryz.ntmps161
  go_wp2_with (refine wpList_store_cell 3 _ _ rfl (by rfl) rfl rfl HB.out (by simp) (by kernel_rfl) rfl ?_; intro w1 hS; have HS := Lib.hid hS; have e0 := hS.box.cell 0 (v := .bool false) rfl; have hl1 := hS.box.lt; clear hS)
  go_ret
  exact ⟨rfl, ⟨_, HS.out.box⟩, (Chg.refl _ _ _).stored HB.out HS.out (by simp) hB⟩
set_option maxHeartbeats 1000000 in
theorem dstate_any (B D P C : Nat) (w : World) (h : Dsk B w D P C) :
    Calls Tryz.prog 160 #[.pointer (some ⟨D, 0, none⟩)] w fun e w' => e = .returned (.int .i64 0) ∧ Ext w w' := by
  obtain ⟨⟨r, wr, er, f, o, h1⟩, ⟨l, h2⟩, _, _⟩ := h
  have c12 := h1.cell 12 (v := .pointer (some ⟨P, 0, none⟩)) rfl
  have c13 := h1.cell 13 (v := .int .i64 0) rfl
  have c15 := h1.cell 15 (v := .bool false) rfl
  have p0 := h2.cell 0 (v := .bool false) rfl
  have p3 := h2.cell 3 (v := .int .i64 0) rfl
  have hl := h1.lt
  have hl2 := h2.lt
  clear h1 h2
  go_enter Tryz.func160, Tryz.ntmps160
  go_wp2
  refine wp_region_ext [(0, true), (1, true), (2, true), (3, true), (4, true), (5, true), (6, true), (7, true), (8, true), (9, true), (10, true), (11, true), (12, true), (13, true), (14, true), (15, true), (16, true), (17, true), (18, true), (19, true), (20, true), (21, true)] (by kernel_rfl) (by kernel_rfl) ?_
  iterate 22 ((first
   | refine ext_move rfl rfl (by rfl) (by rfl) ?_
   | refine ext_assign rfl rfl (by rfl) (by rfl) ?_
   | refine ext_pick_t rfl rfl (by rfl) (by rfl) (by rfl) ?_
   | refine ext_pick_f rfl rfl (by rfl) (by rfl) (by rfl) ?_
   | (apply ext_take rfl (by rfl)
      · intro w' hS
        have hSc := hS.cells
        (try simp only [World.size_drew, World.cell?_drew] at hSc)
        go_simp
        (try simp (disch := omega) only [i64_id, u64_id, ↓IntWalk.iteOmega, Int.tdiv_eq_ediv_of_nonneg, Int.tmod_eq_emod_of_nonneg])
        try rfl)
   | refine ext_pass rfl (by rfl) ?_); simp only [Act.put, setZa, setZ0, setZ1])
  refine ext_nil ?_
  go_wp2_with fail
  go_ret
  exact ⟨rfl, Ext.drew _⟩
set_option maxHeartbeats 1000000 in
theorem dgeo_any (B D P C : Nat) (w : World) (h : Dsk B w D P C) :
    Calls Tryz.prog 109 #[.pointer (some ⟨D, 0, none⟩)] w fun e w' => e = .returned gV ∧ Ext w w' := by
  obtain ⟨⟨r, wr, er, f, o, h1⟩, ⟨l, h2⟩, _, _⟩ := h
  have c5 := h1.cell 5 (v := .int .i64 60) rfl
  have c6 := h1.cell 6 (v := .int .i64 5) rfl
  have c7 := h1.cell 7 (v := .int .i64 2) rfl
  have c8 := h1.cell 8 (v := .int .i64 3) rfl
  have c9 := h1.cell 9 (v := .int .i64 1) rfl
  have hl := h1.lt
  clear h1 h2
  go_enter Tryz.func109, Tryz.ntmps109
  go_wp2_with (refine wpList_store_box 24 _ _ rfl (by rfl) rfl rfl (BoxAt.new w #[.int .i64 0, .int .i64 0, .int .i64 0, .int .i64 0, .int .i64 0] 24) rfl (by kernel_rfl) (by simp [Value.oneCell']) ?_; intro w1 hS; have HS := Lib.hid hS; clear hS)
  refine bodyPost_ret (results_cell_run rfl _ _ rfl (box_result HS.out.box Tryz.underlying24 rfl (by kernel_rfl))) rfl ⟨rfl, HS.out.bel (Ext.alloc _ _) (Nat.le_refl _)⟩
end Go.Proofs.YtjabgpejmnpamaaGreatDoor

namespace Go.Proofs.YtjabgpejmnpamaaGreatDoor
open Go.RowKit Go.Shelf
set_option maxRecDepth 100000
attribute [local go_sem] Oper.semAt_some
def own6 (g6 : Nat) (W : World) : Option Nat := match W.cell? ⟨g6, 1, none⟩ with | some v => v.ownBlock | none => none
def Bad (g6 : Nat) (W : World) (k : Nat) : Prop := k = g6 ∨ own6 g6 W = some k
def Fin6 (g6 : Nat) (W : World) : Prop := g6 < W.heap.size ∧ ∀ k, own6 g6 W = some k → k < W.heap.size
structure KP (g6 N : Nat) (W W' : World) : Prop where
  size : W.heap.size ≤ W'.heap.size
  same : ∀ k cs t fr, W.heap[k]? = some (.cells cs t fr) → ¬ Bad g6 W k → W'.heap[k]? = some (.cells cs t fr)
  bad : ∀ k, k < W.heap.size → Bad g6 W' k → Bad g6 W k
  fin : Fin6 g6 W → Fin6 g6 W'
  nonc : ∀ k o, N ≤ k → W.heap[k]? = some o → o.isCells = false → W'.heap[k]? = some o
theorem KP.trans {g6 N : Nat} {A B C : World} (h : KP g6 N A B) (k : KP g6 N B C) : KP g6 N A C :=
  ⟨Nat.le_trans h.size k.size, fun i cs t fr hi hb => k.same i cs t fr (h.same i cs t fr hi hb) (fun hB => hb (h.bad i (Array.getElem?_eq_some_iff.1 hi).1 hB)),
   fun i hi hC => h.bad i hi (k.bad i (Nat.lt_of_lt_of_le hi h.size) hC), fun f => k.fin (h.fin f), fun i o hi ho hc => k.nonc i o hi (h.nonc i o hi ho hc) hc⟩
theorem KP.more {g6 N M : Nat} {A B : World} (h : KP g6 N A B) (hm : N ≤ M) : KP g6 M A B := ⟨h.size, h.same, h.bad, h.fin, fun k o hk ho hc => h.nonc k o (Nat.le_trans hm hk) ho hc⟩
theorem own6_same {g6 : Nat} {W W' : World} (h : W'.heap[g6]? = W.heap[g6]?) : own6 g6 W' = own6 g6 W := by
  unfold own6
  rw [World.cell?_of_block (a := ⟨g6, 1, none⟩) h]
theorem KP.ext {g6 N : Nat} {W W' : World} (e : Ext W W') (hf : g6 < W.heap.size) : KP g6 N W W' := by
  have ho := own6_same (e.block g6 hf)
  refine ⟨e.size, fun k cs t fr hk _ => (e.block k (Array.getElem?_eq_some_iff.1 hk).1).trans hk, fun k _ hb => ?_, fun hF => ⟨Nat.lt_of_lt_of_le hF.1 e.size, fun k hk => ?_⟩, fun k o _ ho _ => (e.block k (Array.getElem?_eq_some_iff.1 ho).1).trans ho⟩
  · rcases hb with h | h
    · exact .inl h
    · exact .inr (by rw [← ho]; exact h)
  · rw [ho] at hk
    exact Nat.lt_of_lt_of_le (hF.2 k hk) e.size
theorem KP.put {g6 N : Nat} {W : World} {l : Nat} {o : Obj} (o' : Obj) (hl : g6 < l) (hlN : l < N) (hk : W.heap[l]? = some o) (hc : o.isCells = false) : KP g6 N W (W.putObj l o') := by
  have ho : own6 g6 (W.putObj l o') = own6 g6 W := own6_same (World.putObj_heap_other (by omega))
  refine ⟨by simp, fun k cs t fr hk2 _ => (World.putObj_heap_other (fun e => ?_)).trans hk2, fun k _ hb => ?_, fun hF => ⟨by simpa using hF.1, fun k hk => ?_⟩, fun k o hk ho _ => (World.putObj_heap_other (by omega)).trans ho⟩
  · rw [e] at hk2; rw [hk] at hk2; cases hk2; cases hc
  · rcases hb with h | h
    · exact .inl h
    · exact .inr (by rw [← ho]; exact h)
  · rw [ho] at hk; simpa using hF.2 k hk
theorem KP.box {g6 N g : Nat} {W W' : World} {cs : Array Value} {t : TypeId} (h : KP g6 N W W') (hb : BoxAt W g cs t) (hB : ¬ Bad g6 W g) : BoxAt W' g cs t ∧ ¬ Bad g6 W' g :=
  ⟨h.same g cs t _ hb hB, fun hB' => hB (h.bad g hb.lt hB')⟩
def Safe (g6 : Nat) (W : World) (v : Value) : Prop := ∀ g, v.ownBlock = some g → ¬ Bad g6 W g
theorem KP.own {g6 N : Nat} {W W' : World} {v : Value} {l : List Int} (h : KP g6 N W W') (hb : OwnI W 0 v l) (hS : Safe g6 W v) : OwnI W' 0 v l ∧ Safe g6 W' v := by
  refine ⟨?_, fun g hg hB => hS g hg (h.bad g (hb.lt g hg).2 hB)⟩
  refine ⟨hb.1, hb.2.imp id (fun ⟨q, cap, cur, hv, hq, hh, r⟩ => ⟨q, cap, cur, hv, hq, ?_, r⟩)⟩
  exact h.same q cur _ _ hh (hS q (by rw [hv]; rfl))
theorem own_ownFrom {β : Type} {B : Nat} {v : Value} {l : List Int} : OwnFrom B (fun (_ : β) W => OwnI W 0 v l) := fun s X Y row hs hg hr => by
  refine OwnG.kept hs hg ?_
  cases hv : v.ownBlock with
  | none => exact .inr rfl
  | some g =>
    refine .inl (fun e => ?_)
    obtain ⟨_, o, ho, hc⟩ := hr g e.symm
    rcases hs.2 with ⟨h1, _⟩ | ⟨q, cap, cur, h1, _, h3, _⟩
    · rw [h1] at hv; simp [Value.ownBlock] at hv
    · rw [h1] at hv
      simp [Value.ownBlock] at hv
      subst hv
      rw [h3] at ho
      cases ho
      cases hc
theorem round_any {P : Program} {l m n : Nat} {f : FuncId} {tmps : Array Value} {assign body : Code} {w : World} {R : Ending → World → Prop} (h : RoundIn Fence.wide m P l f tmps assign body w R) : RoundIn Fence.wide n P l f tmps assign body w R :=
  ⟨h.1, fun c cs _ => h.2 c cs (room_wide _)⟩
abbrev VL := Value × List Int
def ES (x : VL) (W : World) : Prop := OwnI W 0 x.1 x.2
def YOk (g6 N M : Nat) (l : Nat) (J : List VL → World → Prop) : Prop := ∀ pre x W1, pre.length < M → J pre W1 → ES x W1 → Fin6 g6 W1 → YieldAt Fence.wide 5 Tryz.prog l #[x.1] W1 fun e W' => e = .returned (.bool true) ∧ J (pre ++ [x]) W' ∧ KP g6 N W1 W'
structure NodeAt (g6 : Nat) (W : World) (b1 b2 b3 : Nat) (vp : Value) (p : List Int) : Prop where
  fin : Fin6 g6 W
  box1 : BoxAt W b1 #[vp] 40
  box2 : BoxAt W b2 #[.int .i64 4] 3
  box3 : BoxAt W b3 #[.int .i64 5] 3
  own : OwnI W 0 vp p
  bad1 : ¬ Bad g6 W b1
  bad2 : ¬ Bad g6 W b2
  bad3 : ¬ Bad g6 W b3
  safe : Safe g6 W vp
theorem NodeAt.keep {g6 N b1 b2 b3 : Nat} {W W' : World} {vp : Value} {p : List Int} (h : NodeAt g6 W b1 b2 b3 vp p) (k : KP g6 N W W') : NodeAt g6 W' b1 b2 b3 vp p :=
  ⟨k.fin h.fin, (k.box h.box1 h.bad1).1, (k.box h.box2 h.bad2).1, (k.box h.box3 h.bad3).1, (k.own h.own h.safe).1, (k.box h.box1 h.bad1).2, (k.box h.box2 h.bad2).2, (k.box h.box3 h.bad3).2, (k.own h.own h.safe).2⟩
abbrev setsArgs (l b1 b2 b3 : Nat) : Array Value := #[.func (.yield l) #[] #[], .pointer (some ⟨b1, 0, none⟩), .pointer (some ⟨b2, 0, none⟩), .pointer (some ⟨b3, 0, none⟩)]
def NodeEnd (J : List VL → World → Prop) (pre0 : List VL) (ls : List (List Int)) (e : Ending) (W' : World) : Prop := (∃ v, e = .returned v) ∧ ∃ xs, xs.map (·.2) = ls ∧ J (pre0 ++ xs) W'
set_option maxHeartbeats 2000000 in
theorem leaf_in (g6 N M l b1 b2 b3 : Nat) (vp : Value) (p : List Int) (pre0 : List VL) (J : List VL → World → Prop) (W : World) (hp : p.length = 4) (hN : NodeAt g6 W b1 b2 b3 vp p) (hJ : OwnFrom W.heap.size J) (hM : pre0.length < M) (hY : YOk g6 N M l J) (h0 : J pre0 W) :
    CallsIn Fence.wide 5 Tryz.prog 206 (setsArgs l b1 b2 b3) W (NodeEnd J pre0 [p]) := by
  obtain ⟨pa, pc, hvp⟩ := hN.own.shape
  rw [hp] at hvp
  subst hvp
  have HN := Lib.hid hN
  clear hN
  refine callsIn_of_wp Tryz.func206 rfl trivial ?_ rfl
  simp only [Tryz.ntmps206, setsArgs, List.size_toArray, List.length_cons, List.length_nil, Nat.reduceAdd, Nat.reduceSub, Array.replicate_succ, Array.replicate_zero, List.push_toArray, List.append_toArray, List.nil_append, List.cons_append]
  have c1 : W.cell? ⟨b1, 0, none⟩ = some (.slice pa 4 pc) := HN.out.box1.cell 0 rfl
  have c2 : W.cell? ⟨b2, 0, none⟩ = some (.int .i64 4) := HN.out.box2.cell 0 rfl
  have l1 := HN.out.box1.lt
  have l2 := HN.out.box2.lt
  gi_wp2
  have c4 := cell_new1 W (.func (.yield l) #[] #[]) 306
  have e1 : Ext W (W.alloc (.cells #[.func (.yield l) #[] #[]] 306)) := Ext.alloc _ _
  have c1a : (W.alloc (.cells #[.func (.yield l) #[] #[]] 306)).cell? ⟨b1, 0, none⟩ = some (.slice pa 4 pc) := (Below.cell e1 (p := ⟨b1, 0, none⟩) l1).trans c1
  have l4 : W.heap.size < (W.alloc (.cells #[.func (.yield l) #[] #[]] 306)).heap.size := by simp
  have l1a : b1 < (W.alloc (.cells #[.func (.yield l) #[] #[]] 306)).heap.size := by omega
  have E1 := Lib.hid e1
  generalize (W.alloc (.cells #[.func (.yield l) #[] #[]] 306)) = W1 at *
  obtain ⟨b4, hb4⟩ : ∃ b, W.heap.size = b := ⟨_, rfl⟩
  rw [hb4] at c4 l4 ⊢
  clear hb4 c1 c2 e1
  have hm : Tryz.prog.follows .mixedOrders = true := by kernel_rfl
  have hfin := HN.out.fin
  gi_region_with_o (first | (refine ⟨trivial, ?_⟩; gi_at_call 207; refine (callsIn_wide.2 (cloneI_any _ p _ (by omega) ((HN.out.own.slice.ext E1.out).ext (Ext.drew _)))).mono ?_; rintro e w5 ⟨vc, rfl, hc5, hb5⟩; have E15 : Ext W1 w5 := (Ext.drew _).trans hb5; have E5 := E1.out.trans E15; have c5 := (Below.cell E15 (p := ⟨b4, 0, none⟩) l4).trans c4; obtain ⟨fn, tmps, assign, body, hy, hR⟩ := hY pre0 (vc, p) w5 hM (hJ _ _ _ none h0 (grown_ext E5 none) (fun r e => by cases e)) (hc5.lower (Nat.zero_le _)) ((KP.ext (N := N) E5 hfin.1).fin hfin)) | (refine (round_any hR).mono ?_; rintro e w6 ⟨rfl, hJ6, hk6⟩))
  all_goals
    clear hy hR c5
    gi_wp2
    refine bodyPost_ret (results_none rfl _ _ _) rfl ?_
    exact ⟨⟨_, rfl⟩, [(vc, p)], rfl, hJ6⟩
end Go.Proofs.YtjabgpejmnpamaaGreatDoor

namespace Go.Proofs.YtjabgpejmnpamaaGreatDoor
open Go.RowKit Go.Shelf
set_option maxRecDepth 100000
attribute [local go_sem] Oper.semAt_some
def Node (g6 : Nat) (p : List Int) (ls : List (List Int)) : Prop := ∀ (N M l b1 b2 b3 : Nat) (vp : Value) (pre0 : List VL) (J : List VL → World → Prop) (W : World), NodeAt g6 W b1 b2 b3 vp p → OwnFrom W.heap.size J → N ≤ W.heap.size → pre0.length + ls.length ≤ M → YOk g6 N M l J → J pre0 W →
  CallsIn Fence.wide 5 Tryz.prog 206 (setsArgs l b1 b2 b3) W (NodeEnd J pre0 ls)
theorem node_leaf {g6 : Nat} {p : List Int} (hp : p.length = 4) : Node g6 p [p] := fun N M l b1 b2 b3 vp pre0 J W hN hJ _ hM hY h0 => leaf_in g6 N M l b1 b2 b3 vp p pre0 J W hp hN hJ (by simp at hM; omega) hY h0
theorem fin_own {β : Type} {B g6 : Nat} (hB : g6 < B) : OwnFrom B (fun (_ : β) W => Fin6 g6 W) := fun s X Y row hs hg hr => by
  have ho : own6 g6 Y = own6 g6 X := own6_same (hg.block g6 hs.1 (fun e => by have := (hr _ e.symm).1; omega))
  exact ⟨Nat.lt_of_lt_of_le hs.1 hg.size, fun k hk => Nat.lt_of_lt_of_le (hs.2 k (by rw [← ho]; exact hk)) hg.size⟩
theorem bad_own {β : Type} {B g6 k : Nat} (hB : g6 < B) : OwnFrom B (fun (_ : β) W => g6 < W.heap.size ∧ ¬ Bad g6 W k) := fun s X Y row hs hg hr => by
  have ho : own6 g6 Y = own6 g6 X := own6_same (hg.block g6 hs.1 (fun e => by have := (hr _ e.symm).1; omega))
  refine ⟨Nat.lt_of_lt_of_le hs.1 hg.size, fun hb => hs.2 ?_⟩
  rcases hb with h | h
  · exact .inl h
  · exact .inr (by rw [← ho]; exact h)
theorem node_own {β : Type} {B g6 b1 b2 b3 : Nat} {vp : Value} {p : List Int} (hB : g6 < B) : OwnFrom B (fun (_ : β) W => NodeAt g6 W b1 b2 b3 vp p) := fun s X Y row hs hg hr =>
  ⟨fin_own (β := Unit) hB () X Y row hs.fin hg hr, box_own (β := Unit) B () X Y row hs.box1 hg hr, box_own (β := Unit) B () X Y row hs.box2 hg hr, box_own (β := Unit) B () X Y row hs.box3 hg hr, own_ownFrom (β := Unit) (B := B) () X Y row hs.own hg hr,
   (bad_own (β := Unit) hB () X Y row ⟨hs.fin.1, hs.bad1⟩ hg hr).2, (bad_own (β := Unit) hB () X Y row ⟨hs.fin.1, hs.bad2⟩ hg hr).2, (bad_own (β := Unit) hB () X Y row ⟨hs.fin.1, hs.bad3⟩ hg hr).2, fun g h => (bad_own (β := Unit) hB () X Y row ⟨hs.fin.1, hs.safe g h⟩ hg hr).2⟩
theorem new_safe {g6 : Nat} {W W' : World} {k : Nat} (hF : Fin6 g6 W) (e : Ext W W') (hk : W.heap.size ≤ k) : ¬ Bad g6 W' k := by
  intro hb
  rcases hb with h | h
  · have := hF.1; omega
  · rw [own6_same (e.block g6 hF.1)] at h
    have := hF.2 k h
    omega
theorem child_seq {g6 : Nat} {p : List Int} {ls : List (List Int)} (h : Node g6 p ls) {w : World} {b1 b2 b3 : Nat} {vp : Value} (hN : NodeAt g6 w b1 b2 b3 vp p) (n : Nat) :
    SeqE Fence.wide n Tryz.prog 206 #[.pointer (some ⟨b1, 0, none⟩), .pointer (some ⟨b2, 0, none⟩), .pointer (some ⟨b3, 0, none⟩)] (fun x : VL => #[x.1]) (KP g6 (w.heap.size + 2)) (fun x W => ES x W ∧ Fin6 g6 W) (fun xs => xs.map (·.2) = ls) ls.length w := by
  intro l J W hW hW2 hJ hY h0
  refine (callsIn_wide.2 (callsIn_wide.1 (h (w.heap.size + 2) ls.length l b1 b2 b3 vp [] J W (hN.keep (KP.ext (N := 0) hW hN.fin.1)) hJ hW2 (by simp) ?_ h0))).mono ?_
  · intro pre x W1 hlen hj he hf
    obtain ⟨fn, tmps, assign, body, hy, hR⟩ := hY pre x W1 hlen hj ⟨he, hf⟩
    exact ⟨fn, tmps, assign, body, hy, round_any hR⟩
  · rintro e W' ⟨hv, xs, hx, hJx⟩
    exact ⟨hv, xs, hx, hJx⟩
end Go.Proofs.YtjabgpejmnpamaaGreatDoor

namespace Go.Proofs.YtjabgpejmnpamaaGreatDoor
open Go.RowKit Go.Shelf
set_option maxRecDepth 100000
attribute [local go_sem] Oper.semAt_some
def findR (id : Nat) : Code → Option Code
  | .region k ops d => if k = id then some (.region k ops d) else none
  | .seq a b => (match findR id a with | some x => some x | none => findR id b)
  | .cond _ a b => (match findR id a with | some x => some x | none => findR id b)
  | .block _ b => findR id b
  | .loop b => findR id b
  | .rangeFunc _ _ a b => (match findR id a with | some x => some x | none => findR id b)
  | .scope b => findR id b
  | _ => none
def findF : Code → Option Code
  | .seq a b => (match findF a with | some x => some x | none => findF b)
  | .cond _ a b => (match findF a with | some x => some x | none => findF b)
  | .block _ b => findF b
  | .loop b => findF b
  | .rangeFunc f p a b => some (.rangeFunc f p a b)
  | .scope b => findF b
  | _ => none
theorem new_keep {g6 : Nat} {W W' : World} {k : Nat} (hF : Fin6 g6 W) (e : Ext W W') (hk : ¬ Bad g6 W k) (_ : k < W.heap.size) : ¬ Bad g6 W' k := by
  rintro (h | h)
  · exact hk (.inl h)
  · rw [own6_same (e.block g6 hF.1)] at h
    exact hk (.inr h)
set_option maxHeartbeats 4000000 in
theorem reg9_any {b1 b2 b3 j pc : Nat} {pa : Option Addr} {d : Int} {p : List Int} {x0 x4 x5 x7 x8 x9 x10 x11 x12 x13 x14 x15 x16 x17 x18 x19 x20 x21 x22 x23 x24 x25 x26 x27 x28 x29 x30 x31 x32 x33 x34 x35 x36 x37 x38 x39 x40 x41 x42 x43 x44 x45 x46 x47 x48 x49 : Value} {df : List Deferred} {V : World} {Q : Exit → Act → World → Prop} (hj : p.length = j) (hj4 : j ≤ 4)
    (c1 : V.cell? ⟨b1, 0, none⟩ = some (.slice pa j pc)) (c2 : V.cell? ⟨b2, 0, none⟩ = some (.int .i64 4)) (c3 : V.cell? ⟨b3, 0, none⟩ = some (.int .i64 5)) (l1 : b1 < V.heap.size) (l2 : b2 < V.heap.size) (l3 : b3 < V.heap.size)
    (hp : OwnI V 0 (.slice pa j pc) p)
    (h : ∀ (v5 v4 : Value) (a6 : Option Addr) (c6 : Nat) (wo : World), Ext V wo → OwnI wo V.heap.size (.slice a6 (j + 1) c6) (p ++ [d]) →
      Q .normal { tmps := (x0 :: .pointer (some ⟨b1, 0, none⟩) :: .pointer (some ⟨b2, 0, none⟩) :: .pointer (some ⟨b3, 0, none⟩) :: x4 :: x5 :: .int .i64 d :: x7 :: x8 :: x9 :: x10 :: x11 :: x12 :: x13 :: x14 :: x15 :: x16 :: x17 :: x18 :: x19 :: x20 :: x21 :: x22 :: x23 :: x24 :: x25 :: x26 :: x27 :: x28 :: x29 :: x30 :: x31 :: x32 :: x33 :: x34 :: x35 :: x36 :: .slice pa j pc :: v5 :: .int .i64 d :: v4 :: .slice a6 (j + 1) c6 :: .int .i64 5 :: .int .i64 4 :: .func (.func 206) #[] (setsV wo) :: x45 :: x46 :: x47 :: x48 :: x49 :: []).toArray, defers := df } (setsW wo (.slice a6 (j + 1) c6))) :
    ∀ c, Tryz.f206.body.bind (findR 9) = some c → c.wpIn Fence.wide 5 Tryz.prog Q { tmps := (x0 :: .pointer (some ⟨b1, 0, none⟩) :: .pointer (some ⟨b2, 0, none⟩) :: .pointer (some ⟨b3, 0, none⟩) :: x4 :: x5 :: .int .i64 d :: x7 :: x8 :: x9 :: x10 :: x11 :: x12 :: x13 :: x14 :: x15 :: x16 :: x17 :: x18 :: x19 :: x20 :: x21 :: x22 :: x23 :: x24 :: x25 :: x26 :: x27 :: x28 :: x29 :: x30 :: x31 :: x32 :: x33 :: x34 :: x35 :: x36 :: x37 :: x38 :: x39 :: x40 :: x41 :: x42 :: x43 :: x44 :: x45 :: x46 :: x47 :: x48 :: x49 :: []).toArray, defers := df } V := by
  intro c hc
  obtain ⟨i0, hi, hi0, hi1, hi2⟩ := info_parts infoN
  simp (config := { decide := true }) only [Tryz.f206, Option.bind_some, findR, if_false, if_true] at hc
  cases hc
  refine wpIn_wide.2 ?_
  have HP := Lib.hid hp
  have HJ := Lib.hid hj
  clear hp hj
  refine wp_region_extTB (.take 0 (.take 2 (.take 5 (.take 6 (.two 1 3 (.one 3 (.one 4 (.one 7 .done))) (.one 1 (.one 4 (.one 7 .done)))))))) (by kernel_rfl) (by kernel_rfl) (fun wc hxc => ?_)
  iterate 4 ((first
   | refine extT_move rfl rfl (by rfl) (by rfl) ?_
   | refine extT_assign rfl rfl (by rfl) (by rfl) ?_
   | refine extT_pick_t rfl rfl (by rfl) (by rfl) (by rfl) ?_
   | refine extT_pick_f rfl rfl (by rfl) (by rfl) (by rfl) ?_
   | (apply extT_take rfl (by rfl)
      · intro w' hS
        have hSc := hS.cells
        (try simp only [World.size_drew, World.cell?_drew] at hSc)
        go_simp
        (try simp (disch := omega) only [i64_id, u64_id, ↓IntWalk.iteOmega, Int.tdiv_eq_ediv_of_nonneg, Int.tmod_eq_emod_of_nonneg])
        try rfl)
   | refine extT_pass rfl (by rfl) ?_); simp only [Act.put, setZa, setZ0, setZ1])
  refine extT_twoB rfl rfl (by rfl) (by rfl) (fun K hK => ?_) (fun K hK => ?_)
  go_simp
  go_at_call 207
  refine (cloneI_any _ p _ (by have := HJ.out; omega) (HP.out.slice.ext hxc)).mono ?_
  rintro e wn ⟨v5, rfl, ho5, hst⟩
  have ho5 : OwnI wn V.heap.size v5 p := ho5.lower hxc.size
  skip
  replace hst : Ext wc wn := hst
  refine hK _ _ (hxc.trans hst) ?_
  clear hK K
  replace hxc := hxc.trans hst
  clear hst
  generalize wn = wc at *
  (try simp only [Act.put, setZa, setZ0, setZ1])
  refine extT_doB rfl (by rfl) (fun K hK => ?_)
  go_simp
  have hst : Ext wc (wc.alloc (.cells #[.int .i64 d] 3)) := Ext.alloc _ _
  have hb6 : BoxAt (wc.alloc (.cells #[.int .i64 d] 3)) wc.heap.size #[.int .i64 d] 3 := BoxAt.new _ _ _
  replace ho5 := ho5.ext hst
  refine hK _ _ (hxc.trans hst) ?_
  clear hK K
  replace hxc := hxc.trans hst
  clear hst
  generalize wc.alloc (.cells #[.int .i64 d] 3) = wn at *
  generalize wc.heap.size = q6 at *
  generalize wn = wc at *
  (try simp only [Act.put, setZa, setZ0, setZ1])
  refine extT_doB rfl (by rfl) (fun K hK => ?_)
  refine wp_of_list rfl ?_
  refine wpList_append_one rfl _ _ _ rfl V.heap.size 3 i0 (.int .i64 0) 8 Tryz.underlying40 hi hi0 hi1 hi2 rfl _ _ _ rfl ho5 _ (.int .i64 d) rfl rfl (hb6.cell 0 rfl) (by have := HJ.out; unfold maxLen; omega) (by have := HJ.out; omega) hxc.size ?_
  intro v6 wn ho6 hg6 _
  have hst : Ext V wn := Below.grown hxc hg6 hxc.size (fun k hk => (ho5.lt k hk).1)
  have ho6 : OwnI wn V.heap.size v6 (p ++ [d]) := OwnG.snoc ho6
  obtain ⟨a6, c6, rfl⟩ := ho6.shape
  rw [show (p ++ [d]).length = j + 1 from by rw [List.length_append, HJ.out]; rfl] at ho6 ⊢
  refine hK _ _ hst ?_
  clear hK K hxc hg6
  (try simp only [Act.put, setZa, setZ0, setZ1])
  refine extT_doB rfl (by rfl) (fun K hK => ?_)
  go_simp
  go_at_call 154
  refine (sets_any _ _ _ _).mono ?_
  rintro e w8 ⟨rfl, rfl⟩
  refine hK _ _ (hst.trans ((Ext.alloc _ _).trans ((Ext.alloc _ _).trans (Ext.alloc _ _)))) ?_
  clear hK K
  (try simp only [Act.put, setZa, setZ0, setZ1])
  refine extT_nil ?_
  exact h _ _ _ _ _ hst ho6
  skip
  go_simp
  have hst : Ext wc (wc.alloc (.cells #[.int .i64 d] 3)) := Ext.alloc _ _
  have hb6 : BoxAt (wc.alloc (.cells #[.int .i64 d] 3)) wc.heap.size #[.int .i64 d] 3 := BoxAt.new _ _ _
  skip
  refine hK _ _ (hxc.trans hst) ?_
  clear hK K
  replace hxc := hxc.trans hst
  clear hst
  generalize wc.alloc (.cells #[.int .i64 d] 3) = wn at *
  generalize wc.heap.size = q6 at *
  generalize wn = wc at *
  (try simp only [Act.put, setZa, setZ0, setZ1])
  refine extT_doB rfl (by rfl) (fun K hK => ?_)
  go_simp
  go_at_call 207
  refine (cloneI_any _ p _ (by have := HJ.out; omega) (HP.out.slice.ext hxc)).mono ?_
  rintro e wn ⟨v5, rfl, ho5, hst⟩
  have ho5 : OwnI wn V.heap.size v5 p := ho5.lower hxc.size
  replace hb6 := hb6.ext hst
  replace hst : Ext wc wn := hst
  refine hK _ _ (hxc.trans hst) ?_
  clear hK K
  replace hxc := hxc.trans hst
  clear hst
  generalize wn = wc at *
  (try simp only [Act.put, setZa, setZ0, setZ1])
  refine extT_doB rfl (by rfl) (fun K hK => ?_)
  refine wp_of_list rfl ?_
  refine wpList_append_one rfl _ _ _ rfl V.heap.size 3 i0 (.int .i64 0) 8 Tryz.underlying40 hi hi0 hi1 hi2 rfl _ _ _ rfl ho5 _ (.int .i64 d) rfl rfl (hb6.cell 0 rfl) (by have := HJ.out; unfold maxLen; omega) (by have := HJ.out; omega) hxc.size ?_
  intro v6 wn ho6 hg6 _
  have hst : Ext V wn := Below.grown hxc hg6 hxc.size (fun k hk => (ho5.lt k hk).1)
  have ho6 : OwnI wn V.heap.size v6 (p ++ [d]) := OwnG.snoc ho6
  obtain ⟨a6, c6, rfl⟩ := ho6.shape
  rw [show (p ++ [d]).length = j + 1 from by rw [List.length_append, HJ.out]; rfl] at ho6 ⊢
  refine hK _ _ hst ?_
  clear hK K hxc hg6
  (try simp only [Act.put, setZa, setZ0, setZ1])
  refine extT_doB rfl (by rfl) (fun K hK => ?_)
  go_simp
  go_at_call 154
  refine (sets_any _ _ _ _).mono ?_
  rintro e w8 ⟨rfl, rfl⟩
  refine hK _ _ (hst.trans ((Ext.alloc _ _).trans ((Ext.alloc _ _).trans (Ext.alloc _ _)))) ?_
  clear hK K
  (try simp only [Act.put, setZa, setZ0, setZ1])
  refine extT_nil ?_
  exact h _ _ _ _ _ hst ho6
  skip
theorem own_sub {β : Type} {B B' : Nat} {J : List β → World → Prop} (h : OwnFrom B J) (hb : B ≤ B') (pre : List β) : OwnFrom B' (fun (acc : List β) W => J (pre ++ acc) W) := fun s X Y row hs hg hr =>
  h (pre ++ s) X Y row hs hg (fun r e => ⟨Nat.le_trans hb (hr r e).1, (hr r e).2⟩)
theorem round_inner {P : Program} {l l' m n : Nat} {f : FuncId} {tmps : Array Value} {assign body : Code} {w : World} {R : Ending → World → Prop} (h : RoundIn Fence.wide m P l f tmps assign body w R) : RoundIn (Fence.wide.inRound l') n P l f tmps assign body w R := round_any (n := n) h
structure RI (g6 b1 b2 b3 b4 : Nat) (vp : Value) (p : List Int) (l : Nat) (J : List VL → World → Prop) (pre : List VL) (n : Nat) (Ds : List Nat) (acc : List VL) (W : World) : Prop where
  j : J (pre ++ acc) W
  node : NodeAt g6 W b1 b2 b3 vp p
  box4 : BoxAt W b4 #[.func (.yield l) #[] #[]] 306
  bad4 : ¬ Bad g6 W b4
  size : n ≤ W.heap.size
  defs : DefAt Ds W
theorem ri_own {g6 b1 b2 b3 b4 : Nat} {vp : Value} {p : List Int} {l : Nat} {J : List VL → World → Prop} {pre : List VL} {n B B' : Nat} {Ds : List Nat} (hJ : OwnFrom B J) (hb : B ≤ B') (hg : g6 < B') (hD : ∀ D, D ∈ Ds → D < B') : OwnFrom B' (RI g6 b1 b2 b3 b4 vp p l J pre n Ds) := fun s X Y row hs hgr hr =>
  ⟨own_sub hJ hb pre s X Y row hs.j hgr hr, node_own (β := Unit) hg () X Y row hs.node hgr hr, box_own (β := Unit) B' () X Y row hs.box4 hgr hr, (bad_own (β := Unit) hg () X Y row ⟨hs.node.fin.1, hs.bad4⟩ hgr hr).2, Nat.le_trans hs.size hgr.size, def_own (β := Unit) hD () X Y row hs.defs hgr hr⟩
set_option maxHeartbeats 4000000 in
theorem rng_any {g6 N M l b1 b2 b3 b4 n c B : Nat} {vp : Value} {p q : List Int} {ls : List (List Int)} {a6 : Option Addr} (hc : Node g6 q ls) {pre : List VL} {J : List VL → World → Prop} {V wo : World} {Ds : List Nat}
    (hN : NodeAt g6 V b1 b2 b3 vp p) (hB4 : BoxAt V b4 #[.func (.yield l) #[] #[]] 306) (hS4 : ¬ Bad g6 V b4) (hJ : OwnFrom B J) (hBV : B ≤ V.heap.size) (hNV : N ≤ V.heap.size) (hM : pre.length + ls.length ≤ M) (hY : YOk g6 N M l J) (hD : DefAt Ds V) (hND : ∀ D, D ∈ Ds → N ≤ D) (h0 : J pre V)
    (e : Ext V wo) (ho : OwnI wo V.heap.size (.slice a6 n c) q) {x0 x5 x6 x7 x8 x9 x10 x11 x12 x13 x14 x15 x16 x17 x18 x19 x20 x21 x22 x23 x24 x25 x26 x27 x28 x29 x30 x31 x32 x33 x34 x35 x36 x37 x38 x39 x40 x41 x42 x43 x45 x46 x47 x48 x49 : Value} {df : List Deferred} {Q : Exit → Act → World → Prop}
    (hdone : ∀ (xs : List VL) (W : World) (D : Nat), xs.map (·.2) = ls → RI g6 b1 b2 b3 b4 vp p l J (pre ++ xs) V.heap.size (D :: Ds) [] W → D ∉ Ds → V.heap.size ≤ D → Q .normal { tmps := (x0 :: .pointer (some ⟨b1, 0, none⟩) :: .pointer (some ⟨b2, 0, none⟩) :: .pointer (some ⟨b3, 0, none⟩) :: .pointer (some ⟨b4, 0, none⟩) :: x5 :: x6 :: x7 :: x8 :: x9 :: x10 :: x11 :: x12 :: x13 :: x14 :: x15 :: x16 :: x17 :: x18 :: x19 :: x20 :: x21 :: x22 :: x23 :: x24 :: x25 :: x26 :: x27 :: x28 :: x29 :: x30 :: x31 :: x32 :: x33 :: x34 :: x35 :: x36 :: x37 :: x38 :: x39 :: x40 :: x41 :: x42 :: x43 :: .func (.func 206) #[] (setsV wo) :: x45 :: x46 :: x47 :: x48 :: x49 :: []).toArray, defers := { target := .collected D, args := #[] } :: df } W) :
    ∀ c', Tryz.f206.body.bind findF = some c' → c'.wpIn Fence.wide 5 Tryz.prog Q { tmps := (x0 :: .pointer (some ⟨b1, 0, none⟩) :: .pointer (some ⟨b2, 0, none⟩) :: .pointer (some ⟨b3, 0, none⟩) :: .pointer (some ⟨b4, 0, none⟩) :: x5 :: x6 :: x7 :: x8 :: x9 :: x10 :: x11 :: x12 :: x13 :: x14 :: x15 :: x16 :: x17 :: x18 :: x19 :: x20 :: x21 :: x22 :: x23 :: x24 :: x25 :: x26 :: x27 :: x28 :: x29 :: x30 :: x31 :: x32 :: x33 :: x34 :: x35 :: x36 :: x37 :: x38 :: x39 :: x40 :: x41 :: x42 :: x43 :: .func (.func 206) #[] (setsV wo) :: x45 :: x46 :: x47 :: x48 :: x49 :: []).toArray, defers := df } (setsW wo (.slice a6 n c)) := by
  intro c' hc'
  simp only [Tryz.f206, Option.bind_some, findF] at hc'
  cases hc'
  have eU : Ext V (setsW wo (.slice a6 n c)) := e.trans ((Ext.alloc _ _).trans ((Ext.alloc _ _).trans (Ext.alloc _ _)))
  have oU : OwnI (setsW wo (.slice a6 n c)) V.heap.size (.slice a6 n c) q := ho.ext ((Ext.alloc _ _).trans ((Ext.alloc _ _).trans (Ext.alloc _ _)))
  have B1 : BoxAt (setsW wo (.slice a6 n c)) wo.heap.size #[.slice a6 n c] 40 := ((BoxAt.new _ _ _).ext (Ext.alloc _ _)).ext (Ext.alloc _ _)
  have B3 : BoxAt (setsW wo (.slice a6 n c)) (wo.heap.size + 1) #[.int .i64 5] 3 := by
    have := BoxAt.new (wo.alloc (.cells #[.slice a6 n c] 40)) #[.int .i64 5] 3
    rw [World.size_alloc] at this
    exact this.ext (Ext.alloc _ _)
  have B2 : BoxAt (setsW wo (.slice a6 n c)) (wo.heap.size + 1 + 1) #[.int .i64 4] 3 := by
    have := BoxAt.new ((wo.alloc (.cells #[.slice a6 n c] 40)).alloc (.cells #[.int .i64 5] 3)) #[.int .i64 4] 3
    rw [World.size_alloc, World.size_alloc] at this
    exact this
  have hes := e.size
  have hus := eU.size
  have hNU : NodeAt g6 (setsW wo (.slice a6 n c)) wo.heap.size (wo.heap.size + 1 + 1) (wo.heap.size + 1) (.slice a6 n c) q :=
    ⟨(KP.ext (N := 0) eU hN.fin.1).fin hN.fin, B1, B2, B3, oU.lower (Nat.zero_le _), new_safe hN.fin eU (by omega), new_safe hN.fin eU (by omega), new_safe hN.fin eU (by omega), fun g hg => new_safe hN.fin eU (oU.lt g hg).1⟩
  have hgU : g6 < (setsW wo (.slice a6 n c)).heap.size := hNU.fin.1
  have hVs := hN.keep (KP.ext (N := 0) eU hN.fin.1)
  have hI0 : RI g6 b1 b2 b3 b4 vp p l J pre V.heap.size Ds [] (setsW wo (.slice a6 n c)) :=
    ⟨by rw [List.append_nil]; exact hJ _ _ _ none h0 (grown_ext eU none) (fun r e => by cases e), hVs, hB4.ext eU, new_keep hN.fin eU hS4 hB4.lt, hus, hD.ext eU⟩
  have hDU : ∀ D, D ∈ Ds → D < (setsW wo (.slice a6 n c)).heap.size := fun D hD' => Nat.lt_of_lt_of_le (Array.getElem?_eq_some_iff.1 (hD D hD')).1 hus
  have hseq := fun k => child_seq hc hNU k
  have heq : setsV wo = #[.pointer (some ⟨wo.heap.size, 0, none⟩), .pointer (some ⟨wo.heap.size + 1 + 1, 0, none⟩), .pointer (some ⟨wo.heap.size + 1, 0, none⟩)] := rfl
  have hBU : B ≤ (setsW wo (.slice a6 n c)).heap.size := Nat.le_trans hBV hus
  have hNU' : N ≤ (setsW wo (.slice a6 n c)).heap.size := Nat.le_trans hNV hus
  rw [heq]
  rw [heq] at hdone
  clear oU B1 B2 B3 hNU hVs hes heq ho e eU
  generalize setsW wo (.slice a6 n c) = U at *
  refine wpIn_rangeFunc_ownE rfl (by decide) (gf := 206) rfl trivial (enters_of Tryz.func206 (by kernel_rfl) rfl) (hseq (5 - 1)) KP.trans (fun W o o' hk hcl => KP.put o' (by omega) (by omega) hk hcl) (Below.refl _ _) (fun _ => rfl)
    (fun x => OwnFrom.and own_ownFrom (fin_own hgU)) (RI g6 b1 b2 b3 b4 vp p l J pre V.heap.size Ds) (ri_own hJ hBU hgU hDU) hI0
    (fun x => { tmps := (x0 :: .pointer (some ⟨b1, 0, none⟩) :: .pointer (some ⟨b2, 0, none⟩) :: .pointer (some ⟨b3, 0, none⟩) :: .pointer (some ⟨b4, 0, none⟩) :: x5 :: x6 :: x.1 :: x8 :: x9 :: x10 :: x11 :: x12 :: x13 :: x14 :: x15 :: x16 :: x17 :: x18 :: x19 :: x20 :: x21 :: x22 :: x23 :: x24 :: x25 :: x26 :: x27 :: x28 :: x29 :: x30 :: x31 :: x32 :: x33 :: x34 :: x35 :: x36 :: x37 :: x38 :: x39 :: x40 :: x41 :: x42 :: x43 :: .func (.func 206) #[] (setsV wo) :: x.1 :: x46 :: x47 :: x48 :: x49 :: []).toArray, defers := [] }) ?assign ?body ?done
  case assign =>
    intro l' x W K hK
    gi_wp2
    exact hK
  case body =>
    rintro l' acc x W hlen hR ⟨hes, hfin⟩
    have c4 : W.cell? ⟨b4, 0, none⟩ = some (.func (.yield l) #[] #[]) := hR.box4.cell 0 rfl
    have l4 := hR.box4.lt
    obtain ⟨fn, tmps, assign, body, hy, hRd⟩ := hY _ x W (by rw [List.length_append]; omega) hR.j hes hfin
    have HR := Lib.hid hR
    clear hR
    gi_wp2
    refine (round_inner hRd).mono ?_
    rintro e w6 ⟨rfl, hJ6, hk6⟩
    gi_wp2
    have hR := HR.out
    have hb4 := hk6.box hR.box4 hR.bad4
    refine ⟨⟨hk6.size, fun k o hk ho hnc => hk6.nonc k o (by omega) ho hnc⟩, hk6.more (by omega), ⟨by rw [← List.append_assoc]; exact hJ6, hR.node.keep hk6, hb4.1, hb4.2, Nat.le_trans hR.size hk6.size, fun D hD' => ?_⟩⟩
    have hd := hR.defs D hD'
    exact hk6.nonc D _ (by have := hND D hD'; omega) hd rfl
  case done =>
    rintro D xs W hD hS hI hDW
    refine hdone xs W D hS ⟨by rw [List.append_nil]; exact hI.j, hI.node, hI.box4, hI.bad4, hI.size, hI.defs.cons hDW⟩ (fun h => ?_) (by omega)
    have := hDU D h
    omega
end Go.Proofs.YtjabgpejmnpamaaGreatDoor
