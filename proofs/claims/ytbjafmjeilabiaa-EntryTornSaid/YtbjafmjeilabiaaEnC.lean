/-
  Chapter 15 (entry): Encode of the reference.
-/
import Derived.Test.YtbjafmjeilabiaaEnB
namespace Go.Proofs.Ytbjafmjeilabiaa
open Go.RowKit
set_option linter.unusedVariables false

theorem seal_any (v : Value) (l : List (BitVec 8)) (w : World) (hl : l.length ≤ 100000) (h : SliceAt encB w v l) :
    Calls Try.prog 14 #[v] w fun e w' => ∃ v', e = .returned v' ∧ OwnB w' w.heap.size v' (seal8 l) ∧ Below w.heap.size w w' := by
  have HS := Lib.hid h
  clear h
  go_enter Try.func14, Try.ntmps14
  go_wp2_with fail
  go_at_call 22
  refine (rsum_any _ l _ (by unfold maxLen; omega) HS.out).mono ?_
  rintro e w1 ⟨rfl, rfl⟩
  go_wp2_with fail
  go_at_call 19
  refine (rput_any _ l _ _ _ (by omega) (by omega) HS.out).mono ?_
  rintro e w1 ⟨v1, rfl, ho1, hb1⟩
  go_wp2_with fail
  go_ret
  exact ⟨_, rfl, ho1, hb1⟩

theorem rencode_no (k b : Int) (v : BitVec 64) (x0 x1 x2 x3 x4 x5 x6 x7 : BitVec 8) (t : BitVec 64) (w : World) (h : vld k b v [x0, x1, x2, x3, x4, x5, x6, x7] = false) :
    Calls Try.prog 10 #[.agg #[encI k, encI b, encU v, encB x0, encB x1, encB x2, encB x3, encB x4, encB x5, encB x6, encB x7], encU t] w fun e w' => e = .returned (.tuple #[.slice none 0 0, .int .i64 1]) ∧ Below w.heap.size w w' := by
  have HV := Lib.hid h
  clear h
  go_enter Try.func10, Try.ntmps10
  go_wp2_with fail
  have hz : w.heap.size < (w.alloc (.cells #[encI k, encI b, encU v, encB x0, encB x1, encB x2, encB x3, encB x4, encB x5, encB x6, encB x7] 26)).heap.size := by simp
  generalize hW : w.alloc (.cells #[encI k, encI b, encU v, encB x0, encB x1, encB x2, encB x3, encB x4, encB x5, encB x6, encB x7] 26) = W at *
  have c0 : W.cell? ⟨w.heap.size, 0, none⟩ = some (encI k) := by rw [← hW]; simp
  have c1 : W.cell? ⟨w.heap.size, 1, none⟩ = some (encI b) := by rw [← hW]; simp
  have c2 : W.cell? ⟨w.heap.size, 2, none⟩ = some (encU v) := by rw [← hW]; simp
  have c3 : W.cell? ⟨w.heap.size, 3, none⟩ = some (encB x0) := by rw [← hW]; simp
  have c4 : W.cell? ⟨w.heap.size, 4, none⟩ = some (encB x1) := by rw [← hW]; simp
  have c5 : W.cell? ⟨w.heap.size, 5, none⟩ = some (encB x2) := by rw [← hW]; simp
  have c6 : W.cell? ⟨w.heap.size, 6, none⟩ = some (encB x3) := by rw [← hW]; simp
  have c7 : W.cell? ⟨w.heap.size, 7, none⟩ = some (encB x4) := by rw [← hW]; simp
  have c8 : W.cell? ⟨w.heap.size, 8, none⟩ = some (encB x5) := by rw [← hW]; simp
  have c9 : W.cell? ⟨w.heap.size, 9, none⟩ = some (encB x6) := by rw [← hW]; simp
  have c10 : W.cell? ⟨w.heap.size, 10, none⟩ = some (encB x7) := by rw [← hW]; simp
  have hxW : Ext w W := by rw [← hW]; exact Ext.alloc _ _
  have hbF : ∀ o, W.frozen? ⟨w.heap.size, o, none⟩ = false := fun o => by rw [← hW]; simp
  have HBF := Lib.hid hbF
  clear hW hbF
  go_wp2_with (go_at_call 15; refine (rvalid_any _ _ _ _ _ _ _ _ _ _ _ _).mono ?_; rintro e w1 ⟨rfl, hb1⟩; rw [HV.out])
  go_ret2
  exact ⟨rfl, hxW.trans hb1⟩

theorem wrap8_int (n : Int) : IntKind.u8.wrap n = ub (BitVec.ofInt 8 n) := by
  unfold ub
  simp only [IntKind.wrap, IntKind.bits, IntKind.signed]
  simp [BitVec.toNat_ofInt]
  omega
theorem kind_byte {k : Int} (h1 : 1 ≤ k) (h2 : k ≤ 2) : [BitVec.ofInt 8 k] = le 1 (BitVec.ofInt 64 k) := by
  rcases (show k = 1 ∨ k = 2 by omega) with rfl | rfl <;> rfl

set_option maxHeartbeats 800000 in
theorem rencode_yes (k b : Int) (v : BitVec 64) (x0 x1 x2 x3 x4 x5 x6 x7 : BitVec 8) (t : BitVec 64) (w : World) (h : vld k b v [x0, x1, x2, x3, x4, x5, x6, x7] = true) :
    Calls Try.prog 10 #[.agg #[encI k, encI b, encU v, encB x0, encB x1, encB x2, encB x3, encB x4, encB x5, encB x6, encB x7], encU t] w fun e w' => ∃ v', e = .returned (.tuple #[v', .int .i64 0]) ∧ OwnB w' w.heap.size v' (seal8 (pln k b v [x0, x1, x2, x3, x4, x5, x6, x7] t)) ∧ Below w.heap.size w w' := by
  obtain ⟨i0, hi, hz0, hz1, hz2⟩ := info_parts infoB
  obtain ⟨⟨hk1, hk2⟩, ⟨hb1, hb2⟩, hv⟩ := vld_bounds h
  have hvb := un_bound v
  have htb := un_bound t
  have HV := Lib.hid h
  clear h
  go_enter Try.func10, Try.ntmps10
  go_wp2_with fail
  have hz : w.heap.size < (w.alloc (.cells #[encI k, encI b, encU v, encB x0, encB x1, encB x2, encB x3, encB x4, encB x5, encB x6, encB x7] 26)).heap.size := by simp
  generalize hW : w.alloc (.cells #[encI k, encI b, encU v, encB x0, encB x1, encB x2, encB x3, encB x4, encB x5, encB x6, encB x7] 26) = W at *
  have c0 : W.cell? ⟨w.heap.size, 0, none⟩ = some (encI k) := by rw [← hW]; simp
  have c1 : W.cell? ⟨w.heap.size, 1, none⟩ = some (encI b) := by rw [← hW]; simp
  have c2 : W.cell? ⟨w.heap.size, 2, none⟩ = some (encU v) := by rw [← hW]; simp
  have c3 : W.cell? ⟨w.heap.size, 3, none⟩ = some (encB x0) := by rw [← hW]; simp
  have c4 : W.cell? ⟨w.heap.size, 4, none⟩ = some (encB x1) := by rw [← hW]; simp
  have c5 : W.cell? ⟨w.heap.size, 5, none⟩ = some (encB x2) := by rw [← hW]; simp
  have c6 : W.cell? ⟨w.heap.size, 6, none⟩ = some (encB x3) := by rw [← hW]; simp
  have c7 : W.cell? ⟨w.heap.size, 7, none⟩ = some (encB x4) := by rw [← hW]; simp
  have c8 : W.cell? ⟨w.heap.size, 8, none⟩ = some (encB x5) := by rw [← hW]; simp
  have c9 : W.cell? ⟨w.heap.size, 9, none⟩ = some (encB x6) := by rw [← hW]; simp
  have c10 : W.cell? ⟨w.heap.size, 10, none⟩ = some (encB x7) := by rw [← hW]; simp
  have hxW : Ext w W := by rw [← hW]; exact Ext.alloc _ _
  have hbF : ∀ o, W.frozen? ⟨w.heap.size, o, none⟩ = false := fun o => by rw [← hW]; simp
  have HBF := Lib.hid hbF
  clear hW hbF
  have HD := Lib.hid (SliceAt.cells8 (o := 3) hz c3 c4 c5 c6 c7 c8 c9 c10)
  go_wp2_with fail
  go_at_call 15
  refine (rvalid_any _ _ _ _ _ _ _ _ _ _ _ _).mono ?_
  rintro e w1 ⟨rfl, hx1⟩
  rw [HV.out]
  have hc1 := Ext.cells hx1
  have hs1 := Ext.size hx1
  have hlt1 := Nat.lt_of_lt_of_le hz hs1
  have HL : Hid (SliceAt encB (w1.alloc (.cells #[.int .u8 (IntKind.u8.wrap k)] 5)).drew (.slice (some ⟨w1.heap.size, 0, none⟩) 1 1) [BitVec.ofInt 8 k]) :=
    (SliceAt.lit (enc := encB) w1 [BitVec.ofInt 8 k] 5 (0, 0) #[.int .u8 (IntKind.u8.wrap k)] (by rw [wrap8_int]; rfl)).ext (Ext.drew _)
  go_wp2_with fail
  have hxd : Ext W (w1.alloc (.cells #[.int .u8 (IntKind.u8.wrap k)] 5)).drew := Ext.trans hx1 ((Ext.alloc _ _).trans (Ext.drew _))
  have hse := (Ext.alloc w1 (.cells #[.int .u8 (IntKind.u8.wrap k)] 5)).size
  refine wp_region_ext [(0, true), (1, true), (2, true), (4, true), (5, true), (6, true), (8, true), (9, true), (3, false), (7, false), (10, false), (11, true)] (by kernel_rfl) (by kernel_rfl) ?_
  iterate 8 (first
   | (refine ext_move rfl rfl (by rfl) (by rfl) ?_; simp only [Act.put, List.setIfInBounds_toArray, List.set_cons_zero, List.set_cons_succ])
   | (refine ext_assign rfl rfl (by rfl) (by rfl) ?_; simp only [Act.put, List.setIfInBounds_toArray, List.set_cons_zero, List.set_cons_succ])
   | (refine ext_pick_t rfl rfl (by rfl) (by rfl) (by rfl) ?_; simp only [Act.put, List.setIfInBounds_toArray, List.set_cons_zero, List.set_cons_succ])
   | (refine ext_pick_f rfl rfl (by rfl) (by rfl) (by rfl) ?_; simp only [Act.put, List.setIfInBounds_toArray, List.set_cons_zero, List.set_cons_succ])
   | (apply ext_take rfl (by rfl)
      · intro w' hS
        have hSc := hS.cells
        (try simp only [World.size_drew, World.cell?_drew] at hSc)
        go_simp
        (try simp (disch := omega) only [i64_id, u64_id, ↓IntWalk.iteOmega, Int.tdiv_eq_ediv_of_nonneg, Int.tmod_eq_emod_of_nonneg])
        try rfl
      simp only [Act.put, List.setIfInBounds_toArray, List.set_cons_zero, List.set_cons_succ])
   | (refine ext_pass rfl (by rfl) ?_; simp only [Act.put, List.setIfInBounds_toArray, List.set_cons_zero, List.set_cons_succ]))
  (refine ext_do rfl (by rfl) (fun K hK => ?_)
   go_simp
   refine hK _ _ (by first | exact Ext.alloc _ _ | exact (Ext.drew _).trans (Ext.alloc _ _)) ?_
   clear hK K
   (try simp only [Act.put, List.setIfInBounds_toArray, List.set_cons_zero, List.set_cons_succ]))
  (refine ext_do rfl (by rfl) (fun K hK => ?_)
   go_simp
   go_at_call 19
   refine (rput_int _ _ _ _ _ ⟨by omega, by omega⟩ (by simp) (by omega) HL.out).mono ?_
   rintro e w2 ⟨v2, rfl, ho2, hb2⟩
   have hx2 : Ext W w2 := hxd.trans hb2
   have hc2 := hx2.cells
   have hs2 := hx2.size
   have hq2 := Below.size hb2
   have hlt2 := Nat.lt_of_lt_of_le hz hs2
   have HO2 := Lib.hid ho2; clear ho2
   refine hK _ _ (by first | exact hb2 | exact (Ext.drew _).trans hb2) ?_
   clear hK K
   (try simp only [Act.put, List.setIfInBounds_toArray, List.set_cons_zero, List.set_cons_succ]))
  (refine ext_do rfl (by rfl) (fun K hK => ?_)
   go_simp
   go_at_call 19
   refine (rput_int _ _ _ _ _ ⟨by omega, by omega⟩ (by simp [le_length]) (by omega) (OwnB.slice HO2.out)).mono ?_
   rintro e w3 ⟨v3, rfl, ho3, hb3⟩
   have hx3 : Ext W w3 := hx2.trans hb3
   have hc3 := hx3.cells
   have hs3 := hx3.size
   have hq3 := Below.size hb3
   have hlt3 := Nat.lt_of_lt_of_le hz hs3
   have HO3 := Lib.hid ho3; clear ho3
   refine hK _ _ (by first | exact hb3 | exact (Ext.drew _).trans hb3) ?_
   clear hK K
   (try simp only [Act.put, List.setIfInBounds_toArray, List.set_cons_zero, List.set_cons_succ]))
  iterate 1 (first
   | (refine ext_move rfl rfl (by rfl) (by rfl) ?_; simp only [Act.put, List.setIfInBounds_toArray, List.set_cons_zero, List.set_cons_succ])
   | (refine ext_assign rfl rfl (by rfl) (by rfl) ?_; simp only [Act.put, List.setIfInBounds_toArray, List.set_cons_zero, List.set_cons_succ])
   | (refine ext_pick_t rfl rfl (by rfl) (by rfl) (by rfl) ?_; simp only [Act.put, List.setIfInBounds_toArray, List.set_cons_zero, List.set_cons_succ])
   | (refine ext_pick_f rfl rfl (by rfl) (by rfl) (by rfl) ?_; simp only [Act.put, List.setIfInBounds_toArray, List.set_cons_zero, List.set_cons_succ])
   | (apply ext_take rfl (by rfl)
      · intro w' hS
        have hSc := hS.cells
        (try simp only [World.size_drew, World.cell?_drew] at hSc)
        go_simp
        (try simp (disch := omega) only [i64_id, u64_id, ↓IntWalk.iteOmega, Int.tdiv_eq_ediv_of_nonneg, Int.tmod_eq_emod_of_nonneg])
        try rfl
      simp only [Act.put, List.setIfInBounds_toArray, List.set_cons_zero, List.set_cons_succ])
   | (refine ext_pass rfl (by rfl) ?_; simp only [Act.put, List.setIfInBounds_toArray, List.set_cons_zero, List.set_cons_succ]))
  refine ext_nil ?_
  go_wp2_with (at_builtin; go_must (refine wpList_append_slice (enc := encB) (fun _ => rfl) rfl _ _ _ rfl w2.heap.size 5 i0 (.int .u8 0) 1 Try.underlying27 hi hz0 hz1 hz2 rfl _ _ _ rfl HO3.out _ _ rfl (HD.out.ext hx3) (by unfold maxLen; simp [le_length]) (by simp [le_length]) (by omega) ?_; intro v4 w4 ho4 hg4); have hx4 : Ext W w4 := Below.grown hx3 hg4 hs3 (fun k hk => by have := (World.ownsRow.lt HO3.out k hk).1; omega); have HO4 := Lib.hid (OwnB.mk ho4); have hc4 := hx4.cells; have hs4 := hx4.size; have hlt4 := Nat.lt_of_lt_of_le hz hs4; clear ho4 hg4)
  go_at_call 19
  refine (rput_any _ _ _ _ _ (by simp [le_length]) (by omega) (OwnB.slice HO4.out)).mono ?_
  rintro e w5 ⟨v5, rfl, ho5, hb5⟩
  have hx5 : Ext W w5 := by first | exact Below.trans hx4 hb5 | exact Ext.trans hx4 hb5
  have hc5 := hx5.cells
  have hs5 := hx5.size
  have hq5 := Below.size hb5
  have hlt5 := Nat.lt_of_lt_of_le hz hs5
  have HO5 := Lib.hid ho5
  clear ho5 hb5
  go_wp2_with fail
  go_at_call 14
  refine (seal_any _ _ _ (by simp [le_length]) (OwnB.slice HO5.out)).mono ?_
  rintro e w6 ⟨v6, rfl, ho6, hb6⟩
  have hx6 : Ext W w6 := by first | exact Below.trans hx5 hb6 | exact Ext.trans hx5 hb6
  have hc6 := hx6.cells
  have hs6 := hx6.size
  have hq6 := Below.size hb6
  have hlt6 := Nat.lt_of_lt_of_le hz hs6
  have HO6 := Lib.hid ho6
  clear ho6 hb6
  go_wp2_with fail
  go_ret2
  refine ⟨_, rfl, ?_, hxW.trans hx6⟩
  have h2 := owns_mono HO6.out (b' := w.heap.size) (by have := hxW.size; omega)
  rw [kind_byte hk1 hk2, ofInt_un] at h2
  exact h2
end Go.Proofs.Ytbjafmjeilabiaa
