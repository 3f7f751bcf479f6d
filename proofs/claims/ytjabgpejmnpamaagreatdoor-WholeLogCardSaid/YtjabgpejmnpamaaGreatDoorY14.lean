/-
  Part 14 of the proof.
-/
import Derived.Test.YtjabgpejmnpamaaGreatDoorY11
set_option linter.unusedVariables false
namespace Go.Proofs.YtjabgpejmnpamaaGreatDoor
open Go.RowKit
set_option maxRecDepth 100000
attribute [local go_sem] wrapI_ub wrap8_ub unsigned8 xor_ub
def mul1 (p q : BitVec 8) (s0 s1 : List (BitVec 8)) : List (BitVec 8) := fusedG (fusedG [0#8, 0#8] s0 p) s1 q
abbrev r2 (x : Nat) : Value := .slice (some ⟨x, 0, none⟩) 2 2
theorem one_map (g c : Nat) : (List.range 1).map (blankV g c) = [blankV g c 0] := rfl
theorem fused2_any (x : Nat) (v : Value) (xs ys : List (BitVec 8)) (c : BitVec 8) (w : World) (hx : xs.length = 2) (hy : ys.length = 2) (hd : SliceAt encB w (r2 x) xs) (hs : SliceAt encB w v ys) :
    Calls Tryz.prog 197 #[r2 x, v, encB c] w fun e w' => e = .returned (.tuple #[r2 w.heap.size, .int .i64 0]) ∧ SliceAt encB w' (r2 w.heap.size) (fusedG xs ys c) ∧ w.heap.size < w'.heap.size ∧ Ext w w' := by
  have h := fused_any (r2 x) v xs ys c w (by omega) (by omega) hd hs
  rw [hx] at h
  refine h.mono ?_
  rintro e w' ⟨rfl, hO, hX⟩
  have hl : (fusedG xs ys c).length = 2 := by rw [fusedG_length _ _ _ (by omega)]; exact hx
  have hlt : w.heap.size < w'.heap.size := by
    obtain ⟨b, off, he, hb, hcc⟩ := hO.slice.get 0 (by omega)
    injection he with he
    injection he with he1 he2
    subst he1
    exact hb
  exact ⟨rfl, hO.slice, hlt, hX⟩
set_option maxHeartbeats 4000000 in
theorem mmul_any (va vb : Value) (p q : BitVec 8) (s0 s1 : List (BitVec 8)) (w : World) (ha : RowsAt w va [[p, q]]) (hb : RowsAt w vb [s0, s1]) (h0 : s0.length = 2) (h1 : s1.length = 2) :
    Calls Tryz.prog 147 #[va, vb] w fun e w' => ∃ v', e = .returned (.tuple #[v', .int .i64 0]) ∧ RowsAt w' v' [mul1 p q s0 s1] ∧ Ext w w' := by
  have HVA := Lib.hid (fun (w' : World) (e : Ext w w') => mvalid_any va [[p, q]] 2 w' (by simp) (by simp) (by decide) (by decide) (fun i hi => by
    have h2 : i < 1 := hi
    obtain rfl : i = 0 := by omega
    rfl) (ha.ext e))
  have HVB := Lib.hid (fun (w' : World) (e : Ext w w') => mvalid_any vb [s0, s1] 2 w' (by simp) (by simp) (by decide) (by decide) (fun i hi => by
    have h2 : i < 2 := hi
    rcases (by omega : i = 0 ∨ i = 1) with rfl | rfl
    · exact h0
    · exact h1) (hb.ext e))
  obtain ⟨aa, ac, rfl⟩ := ha.shape
  obtain ⟨ba, bc, rfl⟩ := hb.shape
  obtain ⟨ab, ao, va0, rfl, habl, hac, has⟩ := ha.at 0 (by simp)
  obtain ⟨bb, bo, vb0, rfl, hbbl, hbc0, hbs0⟩ := hb.at 0 (by simp)
  obtain ⟨_, _, vb1, he, _, hbc1, hbs1⟩ := hb.at 1 (by simp)
  injection he with he
  injection he with he1 he2
  subst he1 he2
  simp only [List.getElem_cons_zero, List.getElem_cons_succ, Nat.add_zero] at hac has hbc0 hbs0 hbc1 hbs1
  obtain ⟨a0, c0, rfl⟩ := has.shape
  obtain ⟨b0, k0, rfl⟩ := hbs0.shape
  obtain ⟨b1, k1, rfl⟩ := hbs1.shape
  obtain ⟨xb, xo, rfl, hxl, hp0⟩ := has.get 0 (by simp)
  obtain ⟨_, _, he, _, hp1⟩ := has.get 1 (by simp)
  injection he with he
  injection he with he1 he2
  subst he1 he2
  simp only [List.getElem_cons_zero, List.getElem_cons_succ, Nat.add_zero, List.length_cons, List.length_nil, Nat.reduceAdd] at hac has hbc0 hbs0 hbc1 hbs1 hp0 hp1 HVA HVB ⊢
  have HBS0 := Lib.hid hbs0
  have HBS1 := Lib.hid hbs1
  rw [h0] at hbc0 HBS0
  rw [h1] at hbc1 HBS1
  clear ha hb has hbs0 hbs1
  go_enter Tryz.func147, Tryz.ntmps147
  go_wp2_with fail
  go_at_call 192
  refine (HVA.out _ (Ext.refl _)).mono ?_
  rintro e w1 ⟨rfl, hx1⟩
  have HX1 : Hid (Ext w w1) := hx1
  clear hx1
  go_wp2_with fail
  go_at_call 192
  refine (HVB.out _ HX1.out).mono ?_
  rintro e w2 ⟨rfl, hx2⟩
  have hx02 : Ext w w2 := HX1.out.trans hx2
  clear HVA HVB HX1 hx2
  have d0 := (Below.cell hx02 (p := ⟨ab, ao, none⟩) habl).trans hac
  have d1 := (Below.cell hx02 (p := ⟨bb, bo, none⟩) hbbl).trans hbc0
  have d2 := (Below.cell hx02 (p := ⟨bb, bo + 1, none⟩) hbbl).trans hbc1
  have d3 := (Below.cell hx02 (p := ⟨xb, xo, none⟩) hxl).trans hp0
  have d4 := (Below.cell hx02 (p := ⟨xb, xo + 1, none⟩) hxl).trans hp1
  have l0 := Nat.lt_of_lt_of_le habl hx02.size
  have l1 := Nat.lt_of_lt_of_le hbbl hx02.size
  have l2 := Nat.lt_of_lt_of_le hxl hx02.size
  have HX2 := Lib.hid hx02
  clear hx02 hac hbc0 hbc1 hp0 hp1 habl hbbl hxl
  go_wp2_with fail
  go_at_call 193
  refine (blank_any 1 2 _ (by decide) (by decide)).mono ?_
  rintro e w3 ⟨rfl, hO3, hB3, hS3, hX3⟩
  rw [one_map] at hO3
  have HO3 : Hid (BoxAt w3 w2.heap.size #[r2 (w2.heap.size + 1)] 47) := hO3.exact (by simp)
  have HR3 : Hid (SliceAt encB w3 (r2 (w2.heap.size + 1)) [0#8, 0#8]) := (hB3 0 (by decide)).slice rfl (by unfold maxLen; decide)
  have e0 := (Below.cell hX3 (p := ⟨ab, ao, none⟩) l0).trans d0
  have e1 := (Below.cell hX3 (p := ⟨bb, bo, none⟩) l1).trans d1
  have e2 := (Below.cell hX3 (p := ⟨bb, bo + 1, none⟩) l1).trans d2
  have e3 := (Below.cell hX3 (p := ⟨xb, xo, none⟩) l2).trans d3
  have e4 := (Below.cell hX3 (p := ⟨xb, xo + 1, none⟩) l2).trans d4
  have HX3 := Lib.hid (HX2.out.trans hX3)
  have hgw := HX2.out.size
  obtain ⟨g, hg⟩ : ∃ g, w2.heap.size = g := ⟨_, rfl⟩
  obtain ⟨z0, hz0⟩ : ∃ z0, g + 1 = z0 := ⟨_, rfl⟩
  rw [hg] at HO3 HR3 l0 l1 l2 hS3 hgw ⊢
  rw [hz0] at HO3 HR3
  have hgz : g < z0 := by omega
  have hgl : g < w3.heap.size := by omega
  clear hO3 hB3 hS3 hX3 d0 d1 d2 d3 d4 HX2 hg hz0
  go_wp2_with fail
  refine wp_loop_rounds 2 ?_
  rw [rounds_succ]
  go_wp2_with fail
  refine wp_loop_rounds 3 ?_
  rw [rounds_succ]
  -- first product
  have hcz : w3.cell? ⟨g, 0, none⟩ = some (r2 z0) := HO3.out.cell 0 rfl
  have hel : bb < w3.heap.size := by omega
  have hel0 : ab < w3.heap.size := by omega
  have hel2 : xb < w3.heap.size := by omega
  have HF := Lib.hid (fused2_any z0 (.slice b0 2 k0) [0#8, 0#8] s0 p w3.drew rfl h0 (HR3.out.ext (Ext.drew _)) ((HBS0.out.ext HX3.out).ext (Ext.drew _)))
  have hl1 : (fusedG [0#8, 0#8] s0 p).length = 2 := by rw [fusedG_length _ _ _ (by rw [h0]; rfl)]; rfl
  have HZE : Hid (mul1 p q s0 s1 = fusedG (fusedG [0#8, 0#8] s0 p) s1 q) := rfl
  obtain ⟨L1, hL1⟩ : ∃ L, fusedG [0#8, 0#8] s0 p = L := ⟨_, rfl⟩
  obtain ⟨z1, hz1⟩ : ∃ z, w3.drew.heap.size = z := ⟨_, rfl⟩
  rw [hL1] at HF HZE hl1
  rw [hz1] at HF
  have HZ1 : Hid (w3.heap.size = z1) := by show _ = _; rw [← hz1]; simp
  clear hL1 hz1
  go_wp2_with fail
  refine wp_region_exq [(0, true), (1, true), (2, true), (3, true), (4, true), (5, true), (6, true), (7, true), (8, true), (9, true), (10, true), (11, false), (12, true), (13, true), (14, true), (15, true), (16, false)] (by kernel_rfl) (by kernel_rfl) ?_
  iterate 11 ((first
   | refine exq_move rfl rfl (by rfl) (by rfl) ?_
   | refine exq_assign rfl rfl (by rfl) (by rfl) ?_
   | refine exq_pick_t rfl rfl (by rfl) (by rfl) (by rfl) ?_
   | refine exq_pick_f rfl rfl (by rfl) (by rfl) (by rfl) ?_
   | (apply exq_take rfl (by rfl)
      · intro w' hS
        have hSc := hS.cells
        (try simp only [World.size_drew, World.cell?_drew] at hSc)
        go_simp
        (try simp (disch := omega) only [i64_id, u64_id, ↓IntWalk.iteOmega, Int.tdiv_eq_ediv_of_nonneg, Int.tmod_eq_emod_of_nonneg])
        try rfl)
   | refine exq_pass rfl (by rfl) ?_); simp only [Act.put, setZa, setZ0, setZ1])
  (refine exq_do rfl (by rfl) (fun K hK => ?_)
   go_simp
   go_at_call 197
   refine HF.out.mono ?_
   rintro e w4 ⟨rfl, hq4, hql4, hx4⟩
   have e40 : Ext w3 w4 := (Ext.drew _).trans hx4
   have HO4 := Lib.hid (HO3.out.ext e40)
   have c4 : w4.cell? ⟨g, 0, none⟩ = some (r2 z0) := HO4.out.cell 0 rfl
   have f4 := HO4.out.free 0
   have g4 := Nat.lt_of_lt_of_le hgl e40.size
   refine hK _ _ (by first | exact e40 | exact hx4) ?_
   clear hK K
   (try simp only [Act.put, setZa, setZ0, setZ1]))
  iterate 4 ((first
   | refine exq_move rfl rfl (by rfl) (by rfl) ?_
   | refine exq_assign rfl rfl (by rfl) (by rfl) ?_
   | refine exq_pick_t rfl rfl (by rfl) (by rfl) (by rfl) ?_
   | refine exq_pick_f rfl rfl (by rfl) (by rfl) (by rfl) ?_
   | (apply exq_take rfl (by rfl)
      · intro w' hS
        have hSc := hS.cells
        (try simp only [World.size_drew, World.cell?_drew] at hSc)
        go_simp
        (try simp (disch := omega) only [i64_id, u64_id, ↓IntWalk.iteOmega, Int.tdiv_eq_ediv_of_nonneg, Int.tmod_eq_emod_of_nonneg])
        try rfl)
   | refine exq_pass rfl (by rfl) ?_); simp only [Act.put, setZa, setZ0, setZ1])
  (refine exq_last rfl (by rfl) (by kernel_rfl) (fun K hK => ?_)
   go_simp
   refine hK _ _ ?_
   clear hK K
   (try simp only [Act.put, setZa, setZ0, setZ1]))
  have hgz1 : g < z1 := by have := HZ1.out; omega
  have e0 : (w4.setCell ⟨g, 0, none⟩ (r2 z1)).cell? ⟨ab, ao, none⟩ = _ := (set_block (by omega)).trans ((Below.cell e40 (p := ⟨ab, ao, none⟩) hel0).trans e0)
  have e1 : (w4.setCell ⟨g, 0, none⟩ (r2 z1)).cell? ⟨bb, bo, none⟩ = _ := (set_block (by omega)).trans ((Below.cell e40 (p := ⟨bb, bo, none⟩) (by omega)).trans e1)
  have e2 : (w4.setCell ⟨g, 0, none⟩ (r2 z1)).cell? ⟨bb, bo + 1, none⟩ = _ := (set_block (by omega)).trans ((Below.cell e40 (p := ⟨bb, bo + 1, none⟩) (by omega)).trans e2)
  have e4 : (w4.setCell ⟨g, 0, none⟩ (r2 z1)).cell? ⟨xb, xo + 1, none⟩ = _ := (set_block (by omega)).trans ((Below.cell e40 (p := ⟨xb, xo + 1, none⟩) hel2).trans e4)
  have HO5 : Hid (BoxAt (w4.setCell ⟨g, 0, none⟩ (r2 z1)) g #[r2 z1] 47) := HO4.out.set 0 _
  have HR5 : Hid (SliceAt encB (w4.setCell ⟨g, 0, none⟩ (r2 z1)) (r2 z1) L1) := hq4.offB (by omega)
  have HX5 : Hid (Ext w (w4.setCell ⟨g, 0, none⟩ (r2 z1))) := (HX3.out.trans e40).setOwn hgw
  have hgl5 : g < (w4.setCell ⟨g, 0, none⟩ (r2 z1)).heap.size := by simpa using g4
  clear e3 hcz hel hel0 hel2 HF HZ1 hq4 hql4 hx4 e40 HO4 c4 f4 g4 HO3 HR3 HX3 hgl
  generalize (w4.setCell ⟨g, 0, none⟩ (r2 z1)) = w5 at *
  go_wp2_with fail
  rw [rounds_succ]
  have hcz : w5.cell? ⟨g, 0, none⟩ = some (r2 z1) := HO5.out.cell 0 rfl
  have hel : bb < w5.heap.size := by omega
  have HF := Lib.hid (fused2_any z1 (.slice b1 2 k1) L1 s1 q w5.drew hl1 h1 (HR5.out.ext (Ext.drew _)) ((HBS1.out.ext HX5.out).ext (Ext.drew _)))
  obtain ⟨L2, hL2⟩ : ∃ L, fusedG L1 s1 q = L := ⟨_, rfl⟩
  obtain ⟨z2, hz2⟩ : ∃ z, w5.drew.heap.size = z := ⟨_, rfl⟩
  rw [hL2] at HF HZE
  rw [hz2] at HF
  have HZ2 : Hid (w5.heap.size = z2) := by show _ = _; rw [← hz2]; simp
  clear hL2 hz2
  go_wp2_with fail
  refine wp_region_exq [(0, true), (1, true), (2, true), (3, true), (4, true), (5, true), (6, true), (7, true), (8, true), (9, true), (10, true), (11, false), (12, true), (13, true), (14, true), (15, true), (16, false)] (by kernel_rfl) (by kernel_rfl) ?_
  iterate 11 ((first
   | refine exq_move rfl rfl (by rfl) (by rfl) ?_
   | refine exq_assign rfl rfl (by rfl) (by rfl) ?_
   | refine exq_pick_t rfl rfl (by rfl) (by rfl) (by rfl) ?_
   | refine exq_pick_f rfl rfl (by rfl) (by rfl) (by rfl) ?_
   | (apply exq_take rfl (by rfl)
      · intro w' hS
        have hSc := hS.cells
        (try simp only [World.size_drew, World.cell?_drew] at hSc)
        go_simp
        (try simp (disch := omega) only [i64_id, u64_id, ↓IntWalk.iteOmega, Int.tdiv_eq_ediv_of_nonneg, Int.tmod_eq_emod_of_nonneg])
        try rfl)
   | refine exq_pass rfl (by rfl) ?_); simp only [Act.put, setZa, setZ0, setZ1])
  (refine exq_do rfl (by rfl) (fun K hK => ?_)
   go_simp
   go_at_call 197
   refine HF.out.mono ?_
   rintro e w6 ⟨rfl, hq6, hql6, hx6⟩
   have e60 : Ext w5 w6 := (Ext.drew _).trans hx6
   have HO6 := Lib.hid (HO5.out.ext e60)
   have c6 : w6.cell? ⟨g, 0, none⟩ = some (r2 z1) := HO6.out.cell 0 rfl
   have f6 := HO6.out.free 0
   have g6 := Nat.lt_of_lt_of_le hgl5 e60.size
   refine hK _ _ (by first | exact e60 | exact hx6) ?_
   clear hK K
   (try simp only [Act.put, setZa, setZ0, setZ1]))
  iterate 4 ((first
   | refine exq_move rfl rfl (by rfl) (by rfl) ?_
   | refine exq_assign rfl rfl (by rfl) (by rfl) ?_
   | refine exq_pick_t rfl rfl (by rfl) (by rfl) (by rfl) ?_
   | refine exq_pick_f rfl rfl (by rfl) (by rfl) (by rfl) ?_
   | (apply exq_take rfl (by rfl)
      · intro w' hS
        have hSc := hS.cells
        (try simp only [World.size_drew, World.cell?_drew] at hSc)
        go_simp
        (try simp (disch := omega) only [i64_id, u64_id, ↓IntWalk.iteOmega, Int.tdiv_eq_ediv_of_nonneg, Int.tmod_eq_emod_of_nonneg])
        try rfl)
   | refine exq_pass rfl (by rfl) ?_); simp only [Act.put, setZa, setZ0, setZ1])
  (refine exq_last rfl (by rfl) (by kernel_rfl) (fun K hK => ?_)
   go_simp
   refine hK _ _ ?_
   clear hK K
   (try simp only [Act.put, setZa, setZ0, setZ1]))
  have hgz2 : g < z2 := by have := HZ2.out; omega
  have HO7 : Hid (BoxAt (w6.setCell ⟨g, 0, none⟩ (r2 z2)) g #[r2 z2] 47) := HO6.out.set 0 _
  have HR7 : Hid (SliceAt encB (w6.setCell ⟨g, 0, none⟩ (r2 z2)) (r2 z2) L2) := hq6.offB (by omega)
  have HX7 : Hid (Ext w (w6.setCell ⟨g, 0, none⟩ (r2 z2))) := (HX5.out.trans e60).setOwn hgw
  have hgl7 : g < (w6.setCell ⟨g, 0, none⟩ (r2 z2)).heap.size := by simpa using g6
  clear e0 e1 e2 e4 hcz hel HF HZ2 hq6 hql6 hx6 e60 HO6 c6 f6 g6 HO5 HR5 HX5 hgl5
  generalize (w6.setCell ⟨g, 0, none⟩ (r2 z2)) = w7 at *
  go_wp2_with fail
  rw [rounds_succ]
  go_wp2_with fail
  rw [rounds_succ]
  go_wp2_with fail
  go_ret2
  refine ⟨_, rfl, ?_, HX7.out⟩
  rw [HZE.out]
  refine ⟨[r2 z2], ?_, rfl, ?_⟩
  · refine ⟨some ⟨g, 0, none⟩, 1, rfl, Nat.le_refl _, .inr ⟨g, 0, rfl, hgl7, fun k hk => ?_⟩⟩
    have h2 : k < 1 := hk
    obtain rfl : k = 0 := by omega
    exact HO7.out.cell 0 rfl
  · intro i h1 h2
    have h2 : i < 1 := h2
    obtain rfl : i = 0 := by omega
    exact HR7.out
end Go.Proofs.YtjabgpejmnpamaaGreatDoor

namespace Go.Proofs.YtjabgpejmnpamaaGreatDoor
open Go.RowKit
set_option maxRecDepth 100000
attribute [local go_sem] wrapI_ub wrap8_ub unsigned8 xor_ub
theorem infoN : (Tryz.prog.info? 3).map (fun i => (i.zero, i.size, i.bytes)) = some (some (.int .i64 0), 1, 8) := by kernel_rfl
theorem genM_two : genM 2 = [[1#8, 0#8], [0#8, 1#8], [1#8, 1#8], [1#8, 2#8], [1#8, 4#8]] := by decide +kernel
def wtP (t : Nat) : BitVec 8 := if t = 0 then 1#8 else 0#8
def wtQ (t : Nat) : BitVec 8 := if t = 0 then 0#8 else 1#8
def wtsL (t : Nat) : List (BitVec 8) := mul1 (wtP t) (wtQ t) ((invR 1#8 1#8 1#8 2#8).drop 2) ((invS 1#8 1#8 1#8 2#8).drop 2)
theorem invR_len : ((invR 1#8 1#8 1#8 2#8).drop 2).length = 2 := by decide +kernel
theorem invS_len : ((invS 1#8 1#8 1#8 2#8).drop 2).length = 2 := by decide +kernel
theorem invQ_ne : (invQ 1#8 1#8 1#8 2#8).getD 1 0#8 ≠ 0#8 := by decide +kernel
set_option maxHeartbeats 4000000 in
theorem weights_any (vf : Value) (t : Nat) (w : World) (ht : t < 2) (hf : SliceAt encI w vf [2, 3]) :
    Calls Tryz.prog 98 #[.int .i64 5, vf, .int .i64 t] w fun e w' => ∃ v, e = .returned (.tuple #[v, .int .i64 0]) ∧ SliceAt encB w' v (wtsL t) ∧ Ext w w' := by
  obtain ⟨j0, hj, hj0, hj1, hj2⟩ := info_parts infoR
  obtain ⟨fa, fc, rfl⟩ := hf.shape
  obtain ⟨fb, fo, rfl, hfl, hf0⟩ := hf.get 0 (by simp)
  obtain ⟨_, _, he, _, hf1⟩ := hf.get 1 (by simp)
  injection he with he
  injection he with he1 he2
  subst he1 he2
  simp only [List.getElem_cons_zero, List.getElem_cons_succ, Nat.add_zero, List.length_cons, List.length_nil, Nat.reduceAdd] at hf0 hf1 ⊢
  clear hf
  have htI : (t : Int) < 2 := by omega
  have htI5 : (t : Int) < 5 := by omega
  have hgen := generator_any 2 w (by decide) (by decide)
  go_enter Tryz.func98, Tryz.ntmps98
  go_wp2_with (go_at_call 96; refine (possible_any 5 (by decide) (by decide) _).mono ?_; rintro e w' ⟨rfl, rfl⟩)
  refine wp_loop_rounds 3 ?_
  rw [rounds_succ]
  go_wp2_with fail
  rw [rounds_succ]
  go_wp2_with fail
  rw [rounds_succ]
  go_wp2_with fail
  go_at_call 145
  refine hgen.mono ?_
  rintro e w1 ⟨vg, rfl, ⟨vs, hO, hl, hr⟩, hx1⟩
  rw [genM_two] at hl hr
  have hl5 : vs.length = 5 := hl
  match vs, hl5 with
  | [v0, v1, v2, v3, v4], _ =>
  obtain ⟨q0, e0, b0, _⟩ := hr 0 (by simp) (by simp)
  obtain ⟨q1, e1, b1, _⟩ := hr 1 (by simp) (by simp)
  obtain ⟨q2, e2, b2, _⟩ := hr 2 (by simp) (by simp)
  obtain ⟨q3, e3, b3, _⟩ := hr 3 (by simp) (by simp)
  simp only [List.getElem_cons_zero, List.getElem_cons_succ, rowV, List.length_cons, List.length_nil, Nat.reduceAdd] at e0 e1 e2 e3 b0 b1 b2 b3
  subst e0 e1 e2 e3
  obtain ⟨gg, gc, rfl, hgg, hggl⟩ := OwnG.form (enc := id) hO (by simp)
  have c0 : w1.cell? ⟨gg, 0, none⟩ = some (r2 q0) := hO.at rfl (by simp)
  have c1 : w1.cell? ⟨gg, 1, none⟩ = some (r2 q1) := hO.at rfl (by simp)
  have c2 : w1.cell? ⟨gg, 2, none⟩ = some (r2 q2) := hO.at rfl (by simp)
  have c3 : w1.cell? ⟨gg, 3, none⟩ = some (r2 q3) := hO.at rfl (by simp)
  simp only [List.length_cons, List.length_nil, Nat.reduceAdd]
  have k0 : w1.cell? ⟨fb, fo, none⟩ = some (encI 2) := (Below.cell hx1 (p := ⟨fb, fo, none⟩) hfl).trans hf0
  have k1 : w1.cell? ⟨fb, fo + 1, none⟩ = some (encI 3) := (Below.cell hx1 (p := ⟨fb, fo + 1, none⟩) hfl).trans hf1
  have hfl1 := Nat.lt_of_lt_of_le hfl hx1.size
  have s0 : SliceAt encB w1 (r2 q0) [1#8, 0#8] := b0.slice rfl (by unfold maxLen; decide)
  have s1 : SliceAt encB w1 (r2 q1) [0#8, 1#8] := b1.slice rfl (by unfold maxLen; decide)
  have s2 : SliceAt encB w1 (r2 q2) [1#8, 1#8] := b2.slice rfl (by unfold maxLen; decide)
  have s3 : SliceAt encB w1 (r2 q3) [1#8, 2#8] := b3.slice rfl (by unfold maxLen; decide)
  have S0 := Lib.hid s0
  have S1 := Lib.hid s1
  have S2 := Lib.hid s2
  have S3 := Lib.hid s3
  have HX1 := Lib.hid hx1
  clear hO hl hr s0 s1 s2 s3 b0 b1 b2 b3 hf0 hf1 hgen hx1
  go_wp2_with fail
  refine wp_loop_rounds 3 ?_
  rw [rounds_succ]
  go_wp2_with (at_builtin; refine Classical.byContradiction (fun hN => ?_))
  refine hN ?_
  clear hN
  have e1 : Ext w1 (w1.alloc (.cells #[r2 q2] 47)) := Ext.alloc _ _
  have hown1 : OwnG id 47 (w1.alloc (.cells #[r2 q2] 47)) w1.heap.size (.slice none 0 0) [] := OwnG.nil
  refine wpList_append_one rfl _ _ _ rfl w1.heap.size 47 j0 (.slice none 0 0) 24 Tryz.underlying33 hj hj0 hj1 hj2 rfl _ _ _ rfl hown1 _ (r2 q2) rfl rfl (cell_new1 _ _ _) (by unfold maxLen; decide) (by decide) (by simp) ?_
  intro v5 w5 ho5 hg5 _
  have hx5 : Ext w1 w5 := e1.grown hg5 (by simp) (fun q hq => (hown1.lt q hq).1)
  have hO5 : OwnG id 47 w5 w1.heap.size v5 [r2 q2] := OwnG.snoc (enc := id) (l := []) (x := r2 q2) ho5
  obtain ⟨a5, n5, rfl⟩ := hO5.shape
  have c0' := (Below.cell hx5 (p := ⟨gg, 0, none⟩) hggl).trans c0
  have c1' := (Below.cell hx5 (p := ⟨gg, 1, none⟩) hggl).trans c1
  have c3' := (Below.cell hx5 (p := ⟨gg, 3, none⟩) hggl).trans c3
  have k1' := (Below.cell hx5 (p := ⟨fb, fo + 1, none⟩) hfl1).trans k1
  have hggl5 := Nat.lt_of_lt_of_le hggl hx5.size
  have hfl5 := Nat.lt_of_lt_of_le hfl1 hx5.size
  have HO5 := Lib.hid hO5
  have HX5 := Lib.hid hx5
  have hs15 := hx5.size
  clear ho5 hg5 hO5 hx5 hown1 e1 c2 c3 k0 k1 hfl1
  simp only [List.length_cons, List.length_nil, Nat.reduceAdd] at HO5 ⊢
  go_wp2_with fail
  rw [rounds_succ]
  go_wp2_with (at_builtin; refine Classical.byContradiction (fun hN => ?_))
  refine hN ?_
  clear hN
  have e5 : Ext w5 (w5.alloc (.cells #[r2 q3] 47)) := Ext.alloc _ _
  have hown5 := HO5.out.ext e5
  refine wpList_append_one rfl _ _ _ rfl w1.heap.size 47 j0 (.slice none 0 0) 24 Tryz.underlying33 hj hj0 hj1 hj2 rfl _ _ _ rfl hown5 _ (r2 q3) rfl rfl (cell_new1 _ _ _) (by unfold maxLen; simp) (by simp) (by simp; omega) ?_
  intro v6 w6 ho6 hg6 _
  have hx6 : Ext w1 w6 := (HX5.out.trans e5).grown hg6 (by simp; omega) (fun q hq => (hown5.lt q hq).1)
  have hO6 : OwnG id 47 w6 w1.heap.size v6 [r2 q2, r2 q3] := OwnG.snoc (enc := id) (l := [r2 q2]) (x := r2 q3) ho6
  have hbg : ∀ b, b < w1.heap.size → ∀ o, w6.cell? ⟨b, o, none⟩ = w1.cell? ⟨b, o, none⟩ := fun b hb o => Below.cell hx6 (p := ⟨b, o, none⟩) hb
  obtain ⟨a6, n6, rfl⟩ := hO6.shape
  have HR6 : Hid (RowsAt w6 (.slice a6 2 n6) [[1#8, 1#8], [1#8, 2#8]]) := by
    refine ⟨[r2 q2, r2 q3], hO6.slice, rfl, fun i h1 h2 => ?_⟩
    have h2 : i < 2 := h2
    rcases (by omega : i = 0 ∨ i = 1) with rfl | rfl
    · exact S2.out.ext hx6
    · exact S3.out.ext hx6
  have c0'' : w6.cell? ⟨gg, 0, none⟩ = some (r2 q0) := (Below.cell hx6 (p := ⟨gg, 0, none⟩) hggl).trans c0
  have c1'' : w6.cell? ⟨gg, 1, none⟩ = some (r2 q1) := (Below.cell hx6 (p := ⟨gg, 1, none⟩) hggl).trans c1
  have hggl6 := Nat.lt_of_lt_of_le hggl hx6.size
  have HX6 := Lib.hid hx6
  clear ho6 hg6 hx6 hO6 hown5 e5 c0 c1 c0' c1' c3' k1' hggl hggl5 hfl5 hbg HO5
  go_wp2_with fail
  rw [rounds_succ]
  go_wp2_with fail
  go_at_call 146
  refine (inverse_any _ 1#8 1#8 1#8 2#8 _ HR6.out (by decide) invQ_ne).mono ?_
  rintro e w7 ⟨vi, rfl, hri, hx7⟩
  have HRI := Lib.hid hri
  obtain ⟨ia, ic, rfl⟩ := hri.shape
  have c0 := (Below.cell hx7 (p := ⟨gg, 0, none⟩) hggl6).trans c0''
  have c1 := (Below.cell hx7 (p := ⟨gg, 1, none⟩) hggl6).trans c1''
  have hggl7 := Nat.lt_of_lt_of_le hggl6 hx7.size
  have HX7 := Lib.hid ((HX1.out.trans HX6.out).trans hx7)
  have HX17 := Lib.hid (HX6.out.trans hx7)
  clear hri hx7 c0'' c1'' hggl6 HX6
  obtain ⟨vt, hvt, hct, hst⟩ : ∃ x, w7.cell? ⟨gg, t, none⟩ = some (r2 x) ∧ SliceAt encB w7 (r2 x) [wtP t, wtQ t] ∧ x = x := by
    rcases (by omega : t = 0 ∨ t = 1) with rfl | rfl
    · exact ⟨q0, c0, S0.out.ext HX17.out, rfl⟩
    · exact ⟨q1, c1, S1.out.ext HX17.out, rfl⟩
  have HCT := Lib.hid hct
  clear hct hst c0 c1
  have hlen2 : (inv2 1#8 1#8 1#8 2#8).length = 2 := rfl
  rw [hlen2] at HRI ⊢
  go_wp2_with fail
  go_at_call 147
  have hlit : RowsAt (w7.alloc (.cells #[r2 vt] 47)) (.slice (some ⟨w7.heap.size, 0, none⟩) 1 1) [[wtP t, wtQ t]] := by
    refine ⟨[r2 vt], SliceAt.lit (enc := id) w7 [r2 vt] _ _ _ rfl, rfl, fun i h1 h2 => ?_⟩
    have h2 : i < 1 := h2
    obtain rfl : i = 0 := by omega
    exact HCT.out.ext (Ext.alloc _ _)
  refine (mmul_any _ _ (wtP t) (wtQ t) ((invR 1#8 1#8 1#8 2#8).drop 2) ((invS 1#8 1#8 1#8 2#8).drop 2) _ hlit (HRI.out.ext (Ext.alloc _ _)) invR_len invS_len).mono ?_
  rintro e w8 ⟨vp, rfl, hrp, hx8⟩
  obtain ⟨pa, pc, rfl⟩ := hrp.shape
  obtain ⟨pb, po, v0, rfl, hpl, hpc, hps⟩ := hrp.at 0 (by simp)
  simp only [List.getElem_cons_zero, Nat.add_zero, List.length_cons, List.length_nil, Nat.reduceAdd] at hpc hps ⊢
  have HPS := Lib.hid hps
  have HX8 := Lib.hid ((HX7.out.trans (Ext.alloc _ _)).trans hx8)
  clear hrp hps hx8 hlit
  obtain ⟨va, vc, rfl⟩ := HPS.out.shape
  go_wp2_with fail
  go_ret2
  exact ⟨_, rfl, HPS.out, HX8.out⟩
end Go.Proofs.YtjabgpejmnpamaaGreatDoor

namespace Go.Proofs.YtjabgpejmnpamaaGreatDoor
open Go.RowKit
set_option maxRecDepth 100000
attribute [local go_sem] wrapI_ub wrap8_ub unsigned8 xor_ub
def BlksAt (w : World) (v : Value) (ls : List (List (BitVec 8))) : Prop := ∃ b off cap, v = .slice (some ⟨b, off, none⟩) ls.length cap ∧ ls.length ≤ cap ∧ b < w.heap.size ∧
  ∀ i (h : i < ls.length), ls[i].length = 8 ∧ ∀ j, j < 8 → w.cell? ⟨b, off + 8 * i + j, none⟩ = some (encB (ls[i].getD j 0#8))
theorem BlksAt.ext {w w' : World} {v : Value} {ls : List (List (BitVec 8))} (h : BlksAt w v ls) (e : Ext w w') : BlksAt w' v ls := by
  obtain ⟨b, off, cap, hv, hc, hb, h⟩ := h
  exact ⟨b, off, cap, hv, hc, Nat.lt_of_lt_of_le hb e.size, fun i hi => ⟨(h i hi).1, fun j hj => (Below.cell e (p := ⟨b, off + 8 * i + j, none⟩) hb).trans ((h i hi).2 j hj)⟩⟩
theorem BlksAt.load {w : World} {b off n cap : Nat} {ls : List (List (BitVec 8))} (h : BlksAt w (.slice (some ⟨b, off, none⟩) n cap) ls) (i : Nat) (hi : i < ls.length) :
    (Instr.loadAt 76 (.pointer (some ⟨b, off + 8 * i, none⟩))).run Tryz.prog w = .ok (arrV ls[i]) w := by
  obtain ⟨b', off', cap', hv, _, hb, h⟩ := h
  injection hv with hv
  injection hv with hv
  injection hv with h1 h2
  subst h1 h2
  refine run_loadAt_mid w b (off + 8 * i) 76 (ls[i].map encB) _ ?_ Tryz.underlying76 rfl ?_
  · intro j v hv
    rw [List.getElem?_map] at hv
    cases hj : ls[i][j]? with
    | none => rw [hj] at hv; cases hv
    | some x =>
      rw [hj] at hv
      injection hv with hv
      obtain ⟨hlt, hx⟩ := List.getElem?_eq_some_iff.1 hj
      have := (h i hi).2 j (by rw [← (h i hi).1]; exact hlt)
      rw [getD_in hlt, hx, hv] at this
      exact this
  · rw [List.length_map, (h i hi).1]; kernel_rfl
theorem results_cell_tmpA {P : Program} {fn : Func} {p a : Tmp} {ty : TypeId} (h : fn.results = #[.cell p ty, .tmp a]) (tmps : Array Value) (w : World) {g : Nat} {v : Value}
    (hp : tmps.getD p undef = .pointer (some ⟨g, 0, none⟩)) (hl : (loadVar ty ⟨g, 0, none⟩).run P w = .ok v w) :
    (results fn tmps).run P w = .ok (.tuple #[v, tmps.getD a undef]) w := by
  have hp' : tmps[p]?.getD undef = .pointer (some ⟨g, 0, none⟩) := by simpa using hp
  simp [results, h, hp', asAddr, hl]
def zero8 : List (BitVec 8) := List.replicate 8 0#8
def combL (p q : BitVec 8) (A B : List (BitVec 8)) : List (BitVec 8) := fusedG (fusedG zero8 A p) B q
set_option maxHeartbeats 4000000 in
theorem combine_any (vw vb : Value) (p q : BitVec 8) (A B : List (BitVec 8)) (w : World) (hw : SliceAt encB w vw [p, q]) (hb : BlksAt w vb [A, B]) :
    Calls Tryz.prog 99 #[vw, vb] w fun e w' => e = .returned (.tuple #[arrV (combL p q A B), .int .i64 0]) ∧ Ext w w' := by
  obtain ⟨wa, wc, rfl⟩ := hw.shape
  obtain ⟨wb, wo, rfl, hwl, hp⟩ := hw.get 0 (by simp)
  obtain ⟨_, _, he, _, hq⟩ := hw.get 1 (by simp)
  injection he with he
  injection he with he1 he2
  subst he1 he2
  obtain ⟨bb, bo, bc, rfl, hbc, hbl, hel⟩ := id hb
  have hA : A.length = 8 := (hel 0 (by simp)).1
  have hB : B.length = 8 := (hel 1 (by simp)).1
  simp only [List.getElem_cons_zero, List.getElem_cons_succ, Nat.add_zero, List.length_cons, List.length_nil, Nat.reduceAdd] at hp hq hb hbc ⊢
  have HBK := Lib.hid hb
  have HA := Lib.hid hA
  have HB := Lib.hid hB
  have hF1 : (fusedG zero8 A p).length = 8 := by rw [fusedG_length _ _ _ (by rw [hA]; rfl)]; rfl
  have hF2 : (combL p q A B).length = 8 := by unfold combL; rw [fusedG_length _ _ _ (by omega)]; exact hF1
  have HF1 := Lib.hid hF1
  have HF2 := Lib.hid hF2
  clear hw hb hel hA hB hF1 hF2
  go_enter Tryz.func99, Tryz.ntmps99
  go_wp2_with fail
  have hR0 : ArrAt ((w.alloc (.cells #[.int .u8 0, .int .u8 0, .int .u8 0, .int .u8 0, .int .u8 0, .int .u8 0, .int .u8 0, .int .u8 0] 76)).alloc (.cells #[.int .u8 0, .int .u8 0, .int .u8 0, .int .u8 0, .int .u8 0, .int .u8 0, .int .u8 0, .int .u8 0] 76)) w.heap.size zero8 := (ArrAt.new w zero8 rfl).ext (Ext.alloc _ _)
  have hO0 : ArrAt ((w.alloc (.cells #[.int .u8 0, .int .u8 0, .int .u8 0, .int .u8 0, .int .u8 0, .int .u8 0, .int .u8 0, .int .u8 0] 76)).alloc (.cells #[.int .u8 0, .int .u8 0, .int .u8 0, .int .u8 0, .int .u8 0, .int .u8 0, .int .u8 0, .int .u8 0] 76)) (w.heap.size + 1) zero8 := by
    have h := ArrAt.new (w.alloc (.cells #[.int .u8 0, .int .u8 0, .int .u8 0, .int .u8 0, .int .u8 0, .int .u8 0, .int .u8 0, .int .u8 0] 76)) zero8 rfl
    rw [World.size_alloc] at h
    exact h
  have hX0 : Ext w ((w.alloc (.cells #[.int .u8 0, .int .u8 0, .int .u8 0, .int .u8 0, .int .u8 0, .int .u8 0, .int .u8 0, .int .u8 0] 76)).alloc (.cells #[.int .u8 0, .int .u8 0, .int .u8 0, .int .u8 0, .int .u8 0, .int .u8 0, .int .u8 0, .int .u8 0] 76)) := (Ext.alloc _ _).trans (Ext.alloc _ _)
  generalize ((w.alloc (.cells #[.int .u8 0, .int .u8 0, .int .u8 0, .int .u8 0, .int .u8 0, .int .u8 0, .int .u8 0, .int .u8 0] 76)).alloc (.cells #[.int .u8 0, .int .u8 0, .int .u8 0, .int .u8 0, .int .u8 0, .int .u8 0, .int .u8 0, .int .u8 0] 76)) = w0 at *
  obtain ⟨g, hg⟩ : ∃ g, w.heap.size = g := ⟨_, rfl⟩
  rw [hg] at hR0 hO0 ⊢
  have HG := Lib.hid hg
  have HR0 := Lib.hid hR0
  have HO0 := Lib.hid hO0
  have HX0 := Lib.hid hX0
  have hwl0 : wb < g := by omega
  have hbl0 : bb < g := by omega
  have HP := Lib.hid hp
  have HQ := Lib.hid hq
  clear hg hR0 hO0 hX0 hwl hbl hp hq
  refine wp_loop_rounds 3 ?_
  rw [rounds_succ]
  have hld0 : (Instr.loadAt 76 (.pointer (some ⟨bb, bo, none⟩))).run Tryz.prog w0 = .ok (arrV A) w0 := by
    have h := (HBK.out.ext HX0.out).load 0 (by simp)
    exact h
  have hgl0 := HO0.out.lt
  have hgr0 := HR0.out.lt
  have eb0 : Ext w0 (w0.alloc (.cells #[.int .u8 0, .int .u8 0, .int .u8 0, .int .u8 0, .int .u8 0, .int .u8 0, .int .u8 0, .int .u8 0] 76)) := Ext.alloc _ _
  have hnb0 : ArrAt (w0.alloc (.cells #[.int .u8 0, .int .u8 0, .int .u8 0, .int .u8 0, .int .u8 0, .int .u8 0, .int .u8 0, .int .u8 0] 76)) w0.heap.size zero8 := ArrAt.new w0 zero8 rfl
  go_wp2_with (first | (refine wpList_loadR 76 _ rfl (by rfl) rfl hld0 ?_) | (refine wpList_store_arr _ _ rfl (by rfl) rfl rfl hnb0 HA.out eb0 (Nat.le_refl _) ?_; intro x0 hx0 ha0 ho0 hs0))
  have HX0b := Lib.hid (HX0.out.trans hx0)
  have HO0b := Lib.hid (HO0.out.ext hx0)
  have HR0b := Lib.hid (HR0.out.ext hx0)
  have HB0b := Lib.hid ha0
  have HTZ0 : Hid (ArrAt x0 (g + 1) (turned (fusedG zero8 A p) zero8 0)) := by rw [turned_zero]; exact HO0b.out
  have hbb0 : g + 1 < w0.heap.size := hgl0
  obtain ⟨gb0, hgb0⟩ : ∃ q, w0.heap.size = q := ⟨_, rfl⟩
  rw [hgb0] at HB0b hbb0 ⊢
  clear hld0 eb0 hnb0 hx0 ha0 ho0 hs0 hgl0 hgr0 hgb0
  go_wp2_with fail
  go_loopw [23] (fun it wr => ∃ k : Nat, k ≤ 8 ∧ it = .int .i64 k ∧ Hid (ArrAt wr (g + 1) (turned (fusedG zero8 A p) zero8 k)) ∧ Hid (ArrAt wr gb0 A) ∧ Hid (ArrAt wr g zero8) ∧ Hid (Ext w wr)) (fun it _ => 8 - (intOf it).toNat)
  case atStart => exact ⟨0, by omega, rfl, HTZ0, HB0b, HR0b, HX0b⟩
  case round =>
    obtain ⟨k, hk, rfl, HT, HBB, HRR, HXX⟩ := hrel
    by_cases hlt : k < 8
    · have hkI : (k : Int) < 8 := by omega
      have hca : wr.cell? ⟨g + 1, k, none⟩ = some (encB (zero8.getD k 0#8)) := by
        have := HT.out.cell k hlt
        rwa [turned_get (by rw [HF1.out, show zero8.length = 8 from rfl]) (by rw [show zero8.length = 8 from rfl]; exact hlt)] at this
      have hcb : wr.cell? ⟨gb0, k, none⟩ = some (encB (A.getD k 0#8)) := HBB.out.cell k hlt
      have hcw : wr.cell? ⟨wb, wo, none⟩ = some (encB p) := (Below.cell HXX.out (p := ⟨wb, wo, none⟩) (by rw [HG.out]; exact hwl0)).trans HP.out
      have hfa := HT.out.free k
      have hl1 := HT.out.lt
      have hl2 := HBB.out.lt
      have hl3 : wb < wr.heap.size := by omega
      have hne : ((fusedG zero8 A p)).getD k 0#8 = (zero8).getD k 0#8 ^^^ mulG p (A.getD k 0#8) := fused_getD (xs := zero8) (ys := A) (c := p) (k := k) (by rw [HA.out, show zero8.length = 8 from rfl]) (by rw [show zero8.length = 8 from rfl]; exact hlt)
      have hpu := HT.out.put k (((fusedG zero8 A p)).getD k 0#8)
      rw [turned_next (by rw [HF1.out, show zero8.length = 8 from rfl]) (by rw [show zero8.length = 8 from rfl]; exact hlt), hne] at hpu
      have HT2 := Lib.hid hpu
      have HBB2 : Hid (ArrAt (wr.setCell ⟨g + 1, k, none⟩ (encB ((zero8).getD k 0#8 ^^^ mulG p (A.getD k 0#8)))) gb0 A) := HBB.out.off (by omega) _ _
      have HRR2 : Hid (ArrAt (wr.setCell ⟨g + 1, k, none⟩ (encB ((zero8).getD k 0#8 ^^^ mulG p (A.getD k 0#8)))) g zero8) := HRR.out.off (by omega) _ _
      have HXX2 : Hid (Ext w (wr.setCell ⟨g + 1, k, none⟩ (encB ((zero8).getD k 0#8 ^^^ mulG p (A.getD k 0#8))))) := HXX.out.setOwn (by rw [HG.out]; omega)
      generalize (zero8).getD k 0#8 = x at *
      generalize A.getD k 0#8 = y at *
      clear hpu hne
      go_wp2_with fail
      refine wp_region_exq [(0, true), (1, true), (2, true), (3, true), (4, true), (5, true), (6, true), (7, true), (8, true), (9, true), (10, false), (11, true), (12, true), (13, false)] (by kernel_rfl) (by kernel_rfl) ?_
      iterate 10 ((first
       | refine exq_move rfl rfl (by rfl) (by rfl) ?_
       | refine exq_assign rfl rfl (by rfl) (by rfl) ?_
       | refine exq_pick_t rfl rfl (by rfl) (by rfl) (by rfl) ?_
       | refine exq_pick_f rfl rfl (by rfl) (by rfl) (by rfl) ?_
       | (apply exq_take rfl (by rfl)
          · intro w' hS
            have hSc := hS.cells
            (try simp only [World.size_drew, World.cell?_drew] at hSc)
            go_simp
            (try simp (disch := omega) only [i64_id, u64_id, ↓IntWalk.iteOmega, Int.tdiv_eq_ediv_of_nonneg, Int.tmod_eq_emod_of_nonneg])
            try rfl)
       | refine exq_pass rfl (by rfl) ?_); simp only [Act.put, setZa, setZ0, setZ1])
      (refine exq_do rfl (by rfl) (fun K hK => ?_)
       go_simp
       go_at_call 142
       refine (gmul_any p y _).mono ?_
       rintro e w' ⟨rfl, rfl⟩
       refine hK _ _ (by first | (with_reducible exact Ext.refl _) | (with_reducible exact Ext.drew _)) ?_
       clear hK K
       (try simp only [Act.put, setZa, setZ0, setZ1]))
      iterate 2 ((first
       | refine exq_move rfl rfl (by rfl) (by rfl) ?_
       | refine exq_assign rfl rfl (by rfl) (by rfl) ?_
       | refine exq_pick_t rfl rfl (by rfl) (by rfl) (by rfl) ?_
       | refine exq_pick_f rfl rfl (by rfl) (by rfl) (by rfl) ?_
       | (apply exq_take rfl (by rfl)
          · intro w' hS
            have hSc := hS.cells
            (try simp only [World.size_drew, World.cell?_drew] at hSc)
            go_simp
            (try simp (disch := omega) only [i64_id, u64_id, ↓IntWalk.iteOmega, Int.tdiv_eq_ediv_of_nonneg, Int.tmod_eq_emod_of_nonneg])
            try rfl)
       | refine exq_pass rfl (by rfl) ?_); simp only [Act.put, setZa, setZ0, setZ1])
      (refine exq_last rfl (by rfl) (by kernel_rfl) (fun K hK => ?_)
       go_simp
       refine hK _ _ ?_
       clear hK K
       (try simp only [Act.put, setZa, setZ0, setZ1]))
      go_wp2_with fail
      go_roundw
      case rel => exact ⟨k + 1, by omega, by go_num, HT2.out.ext (Ext.drew _), HBB2.out.ext (Ext.drew _), HRR2.out.ext (Ext.drew _), HXX2.out.trans (Ext.drew _)⟩
      case measure => simp [intOf]; omega
    · have hk8 : k = 8 := by omega
      subst hk8
      have HO1 : Hid (ArrAt wr (g + 1) ((fusedG zero8 A p))) := by
        have := HT.out
        rw [turned_all HF1.out rfl] at this
        exact this
      have HR1 := HRR
      have HX1 := HXX
      generalize wr = y0 at *
      go_wp2_with fail
      rw [rounds_succ]
      have hld1 : (Instr.loadAt 76 (.pointer (some ⟨bb, bo + 8, none⟩))).run Tryz.prog y0 = .ok (arrV B) y0 := by
        have h := (HBK.out.ext HX1.out).load 1 (by simp)
        exact h
      have hgl1 := HO1.out.lt
      have hgr1 := HR1.out.lt
      have eb1 : Ext y0 (y0.alloc (.cells #[.int .u8 0, .int .u8 0, .int .u8 0, .int .u8 0, .int .u8 0, .int .u8 0, .int .u8 0, .int .u8 0] 76)) := Ext.alloc _ _
      have hnb1 : ArrAt (y0.alloc (.cells #[.int .u8 0, .int .u8 0, .int .u8 0, .int .u8 0, .int .u8 0, .int .u8 0, .int .u8 0, .int .u8 0] 76)) y0.heap.size zero8 := ArrAt.new y0 zero8 rfl
      go_wp2_with (first | (refine wpList_loadR 76 _ rfl (by rfl) rfl hld1 ?_) | (refine wpList_store_arr _ _ rfl (by rfl) rfl rfl hnb1 HB.out eb1 (Nat.le_refl _) ?_; intro x1 hx1 ha1 ho1 hs1))
      have HX1b := Lib.hid (HX1.out.trans hx1)
      have HO1b := Lib.hid (HO1.out.ext hx1)
      have HR1b := Lib.hid (HR1.out.ext hx1)
      have HB1b := Lib.hid ha1
      have HTZ1 : Hid (ArrAt x1 (g + 1) (turned (combL p q A B) (fusedG zero8 A p) 0)) := by rw [turned_zero]; exact HO1b.out
      have hbb1 : g + 1 < y0.heap.size := hgl1
      obtain ⟨gb1, hgb1⟩ : ∃ q, y0.heap.size = q := ⟨_, rfl⟩
      rw [hgb1] at HB1b hbb1 ⊢
      clear hld1 eb1 hnb1 hx1 ha1 ho1 hs1 hgl1 hgr1 hgb1
      go_wp2_with fail
      go_loopw [23] (fun it wr => ∃ k : Nat, k ≤ 8 ∧ it = .int .i64 k ∧ Hid (ArrAt wr (g + 1) (turned (combL p q A B) (fusedG zero8 A p) k)) ∧ Hid (ArrAt wr gb1 B) ∧ Hid (ArrAt wr g zero8) ∧ Hid (Ext w wr)) (fun it _ => 8 - (intOf it).toNat)
      case atStart => exact ⟨0, by omega, rfl, HTZ1, HB1b, HR1b, HX1b⟩
      case round =>
        obtain ⟨k, hk, rfl, HT, HBB, HRR, HXX⟩ := hrel
        by_cases hlt : k < 8
        · have hkI : (k : Int) < 8 := by omega
          have hca : wr.cell? ⟨g + 1, k, none⟩ = some (encB ((fusedG zero8 A p).getD k 0#8)) := by
            have := HT.out.cell k hlt
            rwa [turned_get (by rw [HF2.out, HF1.out]) (by rw [HF1.out]; exact hlt)] at this
          have hcb : wr.cell? ⟨gb1, k, none⟩ = some (encB (B.getD k 0#8)) := HBB.out.cell k hlt
          have hcw : wr.cell? ⟨wb, wo + 1, none⟩ = some (encB q) := (Below.cell HXX.out (p := ⟨wb, wo + 1, none⟩) (by rw [HG.out]; exact hwl0)).trans HQ.out
          have hfa := HT.out.free k
          have hl1 := HT.out.lt
          have hl2 := HBB.out.lt
          have hl3 : wb < wr.heap.size := by omega
          have hne : ((combL p q A B)).getD k 0#8 = ((fusedG zero8 A p)).getD k 0#8 ^^^ mulG q (B.getD k 0#8) := fused_getD (xs := (fusedG zero8 A p)) (ys := B) (c := q) (k := k) (by rw [HB.out, HF1.out]) (by rw [HF1.out]; exact hlt)
          have hpu := HT.out.put k (((combL p q A B)).getD k 0#8)
          rw [turned_next (by rw [HF2.out, HF1.out]) (by rw [HF1.out]; exact hlt), hne] at hpu
          have HT2 := Lib.hid hpu
          have HBB2 : Hid (ArrAt (wr.setCell ⟨g + 1, k, none⟩ (encB (((fusedG zero8 A p)).getD k 0#8 ^^^ mulG q (B.getD k 0#8)))) gb1 B) := HBB.out.off (by omega) _ _
          have HRR2 : Hid (ArrAt (wr.setCell ⟨g + 1, k, none⟩ (encB (((fusedG zero8 A p)).getD k 0#8 ^^^ mulG q (B.getD k 0#8)))) g zero8) := HRR.out.off (by omega) _ _
          have HXX2 : Hid (Ext w (wr.setCell ⟨g + 1, k, none⟩ (encB (((fusedG zero8 A p)).getD k 0#8 ^^^ mulG q (B.getD k 0#8))))) := HXX.out.setOwn (by rw [HG.out]; omega)
          generalize ((fusedG zero8 A p)).getD k 0#8 = x at *
          generalize B.getD k 0#8 = y at *
          clear hpu hne
          go_wp2_with fail
          refine wp_region_exq [(0, true), (1, true), (2, true), (3, true), (4, true), (5, true), (6, true), (7, true), (8, true), (9, true), (10, false), (11, true), (12, true), (13, false)] (by kernel_rfl) (by kernel_rfl) ?_
          iterate 10 ((first
           | refine exq_move rfl rfl (by rfl) (by rfl) ?_
           | refine exq_assign rfl rfl (by rfl) (by rfl) ?_
           | refine exq_pick_t rfl rfl (by rfl) (by rfl) (by rfl) ?_
           | refine exq_pick_f rfl rfl (by rfl) (by rfl) (by rfl) ?_
           | (apply exq_take rfl (by rfl)
              · intro w' hS
                have hSc := hS.cells
                (try simp only [World.size_drew, World.cell?_drew] at hSc)
                go_simp
                (try simp (disch := omega) only [i64_id, u64_id, ↓IntWalk.iteOmega, Int.tdiv_eq_ediv_of_nonneg, Int.tmod_eq_emod_of_nonneg])
                try rfl)
           | refine exq_pass rfl (by rfl) ?_); simp only [Act.put, setZa, setZ0, setZ1])
          (refine exq_do rfl (by rfl) (fun K hK => ?_)
           go_simp
           go_at_call 142
           refine (gmul_any q y _).mono ?_
           rintro e w' ⟨rfl, rfl⟩
           refine hK _ _ (by first | (with_reducible exact Ext.refl _) | (with_reducible exact Ext.drew _)) ?_
           clear hK K
           (try simp only [Act.put, setZa, setZ0, setZ1]))
          iterate 2 ((first
           | refine exq_move rfl rfl (by rfl) (by rfl) ?_
           | refine exq_assign rfl rfl (by rfl) (by rfl) ?_
           | refine exq_pick_t rfl rfl (by rfl) (by rfl) (by rfl) ?_
           | refine exq_pick_f rfl rfl (by rfl) (by rfl) (by rfl) ?_
           | (apply exq_take rfl (by rfl)
              · intro w' hS
                have hSc := hS.cells
                (try simp only [World.size_drew, World.cell?_drew] at hSc)
                go_simp
                (try simp (disch := omega) only [i64_id, u64_id, ↓IntWalk.iteOmega, Int.tdiv_eq_ediv_of_nonneg, Int.tmod_eq_emod_of_nonneg])
                try rfl)
           | refine exq_pass rfl (by rfl) ?_); simp only [Act.put, setZa, setZ0, setZ1])
          (refine exq_last rfl (by rfl) (by kernel_rfl) (fun K hK => ?_)
           go_simp
           refine hK _ _ ?_
           clear hK K
           (try simp only [Act.put, setZa, setZ0, setZ1]))
          go_wp2_with fail
          go_roundw
          case rel => exact ⟨k + 1, by omega, by go_num, HT2.out.ext (Ext.drew _), HBB2.out.ext (Ext.drew _), HRR2.out.ext (Ext.drew _), HXX2.out.trans (Ext.drew _)⟩
          case measure => simp [intOf]; omega
        · have hk8 : k = 8 := by omega
          subst hk8
          have HO2 : Hid (ArrAt wr (g + 1) ((combL p q A B))) := by
            have := HT.out
            rw [turned_all HF2.out HF1.out] at this
            exact this
          have HR2 := HRR
          have HX2 := HXX
          generalize wr = y1 at *
          go_wp2_with fail
          rw [rounds_succ]
          have HLD := Lib.hid HO2.out.load
          have hgw : w.heap.size ≤ g := by have := HG.out; omega
          go_wp2_with (first | (refine wpList_loadR 76 _ rfl (by rfl) rfl HLD.out ?_) | (refine wpList_store_arr _ _ rfl (by rfl) rfl rfl HR2.out HF2.out HX2.out hgw ?_; intro w9 hx9 ha9 ho9 hs9))
          refine bodyPost_ret (v := .tuple #[arrV (combL p q A B), .int .i64 0]) ?_ rfl ⟨rfl, hx9⟩
          exact results_cell_tmpA (p := 4) (a := 5) (ty := 76) rfl _ _ rfl ha9.result
end Go.Proofs.YtjabgpejmnpamaaGreatDoor

namespace Go.Proofs.YtjabgpejmnpamaaGreatDoor
open Go.RowKit
set_option maxRecDepth 100000
theorem flatB_len {α : Type} (f : α → List Value) (k : Nat) (hk : ∀ x, (f x).length = k) : ∀ l : List α, (l.flatMap f).length = l.length * k
  | [] => by simp
  | x :: l => by rw [List.flatMap_cons, List.length_append, hk, flatB_len f k hk l, List.length_cons, Nat.succ_mul]; omega
theorem flatB_get {α : Type} (f : α → List Value) (k : Nat) (hk : ∀ x, (f x).length = k) : ∀ (l : List α) (i : Nat) (hi : i < l.length) (j : Nat), j < k → (l.flatMap f)[i * k + j]? = (f l[i])[j]?
  | x :: l, 0, _, j, hj => by
    rw [List.flatMap_cons, Nat.zero_mul, Nat.zero_add, List.getElem?_append_left (by rw [hk]; exact hj)]; rfl
  | x :: l, i + 1, hi, j, hj => by
    rw [List.flatMap_cons, List.getElem?_append_right (by rw [hk, Nat.succ_mul]; omega), hk, show (i + 1) * k + j - k = i * k + j by rw [Nat.succ_mul]; omega]
    exact flatB_get f k hk l i (by simpa using hi) j hj
def bkCells (l : List (BitVec 8)) : List Value := (List.range 8).map (fun j => encB (l.getD j 0#8))
theorem bkCells_len (l : List (BitVec 8)) : (bkCells l).length = 8 := by simp [bkCells]
theorem bkCells_get (l : List (BitVec 8)) (j : Nat) (h : j < 8) : (bkCells l)[j]? = some (encB (l.getD j 0#8)) := by simp [bkCells, h]
theorem bkCells_eq {l : List (BitVec 8)} (h : l.length = 8) : bkCells l = l.map encB := by
  apply List.ext_getElem?
  intro i
  by_cases hi : i < 8
  · rw [bkCells_get l i hi, List.getElem?_map, List.getElem?_eq_getElem (by omega), getD_in (by omega)]; rfl
  · rw [List.getElem?_eq_none (by rw [bkCells_len]; omega), List.getElem?_eq_none (by simp; omega)]
theorem infoK : (Tryz.prog.info? 76).map (fun i => (i.zero, i.size, i.bytes)) = some (some (.agg #[.int .u8 0, .int .u8 0, .int .u8 0, .int .u8 0, .int .u8 0, .int .u8 0, .int .u8 0, .int .u8 0]), 8, 8) := by kernel_rfl
def OwnBk (w : World) (B : Nat) (v : Value) (ls : List (List (BitVec 8))) : Prop := w.ownsRow B 76 8 v ls.length (ls.flatMap bkCells)
theorem OwnBk.nil (w : World) (B : Nat) : OwnBk w B (.slice none 0 0) [] := World.ownsRow_nil _ _ _ _
theorem OwnBk.ext {w w' : World} {B : Nat} {v : Value} {ls : List (List (BitVec 8))} (h : OwnBk w B v ls) (x : Ext w w') : OwnBk w' B v ls := World.ownsRow.kept h (grown_ext x none) (by cases v.ownBlock <;> simp)
theorem OwnBk.shape {w : World} {B : Nat} {v : Value} {ls : List (List (BitVec 8))} (h : OwnBk w B v ls) : ∃ a c, v = .slice a ls.length c := own_shape h
theorem OwnBk.lt {w : World} {B : Nat} {v : Value} {ls : List (List (BitVec 8))} (h : OwnBk w B v ls) : ∀ g, v.ownBlock = some g → B ≤ g ∧ g < w.heap.size := World.ownsRow.lt h
theorem OwnBk.snoc {w : World} {B : Nat} {v : Value} {ls : List (List (BitVec 8))} {l : List (BitVec 8)} (h : w.ownsRow B 76 8 v (ls.length + 1) (ls.flatMap bkCells ++ bkCells l)) : OwnBk w B v (ls ++ [l]) := by
  show World.ownsRow _ _ _ _ _ _ _
  rw [List.length_append, List.flatMap_append]
  simpa using h
theorem OwnBk.blks {w : World} {B : Nat} {v : Value} {ls : List (List (BitVec 8))} (h : OwnBk w B v ls) (h0 : 0 < ls.length) (h8 : ∀ i (h : i < ls.length), ls[i].length = 8) : BlksAt w v ls := by
  rcases h.2 with ⟨h1, h2⟩ | ⟨g, cap, cur, h1, h3, h4, h5, h6, h7⟩
  · omega
  · refine ⟨g, 0, cap, h1, h5, (Array.getElem?_eq_some_iff.1 h4).1, fun i hi => ⟨h8 i hi, fun j hj => ?_⟩⟩
    have hc := World.ownsRow.cells h (g := g) (by rw [h1]; rfl) (i * 8 + j) (encB (ls[i].getD j 0#8)) (by rw [flatB_get bkCells 8 bkCells_len ls i hi j hj, bkCells_get _ j hj])
    rw [add_plain] at hc
    rw [show 0 + 8 * i + j = 0 + (i * 8 + j) by omega]
    exact hc
theorem BlksAt.news {w : World} {b off n cap : Nat} {ls : List (List (BitVec 8))} (h : BlksAt w (.slice (some ⟨b, off, none⟩) n cap) ls) : ∀ j u, (ls.flatMap bkCells)[j]? = some u → w.cell? ((⟨b, off, none⟩ : Addr).add j) = some u := by
  intro j u hu
  obtain ⟨b', off', cap', hv, _, hb, h⟩ := h
  injection hv with hv
  injection hv with hv
  injection hv with h1 h2
  subst h1 h2
  have hj := (List.getElem?_eq_some_iff.1 hu).1
  rw [flatB_len bkCells 8 bkCells_len] at hj
  have hi : j / 8 < ls.length := by omega
  have e : j = j / 8 * 8 + j % 8 := by omega
  rw [e, flatB_get bkCells 8 bkCells_len ls (j / 8) hi (j % 8) (by omega), bkCells_get _ _ (by omega)] at hu
  injection hu with hu
  have := (h (j / 8) hi).2 (j % 8) (by omega)
  rw [add_plain, e, ← hu, ← this]
  congr 2
  omega
theorem bk_one (l : List (BitVec 8)) : ∀ u ∈ bkCells l, u.oneCell' = true := by
  intro u hu
  obtain ⟨j, _, rfl⟩ := List.mem_map.1 hu
  rfl
theorem bks_one (ls : List (List (BitVec 8))) : ∀ u ∈ ls.flatMap bkCells, u.oneCell' = true := by
  intro u hu
  obtain ⟨l, _, hl⟩ := List.mem_flatMap.1 hu
  exact bk_one l u hl
set_option maxHeartbeats 1000000 in
theorem cloneBk_any (v : Value) (ls : List (List (BitVec 8))) (w : World) (h0 : 0 < ls.length) (hl : ls.length ≤ 1000) (h : BlksAt w v ls) :
    Calls Tryz.prog 97 #[v] w fun e w' => ∃ v', e = .returned v' ∧ OwnBk w' w.heap.size v' ls ∧ Ext w w' := by
  obtain ⟨i0, hi, hz0, hz1, hz2⟩ := info_parts infoK
  have HA := Lib.hid h
  obtain ⟨b, off, cap, rfl, hcap, hb, _⟩ := h
  have hq := fun (w : World) => Lib.run_eql_slice_nil (P := Tryz.prog) w 111 76 (some ⟨b, off, none⟩) ls.length cap 0 0 Tryz.underlying111
  go_enter Tryz.func97, Tryz.ntmps97
  go_wp2_with (at_builtin; refine wpList_append_own_at _ rfl (.tmp 5) (.tmp 6) 111 rfl w.heap.size 76 i0 _ 8 8 Tryz.underlying111 hi hz0 hz1 hz2 rfl (by decide) _ 0 [] rfl (World.ownsRow_lit w #[] 0 (Nat.le_refl _) (by decide) rfl) ⟨b, off, none⟩ ls.length cap (ls.flatMap bkCells) rfl (flatB_len bkCells 8 bkCells_len ls) (HA.out.ext (Ext.alloc _ _)).news (bks_one ls) (by unfold maxLen; omega) (by omega) (by simp) ?_; intro v1 w1 hown1 hgrow1 _ _; simp only [Nat.zero_add, List.nil_append] at hown1; have hx1 : Ext w w1 := (Ext.alloc _ _).grown hgrow1 (by simp) (fun k hk => by cases hk; exact Nat.le_refl _))
  go_ret
  exact ⟨_, rfl, hown1, hx1⟩
end Go.Proofs.YtjabgpejmnpamaaGreatDoor

namespace Go.Proofs.YtjabgpejmnpamaaGreatDoor
open Go.RowKit
def OwnR {α : Type} (cells : α → List Value) (k : Nat) (e : TypeId) (w : World) (B : Nat) (v : Value) (ps : List α) : Prop := w.ownsRow B e k v ps.length (ps.flatMap cells)
section
variable {α β : Type} {cells : α → List Value} {k : Nat} {e : TypeId} {w w' : World} {B : Nat} {v : Value} {ps : List α}
theorem OwnR.nil : OwnR cells k e w B (.slice none 0 0) ([] : List α) := World.ownsRow_nil _ _ _ _
theorem OwnR.ext (h : OwnR cells k e w B v ps) (x : Ext w w') : OwnR cells k e w' B v ps := World.ownsRow.kept h (grown_ext x none) (by cases v.ownBlock <;> simp)
theorem OwnR.kept (h : OwnR cells k e w B v ps) {row : Option Nat} (hg : w.grownBy w' row) (hne : v.ownBlock ≠ row ∨ v.ownBlock = none) : OwnR cells k e w' B v ps := World.ownsRow.kept h hg hne.symm
theorem OwnR.lower {b' : Nat} (h : OwnR cells k e w B v ps) (hb : b' ≤ B) : OwnR cells k e w b' v ps :=
  ⟨h.1, h.2.imp id fun ⟨g, cap, cur, h1, h2, h3⟩ => ⟨g, cap, cur, h1, Nat.le_trans hb h2, h3⟩⟩
theorem OwnR.shape (h : OwnR cells k e w B v ps) : ∃ a c, v = .slice a ps.length c ∧ ps.length ≤ c := by
  rcases h.2 with ⟨h1, h2⟩ | ⟨g, cap, cur, h1, _, _, h4, _⟩
  · exact ⟨none, 0, by rw [h1, h2], by rw [h2]; exact Nat.le_refl _⟩
  · exact ⟨_, _, h1, h4⟩
theorem OwnR.lt (h : OwnR cells k e w B v ps) : ∀ g, v.ownBlock = some g → B ≤ g ∧ g < w.heap.size := World.ownsRow.lt h
theorem OwnR.not_box {g : Nat} {cs : Array Value} {t : TypeId} (h : OwnR cells k e w B v ps) (hb : BoxAt w g cs t) (ht : t ≠ e) : v.ownBlock ≠ some g := by
  intro hg
  rcases h.2 with ⟨h1, _⟩ | ⟨q, cap, cur, h1, _, h3, _⟩
  · rw [h1] at hg; simp [Value.ownBlock] at hg
  · rw [h1] at hg
    simp [Value.ownBlock] at hg
    subst hg
    have hb' : w.heap[q]? = some (.cells cs t (0, 0)) := hb
    rw [h3] at hb'
    injection hb' with hb'
    injection hb' with _ hb' _
    exact ht hb'.symm
theorem OwnR.cell (h : OwnR cells k e w B v ps) (hk : ∀ x, (cells x).length = k) {g : Nat} (hg : v.ownBlock = some g) {i : Nat} (hi : i < ps.length) {j : Nat} {u : Value} (hj : j < k) (hu : (cells ps[i])[j]? = some u) : w.cell? ⟨g, i * k + j, none⟩ = some u := by
  have hc := World.ownsRow.cells h (g := g) hg (i * k + j) u (by rw [flatB_get cells k hk ps i hi j hj]; exact hu)
  rw [Addr.add_mid, Nat.zero_add] at hc
  exact hc
theorem OwnR.toR (h : OwnR cells k e w B v ps) (hk : ∀ x, (cells x).length = k) {p : Pat β} (hp : p.size = k) {ls : List β} (hl : ls.length = ps.length) (he : ∀ i (h1 : i < ls.length) (h2 : i < ps.length), p.holds w (cells ps[i]) ls[i]) : SliceR p w v ls := by
  rcases h.2 with ⟨h1, h2⟩ | ⟨g, cap, cur, h1, _, h3, h4, _⟩
  · have : ls = [] := List.eq_nil_of_length_eq_zero (by rw [hl, h2])
    subst this
    exact ⟨none, 0, h1, Nat.le_refl _, .inl ⟨rfl, fun _ => rfl⟩⟩
  · refine ⟨_, cap, by rw [hl]; exact h1, by rw [hl]; exact h4, .inr ⟨g, 0, rfl, (Array.getElem?_eq_some_iff.1 h3).1, fun i hi => ?_⟩⟩
    have hi2 : i < ps.length := by rw [← hl]; exact hi
    refine ⟨cells ps[i], he i hi hi2, fun j hj => ?_⟩
    rw [hk] at hj
    rw [hp, Nat.zero_add]
    exact h.cell hk (by rw [h1]; rfl) hi2 hj (by rw [List.getElem?_eq_getElem])
end
theorem SliceR.at' {α : Type} {p : Pat α} {w : World} {ad : Option Addr} {n cap : Nat} {l : List α} (h : SliceR p w (.slice ad n cap) l) (i : Nat) (hi : i < l.length) :
    ∃ b off, ad = some ⟨b, off, none⟩ ∧ b < w.heap.size ∧ ∃ cs, p.holds w cs l[i] ∧ w.rangeAt b (off + i * p.size) cs := by
  obtain ⟨ad', cap', hv, _, h⟩ := h
  injection hv with h1 h2 h3
  subst h1 h3
  rcases h with ⟨h0, _⟩ | ⟨b, off, ha, hb, hc⟩
  · subst h0; simp at hi
  · obtain ⟨cs, h4, h5⟩ := hc i hi
    refine ⟨b, off, ha, hb, cs, h4, fun j u hj => ?_⟩
    obtain ⟨hj1, hj2⟩ := List.getElem?_eq_some_iff.1 hj
    rw [h5 j hj1, hj2]
theorem flat_ids (k : Nat) : ∀ (css : List (List Value)), (∀ c ∈ css, c.length = k) → ∀ j u, (css.flatMap id)[j]? = some u → 0 < k → ∃ (i r : Nat) (h : i < css.length), j = i * k + r ∧ r < k ∧ css[i][r]? = some u
  | [], _, j, u, hj, _ => by simp at hj
  | c :: css, hc, j, u, hj, hk => by
    have h0 : c.length = k := hc c (by simp)
    rw [List.flatMap_cons, id_eq] at hj
    by_cases h : j < c.length
    · rw [List.getElem?_append_left h] at hj
      exact ⟨0, j, by simp, by omega, by omega, hj⟩
    · rw [List.getElem?_append_right (by omega)] at hj
      obtain ⟨i, r, hi, e, hr, hu⟩ := flat_ids k css (fun c hc' => hc c (by simp [hc'])) (j - c.length) u hj hk
      have e' : j - k = i * k + r := by rw [h0] at e; exact e
      have e2 : (i + 1) * k = i * k + k := Nat.succ_mul i k
      exact ⟨i + 1, r, by simpa using hi, by omega, hr, hu⟩
theorem wpList_append_ownR {α : Type} {cells : α → List Value} {k : Nat} {e t : TypeId} {z : Value} {by_ : Nat} (hinfo : (Tryz.prog.info? e).map (fun i => (i.zero, i.size, i.bytes)) = some (some z, k, by_)) (hzs : z.cells.size = k) (hk : ∀ x, (cells x).length = k) (hk0 : 0 < k) (hut : Tryz.prog.underlying t = some (.slice e))
    {ops : Array Oper} {rest : List Oper} {o : Oper} {a : Act} {w : World} {Q : Exit → Act → World → Prop} (hgd : o.guard = none) (s x : Operand)
    (ho : o.op = .call { callee := .builtin .append, args := #[s, x], argTypes := #[t, t] })
    (B : Nat) (v : Value) (ps qs : List α) (hs : a.eval s = v) (hown : OwnR cells k e w B v ps) {b off m c : Nat} (hx : a.eval x = .slice (some ⟨b, off, none⟩) m c) (hm : qs.length = m)
    (hcell : ∀ i (h : i < qs.length), w.rangeAt b (off + i * k) (cells qs[i])) (hone : ∀ q ∈ qs, ∀ u ∈ cells q, u.oneCell' = true)
    (hl : ps.length + m ≤ 100000000) (hby : by_ ≤ 1000) (hbase : B ≤ w.heap.size)
    (h : ∀ v' w', OwnR cells k e w' B v' (ps ++ qs) → w.grownBy w' v.ownBlock → (v'.ownBlock = v.ownBlock ∨ v'.ownBlock = some w.heap.size) → wpList Tryz.prog ops Q rest (a.put o.dst v') w') : wpList Tryz.prog ops Q (o :: rest) a w := by
  obtain ⟨i0, hi, hz0, hz1, hz2⟩ := info_parts hinfo
  refine wpList_append_own_at w hgd s x _ ho B e i0 _ k by_ hut hi hz0 hz1 hz2 hzs hk0 v ps.length _ hs hown ⟨b, off, none⟩ m c (qs.flatMap cells) hx (by rw [flatB_len cells k hk, hm]) ?_ ?_ (by unfold maxLen; omega) ?_ hbase (fun v' w' h1 h2 _ h4 => h v' w' ?_ h2 h4)
  · intro j u hj
    have hj2 : ((qs.map cells).flatMap id)[j]? = some u := by
      rw [List.flatMap_map]; exact hj
    obtain ⟨i, r, hi, rfl, hr, hu⟩ := flat_ids k (qs.map cells) (by intro c hc; obtain ⟨y, _, rfl⟩ := List.mem_map.1 hc; exact hk y) j u hj2 hk0
    rw [List.length_map] at hi
    rw [List.getElem_map] at hu
    rw [Addr.add_mid, ← Nat.add_assoc]
    exact hcell i hi r u hu
  · intro u hu
    obtain ⟨q, hq, hu⟩ := List.mem_flatMap.1 hu
    exact hone q hq u hu
  · calc (ps.length + m) * by_ ≤ 100000000 * 1000 := Nat.mul_le_mul hl hby
      _ ≤ _ := by decide
  · unfold OwnR
    rw [List.length_append, List.flatMap_append, hm]; exact h1
end Go.Proofs.YtjabgpejmnpamaaGreatDoor
