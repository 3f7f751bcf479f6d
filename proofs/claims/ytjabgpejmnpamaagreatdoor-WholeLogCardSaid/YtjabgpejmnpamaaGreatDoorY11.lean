/-
  Part 11 of the proof.
-/
import Derived.Test.YtjabgpejmnpamaaGreatDoorY09
import Derived.Laws.IdiomCopy
set_option linter.unusedVariables false
namespace Go.Proofs.YtjabgpejmnpamaaGreatDoor
open Go.RowKit
attribute [local go_sem] wrapI_ub wrap8_ub unsigned8 xor_ub
theorem SliceAt.offB {α : Type} {enc : α → Value} {w : World} {x o n c g k : Nat} {v : Value} {l : List α} (h : SliceAt enc w (.slice (some ⟨x, o, none⟩) n c) l) (hg : x ≠ g) : SliceAt enc (w.setCell ⟨g, k, none⟩ v) (.slice (some ⟨x, o, none⟩) n c) l := by
  obtain ⟨ad, cap, he, hl, hh⟩ := h
  refine ⟨ad, cap, he, hl, ?_⟩
  rcases hh with ⟨h1, h2⟩ | ⟨b, off, rfl, hb, hc⟩
  · exact .inl ⟨h1, h2⟩
  · injection he with he _ _
    injection he with he
    injection he with he1 he2 _
    subst he1 he2
    exact .inr ⟨x, o, rfl, by simpa using hb, fun k hk => (set_block (Ne.symm hg)).trans (hc k hk)⟩
theorem SliceAt.at_add {α : Type} {enc : α → Value} {w : World} {b off n cap : Nat} {l : List α} (h : SliceAt enc w (.slice (some ⟨b, off, none⟩) n cap) l) : ∀ j u, (l.map enc)[j]? = some u → w.cell? ((⟨b, off, none⟩ : Addr).add j) = some u := by
  intro j u hj
  rw [List.getElem?_map] at hj
  cases hl : l[j]? with
  | none => rw [hl] at hj; cases hj
  | some x =>
    rw [hl] at hj
    injection hj with hj
    obtain ⟨hlt, hx⟩ := List.getElem?_eq_some_iff.1 hl
    obtain ⟨b', off', he, _, hc⟩ := h.get j hlt
    injection he with he
    injection he with he1 he2
    subst he1 he2
    rw [add_plain, hc, hx, hj]
theorem OwnG.exact {α : Type} {enc : α → Value} {e : TypeId} {w : World} {base g n : Nat} {l : List α} (h : OwnG enc e w base (.slice (some ⟨g, 0, none⟩) n n) l) (h0 : 0 < l.length) : BoxAt w g (l.map enc).toArray e := by
  obtain ⟨h1, h2 | ⟨q, cap, cur, hv, hq, hh, hle, hm, hs, ht⟩⟩ := h
  · simp at h2
  · injection hv with hv1 hv2 hv3
    injection hv1 with hv1
    injection hv1 with hv1
    subst hv1
    have e1 : cur.toList = l.map enc := by
      rw [← ht, List.take_of_length_le (by simp; omega)]
    have e2 : cur = (l.map enc).toArray := by rw [← e1]
    rw [← e2]; exact hh
theorem same_ext {w : World} {g i : Nat} {cs : Array Value} {t : TypeId} {v : Value} (h : BoxAt w g cs t) (hv : cs.setIfInBounds i v = cs) : Ext w (w.setCell ⟨g, i, none⟩ v) :=
  ⟨rfl, rfl, rfl, by simp, fun k _ => by
    by_cases hk : k = g
    · subst hk
      have := h.set i v
      rw [hv] at this
      exact this.trans h.symm
    · exact heap_setCell_other _ _ _ _ hk⟩
theorem copy2 {w : World} {g b o k : Nat} {x y : BitVec 8} (hs : SliceAt encB w (.slice (some ⟨b, o, none⟩) 2 k) [x, y]) (hr : RowB w g (List.replicate 4 0#8)) :
    ∀ ty, (Builtin.copy_ #[47, 47] ty #[.slice (some ⟨g, 0, none⟩) 4 4, .slice (some ⟨b, o, none⟩) 2 k]).run Tryz.prog w = .ok (goInt 2) ((w.setCell ⟨g, 0, none⟩ (encB x)).setCell ⟨g, 1, none⟩ (encB y)) := by
  intro ty
  have h := run_copy_cells (P := Tryz.prog) w 47 47 ty 5 g 0 4 4 ⟨b, o, none⟩ 2 k [encB x, encB y] Tryz.underlying47 (by kernel_rfl) rfl hs.at_add
    (fun j hj => by
      have hj2 : j < 2 := hj
      rw [Nat.zero_add, hr.cell j (by simp; omega)]; rfl)
    (fun j _ => by rw [Nat.zero_add]; exact hr.free j)
    (fun u hu => by
      simp at hu
      rcases hu with rfl | rfl <;> rfl)
  exact h
def zero4 : List (BitVec 8) := List.replicate 4 0#8
def invP (a b c d : BitVec 8) : List (BitVec 8) := fusedG zero4 [a, b, 1#8, 0#8] (invG a)
def invQ (a b c d : BitVec 8) : List (BitVec 8) := fusedG [c, d, 0#8, 1#8] (invP a b c d) c
def invS (a b c d : BitVec 8) : List (BitVec 8) := fusedG zero4 (invQ a b c d) (invG ((invQ a b c d).getD 1 0#8))
def invR (a b c d : BitVec 8) : List (BitVec 8) := fusedG (invP a b c d) (invS a b c d) ((invP a b c d).getD 1 0#8)
def inv2 (a b c d : BitVec 8) : List (List (BitVec 8)) := [(invR a b c d).drop 2, (invS a b c d).drop 2]
theorem two_map (g c : Nat) : (List.range 2).map (blankV g c) = [blankV g c 0, blankV g c 1] := rfl
abbrev r4 (x : Nat) : Value := .slice (some ⟨x, 0, none⟩) 4 4
structure M2 (w : World) (g x y : Nat) (R S : List (BitVec 8)) : Prop where
  own : OwnG id 47 w g (.slice (some ⟨g, 0, none⟩) 2 2) [r4 x, r4 y]
  r : SliceAt encB w (r4 x) R
  s : SliceAt encB w (r4 y) S
  gx : g < x
  gy : g < y
  lr : R.length = 4
  ls : S.length = 4
theorem SliceAt.get4 {w : World} {x c : Nat} {R : List (BitVec 8)} (h : SliceAt encB w (r4 x) R) (hl : R.length = 4) (hc : c < 4) : w.cell? ⟨x, c, none⟩ = some (encB (R.getD c 0#8)) := by
  obtain ⟨b, off, he, _, hcc⟩ := h.get c (by omega)
  injection he with he
  injection he with he1 he2
  subst he1 he2
  rw [Nat.zero_add] at hcc
  rw [hcc, getD_in (show c < R.length by omega)]
theorem SliceAt.lt4 {w : World} {x : Nat} {R : List (BitVec 8)} (h : SliceAt encB w (r4 x) R) (hl : R.length = 4) : x < w.heap.size := by
  obtain ⟨b, off, he, hb, hcc⟩ := h.get 0 (by omega)
  injection he with he
  injection he with he1 he2
  subst he1
  exact hb
theorem fused4_any (x y : Nat) (xs ys : List (BitVec 8)) (c : BitVec 8) (w : World) (hx : xs.length = 4) (hy : ys.length = 4) (hd : SliceAt encB w (r4 x) xs) (hs : SliceAt encB w (r4 y) ys) :
    Calls Tryz.prog 197 #[r4 x, r4 y, encB c] w fun e w' => e = .returned (.tuple #[r4 w.heap.size, .int .i64 0]) ∧ SliceAt encB w' (r4 w.heap.size) (fusedG xs ys c) ∧ w.heap.size < w'.heap.size ∧ Ext w w' := by
  have h := fused_any (r4 x) (r4 y) xs ys c w (by omega) (by omega) hd hs
  rw [hx] at h
  refine h.mono ?_
  rintro e w' ⟨rfl, hO, hX⟩
  have hl : (fusedG xs ys c).length = 4 := by rw [fusedG_length _ _ _ (by omega)]; exact hx
  exact ⟨rfl, hO.slice, SliceAt.lt4 hO.slice hl, hX⟩
theorem fused_len4 {xs ys : List (BitVec 8)} {c : BitVec 8} (hx : xs.length = 4) (hy : ys.length = 4) : (fusedG xs ys c).length = 4 := by rw [fusedG_length _ _ _ (by omega)]; exact hx
set_option maxRecDepth 100000 in
set_option maxHeartbeats 8000000 in
theorem inverse_any (v : Value) (a b c d : BitVec 8) (w : World) (h : RowsAt w v [[a, b], [c, d]]) (ha : a ≠ 0#8) (hq : (invQ a b c d).getD 1 0#8 ≠ 0#8) :
    Calls Tryz.prog 146 #[v] w fun e w' => ∃ v', e = .returned (.tuple #[v', .int .i64 0]) ∧ RowsAt w' v' (inv2 a b c d) ∧ Ext w w' := by
  have HV := Lib.hid (fun (w' : World) (e : Ext w w') => mvalid_any v [[a, b], [c, d]] 2 w' (by simp) (by simp) (by decide) (by decide) (fun i hi => by
    have h2 : i < 2 := hi
    rcases (by omega : i = 0 ∨ i = 1) with rfl | rfl <;> rfl) (h.ext e))
  obtain ⟨vs, hS, hl, hrows⟩ := h
  have hl2 : vs.length = 2 := hl
  match vs, hl2 with
  | [u0, u1], _ =>
  have hu0 := hrows 0 (by simp) (by simp)
  have hu1 := hrows 1 (by simp) (by simp)
  simp only [List.getElem_cons_zero, List.getElem_cons_succ] at hu0 hu1
  obtain ⟨va, vc, rfl⟩ := hS.shape
  obtain ⟨vb, vo, rfl, hvb, hc0⟩ := hS.get 0 (by simp)
  obtain ⟨_, _, he, _, hc1⟩ := hS.get 1 (by simp)
  injection he with he
  injection he with he1 he2
  subst he1 he2
  obtain ⟨a0, k0, rfl⟩ := hu0.shape
  obtain ⟨a1, k1, rfl⟩ := hu1.shape
  obtain ⟨b0, o0, rfl, _, _⟩ := hu0.get 0 (by simp)
  obtain ⟨b1, o1, rfl, _, _⟩ := hu1.get 0 (by simp)
  simp only [List.getElem_cons_zero, List.getElem_cons_succ, id, Nat.add_zero, List.length_cons, List.length_nil, Nat.reduceAdd] at hc0 hc1 hu0 hu1 HV ⊢
  have HU0 := Lib.hid hu0
  have HU1 := Lib.hid hu1
  clear hS hl hrows hu0 hu1
  go_enter Tryz.func146, Tryz.ntmps146
  go_wp2_with fail
  go_at_call 192
  refine (HV.out _ (Ext.refl _)).mono ?_
  rintro e w1 ⟨rfl, hx1⟩
  have hcc0 : w1.cell? ⟨vb, vo, none⟩ = some (.slice (some ⟨b0, o0, none⟩) 2 k0) := (Below.cell hx1 (p := ⟨vb, vo, none⟩) hvb).trans hc0
  have hcc1 : w1.cell? ⟨vb, vo + 1, none⟩ = some (.slice (some ⟨b1, o1, none⟩) 2 k1) := (Below.cell hx1 (p := ⟨vb, vo + 1, none⟩) hvb).trans hc1
  have hvb1 : vb < w1.heap.size := Nat.lt_of_lt_of_le hvb hx1.size
  have HX1 := Lib.hid hx1
  clear hx1 HV
  go_wp2_with fail
  go_at_call 193
  refine (blank_any 2 4 _ (by decide) (by decide)).mono ?_
  rintro e w2 ⟨rfl, hO2, hB2, hS2, hX2⟩
  rw [two_map] at hO2
  have hb0 := hB2 0 (by decide)
  have hb1 := hB2 1 (by decide)
  have hd0 : w2.cell? ⟨vb, vo, none⟩ = some (.slice (some ⟨b0, o0, none⟩) 2 k0) := (Below.cell hX2 (p := ⟨vb, vo, none⟩) hvb1).trans hcc0
  have hd1 : w2.cell? ⟨vb, vo + 1, none⟩ = some (.slice (some ⟨b1, o1, none⟩) 2 k1) := (Below.cell hX2 (p := ⟨vb, vo + 1, none⟩) hvb1).trans hcc1
  have HX2 := Lib.hid (HX1.out.trans hX2)
  have hsz1 := HX1.out.size
  obtain ⟨g, hg⟩ : ∃ g, w1.heap.size = g := ⟨_, rfl⟩
  have HGG := Lib.hid hg
  rw [hg] at hO2 hb0 hb1 hS2 hvb1 hsz1 ⊢
  have HO2 := Lib.hid hO2
  have HB0 := Lib.hid hb0
  have HB1 := Lib.hid hb1
  have HS2 := Lib.hid hS2
  clear hO2 hb0 hb1 hX2 hS2 hB2 hcc0 hcc1 hc0 hc1 hg
  go_wp2_with fail
  have hg0 : w2.cell? ⟨g, 0, none⟩ = some (r4 (g + 1)) := HO2.out.at rfl (by simp)
  have hg1 : w2.cell? ⟨g, 1, none⟩ = some (r4 (g + 2)) := HO2.out.at rfl (by simp)
  have hgl : g < w2.heap.size := by rw [HS2.out]; omega
  have hgl1 : g + 1 < w2.heap.size := by rw [HS2.out]; omega
  have hgl2 : g + 2 < w2.heap.size := by rw [HS2.out]; omega
  have hcp := copy2 (HU0.out.ext HX2.out) HB0.out
  -- the first row
  have HW3 : Hid (RowB (((w2.setCell ⟨g + 1, 0, none⟩ (encB a)).setCell ⟨g + 1, 1, none⟩ (encB b)).setCell ⟨g + 1, 2, none⟩ (.int .u8 1)) (g + 1) [a, b, 1#8, 0#8]) := ((HB0.out.put 0 a).put 1 b).put 2 1#8
  have HV3 : Hid (RowB (((w2.setCell ⟨g + 1, 0, none⟩ (encB a)).setCell ⟨g + 1, 1, none⟩ (encB b)).setCell ⟨g + 1, 2, none⟩ (.int .u8 1)) (g + 2) (List.replicate 4 0#8)) := ((HB1.out.off (by omega) _ _).off (by omega) _ _).off (by omega) _ _
  have HO3 : Hid (OwnG id 47 (((w2.setCell ⟨g + 1, 0, none⟩ (encB a)).setCell ⟨g + 1, 1, none⟩ (encB b)).setCell ⟨g + 1, 2, none⟩ (.int .u8 1)) g (.slice (some ⟨g, 0, none⟩) 2 2) [r4 (g + 1), r4 (g + 2)]) :=
    ((HO2.out.off (by simp [Value.ownBlock]) _ _).off (by simp [Value.ownBlock]) _ _).off (by simp [Value.ownBlock]) _ _
  have HX3 : Hid (Ext w (((w2.setCell ⟨g + 1, 0, none⟩ (encB a)).setCell ⟨g + 1, 1, none⟩ (encB b)).setCell ⟨g + 1, 2, none⟩ (.int .u8 1))) := ((HX2.out.setOwn (by omega)).setOwn (by omega)).setOwn (by omega)
  have hr2 : w2.cell? ⟨g + 1, 2, none⟩ = some (encB 0#8) := HB0.out.cell 2 (by simp)
  have hf2 := HB0.out.free 2
  simp only [Nat.add_zero] at hf2 hcp
  have HSZ3 : Hid ((((w2.setCell ⟨g + 1, 0, none⟩ (encB a)).setCell ⟨g + 1, 1, none⟩ (encB b)).setCell ⟨g + 1, 2, none⟩ (.int .u8 1)).heap.size = g + 1 + 2) := by show _ = _; simpa using HS2.out
  refine wp_loop_rounds 3 ?_
  rw [rounds_succ]
  go_wp2_with fail
  have hd1' : (((w2.setCell ⟨g + 1, 0, none⟩ (encB a)).setCell ⟨g + 1, 1, none⟩ (encB b)).setCell ⟨g + 1, 2, none⟩ (.int .u8 1)).cell? ⟨vb, vo + 1, none⟩ = some (.slice (some ⟨b1, o1, none⟩) 2 k1) :=
    (set_block (by omega)).trans ((set_block (by omega)).trans ((set_block (by omega)).trans hd1))
  clear hcp hg0 hg1 hgl hgl1 hgl2 hr2 hf2 hd0 hd1 HO2 HB0 HB1 HS2 HX2
  generalize (((w2.setCell ⟨g + 1, 0, none⟩ (encB a)).setCell ⟨g + 1, 1, none⟩ (encB b)).setCell ⟨g + 1, 2, none⟩ (.int .u8 1)) = w3 at *
  have hg0 : w3.cell? ⟨g, 0, none⟩ = some (r4 (g + 1)) := HO3.out.at rfl (by simp)
  have hg1 : w3.cell? ⟨g, 1, none⟩ = some (r4 (g + 2)) := HO3.out.at rfl (by simp)
  have hgl : g < w3.heap.size := by rw [HSZ3.out]; omega
  have hgl1 : g + 1 < w3.heap.size := by rw [HSZ3.out]; omega
  have hgl2 : g + 2 < w3.heap.size := by rw [HSZ3.out]; omega
  have hcp := copy2 (HU1.out.ext HX3.out) HV3.out
  have HW4 : Hid (RowB (((w3.setCell ⟨g + 2, 0, none⟩ (encB c)).setCell ⟨g + 2, 1, none⟩ (encB d)).setCell ⟨g + 2, 3, none⟩ (.int .u8 1)) (g + 2) [c, d, 0#8, 1#8]) := ((HV3.out.put 0 c).put 1 d).put 3 1#8
  have HV4 : Hid (RowB (((w3.setCell ⟨g + 2, 0, none⟩ (encB c)).setCell ⟨g + 2, 1, none⟩ (encB d)).setCell ⟨g + 2, 3, none⟩ (.int .u8 1)) (g + 1) [a, b, 1#8, 0#8]) := ((HW3.out.off (by omega) _ _).off (by omega) _ _).off (by omega) _ _
  have HO4 : Hid (OwnG id 47 (((w3.setCell ⟨g + 2, 0, none⟩ (encB c)).setCell ⟨g + 2, 1, none⟩ (encB d)).setCell ⟨g + 2, 3, none⟩ (.int .u8 1)) g (.slice (some ⟨g, 0, none⟩) 2 2) [r4 (g + 1), r4 (g + 2)]) :=
    ((HO3.out.off (by simp [Value.ownBlock]) _ _).off (by simp [Value.ownBlock]) _ _).off (by simp [Value.ownBlock]) _ _
  have HX4 : Hid (Ext w (((w3.setCell ⟨g + 2, 0, none⟩ (encB c)).setCell ⟨g + 2, 1, none⟩ (encB d)).setCell ⟨g + 2, 3, none⟩ (.int .u8 1))) := ((HX3.out.setOwn (by omega)).setOwn (by omega)).setOwn (by omega)
  have hr3 : w3.cell? ⟨g + 2, 3, none⟩ = some (encB 0#8) := HV3.out.cell 3 (by simp)
  have hf3 := HV3.out.free 3
  rw [rounds_succ]
  go_wp2_with fail
  clear hcp hg0 hg1 hgl hgl1 hgl2 hr3 hf3 hd1' HO3 HV3 HW3 HX3 HSZ3
  generalize (((w3.setCell ⟨g + 2, 0, none⟩ (encB c)).setCell ⟨g + 2, 1, none⟩ (encB d)).setCell ⟨g + 2, 3, none⟩ (.int .u8 1)) = w4 at *
  have HR4 : Hid (SliceAt encB w4 (r4 (g + 1)) [a, b, 1#8, 0#8]) := HV4.out.slice rfl (by unfold maxLen; decide)
  have HS4 : Hid (SliceAt encB w4 (r4 (g + 2)) [c, d, 0#8, 1#8]) := HW4.out.slice rfl (by unfold maxLen; decide)
  have hgl : g < w4.heap.size := by have := HV4.out.lt; omega
  have hgx : g < g + 1 := by omega
  have hgy : g < g + 2 := by omega
  clear HV4 HW4 HU0 HU1
  obtain ⟨x, hx⟩ : ∃ x, g + 1 = x := ⟨_, rfl⟩
  obtain ⟨y, hy⟩ : ∃ y, g + 2 = y := ⟨_, rfl⟩
  rw [hx] at HO4 HR4 hgx
  rw [hy] at HO4 HS4 hgy
  clear hx hy
  have hmk4 : ∀ w : World, (Instr.makeSlice 47 (.int .i64 4) (.int .i64 4)).run Tryz.prog w = .ok (.slice (some ⟨w.heap.size, 0, none⟩) 4 4) (w.alloc (.cells (madeCells #[.int .u8 0] 4) 5)) :=
    run_make_row' 47 5 (.int .u8 0) 1 Tryz.underlying47 infoB rfl .i64 .i64 4 (by omega) (by first | omega | (unfold maxLen; omega))
  have HO4 : Hid (BoxAt w4 g #[r4 x, r4 y] 47) := HO4.out.exact (by simp)
  have hlr : [a, b, 1#8, 0#8].length = 4 := rfl
  have hls : [c, d, 0#8, 1#8].length = 4 := rfl
  have hpv : [a, b, 1#8, 0#8].getD 0 0#8 ≠ 0#8 := ha
  obtain ⟨R, hRE⟩ : ∃ R, [a, b, 1#8, 0#8] = R := ⟨_, rfl⟩
  obtain ⟨S, hSE⟩ : ∃ S, [c, d, 0#8, 1#8] = S := ⟨_, rfl⟩
  rw [hRE] at HR4 hlr hpv
  rw [hSE] at HS4 hls
  have HRE := Lib.hid hRE
  have HSE := Lib.hid hSE
  clear hRE hSE
  have HQP : Hid ((fusedG S (fusedG zero4 R (invG (R.getD 0 0#8))) (S.getD 0 0#8)).getD 1 0#8 ≠ 0#8) := by
    rw [← HRE.out, ← HSE.out]; exact hq
  clear hq ha
  rw [rounds_succ]
  go_wp2_with fail
  refine wp_loop_rounds 3 ?_
  -- round 0
  rw [rounds_succ]
  go_upto_region 14 with fail
  have e1a0 : Ext w4 (w4.alloc (.cells #[.int .i64 0] 3)) := Ext.alloc _ _
  have hbxa0 : (w4.alloc (.cells #[.int .i64 0] 3)).cell? ⟨w4.heap.size, 0, none⟩ = some (.int .i64 0) := cell_new1 _ _ _
  have hbla0 : w4.heap.size < (w4.alloc (.cells #[.int .i64 0] 3)).heap.size := by simp
  have HO5a0 := Lib.hid (HO4.out.ext e1a0)
  have HR5a0 := Lib.hid (HR4.out.ext e1a0)
  have HS5a0 := Lib.hid (HS4.out.ext e1a0)
  have HX5a0 := Lib.hid (HX4.out.trans e1a0)
  clear HO4 HR4 HS4 HX4 e1a0
  obtain ⟨gb0, hgba0⟩ : ∃ gb, w4.heap.size = gb := ⟨_, rfl⟩
  generalize (w4.alloc (.cells #[.int .i64 0] 3)) = v5_0 at *
  rw [hgba0] at hgl hbxa0 hbla0 ⊢
  clear hgba0
  have hcxa0 : v5_0.cell? ⟨g, 0, none⟩ = some (r4 x) := HO5a0.out.cell 0 rfl
  have hcya0 : v5_0.cell? ⟨g, 1, none⟩ = some (r4 y) := HO5a0.out.cell 1 rfl
  have hg5a0 : g < v5_0.heap.size := by omega
  go_wp2_with fail
  go_at_call 194
  refine (rowIndex_any _ (r4 x) R g 0 2 2 gb0 0 v5_0 (by decide) (by decide) hg5a0 rfl hcxa0 hbxa0 hbla0 (by rw [hlr]; decide) (by rw [hlr]; decide) (by have h := hpv; rwa [getD_in (show 0 < R.length by rw [hlr]; decide)] at h) HR5a0.out).mono ?_
  rintro e w6 ⟨rfl, rfl⟩
  go_wp2_with fail
  have hfra0 : ∀ i, v5_0.frozen? ⟨g, i, none⟩ = false := fun i => HO5a0.out.free i
  refine wp_region_ext [(0, true), (1, true), (2, true), (3, true), (4, true), (5, true), (6, true), (7, true), (8, true), (9, true), (10, true), (11, true), (12, true), (13, true), (14, true), (15, true), (16, true), (17, false), (18, true), (19, false)] (by kernel_rfl) (by kernel_rfl) ?_
  iterate 17 ((first
   | refine ext_move rfl rfl (by rfl) (by rfl) ?_
   | refine ext_assign rfl rfl (by rfl) (by rfl) ?_
   | refine ext_pick_t rfl rfl (by rfl) (by rfl) (by rfl) ?_
   | refine ext_pick_f rfl rfl (by rfl) (by rfl) (by rfl) ?_
   | (apply ext_take rfl (by rfl)
      · intro w' hS
        have hSc := hS.cells
        (try simp only [World.size_drew, World.cell?_drew] at hSc)
        go_simp
        (try simp (disch := omega) only [i64_id])
        try rfl)
   | refine ext_pass rfl (by rfl) ?_); simp only [Act.put, setZa, setZ0, setZ1])
  (refine ext_do rfl (by rfl) (fun K hK => ?_)
   go_simp
   refine hK _ _ ((same_ext HO5a0.out (by rfl)).trans (Ext.drew _)) ?_
   clear hK K
   (try simp only [Act.put, setZa, setZ0, setZ1]))
  iterate 1 ((first
   | refine ext_move rfl rfl (by rfl) (by rfl) ?_
   | refine ext_assign rfl rfl (by rfl) (by rfl) ?_
   | refine ext_pick_t rfl rfl (by rfl) (by rfl) (by rfl) ?_
   | refine ext_pick_f rfl rfl (by rfl) (by rfl) (by rfl) ?_
   | (apply ext_take rfl (by rfl)
      · intro w' hS
        have hSc := hS.cells
        (try simp only [World.size_drew, World.cell?_drew] at hSc)
        go_simp
        (try simp (disch := omega) only [i64_id, u64_id, ↓IntWalk.iteOmega, Int.tdiv_eq_ediv_of_nonneg, Int.tmod_eq_emod_of_nonneg])
        try rfl)
   | refine ext_pass rfl (by rfl) ?_); simp only [Act.put, setZa, setZ0, setZ1])
  (refine ext_last rfl (by rfl) (by kernel_rfl) (fun K hK => ?_)
   go_simp
   refine hK _ _ ?_
   clear hK K
   (try simp only [Act.put, setZa, setZ0, setZ1]))
  have e7a0 : Ext v5_0 ((v5_0.setCell ⟨g, 0, none⟩ (r4 x)).setCell ⟨g, 0, none⟩ (r4 x)).drew := ((same_ext HO5a0.out (by rfl)).trans (same_ext (HO5a0.out.ext (same_ext (i := 0) (v := r4 x) HO5a0.out (by rfl))) (by rfl))).trans (Ext.drew _)
  have HO7a0 := Lib.hid (HO5a0.out.ext e7a0)
  have HR7a0 := Lib.hid (HR5a0.out.ext e7a0)
  have HS7a0 := Lib.hid (HS5a0.out.ext e7a0)
  have HX7a0 := Lib.hid (HX5a0.out.trans e7a0)
  have hbx7a0 := (Below.cell e7a0 (p := ⟨gb0, 0, none⟩) hbla0).trans hbxa0
  have hbl7a0 := Nat.lt_of_lt_of_le hbla0 e7a0.size
  generalize ((v5_0.setCell ⟨g, 0, none⟩ (r4 x)).setCell ⟨g, 0, none⟩ (r4 x)).drew = v7_0 at *
  clear hcxa0 hcya0 HO5a0 HR5a0 HS5a0 HX5a0 hbxa0 hfra0 e7a0 hg5a0
  have hg7a0 : g < v7_0.heap.size := by omega
  have hcxa0 : v7_0.cell? ⟨g, 0, none⟩ = some (r4 x) := HO7a0.out.cell 0 rfl
  have hcya0 : v7_0.cell? ⟨g, 1, none⟩ = some (r4 y) := HO7a0.out.cell 1 rfl
  have hpca0 : v7_0.cell? ⟨x, 0, none⟩ = some (encB (R.getD 0 0#8)) := HR7a0.out.get4 hlr (by decide)
  have hplta0 : x < v7_0.heap.size := HR7a0.out.lt4 hlr
  obtain ⟨pv0, hpv2a0⟩ : ∃ pv, R.getD 0 0#8 = pv := ⟨_, rfl⟩
  have HPVa0 := Lib.hid hpv2a0
  rw [hpv2a0] at hpca0 hpv
  clear hpv2a0
  go_wp2_with fail
  refine wp_region_ext [(0, true), (1, true), (2, true), (3, true), (4, true), (5, true), (6, true), (7, false), (8, true), (9, true), (10, true), (11, true), (12, true)] (by kernel_rfl) (by kernel_rfl) ?_
  iterate 7 ((first
   | refine ext_move rfl rfl (by rfl) (by rfl) ?_
   | refine ext_assign rfl rfl (by rfl) (by rfl) ?_
   | refine ext_pick_t rfl rfl (by rfl) (by rfl) (by rfl) ?_
   | refine ext_pick_f rfl rfl (by rfl) (by rfl) (by rfl) ?_
   | (apply ext_take rfl (by rfl)
      · intro w' hS
        have hSc := hS.cells
        (try simp only [World.size_drew, World.cell?_drew] at hSc)
        go_simp
        (try simp (disch := omega) only [i64_id, u64_id, ↓IntWalk.iteOmega, Int.tdiv_eq_ediv_of_nonneg, Int.tmod_eq_emod_of_nonneg])
        try rfl)
   | refine ext_pass rfl (by rfl) ?_); simp only [Act.put, setZa, setZ0, setZ1])
  (refine ext_do rfl (by rfl) (fun K hK => ?_)
   go_simp
   go_at_call 196
   refine (inv_any pv0 hpv _).mono ?_
   rintro e w' ⟨rfl, rfl⟩
   refine hK _ _ (by first | (with_reducible exact Ext.refl _) | (with_reducible exact Ext.drew _)) ?_
   clear hK K
   (try simp only [Act.put, setZa, setZ0, setZ1]))
  iterate 5 ((first
   | refine ext_move rfl rfl (by rfl) (by rfl) ?_
   | refine ext_assign rfl rfl (by rfl) (by rfl) ?_
   | refine ext_pick_t rfl rfl (by rfl) (by rfl) (by rfl) ?_
   | refine ext_pick_f rfl rfl (by rfl) (by rfl) (by rfl) ?_
   | (apply ext_take rfl (by rfl)
      · intro w' hS
        have hSc := hS.cells
        (try simp only [World.size_drew, World.cell?_drew] at hSc)
        go_simp
        (try simp (disch := omega) only [i64_id, u64_id, ↓IntWalk.iteOmega, Int.tdiv_eq_ediv_of_nonneg, Int.tmod_eq_emod_of_nonneg])
        try rfl)
   | refine ext_pass rfl (by rfl) ?_); simp only [Act.put, setZa, setZ0, setZ1])
  have e8a0 : Ext v7_0 v7_0.drew := Ext.drew _
  have HO8a0 := Lib.hid (HO7a0.out.ext e8a0)
  have HR8a0 := Lib.hid (HR7a0.out.ext e8a0)
  have HS8a0 := Lib.hid (HS7a0.out.ext e8a0)
  have HX8a0 := Lib.hid (HX7a0.out.trans e8a0)
  have hbx8a0 := (Below.cell e8a0 (p := ⟨gb0, 0, none⟩) hbl7a0).trans hbx7a0
  have hbl8a0 := Nat.lt_of_lt_of_le hbl7a0 e8a0.size
  have hg8a0 := Nat.lt_of_lt_of_le hg7a0 e8a0.size
  refine ext_nil ?_
  generalize v7_0.drew = v8_0 at *
  clear hcxa0 hcya0 HO7a0 HR7a0 HS7a0 HX7a0 hbx7a0 e8a0 hg7a0 hbl7a0 hpca0 hplta0
  have hcxa0 : v8_0.cell? ⟨g, 0, none⟩ = some (r4 x) := HO8a0.out.cell 0 rfl
  have hcya0 : v8_0.cell? ⟨g, 1, none⟩ = some (r4 y) := HO8a0.out.cell 1 rfl
  have e9a0 : Ext v8_0 (v8_0.alloc (.cells (madeCells #[.int .u8 0] 4) 5)).drew := (Ext.alloc _ _).trans (Ext.drew _)
  have hz9a0 : SliceAt encB (v8_0.alloc (.cells (madeCells #[.int .u8 0] 4) 5)).drew (r4 v8_0.heap.size) zero4 := ((RowB.made v8_0 4).slice rfl (by unfold maxLen; decide)).ext (Ext.drew _)
  have HFa0 := Lib.hid (fused4_any v8_0.heap.size x zero4 R (invG pv0) _ rfl hlr hz9a0 (HR8a0.out.ext e9a0))
  have hlza0 : (fusedG zero4 R (invG pv0)).length = 4 := fused_len4 rfl hlr
  obtain ⟨Z0, hLZa0⟩ : ∃ L, fusedG zero4 R (invG pv0) = L := ⟨_, rfl⟩
  have HLZa0 : Hid (Z0 = fusedG zero4 R (invG (R.getD 0 0#8))) := by rw [HPVa0.out]; exact hLZa0.symm
  rw [hLZa0] at HFa0 hlza0
  clear hLZa0
  obtain ⟨z0, hza0⟩ : ∃ z, (v8_0.alloc (.cells (madeCells #[.int .u8 0] 4) 5)).drew.heap.size = z := ⟨_, rfl⟩
  rw [hza0] at HFa0
  have hz2a0 : v8_0.heap.size + 1 = z0 := by rw [← hza0]; simp
  go_wp2_with fail
  refine wp_region_exq [(0, true), (1, true), (2, true), (3, true), (5, true), (6, true), (7, true), (8, true), (9, true), (4, false), (10, false), (11, true), (12, true), (13, true), (14, true), (15, false)] (by kernel_rfl) (by kernel_rfl) ?_
  iterate 9 ((first
   | refine exq_move rfl rfl (by rfl) (by rfl) ?_
   | refine exq_assign rfl rfl (by rfl) (by rfl) ?_
   | refine exq_pick_t rfl rfl (by rfl) (by rfl) (by rfl) ?_
   | refine exq_pick_f rfl rfl (by rfl) (by rfl) (by rfl) ?_
   | (apply exq_take rfl (by rfl)
      · intro w' hS
        have hSc := hS.cells
        (try simp only [World.size_drew, World.cell?_drew] at hSc)
        go_simp
        (try simp (disch := omega) only [i64_id])
        try rfl)
   | refine exq_pass rfl (by rfl) ?_); simp only [Act.put, setZa, setZ0, setZ1])
  (refine exq_do rfl (by rfl) (fun K hK => ?_)
   go_simp
   refine hK _ _ (by first | exact Ext.alloc _ _ | exact (Ext.drew _).trans (Ext.alloc _ _)) ?_
   clear hK K
   (try simp only [Act.put, setZa, setZ0, setZ1]))
  (refine exq_do rfl (by rfl) (fun K hK => ?_)
   go_simp
   go_at_call 197
   refine HFa0.out.mono ?_
   rintro e v9_0 ⟨rfl, hz3a0, hzla0, hx9a0⟩
   have e10a0 : Ext v8_0 v9_0 := e9a0.trans hx9a0
   have HO9a0 := Lib.hid (HO8a0.out.ext e10a0)
   have c9a0 : v9_0.cell? ⟨g, 0, none⟩ = some (r4 x) := HO9a0.out.cell 0 rfl
   have f9a0 := HO9a0.out.free 0
   have g9a0 := Nat.lt_of_lt_of_le hg8a0 e10a0.size
   refine hK _ _ hx9a0 ?_
   clear hK K
   (try simp only [Act.put, setZa, setZ0, setZ1]))
  iterate 4 ((first
   | refine exq_move rfl rfl (by rfl) (by rfl) ?_
   | refine exq_assign rfl rfl (by rfl) (by rfl) ?_
   | refine exq_pick_t rfl rfl (by rfl) (by rfl) (by rfl) ?_
   | refine exq_pick_f rfl rfl (by rfl) (by rfl) (by rfl) ?_
   | (apply exq_take rfl (by rfl)
      · intro w' hS
        have hSc := hS.cells
        (try simp only [World.size_drew, World.cell?_drew] at hSc)
        go_simp
        (try simp (disch := omega) only [i64_id, u64_id, ↓IntWalk.iteOmega, Int.tdiv_eq_ediv_of_nonneg, Int.tmod_eq_emod_of_nonneg])
        try rfl)
   | refine exq_pass rfl (by rfl) ?_); simp only [Act.put, setZa, setZ0, setZ1])
  (refine exq_last rfl (by rfl) (by kernel_rfl) (fun K hK => ?_)
   go_simp
   refine hK _ _ ?_
   clear hK K
   (try simp only [Act.put, setZa, setZ0, setZ1]))
  (try rw [hz2a0])
  have gza0 : g < z0 := by omega
  have HO11a0 : Hid (BoxAt (v9_0.setCell ⟨g, 0, none⟩ (r4 z0)) g #[r4 z0, r4 y] 47) := HO9a0.out.set 0 (r4 z0)
  have HZ11a0 : Hid (SliceAt encB (v9_0.setCell ⟨g, 0, none⟩ (r4 z0)) (r4 z0) Z0) := hz3a0.offB (by omega)
  have HOt11a0 : Hid (SliceAt encB (v9_0.setCell ⟨g, 0, none⟩ (r4 z0)) (r4 y) S) := SliceAt.offB (HS8a0.out.ext e10a0) (by omega)
  have HX11a0 : Hid (Ext w (v9_0.setCell ⟨g, 0, none⟩ (r4 z0))) := (HX8a0.out.trans e10a0).setOwn hsz1
  have hbx11a0 : (v9_0.setCell ⟨g, 0, none⟩ (r4 z0)).cell? ⟨gb0, 0, none⟩ = some (.int .i64 0) := (set_block (by omega)).trans ((Below.cell e10a0 (p := ⟨gb0, 0, none⟩) hbl8a0).trans hbx8a0)
  have hbl11a0 : gb0 < (v9_0.setCell ⟨g, 0, none⟩ (r4 z0)).heap.size := by
    have := Nat.lt_of_lt_of_le hbl8a0 e10a0.size
    simpa using this
  clear hcxa0 hcya0 e9a0 hz9a0 HFa0 hza0 hz2a0 hz3a0 hzla0 hx9a0 e10a0 HO9a0 c9a0 f9a0 g9a0 HO8a0 HR8a0 HS8a0 HX8a0 hbx8a0 hbl8a0 hg8a0
  generalize (v9_0.setCell ⟨g, 0, none⟩ (r4 z0)) = v11_0 at *
  have hg11a0 : g < v11_0.heap.size := by omega
  have hcza0 : v11_0.cell? ⟨g, 0, none⟩ = some (r4 z0) := HO11a0.out.cell 0 rfl
  have hcoa0 : v11_0.cell? ⟨g, 1, none⟩ = some (r4 y) := HO11a0.out.cell 1 rfl
  have hoca0 : v11_0.cell? ⟨y, 0, none⟩ = some (encB (S.getD 0 0#8)) := HOt11a0.out.get4 hls (by decide)
  have hola0 : y < v11_0.heap.size := HOt11a0.out.lt4 hls
  have HFa0 := Lib.hid (fused4_any y z0 S Z0 (S.getD 0 0#8) v11_0.drew hls hlza0 (HOt11a0.out.ext (Ext.drew _)) (HZ11a0.out.ext (Ext.drew _)))
  have hlqa0 : (fusedG S Z0 (S.getD 0 0#8)).length = 4 := fused_len4 hls hlza0
  obtain ⟨Q0, hLQa0⟩ : ∃ L, fusedG S Z0 (S.getD 0 0#8) = L := ⟨_, rfl⟩
  have HLQa0 : Hid (Q0 = fusedG S Z0 (S.getD 0 0#8)) := hLQa0.symm
  rw [hLQa0] at HFa0 hlqa0
  obtain ⟨y0, hzoa0⟩ : ∃ z, v11_0.drew.heap.size = z := ⟨_, rfl⟩
  rw [hzoa0] at HFa0
  have hzo2a0 : Hid (v11_0.heap.size = y0) := by show _ = _; rw [← hzoa0]; simp
  generalize S.getD 0 0#8 = ova0 at hoca0 HFa0
  clear hLQa0 hzoa0
  go_wp2_with fail
  refine wp_loop_rounds 3 ?_
  rw [rounds_succ]
  go_wp2_with fail
  rw [rounds_succ]
  go_wp2_with fail
  refine wp_region_exq [(0, true), (1, true), (2, true), (3, true), (4, true), (5, true), (6, true), (7, true), (8, true), (9, true), (10, true), (11, true), (12, true), (13, true), (14, true), (15, true), (16, true), (17, false), (18, true), (19, true), (20, true), (21, true), (22, false)] (by kernel_rfl) (by kernel_rfl) ?_
  iterate 17 ((first
   | refine exq_move rfl rfl (by rfl) (by rfl) ?_
   | refine exq_assign rfl rfl (by rfl) (by rfl) ?_
   | refine exq_pick_t rfl rfl (by rfl) (by rfl) (by rfl) ?_
   | refine exq_pick_f rfl rfl (by rfl) (by rfl) (by rfl) ?_
   | (apply exq_take rfl (by rfl)
      · intro w' hS
        have hSc := hS.cells
        (try simp only [World.size_drew, World.cell?_drew] at hSc)
        go_simp
        (try simp (disch := omega) only [i64_id, u64_id, ↓IntWalk.iteOmega, Int.tdiv_eq_ediv_of_nonneg, Int.tmod_eq_emod_of_nonneg])
        try rfl)
   | refine exq_pass rfl (by rfl) ?_); simp only [Act.put, setZa, setZ0, setZ1])
  (refine exq_do rfl (by rfl) (fun K hK => ?_)
   go_simp
   go_at_call 197
   refine HFa0.out.mono ?_
   rintro e v13_0 ⟨rfl, hq3a0, hqla0, hx13a0⟩
   have e13a0 : Ext v11_0 v13_0 := (Ext.drew _).trans hx13a0
   have HO13a0 := Lib.hid (HO11a0.out.ext e13a0)
   have c13a0 : v13_0.cell? ⟨g, 1, none⟩ = some (r4 y) := HO13a0.out.cell 1 rfl
   have f13a0 := HO13a0.out.free 1
   have g13a0 := Nat.lt_of_lt_of_le hg11a0 e13a0.size
   refine hK _ _ (by first | exact e13a0 | exact hx13a0) ?_
   clear hK K
   (try simp only [Act.put, setZa, setZ0, setZ1]))
  iterate 4 ((first
   | refine exq_move rfl rfl (by rfl) (by rfl) ?_
   | refine exq_assign rfl rfl (by rfl) (by rfl) ?_
   | refine exq_pick_t rfl rfl (by rfl) (by rfl) (by rfl) ?_
   | refine exq_pick_f rfl rfl (by rfl) (by rfl) (by rfl) ?_
   | (apply exq_take rfl (by rfl)
      · intro w' hS
        have hSc := hS.cells
        (try simp only [World.size_drew, World.cell?_drew] at hSc)
        go_simp
        (try simp (disch := omega) only [i64_id, u64_id, ↓IntWalk.iteOmega, Int.tdiv_eq_ediv_of_nonneg, Int.tmod_eq_emod_of_nonneg])
        try rfl)
   | refine exq_pass rfl (by rfl) ?_); simp only [Act.put, setZa, setZ0, setZ1])
  (refine exq_last rfl (by rfl) (by kernel_rfl) (fun K hK => ?_)
   go_simp
   refine hK _ _ ?_
   clear hK K
   (try simp only [Act.put, setZa, setZ0, setZ1]))
  have gzoa0 : g < y0 := by have := hzo2a0.out; omega
  have HO14a0 : Hid (BoxAt (v13_0.setCell ⟨g, 1, none⟩ (r4 y0)) g #[r4 z0, r4 y0] 47) := HO13a0.out.set 1 (r4 y0)
  have HZ14a0 : Hid (SliceAt encB (v13_0.setCell ⟨g, 1, none⟩ (r4 y0)) (r4 z0) Z0) := SliceAt.offB (HZ11a0.out.ext e13a0) (by omega)
  have HQ14a0 : Hid (SliceAt encB (v13_0.setCell ⟨g, 1, none⟩ (r4 y0)) (r4 y0) Q0) := hq3a0.offB (by omega)
  have HX14a0 : Hid (Ext w (v13_0.setCell ⟨g, 1, none⟩ (r4 y0))) := (HX11a0.out.trans e13a0).setOwn hsz1
  have hbx14a0 : (v13_0.setCell ⟨g, 1, none⟩ (r4 y0)).cell? ⟨gb0, 0, none⟩ = some (.int .i64 0) := (set_block (by omega)).trans ((Below.cell e13a0 (p := ⟨gb0, 0, none⟩) hbl11a0).trans hbx11a0)
  have hbl14a0 : gb0 < (v13_0.setCell ⟨g, 1, none⟩ (r4 y0)).heap.size := by
    have := Nat.lt_of_lt_of_le hbl11a0 e13a0.size
    simpa using this
  have hgl14a0 : g < (v13_0.setCell ⟨g, 1, none⟩ (r4 y0)).heap.size := by omega
  clear hcza0 hcoa0 hoca0 hola0 HFa0 hzo2a0 hq3a0 hqla0 hx13a0 e13a0 HO13a0 c13a0 f13a0 g13a0 HO11a0 HZ11a0 HOt11a0 HX11a0 hbx11a0 hbl11a0 hg11a0
  generalize (v13_0.setCell ⟨g, 1, none⟩ (r4 y0)) = u0 at *
  go_wp2_with fail
  rw [rounds_succ]
  go_wp2_with fail
  have hpw : Q0.getD 1 0#8 ≠ 0#8 := by
    rw [HLQa0.out, HLZa0.out]
    exact HQP.out
  -- round 1
  rw [rounds_succ]
  go_upto_region 14 with fail
  have e1a1 : Ext u0 (u0.alloc (.cells #[.int .i64 1] 3)) := Ext.alloc _ _
  have hbxa1 : (u0.alloc (.cells #[.int .i64 1] 3)).cell? ⟨u0.heap.size, 0, none⟩ = some (.int .i64 1) := cell_new1 _ _ _
  have hbla1 : u0.heap.size < (u0.alloc (.cells #[.int .i64 1] 3)).heap.size := by simp
  have HO5a1 := Lib.hid (HO14a0.out.ext e1a1)
  have HR5a1 := Lib.hid (HZ14a0.out.ext e1a1)
  have HS5a1 := Lib.hid (HQ14a0.out.ext e1a1)
  have HX5a1 := Lib.hid (HX14a0.out.trans e1a1)
  clear HO14a0 HZ14a0 HQ14a0 HX14a0 e1a1
  obtain ⟨gb1, hgba1⟩ : ∃ gb, u0.heap.size = gb := ⟨_, rfl⟩
  generalize (u0.alloc (.cells #[.int .i64 1] 3)) = v5_1 at *
  rw [hgba1] at hgl14a0 hbxa1 hbla1 ⊢
  clear hgba1
  have hcxa1 : v5_1.cell? ⟨g, 0, none⟩ = some (r4 z0) := HO5a1.out.cell 0 rfl
  have hcya1 : v5_1.cell? ⟨g, 1, none⟩ = some (r4 y0) := HO5a1.out.cell 1 rfl
  have hg5a1 : g < v5_1.heap.size := by omega
  go_wp2_with fail
  go_at_call 194
  refine (rowIndex_any _ (r4 y0) Q0 g 1 1 1 gb1 1 v5_1 (by decide) (by decide) hg5a1 rfl hcya1 hbxa1 hbla1 (by rw [hlqa0]; decide) (by rw [hlqa0]; decide) (by have h := hpw; rwa [getD_in (show 1 < Q0.length by rw [hlqa0]; decide)] at h) HS5a1.out).mono ?_
  rintro e w6 ⟨rfl, rfl⟩
  go_wp2_with fail
  have hfra1 : ∀ i, v5_1.frozen? ⟨g, i, none⟩ = false := fun i => HO5a1.out.free i
  refine wp_region_ext [(0, true), (1, true), (2, true), (3, true), (4, true), (5, true), (6, true), (7, true), (8, true), (9, true), (10, true), (11, true), (12, true), (13, true), (14, true), (15, true), (16, true), (17, false), (18, true), (19, false)] (by kernel_rfl) (by kernel_rfl) ?_
  iterate 17 ((first
   | refine ext_move rfl rfl (by rfl) (by rfl) ?_
   | refine ext_assign rfl rfl (by rfl) (by rfl) ?_
   | refine ext_pick_t rfl rfl (by rfl) (by rfl) (by rfl) ?_
   | refine ext_pick_f rfl rfl (by rfl) (by rfl) (by rfl) ?_
   | (apply ext_take rfl (by rfl)
      · intro w' hS
        have hSc := hS.cells
        (try simp only [World.size_drew, World.cell?_drew] at hSc)
        go_simp
        (try simp (disch := omega) only [i64_id])
        try rfl)
   | refine ext_pass rfl (by rfl) ?_); simp only [Act.put, setZa, setZ0, setZ1])
  (refine ext_do rfl (by rfl) (fun K hK => ?_)
   go_simp
   refine hK _ _ ((same_ext HO5a1.out (by rfl)).trans (Ext.drew _)) ?_
   clear hK K
   (try simp only [Act.put, setZa, setZ0, setZ1]))
  iterate 1 ((first
   | refine ext_move rfl rfl (by rfl) (by rfl) ?_
   | refine ext_assign rfl rfl (by rfl) (by rfl) ?_
   | refine ext_pick_t rfl rfl (by rfl) (by rfl) (by rfl) ?_
   | refine ext_pick_f rfl rfl (by rfl) (by rfl) (by rfl) ?_
   | (apply ext_take rfl (by rfl)
      · intro w' hS
        have hSc := hS.cells
        (try simp only [World.size_drew, World.cell?_drew] at hSc)
        go_simp
        (try simp (disch := omega) only [i64_id, u64_id, ↓IntWalk.iteOmega, Int.tdiv_eq_ediv_of_nonneg, Int.tmod_eq_emod_of_nonneg])
        try rfl)
   | refine ext_pass rfl (by rfl) ?_); simp only [Act.put, setZa, setZ0, setZ1])
  (refine ext_last rfl (by rfl) (by kernel_rfl) (fun K hK => ?_)
   go_simp
   refine hK _ _ ?_
   clear hK K
   (try simp only [Act.put, setZa, setZ0, setZ1]))
  have e7a1 : Ext v5_1 ((v5_1.setCell ⟨g, 1, none⟩ (r4 y0)).setCell ⟨g, 1, none⟩ (r4 y0)).drew := ((same_ext HO5a1.out (by rfl)).trans (same_ext (HO5a1.out.ext (same_ext (i := 1) (v := r4 y0) HO5a1.out (by rfl))) (by rfl))).trans (Ext.drew _)
  have HO7a1 := Lib.hid (HO5a1.out.ext e7a1)
  have HR7a1 := Lib.hid (HR5a1.out.ext e7a1)
  have HS7a1 := Lib.hid (HS5a1.out.ext e7a1)
  have HX7a1 := Lib.hid (HX5a1.out.trans e7a1)
  have hbx7a1 := (Below.cell e7a1 (p := ⟨gb1, 0, none⟩) hbla1).trans hbxa1
  have hbl7a1 := Nat.lt_of_lt_of_le hbla1 e7a1.size
  generalize ((v5_1.setCell ⟨g, 1, none⟩ (r4 y0)).setCell ⟨g, 1, none⟩ (r4 y0)).drew = v7_1 at *
  clear hcxa1 hcya1 HO5a1 HR5a1 HS5a1 HX5a1 hbxa1 hfra1 e7a1 hg5a1
  have hg7a1 : g < v7_1.heap.size := by omega
  have hcxa1 : v7_1.cell? ⟨g, 0, none⟩ = some (r4 z0) := HO7a1.out.cell 0 rfl
  have hcya1 : v7_1.cell? ⟨g, 1, none⟩ = some (r4 y0) := HO7a1.out.cell 1 rfl
  have hpca1 : v7_1.cell? ⟨y0, 1, none⟩ = some (encB (Q0.getD 1 0#8)) := HS7a1.out.get4 hlqa0 (by decide)
  have hplta1 : y0 < v7_1.heap.size := HS7a1.out.lt4 hlqa0
  obtain ⟨pv1, hpv2a1⟩ : ∃ pv, Q0.getD 1 0#8 = pv := ⟨_, rfl⟩
  have HPVa1 := Lib.hid hpv2a1
  rw [hpv2a1] at hpca1 hpw
  clear hpv2a1
  go_wp2_with fail
  refine wp_region_ext [(0, true), (1, true), (2, true), (3, true), (4, true), (5, true), (6, true), (7, false), (8, true), (9, true), (10, true), (11, true), (12, true)] (by kernel_rfl) (by kernel_rfl) ?_
  iterate 7 ((first
   | refine ext_move rfl rfl (by rfl) (by rfl) ?_
   | refine ext_assign rfl rfl (by rfl) (by rfl) ?_
   | refine ext_pick_t rfl rfl (by rfl) (by rfl) (by rfl) ?_
   | refine ext_pick_f rfl rfl (by rfl) (by rfl) (by rfl) ?_
   | (apply ext_take rfl (by rfl)
      · intro w' hS
        have hSc := hS.cells
        (try simp only [World.size_drew, World.cell?_drew] at hSc)
        go_simp
        (try simp (disch := omega) only [i64_id, u64_id, ↓IntWalk.iteOmega, Int.tdiv_eq_ediv_of_nonneg, Int.tmod_eq_emod_of_nonneg])
        try rfl)
   | refine ext_pass rfl (by rfl) ?_); simp only [Act.put, setZa, setZ0, setZ1])
  (refine ext_do rfl (by rfl) (fun K hK => ?_)
   go_simp
   go_at_call 196
   refine (inv_any pv1 hpw _).mono ?_
   rintro e w' ⟨rfl, rfl⟩
   refine hK _ _ (by first | (with_reducible exact Ext.refl _) | (with_reducible exact Ext.drew _)) ?_
   clear hK K
   (try simp only [Act.put, setZa, setZ0, setZ1]))
  iterate 5 ((first
   | refine ext_move rfl rfl (by rfl) (by rfl) ?_
   | refine ext_assign rfl rfl (by rfl) (by rfl) ?_
   | refine ext_pick_t rfl rfl (by rfl) (by rfl) (by rfl) ?_
   | refine ext_pick_f rfl rfl (by rfl) (by rfl) (by rfl) ?_
   | (apply ext_take rfl (by rfl)
      · intro w' hS
        have hSc := hS.cells
        (try simp only [World.size_drew, World.cell?_drew] at hSc)
        go_simp
        (try simp (disch := omega) only [i64_id, u64_id, ↓IntWalk.iteOmega, Int.tdiv_eq_ediv_of_nonneg, Int.tmod_eq_emod_of_nonneg])
        try rfl)
   | refine ext_pass rfl (by rfl) ?_); simp only [Act.put, setZa, setZ0, setZ1])
  have e8a1 : Ext v7_1 v7_1.drew := Ext.drew _
  have HO8a1 := Lib.hid (HO7a1.out.ext e8a1)
  have HR8a1 := Lib.hid (HR7a1.out.ext e8a1)
  have HS8a1 := Lib.hid (HS7a1.out.ext e8a1)
  have HX8a1 := Lib.hid (HX7a1.out.trans e8a1)
  have hbx8a1 := (Below.cell e8a1 (p := ⟨gb1, 0, none⟩) hbl7a1).trans hbx7a1
  have hbl8a1 := Nat.lt_of_lt_of_le hbl7a1 e8a1.size
  have hg8a1 := Nat.lt_of_lt_of_le hg7a1 e8a1.size
  refine ext_nil ?_
  generalize v7_1.drew = v8_1 at *
  clear hcxa1 hcya1 HO7a1 HR7a1 HS7a1 HX7a1 hbx7a1 e8a1 hg7a1 hbl7a1 hpca1 hplta1
  have hcxa1 : v8_1.cell? ⟨g, 0, none⟩ = some (r4 z0) := HO8a1.out.cell 0 rfl
  have hcya1 : v8_1.cell? ⟨g, 1, none⟩ = some (r4 y0) := HO8a1.out.cell 1 rfl
  have e9a1 : Ext v8_1 (v8_1.alloc (.cells (madeCells #[.int .u8 0] 4) 5)).drew := (Ext.alloc _ _).trans (Ext.drew _)
  have hz9a1 : SliceAt encB (v8_1.alloc (.cells (madeCells #[.int .u8 0] 4) 5)).drew (r4 v8_1.heap.size) zero4 := ((RowB.made v8_1 4).slice rfl (by unfold maxLen; decide)).ext (Ext.drew _)
  have HFa1 := Lib.hid (fused4_any v8_1.heap.size y0 zero4 Q0 (invG pv1) _ rfl hlqa0 hz9a1 (HS8a1.out.ext e9a1))
  have hlza1 : (fusedG zero4 Q0 (invG pv1)).length = 4 := fused_len4 rfl hlqa0
  obtain ⟨Z1, hLZa1⟩ : ∃ L, fusedG zero4 Q0 (invG pv1) = L := ⟨_, rfl⟩
  have HLZa1 : Hid (Z1 = fusedG zero4 Q0 (invG (Q0.getD 1 0#8))) := by rw [HPVa1.out]; exact hLZa1.symm
  rw [hLZa1] at HFa1 hlza1
  clear hLZa1
  obtain ⟨z1, hza1⟩ : ∃ z, (v8_1.alloc (.cells (madeCells #[.int .u8 0] 4) 5)).drew.heap.size = z := ⟨_, rfl⟩
  rw [hza1] at HFa1
  have hz2a1 : v8_1.heap.size + 1 = z1 := by rw [← hza1]; simp
  go_wp2_with fail
  refine wp_region_exq [(0, true), (1, true), (2, true), (3, true), (5, true), (6, true), (7, true), (8, true), (9, true), (4, false), (10, false), (11, true), (12, true), (13, true), (14, true), (15, false)] (by kernel_rfl) (by kernel_rfl) ?_
  iterate 9 ((first
   | refine exq_move rfl rfl (by rfl) (by rfl) ?_
   | refine exq_assign rfl rfl (by rfl) (by rfl) ?_
   | refine exq_pick_t rfl rfl (by rfl) (by rfl) (by rfl) ?_
   | refine exq_pick_f rfl rfl (by rfl) (by rfl) (by rfl) ?_
   | (apply exq_take rfl (by rfl)
      · intro w' hS
        have hSc := hS.cells
        (try simp only [World.size_drew, World.cell?_drew] at hSc)
        go_simp
        (try simp (disch := omega) only [i64_id])
        try rfl)
   | refine exq_pass rfl (by rfl) ?_); simp only [Act.put, setZa, setZ0, setZ1])
  (refine exq_do rfl (by rfl) (fun K hK => ?_)
   go_simp
   refine hK _ _ (by first | exact Ext.alloc _ _ | exact (Ext.drew _).trans (Ext.alloc _ _)) ?_
   clear hK K
   (try simp only [Act.put, setZa, setZ0, setZ1]))
  (refine exq_do rfl (by rfl) (fun K hK => ?_)
   go_simp
   go_at_call 197
   refine HFa1.out.mono ?_
   rintro e v9_1 ⟨rfl, hz3a1, hzla1, hx9a1⟩
   have e10a1 : Ext v8_1 v9_1 := e9a1.trans hx9a1
   have HO9a1 := Lib.hid (HO8a1.out.ext e10a1)
   have c9a1 : v9_1.cell? ⟨g, 1, none⟩ = some (r4 y0) := HO9a1.out.cell 1 rfl
   have f9a1 := HO9a1.out.free 1
   have g9a1 := Nat.lt_of_lt_of_le hg8a1 e10a1.size
   refine hK _ _ hx9a1 ?_
   clear hK K
   (try simp only [Act.put, setZa, setZ0, setZ1]))
  iterate 4 ((first
   | refine exq_move rfl rfl (by rfl) (by rfl) ?_
   | refine exq_assign rfl rfl (by rfl) (by rfl) ?_
   | refine exq_pick_t rfl rfl (by rfl) (by rfl) (by rfl) ?_
   | refine exq_pick_f rfl rfl (by rfl) (by rfl) (by rfl) ?_
   | (apply exq_take rfl (by rfl)
      · intro w' hS
        have hSc := hS.cells
        (try simp only [World.size_drew, World.cell?_drew] at hSc)
        go_simp
        (try simp (disch := omega) only [i64_id, u64_id, ↓IntWalk.iteOmega, Int.tdiv_eq_ediv_of_nonneg, Int.tmod_eq_emod_of_nonneg])
        try rfl)
   | refine exq_pass rfl (by rfl) ?_); simp only [Act.put, setZa, setZ0, setZ1])
  (refine exq_last rfl (by rfl) (by kernel_rfl) (fun K hK => ?_)
   go_simp
   refine hK _ _ ?_
   clear hK K
   (try simp only [Act.put, setZa, setZ0, setZ1]))
  (try rw [hz2a1])
  have gza1 : g < z1 := by omega
  have HO11a1 : Hid (BoxAt (v9_1.setCell ⟨g, 1, none⟩ (r4 z1)) g #[r4 z0, r4 z1] 47) := HO9a1.out.set 1 (r4 z1)
  have HZ11a1 : Hid (SliceAt encB (v9_1.setCell ⟨g, 1, none⟩ (r4 z1)) (r4 z1) Z1) := hz3a1.offB (by omega)
  have HOt11a1 : Hid (SliceAt encB (v9_1.setCell ⟨g, 1, none⟩ (r4 z1)) (r4 z0) Z0) := SliceAt.offB (HR8a1.out.ext e10a1) (by omega)
  have HX11a1 : Hid (Ext w (v9_1.setCell ⟨g, 1, none⟩ (r4 z1))) := (HX8a1.out.trans e10a1).setOwn hsz1
  have hbx11a1 : (v9_1.setCell ⟨g, 1, none⟩ (r4 z1)).cell? ⟨gb1, 0, none⟩ = some (.int .i64 1) := (set_block (by omega)).trans ((Below.cell e10a1 (p := ⟨gb1, 0, none⟩) hbl8a1).trans hbx8a1)
  have hbl11a1 : gb1 < (v9_1.setCell ⟨g, 1, none⟩ (r4 z1)).heap.size := by
    have := Nat.lt_of_lt_of_le hbl8a1 e10a1.size
    simpa using this
  clear hcxa1 hcya1 e9a1 hz9a1 HFa1 hza1 hz2a1 hz3a1 hzla1 hx9a1 e10a1 HO9a1 c9a1 f9a1 g9a1 HO8a1 HR8a1 HS8a1 HX8a1 hbx8a1 hbl8a1 hg8a1
  generalize (v9_1.setCell ⟨g, 1, none⟩ (r4 z1)) = v11_1 at *
  have hg11a1 : g < v11_1.heap.size := by omega
  have hcza1 : v11_1.cell? ⟨g, 1, none⟩ = some (r4 z1) := HO11a1.out.cell 1 rfl
  have hcoa1 : v11_1.cell? ⟨g, 0, none⟩ = some (r4 z0) := HO11a1.out.cell 0 rfl
  have hoca1 : v11_1.cell? ⟨z0, 1, none⟩ = some (encB (Z0.getD 1 0#8)) := HOt11a1.out.get4 hlza0 (by decide)
  have hola1 : z0 < v11_1.heap.size := HOt11a1.out.lt4 hlza0
  have HFa1 := Lib.hid (fused4_any z0 z1 Z0 Z1 (Z0.getD 1 0#8) v11_1.drew hlza0 hlza1 (HOt11a1.out.ext (Ext.drew _)) (HZ11a1.out.ext (Ext.drew _)))
  have hlqa1 : (fusedG Z0 Z1 (Z0.getD 1 0#8)).length = 4 := fused_len4 hlza0 hlza1
  obtain ⟨Q1, hLQa1⟩ : ∃ L, fusedG Z0 Z1 (Z0.getD 1 0#8) = L := ⟨_, rfl⟩
  have HLQa1 : Hid (Q1 = fusedG Z0 Z1 (Z0.getD 1 0#8)) := hLQa1.symm
  rw [hLQa1] at HFa1 hlqa1
  obtain ⟨y1, hzoa1⟩ : ∃ z, v11_1.drew.heap.size = z := ⟨_, rfl⟩
  rw [hzoa1] at HFa1
  have hzo2a1 : Hid (v11_1.heap.size = y1) := by show _ = _; rw [← hzoa1]; simp
  generalize Z0.getD 1 0#8 = ova1 at hoca1 HFa1
  clear hLQa1 hzoa1
  go_wp2_with fail
  refine wp_loop_rounds 3 ?_
  rw [rounds_succ]
  go_wp2_with fail
  refine wp_region_exq [(0, true), (1, true), (2, true), (3, true), (4, true), (5, true), (6, true), (7, true), (8, true), (9, true), (10, true), (11, true), (12, true), (13, true), (14, true), (15, true), (16, true), (17, false), (18, true), (19, true), (20, true), (21, true), (22, false)] (by kernel_rfl) (by kernel_rfl) ?_
  iterate 17 ((first
   | refine exq_move rfl rfl (by rfl) (by rfl) ?_
   | refine exq_assign rfl rfl (by rfl) (by rfl) ?_
   | refine exq_pick_t rfl rfl (by rfl) (by rfl) (by rfl) ?_
   | refine exq_pick_f rfl rfl (by rfl) (by rfl) (by rfl) ?_
   | (apply exq_take rfl (by rfl)
      · intro w' hS
        have hSc := hS.cells
        (try simp only [World.size_drew, World.cell?_drew] at hSc)
        go_simp
        (try simp (disch := omega) only [i64_id, u64_id, ↓IntWalk.iteOmega, Int.tdiv_eq_ediv_of_nonneg, Int.tmod_eq_emod_of_nonneg])
        try rfl)
   | refine exq_pass rfl (by rfl) ?_); simp only [Act.put, setZa, setZ0, setZ1])
  (refine exq_do rfl (by rfl) (fun K hK => ?_)
   go_simp
   go_at_call 197
   refine HFa1.out.mono ?_
   rintro e v13_1 ⟨rfl, hq3a1, hqla1, hx13a1⟩
   have e13a1 : Ext v11_1 v13_1 := (Ext.drew _).trans hx13a1
   have HO13a1 := Lib.hid (HO11a1.out.ext e13a1)
   have c13a1 : v13_1.cell? ⟨g, 0, none⟩ = some (r4 z0) := HO13a1.out.cell 0 rfl
   have f13a1 := HO13a1.out.free 0
   have g13a1 := Nat.lt_of_lt_of_le hg11a1 e13a1.size
   refine hK _ _ (by first | exact e13a1 | exact hx13a1) ?_
   clear hK K
   (try simp only [Act.put, setZa, setZ0, setZ1]))
  iterate 4 ((first
   | refine exq_move rfl rfl (by rfl) (by rfl) ?_
   | refine exq_assign rfl rfl (by rfl) (by rfl) ?_
   | refine exq_pick_t rfl rfl (by rfl) (by rfl) (by rfl) ?_
   | refine exq_pick_f rfl rfl (by rfl) (by rfl) (by rfl) ?_
   | (apply exq_take rfl (by rfl)
      · intro w' hS
        have hSc := hS.cells
        (try simp only [World.size_drew, World.cell?_drew] at hSc)
        go_simp
        (try simp (disch := omega) only [i64_id, u64_id, ↓IntWalk.iteOmega, Int.tdiv_eq_ediv_of_nonneg, Int.tmod_eq_emod_of_nonneg])
        try rfl)
   | refine exq_pass rfl (by rfl) ?_); simp only [Act.put, setZa, setZ0, setZ1])
  (refine exq_last rfl (by rfl) (by kernel_rfl) (fun K hK => ?_)
   go_simp
   refine hK _ _ ?_
   clear hK K
   (try simp only [Act.put, setZa, setZ0, setZ1]))
  have gzoa1 : g < y1 := by have := hzo2a1.out; omega
  have HO14a1 : Hid (BoxAt (v13_1.setCell ⟨g, 0, none⟩ (r4 y1)) g #[r4 y1, r4 z1] 47) := HO13a1.out.set 0 (r4 y1)
  have HZ14a1 : Hid (SliceAt encB (v13_1.setCell ⟨g, 0, none⟩ (r4 y1)) (r4 z1) Z1) := SliceAt.offB (HZ11a1.out.ext e13a1) (by omega)
  have HQ14a1 : Hid (SliceAt encB (v13_1.setCell ⟨g, 0, none⟩ (r4 y1)) (r4 y1) Q1) := hq3a1.offB (by omega)
  have HX14a1 : Hid (Ext w (v13_1.setCell ⟨g, 0, none⟩ (r4 y1))) := (HX11a1.out.trans e13a1).setOwn hsz1
  have hbx14a1 : (v13_1.setCell ⟨g, 0, none⟩ (r4 y1)).cell? ⟨gb1, 0, none⟩ = some (.int .i64 1) := (set_block (by omega)).trans ((Below.cell e13a1 (p := ⟨gb1, 0, none⟩) hbl11a1).trans hbx11a1)
  have hbl14a1 : gb1 < (v13_1.setCell ⟨g, 0, none⟩ (r4 y1)).heap.size := by
    have := Nat.lt_of_lt_of_le hbl11a1 e13a1.size
    simpa using this
  have hgl14a1 : g < (v13_1.setCell ⟨g, 0, none⟩ (r4 y1)).heap.size := by omega
  clear hcza1 hcoa1 hoca1 hola1 HFa1 hzo2a1 hq3a1 hqla1 hx13a1 e13a1 HO13a1 c13a1 f13a1 g13a1 HO11a1 HZ11a1 HOt11a1 HX11a1 hbx11a1 hbl11a1 hg11a1
  generalize (v13_1.setCell ⟨g, 0, none⟩ (r4 y1)) = u1 at *
  go_wp2_with fail
  rw [rounds_succ]
  go_wp2_with fail
  rw [rounds_succ]
  go_wp2_with fail
  rw [rounds_succ]
  have hmk2 : ∀ w : World, (Instr.makeSlice 33 (.int .i64 2) (.int .i64 2)).run Tryz.prog w = .ok (.slice (some ⟨w.heap.size, 0, none⟩) 2 2) (w.alloc (.cells (madeCells #[.slice none 0 0] 2) 47)) :=
    run_make_row' 33 47 (.slice none 0 0) 24 Tryz.underlying33 infoR rfl .i64 .i64 2 (by omega) (by first | omega | (unfold maxLen; omega))
  go_wp2_with fail
  have eN : Ext u1 (u1.alloc (.cells (madeCells #[.slice none 0 0] 2) 47)) := Ext.alloc _ _
  have HB0 : Hid (BoxAt (u1.alloc (.cells (madeCells #[.slice none 0 0] 2) 47)) u1.heap.size #[.slice none 0 0, .slice none 0 0] 47) := by
    have h := BoxAt.new u1 (madeCells #[.slice none 0 0] 2) 47
    have hm : madeCells #[.slice none 0 0] 2 = #[.slice none 0 0, .slice none 0 0] := madeCells_eq id (.slice none 0 0) 2 47 u1
    rw [hm] at h ⊢
    exact h
  have hzlt : z1 < u1.heap.size := HZ14a1.out.lt4 hlza1
  have HA0 := Lib.hid (HO14a1.out.ext eN)
  have HP0 := Lib.hid (HQ14a1.out.ext eN)
  have HT0 := Lib.hid (HZ14a1.out.ext eN)
  have HX0 := Lib.hid (HX14a1.out.trans eN)
  have hwl := HX14a1.out.size
  have hgo : g < u1.heap.size := hgl14a1
  have hgo2 : u1.heap.size < (u1.alloc (.cells (madeCells #[.slice none 0 0] 2) 47)).heap.size := by simp
  obtain ⟨go, hgoe⟩ : ∃ go, u1.heap.size = go := ⟨_, rfl⟩
  generalize (u1.alloc (.cells (madeCells #[.slice none 0 0] 2) 47)) = t0 at *
  rw [hgoe] at HB0 hgo hgo2 hwl hzlt ⊢
  clear hgoe eN hmk2 HO14a1 HQ14a1 HZ14a1 HX14a1 hbx14a1 hbl14a1 hgl14a1
  have hyl : y1 < t0.heap.size := HP0.out.lt4 hlqa1
  have hzl : z1 < t0.heap.size := HT0.out.lt4 hlza1
  have HC0 : Hid (SliceAt encB t0 (.slice (some ⟨y1, 2, none⟩) 2 2) (Q1.drop 2)) := by
    have h := HP0.out.cut 2 4 (by decide) (by omega)
    rw [List.take_of_length_le (by rw [List.length_drop]; omega)] at h
    exact h
  have hc0 : t0.cell? ⟨g, 0, none⟩ = some (r4 y1) := HA0.out.cell 0 rfl
  have ho0 : t0.cell? ⟨go, 0, none⟩ = some (.slice none 0 0) := HB0.out.cell 0 rfl
  have hgt0 : g < t0.heap.size := by omega
  refine wp_loop_rounds 3 ?_
  rw [rounds_succ]
  go_wp2_with fail
  go_at_call 122
  refine (clone_any _ (Q1.drop 2) _ (by rw [List.length_drop]; omega) HC0.out).mono ?_
  rintro e t1 ⟨k0v, rfl, hk0, hx1⟩
  have hk0l : (Q1.drop 2).length = 2 := by rw [List.length_drop]; omega
  obtain ⟨kg0, kc0, rfl, hkg0, hkl0⟩ := OwnG.form (enc := encB) hk0 (by omega)
  have HK0 := Lib.hid (OwnG.slice (enc := encB) hk0)
  rw [hk0l] at HK0 ⊢
  have HB1 := Lib.hid (BoxAt.ext HB0.out hx1)
  have ho1 : t1.cell? ⟨go, 0, none⟩ = some (.slice none 0 0) := HB1.out.cell 0 rfl
  have hf1 := HB1.out.free 0
  have hs1 := Below.size hx1
  have hgo1 : go < t1.heap.size := by omega
  have HX1 := Lib.hid hx1
  clear hk0 hx1
  go_wp2_with fail
  have HB2 : Hid (BoxAt (t1.setCell ⟨go, 0, none⟩ (.slice (some ⟨kg0, 0, none⟩) 2 (kc0 + 1))) go #[.slice (some ⟨kg0, 0, none⟩) 2 (kc0 + 1), .slice none 0 0] 47) := HB1.out.set 0 _
  have HA2 : Hid (BoxAt (t1.setCell ⟨go, 0, none⟩ (.slice (some ⟨kg0, 0, none⟩) 2 (kc0 + 1))) g #[r4 y1, r4 z1] 47) := (HA0.out.ext HX1.out).set_off (by omega) _ _
  have HT2 : Hid (SliceAt encB (t1.setCell ⟨go, 0, none⟩ (.slice (some ⟨kg0, 0, none⟩) 2 (kc0 + 1))) (r4 z1) Z1) := SliceAt.offB (HT0.out.ext HX1.out) (by omega)
  have HK2 : Hid (SliceAt encB (t1.setCell ⟨go, 0, none⟩ (.slice (some ⟨kg0, 0, none⟩) 2 (kc0 + 1))) (.slice (some ⟨kg0, 0, none⟩) 2 (kc0 + 1)) (Q1.drop 2)) := SliceAt.offB HK0.out (by omega)
  have HX2 : Hid (Ext w (t1.setCell ⟨go, 0, none⟩ (.slice (some ⟨kg0, 0, none⟩) 2 (kc0 + 1)))) := (HX0.out.trans HX1.out).setOwn hwl
  have hgt2 : go < (t1.setCell ⟨go, 0, none⟩ (.slice (some ⟨kg0, 0, none⟩) 2 (kc0 + 1))).heap.size := by simpa using hgo1
  have hkg2 : kg0 < (t1.setCell ⟨go, 0, none⟩ (.slice (some ⟨kg0, 0, none⟩) 2 (kc0 + 1))).heap.size := by simpa using hkl0
  clear hc0 ho0 ho1 hf1 HA0 HB0 HT0 HP0 HC0 HB1 HK0 HX0 HX1 hgt0 hyl
  generalize (t1.setCell ⟨go, 0, none⟩ (.slice (some ⟨kg0, 0, none⟩) 2 (kc0 + 1))) = t2 at *
  have HC2 : Hid (SliceAt encB t2 (.slice (some ⟨z1, 2, none⟩) 2 2) (Z1.drop 2)) := by
    have h := HT2.out.cut 2 4 (by decide) (by omega)
    rw [List.take_of_length_le (by rw [List.length_drop]; omega)] at h
    exact h
  have hc2 : t2.cell? ⟨g, 1, none⟩ = some (r4 z1) := HA2.out.cell 1 rfl
  have ho2 : t2.cell? ⟨go, 1, none⟩ = some (.slice none 0 0) := HB2.out.cell 1 rfl
  have hgt3 : g < t2.heap.size := by omega
  rw [rounds_succ]
  go_wp2_with fail
  go_at_call 122
  refine (clone_any _ (Z1.drop 2) _ (by rw [List.length_drop]; omega) HC2.out).mono ?_
  rintro e t3 ⟨k1v, rfl, hk1, hx3⟩
  have hk1l : (Z1.drop 2).length = 2 := by rw [List.length_drop]; omega
  obtain ⟨kg1, kc1, rfl, hkg1, hkl1⟩ := OwnG.form (enc := encB) hk1 (by omega)
  have HK1 := Lib.hid (OwnG.slice (enc := encB) hk1)
  rw [hk1l] at HK1 ⊢
  have HB3 := Lib.hid (BoxAt.ext HB2.out hx3)
  have ho3 : t3.cell? ⟨go, 1, none⟩ = some (.slice none 0 0) := HB3.out.cell 1 rfl
  have hf3 := HB3.out.free 1
  have hs3 := Below.size hx3
  have hgo3 : go < t3.heap.size := by omega
  have HX3 := Lib.hid hx3
  clear hk1 hx3
  go_wp2_with fail
  have HB4 : Hid (BoxAt (t3.setCell ⟨go, 1, none⟩ (.slice (some ⟨kg1, 0, none⟩) 2 (kc1 + 1))) go #[.slice (some ⟨kg0, 0, none⟩) 2 (kc0 + 1), .slice (some ⟨kg1, 0, none⟩) 2 (kc1 + 1)] 47) := HB3.out.set 1 _
  have HK4 : Hid (SliceAt encB (t3.setCell ⟨go, 1, none⟩ (.slice (some ⟨kg1, 0, none⟩) 2 (kc1 + 1))) (.slice (some ⟨kg0, 0, none⟩) 2 (kc0 + 1)) (Q1.drop 2)) := SliceAt.offB (HK2.out.ext HX3.out) (by omega)
  have HK5 : Hid (SliceAt encB (t3.setCell ⟨go, 1, none⟩ (.slice (some ⟨kg1, 0, none⟩) 2 (kc1 + 1))) (.slice (some ⟨kg1, 0, none⟩) 2 (kc1 + 1)) (Z1.drop 2)) := SliceAt.offB HK1.out (by omega)
  have HX4 : Hid (Ext w (t3.setCell ⟨go, 1, none⟩ (.slice (some ⟨kg1, 0, none⟩) 2 (kc1 + 1)))) := (HX2.out.trans HX3.out).setOwn hwl
  have hgt4 : go < (t3.setCell ⟨go, 1, none⟩ (.slice (some ⟨kg1, 0, none⟩) 2 (kc1 + 1))).heap.size := by simpa using hgo3
  clear hc2 ho2 ho3 hf3 HA2 HB2 HT2 HC2 HB3 HK2 HK1 HX2 HX3
  generalize (t3.setCell ⟨go, 1, none⟩ (.slice (some ⟨kg1, 0, none⟩) 2 (kc1 + 1))) = t4 at *
  rw [rounds_succ]
  go_wp2_with fail
  go_ret2
  have hfin : inv2 a b c d = [Q1.drop 2, Z1.drop 2] := by
    unfold inv2 invR invS
    have eP : invP a b c d = Z0 := by rw [HLZa0.out, ← HRE.out]; rfl
    have eQ : invQ a b c d = Q0 := by
      rw [HLQa0.out, ← eP, ← HSE.out]; rfl
    rw [eP, eQ, ← HLZa1.out, ← HLQa1.out]
  refine ⟨_, rfl, ?_, HX4.out⟩
  rw [hfin]
  refine ⟨[.slice (some ⟨kg0, 0, none⟩) 2 (kc0 + 1), .slice (some ⟨kg1, 0, none⟩) 2 (kc1 + 1)], ?_, rfl, ?_⟩
  · refine ⟨some ⟨go, 0, none⟩, 2, rfl, Nat.le_refl _, .inr ⟨go, 0, rfl, hgt4, fun k hk => ?_⟩⟩
    have h2 : k < 2 := hk
    rcases (by omega : k = 0 ∨ k = 1) with rfl | rfl
    · exact HB4.out.cell 0 rfl
    · exact HB4.out.cell 1 rfl
  · intro i h1 h2
    have h2 : i < 2 := h2
    rcases (by omega : i = 0 ∨ i = 1) with rfl | rfl
    · exact HK4.out
    · exact HK5.out
end Go.Proofs.YtjabgpejmnpamaaGreatDoor
