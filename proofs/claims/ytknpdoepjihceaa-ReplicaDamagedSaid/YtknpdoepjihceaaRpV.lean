/-
  Chapter 29 (replica): the walk of ReplicaDamaged.
-/
import Derived.Test.YtknpdoepjihceaaRpU
import Derived.Lib.AppendStr
namespace Go.Proofs.Ytknpdoepjihceaa
open Go.ChangeShapes Go.WideShapes Go.ChangeAt Go.RowKit
set_option linter.unusedVariables false
theorem add_ub (x y : BitVec 8) : IntKind.u8.wrap (ub x + ub y) = ub (x + y) := by
  have h := x.isLt
  show ((((x.toNat : Nat) : Int) + ((y.toNat : Nat) : Int)) % 256 : Int) = (((x + y).toNat : Nat) : Int)
  rw [BitVec.toNat_add]
  omega
attribute [local go_sem] eq_strB add_ub

theorem op3 : Opens Try.prog 38 (Pat.rep 3 Pat.u8) := Opens.array opU8 Try.underlying38 (by kernel_rfl)
theorem open_3 {H : Type} {enc : TypeId × Value → H} {w : World} {r : Reach} {b0 : Nat} {v : Value} {d : DataW H} {ps : List MemPlace} (hval : Value.okWide Try.prog w r b0 38 v) (h : DataW.Trod enc Try.prog w 0 (fun _ => true) true 38 v d ps) : ∃ x y z, v = .agg #[encB x, encB y, encB z] := by
  obtain ⟨cs, l, rfl, hx⟩ := op3.agg (by kernel_rfl) hval h
  obtain ⟨rfl, hl, _⟩ := rep_one hx
  match l, hl with
  | [x, y, z], _ => exact ⟨x, y, z, rfl⟩
theorem old_cells : ([111#8, 108#8, 100#8] : List (BitVec 8)).map encB = Lib.strCells ⟨#[111, 108, 100]⟩ := by kernel_rfl
theorem inc_un (x : BitVec 64) : IntKind.u64.wrap (un x + 1) = un (x + 1#64) := by
  have h := x.isLt
  show ((((x.toNat : Nat) : Int) + 1) % 18446744073709551616 : Int) = (((x + 1#64).toNat : Nat) : Int)
  rw [BitVec.toNat_add]
  simp
theorem SliceR.one {α : Type} {p : Pat α} {w : World} {q : Nat} {a : Value} {t : TypeId} {l0 : List α} (h : BoxAt w q #[a] t) (h0 : SliceR p w a l0) (m0 : l0.length ≤ maxLen) :
    SliceR (Pat.slice p) w (.slice (some ⟨q, 0, none⟩) 1 1) [l0] := by
  refine SliceR.rows (BoxAt.sliceList (xs := [a]) h rfl) rfl fun i a1 a2 => ?_
  rcases i with _ | j
  · exact ⟨h0, m0⟩
  · simp at a1
/-- an own row of rows that lie elsewhere -/
def OwnM (w : World) (B base : Nat) (v : Value) (ls : List (List (BitVec 8))) : Prop :=
  ∃ vs : List Value, OwnG id 22 w B v vs ∧ vs.length = ls.length ∧ ∀ i (h1 : i < vs.length) (h2 : i < ls.length), OwnG encB 5 w base vs[i] ls[i]
theorem OwnM.nil (w : World) (B base : Nat) : OwnM w B base (.slice none 0 0) [] := ⟨[], OwnG.nil, rfl, fun i h => absurd h (by simp)⟩
theorem OwnM.snoc {w w' : World} {B base : Nat} {v v' vb : Value} {ls : List (List (BitVec 8))} {lb : List (BitVec 8)} (vs : List Value) (h1 : OwnG id 22 w B v vs) (h2 : vs.length = ls.length) (h3 : ∀ i (h1 : i < vs.length) (h2 : i < ls.length), OwnG encB 5 w base vs[i] ls[i])
    (hb : OwnG encB 5 w base vb lb) (ho : w'.ownsRow B 22 1 v' (vs.length + 1) (vs.map id ++ [vb])) (hg : w.grownBy w' v.ownBlock) : OwnM w' B base v' (ls ++ [lb]) := by
  have keep : ∀ {u : Value} {l : List (BitVec 8)}, OwnG encB 5 w base u l → OwnG encB 5 w' base u l := by
    intro u l hu
    refine OwnG.kept hu hg ?_
    cases hv : u.ownBlock with
    | none => exact .inr rfl
    | some g => exact .inl fun e => rows_apart hu h1 (by decide) g hv e.symm
  refine ⟨vs ++ [vb], OwnG.snoc ho, by simp [h2], fun i a b => ?_⟩
  by_cases hi : i < vs.length
  · rw [List.getElem_append_left hi, List.getElem_append_left (by omega)]
    exact keep (h3 i hi (by omega))
  · have : i = vs.length := by simp at a; omega
    subst this
    rw [List.getElem_append_right (by omega), List.getElem_append_right (by omega)]
    simp only [Nat.sub_self, List.getElem_singleton, h2]
    exact keep hb
theorem OwnM.sliceR {w : World} {B base : Nat} {v : Value} {ls : List (List (BitVec 8))} (h : OwnM w B base v ls) (hm : ∀ l ∈ ls, l.length ≤ maxLen) : SliceR (Pat.slice Pat.u8) w v ls := by
  obtain ⟨vs, h1, h2, h3⟩ := h
  exact SliceR.rows h1.slice h2 fun i a b => ⟨(h3 i a b).slice.toR (fun _ _ => trivial), hm _ (List.getElem_mem b)⟩
theorem OwnM.shape {w : World} {B base : Nat} {v : Value} {ls : List (List (BitVec 8))} (h : OwnM w B base v ls) : ∃ a c, v = .slice a ls.length c := by
  obtain ⟨vs, h1, h2, _⟩ := h
  obtain ⟨a, c, e⟩ := h1.shape
  exact ⟨a, c, by rw [e, h2]⟩

set_option maxRecDepth 100000 in
set_option maxHeartbeats 4000000 in
theorem replicaDamaged_walk (vb : Value) (l : List (BitVec 8)) (gen : BitVec 64) (a0 a1 a2 : BitVec 8) (w : World) (hm : l.length ≤ maxLen) (h : SliceAt encB w vb l) :
    Calls Try.prog 7 #[vb, encU gen, .agg #[encB a0, encB a1, encB a2]] w fun e w' => e = .returned (.bool true) ∧ Below w.heap.size w w' := by
  obtain ⟨ad, cap, rfl⟩ := h.shape
  obtain ⟨i0, hi, hi0, hi1, hi2⟩ := info_parts infoB
  obtain ⟨j0, hj, hj0, hj1, hj2⟩ := info_parts infoS
  have HS := Lib.hid h
  clear h
  unfold maxLen at hm
  have HXB : Hid (Ext w (w.alloc (.cells #[encB a0, encB a1, encB a2] 38))) := Ext.alloc _ _
  have HBB : Hid (BoxAt (w.alloc (.cells #[encB a0, encB a1, encB a2] 38)) w.heap.size #[encB a0, encB a1, encB a2] 38) := BoxAt.new _ _ _
  go_enter Try.func7, Try.ntmps7
  go_wp2_with fail
  go_at_call 8
  refine (awake_any _).mono ?_
  rintro e w1 ⟨rfl, hb1⟩
  have HX1 : Hid (Ext w w1) := HXB.out.trans hb1
  have HB1 : Hid (BoxAt w1 w.heap.size #[encB a0, encB a1, encB a2] 38) := HBB.out.ext hb1
  have hgl := HB1.out.lt
  have hc2 := HB1.out.cell 2 (v := .int .u8 (ub a2)) rfl
  clear hb1 HXB HBB
  by_cases hl : l.length ≤ 600
  · have hd : decide ((600 : Int) < (l.length : Int)) = false := by rw [decide_eq_false_iff_not]; omega
    by_cases ha : a2 = 0#8
    · have hz : (ub a2 == (0 : Int)) = true := by rw [ha]; rfl
      go_wp2_with fail
      go_at_call 8
      refine (awake_any _).mono ?_
      rintro e w3 ⟨rfl, hb3⟩
      have HX3 : Hid (Ext w1 w3) := hb3
      clear hb3
      go_wp2_with fail
      go_ret
      exact ⟨rfl, HX1.out.trans HX3.out⟩
    · have hz : (ub a2 == (0 : Int)) = false := by
        rw [beq_eq_false_iff_ne]; intro e; apply ha; apply BitVec.eq_of_toNat_eq; unfold ub at e; simp; omega
      have HA := Lib.hid ha
      clear ha
      go_wp2_with fail
      go_at_call 9
      refine (chunks_any gen _ l _ (by omega) (HS.out.ext HX1.out)).mono ?_
      rintro e w2 ⟨v2, rfl, ho2, hb2⟩
      have HX2 : Hid (Ext w w2) := HX1.out.trans hb2
      have HB2 : Hid (BoxAt w2 w.heap.size #[encB a0, encB a1, encB a2] 38) := HB1.out.ext hb2
      have hn0 : 0 < (chunksL gen l).length := by rw [chunksL_len]; unfold numL; omega
      have hn1 : (chunksL gen l).length ≤ 19 := by rw [chunksL_len]; unfold numL; omega
      have hnl : (chunksL gen l).length = numL l.length := chunksL_len _ _
      obtain ⟨lg, c3, rfl, hg1, hg2⟩ := ho2.form hn0
      have HO2 := Lib.hid ho2
      obtain ⟨n, hn⟩ : ∃ n, (chunksL gen l).length = n := ⟨_, rfl⟩
      have HN := Lib.hid hn
      have HNL := Lib.hid hnl
      rw [hn] at hn0 hn1 HO2 HNL
      rw [hn]
      clear ho2 hb2 hn hnl hc2
      go_wp2_with (at_builtin; refine Classical.byContradiction (fun hN => ?_))
      refine hN ?_
      clear hN
      have hlit : OwnG encB 5 (w2.alloc (.cells #[] 5)) w2.heap.size (.slice (some ⟨w2.heap.size, 0, none⟩) 0 0) [] := OwnG.lit (enc := encB) w2 [] 5 w2.heap.size (Nat.le_refl _) (Nat.zero_le _) #[] rfl
      have hxa : Ext w2 (w2.alloc (.cells #[] 5)) := Ext.alloc _ _
      refine wpList_append_slice (enc := encB) (fun _ => rfl) rfl _ _ 22 rfl w2.heap.size 5 i0 (.int .u8 0) 1 Try.underlying22 hi hi0 hi1 hi2 rfl _ _ _ rfl hlit _ l rfl (HS.out.ext (HX2.out.trans hxa)) (by unfold maxLen; simp only [List.length_nil]; omega) (by simp only [List.length_nil]; omega) hxa.size ?_
      intro v3 w3 ho3 hg3
      have HX3 : Hid (Ext w2 w3) := hxa.grown hg3 hxa.size (fun q hq => (hlit.lt q hq).1)
      have HO3 := Lib.hid (OwnG.app (l := []) ho3)
      rw [List.nil_append] at HO3
      clear hlit hxa ho3 hg3
      go_wp2_with (at_builtin; refine Classical.byContradiction (fun hN => ?_))
      refine hN ?_
      clear hN
      refine Lib.wpList_append_own_string _ rfl _ _ 22 9 rfl w2.heap.size 5 i0 Try.underlying22 Try.underlying9 hi hi0 hi1 hi2 _ _ _ rfl HO3.out _ rfl (by unfold maxLen; show l.length + 3 ≤ _; omega) (by show l.length + 3 ≤ _; omega) HX3.out.size ?_
      intro v4 w4 ho4 hg4 _
      have HX4 : Hid (Ext w2 w4) := HX3.out.grown hg4 HX3.out.size (fun q hq => (HO3.out.lt q hq).1)
      have HO4 : Hid (OwnG encB 5 w4 w2.heap.size v4 (l ++ [111#8, 108#8, 100#8])) := by
        show World.ownsRow _ _ _ _ _ _ _
        rw [List.length_append, List.map_append, show ([111#8, 108#8, 100#8] : List (BitVec 8)).map encB = Lib.strCells ⟨#[111, 108, 100]⟩ from old_cells]
        exact ho4
      obtain ⟨a4, d4, rfl⟩ := HO4.out.shape
      clear ho4 hg4
      have hgn : IntKind.u64.wrap (un gen + 1) = un (gen + 1#64) := inc_un gen
      obtain ⟨gn, hgn2⟩ : ∃ g, gen + 1#64 = g := ⟨_, rfl⟩
      obtain ⟨lo, hlo⟩ : ∃ x, l ++ [111#8, 108#8, 100#8] = x := ⟨_, rfl⟩
      have hlol : lo.length = l.length + 3 := by rw [← hlo]; simp
      rw [hgn2] at hgn
      rw [hlo] at HO4
      rw [show (l ++ [111#8, 108#8, 100#8]).length = lo.length by rw [hlo]]
      have HGN := Lib.hid hgn2
      have HLO := Lib.hid hlo
      obtain ⟨no, hno⟩ : ∃ x, lo.length = x := ⟨_, rfl⟩
      rw [hno] at HO4 ⊢
      have HNO := Lib.hid hno
      have HLOL := Lib.hid hlol
      have hno2 : no ≤ 603 := by omega
      clear hgn2 hlo hlol hno
      go_wp2_with fail
      go_at_call 9
      refine (chunks_any gn _ lo _ (by rw [HNO.out]; omega) HO4.out.slice).mono ?_
      rintro e w5 ⟨v5, rfl, ho5, hb5⟩
      have HX5 : Hid (Ext w2 w5) := HX4.out.trans hb5
      have hnl5 : (chunksL gn lo).length = numL (l.length + 3) := by rw [chunksL_len, HLOL.out]
      have hn5 : n ≤ numL (l.length + 3) := by rw [HNL.out]; unfold numL; omega
      obtain ⟨og, c5, rfl, hg5, hg6⟩ := ho5.form (by rw [hnl5]; unfold numL; omega)
      have HO5 := Lib.hid ho5
      obtain ⟨m, hm5⟩ : ∃ m, (chunksL gn lo).length = m := ⟨_, rfl⟩
      have HM := Lib.hid hm5
      rw [hm5] at HO5 hnl5
      rw [hm5]
      rw [← hnl5] at hn5
      have hmb : m ≤ 100 := by rw [hnl5]; unfold numL; omega
      have hz1 : ((n : Int) == 0) = false := by rw [beq_eq_false_iff_ne]; omega
      have hz2 : decide ((m : Int) < (n : Int)) = false := by rw [decide_eq_false_iff_not]; omega
      have hz3 : decide (m < n) = false := by rw [decide_eq_false_iff_not]; omega
      clear ho5 hb5 hnl5 hm5 hg1 hg5
      go_wp2_with fail
      have HB5 : Hid (BoxAt w5 w.heap.size #[encB a0, encB a1, encB a2] 38) := HB2.out.ext HX5.out
      obtain ⟨kk, hkk⟩ : ∃ k, a0.toNat % 3 = k := ⟨_, rfl⟩
      have HKK := Lib.hid hkk
      clear hkk
      go_loopw [12, 11] (fun x vb wr => ∃ i : Nat, i ≤ n ∧ x = .int .i64 i ∧ Hid (OwnM wr w5.heap.size 0 vb (dmgK gen l kk a1 a2 i)) ∧ Hid (Ext w5 wr)) (fun x _ _ => n - (intOf x).toNat)
      case atStart => exact ⟨0, by omega, rfl, Lib.hid (OwnM.nil _ _ _), Lib.hid (Ext.refl _)⟩
      case round =>
        obtain ⟨i, hin, rfl, HOM, HXr⟩ := hrel
        obtain ⟨am, cm, hvm⟩ := HOM.out.shape
        rw [dmgK_len] at hvm
        subst hvm
        by_cases hlt : i < n
        · have hii : (i : Int) < (n : Int) := by omega
          have hsec : ∀ k (hk : k < (chunksL gen l).length), (chunksL gen l)[k] = secL gen l k := fun k hk => by
            rw [← chunksL_getD (by rw [← chunksL_len gen]; exact hk), getD_in hk]
          obtain ⟨u, hcu, hou⟩ := HO2.out.elem HN.out.symm i (by rw [HN.out]; exact hlt)
          rw [hsec] at hou
          have HSEC := Lib.hid hsec
          have hsl : (secL gen l i).length ≤ 57 ∧ 25 ≤ (secL gen l i).length := by
            have := chunkL_len l i
            unfold secL
            rw [sectorL_len]
            omega
          obtain ⟨sL, hsL⟩ : ∃ s, secL gen l i = s := ⟨_, rfl⟩
          have HSL := Lib.hid hsL
          rw [hsL] at hou hsl
          obtain ⟨nL, hnL⟩ : ∃ s, sL.length = s := ⟨_, rfl⟩
          have HNL2 := Lib.hid hnL
          obtain ⟨au, cu, rfl⟩ := hou.shape
          have hgl2 : lg < wr.heap.size := Nat.lt_of_lt_of_le hg2 (HX5.out.trans HXr.out).size
          replace hcu := ((HX5.out.trans HXr.out).cell _ _ hg2).trans hcu
          have HU := Lib.hid ((hou.lower (Nat.zero_le _)).ext (HX5.out.trans HXr.out))
          rw [hnL] at hcu hsl HU
          clear hou hsec hsL hnL
          go_wp2_with (at_builtin; refine Classical.byContradiction (fun hN => ?_))
          refine hN ?_
          clear hN
          have hlit : OwnG encB 5 (wr.alloc (.cells #[] 5)) wr.heap.size (.slice (some ⟨wr.heap.size, 0, none⟩) 0 0) [] := OwnG.lit (enc := encB) wr [] 5 wr.heap.size (Nat.le_refl _) (Nat.zero_le _) #[] rfl
          have hxa : Ext wr (wr.alloc (.cells #[] 5)) := Ext.alloc _ _
          refine wpList_append_slice (enc := encB) (fun _ => rfl) rfl _ _ 22 rfl wr.heap.size 5 i0 (.int .u8 0) 1 Try.underlying22 hi hi0 hi1 hi2 rfl _ _ _ rfl hlit _ sL (by rw [← HNL2.out]; rfl) ((show SliceAt encB wr (.slice au sL.length cu) sL from HNL2.out ▸ HU.out.slice).ext hxa) (by unfold maxLen; simp only [List.length_nil]; rw [HNL2.out]; omega) (by simp only [List.length_nil]; rw [HNL2.out]; omega) hxa.size ?_
          intro v6 w6 ho6 hg6
          have HX6 : Hid (Ext wr w6) := hxa.grown hg6 hxa.size (fun q hq => (hlit.lt q hq).1)
          replace ho6 := OwnG.app (l := []) ho6
          rw [List.nil_append] at ho6
          obtain ⟨q, c6, rfl, hq1, hq2⟩ := ho6.form (by rw [HNL2.out]; omega)
          have HO6 := Lib.hid ho6
          rw [HNL2.out] at HO6 ⊢
          clear hlit hxa hg6
          obtain ⟨j, hj9⟩ : ∃ j, a1.toNat % nL = j := ⟨_, rfl⟩
          have hjn : j < nL := by rw [← hj9]; exact Nat.mod_lt _ (by omega)
          have hjl : (j : Int) < (nL : Int) := by omega
          have hrm1 : (ub a1).tmod (nL : Int) = (j : Int) := by rw [← hj9, Int.tmod_eq_emod_of_nonneg (by unfold ub; omega)]; unfold ub; omega
          have hrm2 : (ub a1) % (nL : Int) = (j : Int) := by rw [← hj9]; unfold ub; omega
          have HJ := Lib.hid hj9
          have hwa : IntKind.i64.wrap (ub a1) = ub a1 := i64_id _ (by have := a1.isLt; unfold ub; omega)
          have hwb : IntKind.i64.wrap (ub a0) = ub a0 := i64_id _ (by have := a0.isLt; unfold ub; omega)
          have hwc : wrap64 (ub a0) = ub a0 := by have := a0.isLt; unfold wrap64 ub; omega
          have hbx1 := (HB5.out.ext (HXr.out.trans HX6.out)).cell 1 (v := .int .u8 (ub a1)) rfl
          have hbx2 := (HB5.out.ext (HXr.out.trans HX6.out)).cell 2 (v := .int .u8 (ub a2)) rfl
          have hbz := (HB5.out.ext (HXr.out.trans HX6.out)).lt
          have hcj : w6.cell? ⟨q, j, none⟩ = some (.int .u8 (ub (sL[j]'(by rw [HNL2.out]; exact hjn)))) := HO6.out.at HNL2.out.symm (by rw [HNL2.out]; exact hjn)
          have hfj := HO6.out.frees HNL2.out.symm j
          have HP := Lib.hid (HO6.out.put HNL2.out.symm j (sL[j]'(by rw [HNL2.out]; exact hjn) + a2))
          have HX7 : Hid (Ext wr (w6.setCell ⟨q, j, none⟩ (.int .u8 (ub (sL[j]'(by rw [HNL2.out]; exact hjn) + a2)))).drew) := (bel_set HX6.out hq1 _ _).drew
          have HSJ : Hid (sL.set j (sL[j]'(by rw [HNL2.out]; exact hjn) + a2) = (secL gen l i).set (a1.toNat % (secL gen l i).length) ((secL gen l i).getD (a1.toNat % (secL gen l i).length) 0#8 + a2)) := by
            show _ = _
            rw [HSL.out, getD_in (Nat.mod_lt _ (by rw [HNL2.out]; omega))]
            have e : a1.toNat % sL.length = j := by rw [HNL2.out]; exact HJ.out
            simp only [e]
          generalize hsj : sL.set j (sL[j]'(by rw [HNL2.out]; exact hjn) + a2) = sJ at *
          have hsjl : sJ.length = nL := by rw [← hsj, List.length_set, HNL2.out]
          generalize sL[j]'(by rw [HNL2.out]; exact hjn) = xj at *
          clear hj9 hsj ho6
          go_wp2_with fail
          refine wp_region_ext [(0, true), (1, true), (2, true), (3, true), (4, true), (5, true), (6, true), (7, true), (8, true), (9, true), (10, true), (11, true), (12, true), (13, false)] (by kernel_rfl) (by kernel_rfl) ?_
          iterate 13 (first
           | (refine ext_move rfl rfl (by rfl) (by rfl) ?_; simp only [Act.put, List.setIfInBounds_toArray, List.set_cons_zero, List.set_cons_succ])
           | (refine ext_assign rfl rfl (by rfl) (by rfl) ?_; simp only [Act.put, List.setIfInBounds_toArray, List.set_cons_zero, List.set_cons_succ])
           | (refine ext_pick_t rfl rfl (by rfl) (by rfl) (by rfl) ?_; simp only [Act.put, List.setIfInBounds_toArray, List.set_cons_zero, List.set_cons_succ])
           | (refine ext_pick_f rfl rfl (by rfl) (by rfl) (by rfl) ?_; simp only [Act.put, List.setIfInBounds_toArray, List.set_cons_zero, List.set_cons_succ])
           | (apply ext_take rfl (by rfl)
              · intro w' hS
                have hSc := hS.cells
                (try simp only [World.size_drew, World.cell?_drew] at hSc)
                go_simp
                (try simp (disch := omega) only [i64_id, u64_id, ↓IntWalk.iteOmega, Int.tdiv_eq_ediv_of_nonneg, Int.tmod_eq_emod_of_nonneg])
                try rfl
              simp only [Act.put, List.setIfInBounds_toArray, List.set_cons_zero, List.set_cons_succ])
           | (refine ext_pass rfl (by rfl) ?_; simp only [Act.put, List.setIfInBounds_toArray, List.set_cons_zero, List.set_cons_succ]))
          (refine ext_last rfl (by rfl) (by kernel_rfl) (fun K hK => ?_)
           go_simp
           refine hK _ _ ?_
           clear hK K
           (try simp only [Act.put, List.setIfInBounds_toArray, List.set_cons_zero, List.set_cons_succ]))
          have HP7 : Hid (OwnG encB 5 (w6.setCell ⟨q, j, none⟩ (.int .u8 (ub (xj + a2)))).drew 0 (.slice (some ⟨q, 0, none⟩) nL (c6 + 1)) sJ) := (HP.out.lower (Nat.zero_le _)).ext (Ext.drew _)
          generalize (w6.setCell ⟨q, j, none⟩ (.int .u8 (ub (xj + a2)))).drew = w7 at *
          have hx57 := HXr.out.trans HX7.out
          have hbx0 := (HB5.out.ext hx57).cell 0 (v := .int .u8 (ub a0)) rfl
          have hbz7 := (HB5.out.ext hx57).lt
          have HX57 := Lib.hid hx57
          have hk3 : kk = 0 ∨ kk = 1 ∨ kk = 2 := by have := HKK.out; omega
          have hkm : (ub a0).tmod 3 = (kk : Int) := by rw [Int.tmod_eq_emod_of_nonneg (by unfold ub; omega), ← HKK.out]; unfold ub; omega
          have hkm2 : (ub a0) % 3 = (kk : Int) := by rw [← HKK.out]; unfold ub; omega
          clear hx57 HP hbz hcj hfj hbx1 hbx2
          rcases hk3 with hk3 | hk3 | hk3
          · subst hk3
            obtain ⟨uo, hco, hoo⟩ := HO5.out.elem HM.out.symm i (by rw [HM.out]; omega)
            have hog : og < w7.heap.size := Nat.lt_of_lt_of_le hg6 HX57.out.size
            replace hco := (HX57.out.cell _ _ hg6).trans hco
            have him : (i : Int) < (m : Int) := by omega
            have HE : Hid (OwnG encB 5 w7 0 uo (dmgL gen l 0 a1 a2 i)) := by
              have e : dmgL gen l 0 a1 a2 i = (chunksL gn lo)[i]'(by rw [HM.out]; omega) := by
                unfold dmgL
                rw [if_pos rfl, HGN.out, HLO.out, getD_in]
              rw [e]
              exact (hoo.lower (Nat.zero_le _)).ext HX57.out
            obtain ⟨ae, ce, rfl⟩ := hoo.shape
            generalize ((chunksL gn lo)[i]'(by rw [HM.out]; omega)).length = ne at *
            clear hoo hkm2
            go_wp2_with (at_builtin; refine Classical.byContradiction (fun hN => ?_))
            refine hN ?_
            clear hN
            obtain ⟨vs, h1, h2, h3⟩ := HOM.out
            have hvl : vs.length = i := by rw [h2, dmgK_len]
            have HVL := Lib.hid hvl
            have H1 := Lib.hid ((h1.ext HX7.out).ext (Ext.alloc w7 (.cells #[.slice ae ne ce] 22)))
            have H2 := Lib.hid h2
            have h3' := fun k a b => ((h3 k a b).ext HX7.out).ext (Ext.alloc w7 (.cells #[.slice ae ne ce] 22))
            have H3 := Lib.hid h3'
            have hs7 : w5.heap.size ≤ w7.heap.size := HX57.out.size
            clear h1 h2 h3 hvl h3'
            refine wpList_append_one rfl _ _ _ rfl w5.heap.size 22 j0 (.slice none 0 0) 24 Try.underlying25 hj hj0 hj1 hj2 rfl _ _ _ rfl H1.out _ _ rfl rfl (cell_new1 _ _ _) (by rw [HVL.out]; unfold maxLen; omega) (by rw [HVL.out]; omega) (by simp; omega) ?_
            intro v8 w8 ho8 hg8 _
            have HM8 : Hid (OwnM w8 w5.heap.size 0 v8 (dmgK gen l 0 a1 a2 (i + 1))) := by
              show OwnM _ _ _ _ _
              rw [dmgK_succ]
              exact OwnM.snoc vs H1.out H2.out H3.out (HE.out.ext (Ext.alloc _ _)) ho8 hg8
            have HX8 : Hid (Ext w5 w8) := (Below.alloc HX57.out hs7 _).grown hg8 (by simp; omega) (fun q hq => (H1.out.lt q hq).1)
            clear ho8 hg8 hs7
            go_wp2
            go_roundw
            case rel => exact ⟨i + 1, by omega, by go_num, HM8, HX8⟩
            case measure => show n - (intOf (.int .i64 ((i : Int) + 1))).toNat < n - (intOf (.int .i64 (i : Int))).toNat; unfold intOf; simp only; omega
          · subst hk3
            obtain ⟨k1, hk1⟩ : ∃ k1, (i + 1) % n = k1 := ⟨_, rfl⟩
            have hk1n : k1 < n := by rw [← hk1]; exact Nat.mod_lt _ hn0
            have hki : (k1 : Int) < (n : Int) := by omega
            have hr1 : ((i : Int) + 1).tmod (n : Int) = (k1 : Int) := by rw [← hk1, Int.tmod_eq_emod_of_nonneg (by omega)]; simp
            have hr2 : ((i : Int) + 1) % (n : Int) = (k1 : Int) := by rw [← hk1]; simp
            have HK1 := Lib.hid hk1
            obtain ⟨uo, hco, hoo⟩ := HO2.out.elem HN.out.symm k1 (by rw [HN.out]; exact hk1n)
            have hog : lg < w7.heap.size := Nat.lt_of_lt_of_le hgl2 HX7.out.size
            replace hco := ((HX5.out.trans HX57.out).cell _ _ hg2).trans hco
            have HE0 := Lib.hid ((hoo.lower (Nat.zero_le _)).ext (HX5.out.trans HX57.out))
            have HEQ : Hid (n ≠ 1 → dmgL gen l 1 a1 a2 i = (chunksL gen l)[k1]'(by rw [HN.out]; exact hk1n)) := by
              intro h1
              unfold dmgL
              rw [if_neg (by omega), if_pos rfl, if_neg (by rw [← HNL.out]; exact h1), ← HNL.out, HK1.out, getD_in]
            obtain ⟨ae, ce, rfl⟩ := hoo.shape
            generalize hck : (chunksL gen l)[k1]'(by rw [HN.out]; exact hk1n) = ck at *
            generalize ck.length = ne at *
            clear hoo hkm2 hk1 hck
            by_cases hn1' : n = 1
            · have hne1 : ((n : Int) == 1) = true := by rw [beq_iff_eq]; omega
              have HE : Hid (OwnG encB 5 w7 0 (.slice none 0 0) (dmgL gen l 1 a1 a2 i)) := by
                have e : dmgL gen l 1 a1 a2 i = [] := by
                  unfold dmgL
                  rw [if_neg (by omega), if_pos rfl, if_pos (by rw [← HNL.out]; exact hn1')]
                rw [e]; exact OwnG.nil
              have HN1 := Lib.hid hn1'
              clear hn1'
              go_wp2_with (at_builtin; refine Classical.byContradiction (fun hN => ?_))
              refine hN ?_
              clear hN
              obtain ⟨vs, h1, h2, h3⟩ := HOM.out
              have hvl : vs.length = i := by rw [h2, dmgK_len]
              have HVL := Lib.hid hvl
              have H1 := Lib.hid ((h1.ext HX7.out).ext (Ext.alloc w7 (.cells #[.slice none 0 0] 22)))
              have H2 := Lib.hid h2
              have h3' := fun k a b => ((h3 k a b).ext HX7.out).ext (Ext.alloc w7 (.cells #[.slice none 0 0] 22))
              have H3 := Lib.hid h3'
              have hs7 : w5.heap.size ≤ w7.heap.size := HX57.out.size
              clear h1 h2 h3 hvl h3'
              refine wpList_append_one rfl _ _ _ rfl w5.heap.size 22 j0 (.slice none 0 0) 24 Try.underlying25 hj hj0 hj1 hj2 rfl _ _ _ rfl H1.out _ _ rfl rfl (cell_new1 _ _ _) (by rw [HVL.out]; unfold maxLen; omega) (by rw [HVL.out]; omega) (by simp; omega) ?_
              intro v8 w8 ho8 hg8 _
              have HM8 : Hid (OwnM w8 w5.heap.size 0 v8 (dmgK gen l 1 a1 a2 (i + 1))) := by
                show OwnM _ _ _ _ _
                rw [dmgK_succ]
                exact OwnM.snoc vs H1.out H2.out H3.out (HE.out.ext (Ext.alloc _ _)) ho8 hg8
              have HX8 : Hid (Ext w5 w8) := (Below.alloc HX57.out hs7 _).grown hg8 (by simp; omega) (fun q hq => (H1.out.lt q hq).1)
              clear ho8 hg8 hs7
              go_wp2
              go_roundw
              case rel => exact ⟨i + 1, by omega, by go_num, HM8, HX8⟩
              case measure => show n - (intOf (.int .i64 ((i : Int) + 1))).toNat < n - (intOf (.int .i64 (i : Int))).toNat; unfold intOf; simp only; omega
            · have hne1 : ((n : Int) == 1) = false := by rw [beq_eq_false_iff_ne]; omega
              have HE : Hid (OwnG encB 5 w7 0 (.slice ae ne ce) (dmgL gen l 1 a1 a2 i)) := by rw [HEQ.out hn1']; exact HE0.out
              clear hn1'
              go_wp2_with (at_builtin; refine Classical.byContradiction (fun hN => ?_))
              refine hN ?_
              clear hN
              obtain ⟨vs, h1, h2, h3⟩ := HOM.out
              have hvl : vs.length = i := by rw [h2, dmgK_len]
              have HVL := Lib.hid hvl
              have H1 := Lib.hid ((h1.ext HX7.out).ext (Ext.alloc w7 (.cells #[.slice ae ne ce] 22)))
              have H2 := Lib.hid h2
              have h3' := fun k a b => ((h3 k a b).ext HX7.out).ext (Ext.alloc w7 (.cells #[.slice ae ne ce] 22))
              have H3 := Lib.hid h3'
              have hs7 : w5.heap.size ≤ w7.heap.size := HX57.out.size
              clear h1 h2 h3 hvl h3'
              refine wpList_append_one rfl _ _ _ rfl w5.heap.size 22 j0 (.slice none 0 0) 24 Try.underlying25 hj hj0 hj1 hj2 rfl _ _ _ rfl H1.out _ _ rfl rfl (cell_new1 _ _ _) (by rw [HVL.out]; unfold maxLen; omega) (by rw [HVL.out]; omega) (by simp; omega) ?_
              intro v8 w8 ho8 hg8 _
              have HM8 : Hid (OwnM w8 w5.heap.size 0 v8 (dmgK gen l 1 a1 a2 (i + 1))) := by
                show OwnM _ _ _ _ _
                rw [dmgK_succ]
                exact OwnM.snoc vs H1.out H2.out H3.out (HE.out.ext (Ext.alloc _ _)) ho8 hg8
              have HX8 : Hid (Ext w5 w8) := (Below.alloc HX57.out hs7 _).grown hg8 (by simp; omega) (fun q hq => (H1.out.lt q hq).1)
              clear ho8 hg8 hs7
              go_wp2
              go_roundw
              case rel => exact ⟨i + 1, by omega, by go_num, HM8, HX8⟩
              case measure => show n - (intOf (.int .i64 ((i : Int) + 1))).toNat < n - (intOf (.int .i64 (i : Int))).toNat; unfold intOf; simp only; omega
          · subst hk3
            have HE : Hid (OwnG encB 5 w7 0 (.slice (some ⟨q, 0, none⟩) nL (c6 + 1)) (dmgL gen l 2 a1 a2 i)) := by
              have e : dmgL gen l 2 a1 a2 i = sJ := by
                unfold dmgL
                rw [if_neg (by omega), if_neg (by omega)]
                exact HSJ.out.symm
              rw [e]; exact HP7.out
            clear hkm2
            go_wp2_with (at_builtin; refine Classical.byContradiction (fun hN => ?_))
            refine hN ?_
            clear hN
            obtain ⟨vs, h1, h2, h3⟩ := HOM.out
            have hvl : vs.length = i := by rw [h2, dmgK_len]
            have HVL := Lib.hid hvl
            have H1 := Lib.hid ((h1.ext HX7.out).ext (Ext.alloc w7 (.cells #[.slice (some ⟨q, 0, none⟩) nL (c6 + 1)] 22)))
            have H2 := Lib.hid h2
            have h3' := fun k a b => ((h3 k a b).ext HX7.out).ext (Ext.alloc w7 (.cells #[.slice (some ⟨q, 0, none⟩) nL (c6 + 1)] 22))
            have H3 := Lib.hid h3'
            have hs7 : w5.heap.size ≤ w7.heap.size := HX57.out.size
            clear h1 h2 h3 hvl h3'
            refine wpList_append_one rfl _ _ _ rfl w5.heap.size 22 j0 (.slice none 0 0) 24 Try.underlying25 hj hj0 hj1 hj2 rfl _ _ _ rfl H1.out _ _ rfl rfl (cell_new1 _ _ _) (by rw [HVL.out]; unfold maxLen; omega) (by rw [HVL.out]; omega) (by simp; omega) ?_
            intro v8 w8 ho8 hg8 _
            have HM8 : Hid (OwnM w8 w5.heap.size 0 v8 (dmgK gen l 2 a1 a2 (i + 1))) := by
              show OwnM _ _ _ _ _
              rw [dmgK_succ]
              exact OwnM.snoc vs H1.out H2.out H3.out (HE.out.ext (Ext.alloc _ _)) ho8 hg8
            have HX8 : Hid (Ext w5 w8) := (Below.alloc HX57.out hs7 _).grown hg8 (by simp; omega) (fun q hq => (H1.out.lt q hq).1)
            clear ho8 hg8 hs7
            go_wp2
            go_roundw
            case rel => exact ⟨i + 1, by omega, by go_num, HM8, HX8⟩
            case measure => show n - (intOf (.int .i64 ((i : Int) + 1))).toNat < n - (intOf (.int .i64 (i : Int))).toNat; unfold intOf; simp only; omega
        · have hin' : i = n := by omega
          subst hin'
          have hlm := HX5.out.trans HXr.out
          have HLM := Lib.hid hlm
          have HSL1 : Hid (SliceR (Pat.slice Pat.u8) wr (.slice (some ⟨lg, 0, none⟩) i (c3 + 1)) (chunksL gen l)) := (HO2.out.ext hlm).sliceR (fun c hc => Nat.le_trans (chunksL_mem gen l c hc).2 (by decide))
          have HSM : Hid (SliceR (Pat.slice Pat.u8) wr (.slice am i cm) (dmgK gen l kk a1 a2 i)) := HOM.out.sliceR (fun c hc => Nat.le_trans (dmgK_mem c hc) (by decide))
          have HG2 : Hid (gatL [dmgK gen l kk a1 a2 i, chunksL gen l] gen = some l) := by show _ = _; rw [HNL.out]; exact dmg_restore hl HA.out
          have HG1 : Hid (gatL [dmgK gen l kk a1 a2 i] gen = none) := by show _ = _; rw [HNL.out]; exact dmg_none hl HA.out
          have hml : (dmgK gen l kk a1 a2 i).length ≤ maxLen := by rw [dmgK_len]; unfold maxLen; omega
          have hll2 : (chunksL gen l).length ≤ maxLen := by rw [HN.out]; unfold maxLen; omega
          clear hlm
          go_wp2_with fail
          go_at_call 13
          have e1 : Ext wr (wr.alloc (.cells #[.slice am i cm, .slice (some ⟨lg, 0, none⟩) i (c3 + 1)] 25)) := Ext.alloc _ _
          refine (gather_any _ [dmgK gen l kk a1 a2 i, chunksL gen l] gen _ (by simp) ?_ ?_ (SliceR.two (BoxAt.new _ _ _) (HSM.out.ext e1) (HSL1.out.ext e1) hml hll2)).mono ?_
          · intro c hc
            simp only [List.mem_cons, List.not_mem_nil, or_false] at hc
            rcases hc with rfl | rfl
            · rw [dmgK_len]; omega
            · rw [HN.out]; omega
          · intro c hc x hx
            simp only [List.mem_cons, List.not_mem_nil, or_false] at hc
            rcases hc with rfl | rfl
            · exact Nat.le_trans (dmgK_mem x hx) (by omega)
            · exact Nat.le_trans (chunksL_mem gen l x hx).2 (by omega)
          · rintro e w8 ⟨v8, rfl, ho8, hb8⟩
            rw [HG2.out] at ho8 ⊢
            simp only [Option.getD_some] at ho8
            simp only [Option.isSome_some, if_true]
            have HX8 : Hid (Ext wr w8) := e1.trans hb8
            have HO8 := Lib.hid ho8.slice
            obtain ⟨a8, c8, rfl⟩ := ho8.shape
            clear ho8 hb8 e1
            go_wp2_with fail
            go_at_call 13
            have e2 : Ext w8 (w8.alloc (.cells #[.slice am i cm] 25)) := Ext.alloc _ _
            refine (gather_any _ [dmgK gen l kk a1 a2 i] gen _ (by simp) ?_ ?_ (SliceR.one (BoxAt.new _ _ _) (HSM.out.ext (HX8.out.trans e2)) hml)).mono ?_
            · intro c hc
              simp only [List.mem_cons, List.not_mem_nil, or_false] at hc
              rw [hc, dmgK_len]; omega
            · intro c hc x hx
              simp only [List.mem_cons, List.not_mem_nil, or_false] at hc
              rw [hc] at hx
              exact Nat.le_trans (dmgK_mem x hx) (by omega)
            · rintro e w9 ⟨v9, rfl, ho9, hb9⟩
              rw [HG1.out] at ho9 ⊢
              simp only [Option.isSome_none]
              have HX9 : Hid (Ext w8 w9) := e2.trans hb9
              obtain ⟨a9, c9, rfl⟩ := ho9.shape
              have k1 := run_str (P := Try.prog) Try.underlying22 Try.underlying5 Try.underlying9 w9 _ _ (HO8.out.ext HX9.out)
              have k2 := run_str (P := Try.prog) Try.underlying22 Try.underlying5 Try.underlying9 w9 _ _ (HS.out.ext (HX2.out.trans (HLM.out.trans (HX8.out.trans HX9.out))))
              have hll : decide (l = l) = true := decide_eq_true rfl
              clear ho9 hb9 e2
              go_wp2_with fail
              go_ret
              exact ⟨rfl, HX2.out.trans (HLM.out.trans (HX8.out.trans HX9.out))⟩
  · have hd : decide ((600 : Int) < (l.length : Int)) = true := by rw [decide_eq_true_eq]; omega
    go_wp2_with fail
    go_at_call 8
    refine (awake_any _).mono ?_
    rintro e w3 ⟨rfl, hb3⟩
    have HX3 : Hid (Ext w1 w3) := hb3
    clear hb3
    go_wp2_with fail
    go_ret
    exact ⟨rfl, HX1.out.trans HX3.out⟩
end Go.Proofs.Ytknpdoepjihceaa
