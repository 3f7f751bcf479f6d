/-
  Chapter 26 (sumtree): Diff of the reference; the walk of SumtreeDiff.
-/
import Derived.Test.YtdhlikjdcnfkpaaStQ
namespace Go.Proofs.Ytdhlikjdcnfkpaa
open Go.RowKit
set_option linter.unusedVariables false
attribute [local go_sem] eq_un

/-- the levels below m differ -/
def dAll (a b : List (BitVec 64)) (m i : Nat) : Bool := (List.range m).all fun t => decide ((lvl a t).getD (i / 4 ^ t) 0#64 ≠ (lvl b t).getD (i / 4 ^ t) 0#64)
theorem dAll_succ (a b : List (BitVec 64)) (m i : Nat) : dAll a b (m + 1) i = (dAll a b m i && decide ((lvl a m).getD (i / 4 ^ m) 0#64 ≠ (lvl b m).getD (i / 4 ^ m) 0#64)) := by
  unfold dAll
  rw [List.range_succ, List.all_append]
  simp
def dRow (a b : List (BitVec 64)) (i : Nat) : List Nat := (List.range i).filter (dOk a b (hgt a.length))
theorem dRow_succ (a b : List (BitVec 64)) (i : Nat) : dRow a b (i + 1) = dRow a b i ++ (if dAll a b (hgt a.length + 1) i then [i] else []) := by
  unfold dRow
  rw [List.range_succ, List.filter_append, List.filter_cons, List.filter_nil]
  rfl
theorem dRow_len (a b : List (BitVec 64)) (i : Nat) : (dRow a b i).length ≤ i := Nat.le_trans (List.length_filter_le _ _) (by simp)

set_option maxRecDepth 100000 in
set_option maxHeartbeats 800000 in
theorem rdiff_in (va vb : Value) (la lb : List (BitVec 64)) (w : World) (hl : la.length ≤ 100000) (hab : la.length = lb.length) (ha : SliceAt encU w va la) (hb : SliceAt encU w vb lb) :
    Calls Try.prog 21 #[va, vb] w fun e w' => ∃ v', e = .returned (.tuple #[v', .int .i64 0]) ∧ SliceAt encN w' v' (diffL la lb) ∧ Below w.heap.size w w' := by
  obtain ⟨j0, hj, hj0, hj1, hj2⟩ := info_parts infoI
  obtain ⟨aa, ca, rfl⟩ := ha.shape
  obtain ⟨ab, cb, rfl⟩ := hb.shape
  have HA := Lib.hid ha
  have HB := Lib.hid hb
  obtain ⟨n, hn⟩ : ∃ n, la.length = n := ⟨_, rfl⟩
  have hn2 : lb.length = n := by omega
  have HN1 := Lib.hid hn
  have HN2 := Lib.hid hn2
  have hh := hgt_small hl
  rw [hn] at HA hl hh ⊢
  rw [hn2] at HB ⊢
  have hnn : ((n : Int) != (n : Int)) = false := by simp
  clear ha hb hn hn2 hab
  go_enter Try.func21, Try.ntmps21
  go_wp2_with fail
  go_at_call 30
  refine (levels_any _ la _ (by rw [HN1.out]; exact hl) HA.out).mono ?_
  rintro e w1 ⟨v1, rfl, hl1, hb1⟩
  have HX1 : Hid (Ext w w1) := hb1
  have HL1 := Lib.hid hl1
  obtain ⟨g1, c1, rfl, _, hg1⟩ := hl1.form
  rw [HN1.out] at HL1 ⊢
  clear hl1 hb1
  go_wp2_with fail
  go_at_call 30
  refine (levels_any _ lb _ (by rw [HN2.out]; exact hl) (HB.out.ext HX1.out)).mono ?_
  rintro e w2 ⟨v2, rfl, hl2, hb2⟩
  have HX2 : Hid (Ext w w2) := HX1.out.trans hb2
  have HL2 := Lib.hid hl2
  have HL3 := Lib.hid (HL1.out.ext hb2)
  obtain ⟨g2, c2, rfl, _, hg2⟩ := hl2.form
  have hg1 := Nat.lt_of_lt_of_le hg1 (Ext.size hb2)
  rw [HN2.out] at HL2 ⊢
  obtain ⟨H, hH⟩ : ∃ H, hgt n = H := ⟨_, rfl⟩
  have HH := Lib.hid hH
  rw [hH] at HL2 HL3 hh ⊢
  clear hl2 hb2 hH HL1
  go_wp2_with fail
  go_loopw [9, 8] (fun x vo wr => ∃ i : Nat, i ≤ n ∧ x = .int .i64 i ∧ Hid (OwnG encN 3 wr w2.heap.size vo (dRow la lb i)) ∧ Hid (Ext w2 wr)) (fun x _ _ => n - (intOf x).toNat)
  case atStart => exact ⟨0, Nat.zero_le _, rfl, Lib.hid OwnG.nil, Lib.hid (Ext.refl _)⟩
  case round =>
    obtain ⟨i, hi, rfl, HO, HX⟩ := hrel
    generalize wr = wo at *
    by_cases hlt : i < n
    · have hin : (i : Int) < (n : Int) := by omega
      have hi1 : i < la.length := by rw [HN1.out]; exact hlt
      have hi2 : i < lb.length := by rw [HN2.out]; exact hlt
      have HI1 := Lib.hid hi1
      have HI2 := Lib.hid hi2
      have HDS := Lib.hid (dRow_succ la lb i)
      rw [HN1.out, HH.out] at HDS
      have hdl := dRow_len la lb i
      clear hi1 hi2
      go_wp2_with fail
      go_loopw [12, 11, 10] (fun lv kv dv wr => ∃ m : Nat, m ≤ H + 1 ∧ lv = .int .i64 m ∧ kv = .int .i64 (i / 4 ^ m : Nat) ∧ dv = .bool (dAll la lb m i) ∧ Hid (Ext wo wr)) (fun lv _ _ _ => H + 1 - (intOf lv).toNat)
      case atStart => exact ⟨0, Nat.zero_le _, rfl, by simp, by simp [dAll], Lib.hid (Ext.refl _)⟩
      case round =>
        obtain ⟨m, hm, rfl, rfl, rfl, HX4⟩ := hrel
        by_cases hmH : m < H + 1
        · have hin2 : (m : Int) < (H : Int) + 1 := by omega
          have hHX := HX.out.trans HX4.out
          obtain ⟨a1, d1, hc1, ho1⟩ := (HL3.out.ext hHX).elem m (by omega)
          obtain ⟨a2, d2, hc2, ho2⟩ := (HL2.out.ext hHX).elem m (by omega)
          rw [HN1.out] at hc1 ho1
          rw [HN2.out] at hc2 ho2
          have hg1r := Nat.lt_of_lt_of_le hg1 hHX.size
          have hg2r := Nat.lt_of_lt_of_le hg2 hHX.size
          obtain ⟨p, hp⟩ : ∃ p, i / 4 ^ m = p := ⟨_, rfl⟩
          have hup1 := up_lt HI1.out m
          have hup2 := up_lt HI2.out m
          rw [hp] at hup1 hup2
          rw [HN1.out] at hup1
          rw [HN2.out] at hup2
          have hpb : p ≤ 100000 := Nat.le_trans (Nat.le_of_lt hup1) (Nat.le_trans (sz_le _ _) hl)
          have hps : (p : Int) < (sz n m : Int) := by omega
          have HDA : Hid (dAll la lb (m + 1) i = (dAll la lb m i && decide ((lvl la m).getD p 0#64 ≠ (lvl lb m).getD p 0#64))) := by show _ = _; rw [dAll_succ, hp]
          have HUP : Hid (i / 4 ^ (m + 1) = p / 4) := by show _ = _; rw [up_step, hp]
          have hq4 : (p : Int) / 4 = ((p / 4 : Nat) : Int) := by omega
          rw [hp]
          obtain ⟨b1, o1, rfl, hb1, he1⟩ := ho1.slice.get p (by rw [lvl_len, HN1.out]; exact hup1)
          obtain ⟨b2, o2, rfl, hb2, he2⟩ := ho2.slice.get p (by rw [lvl_len, HN2.out]; exact hup2)
          rw [← getD_in (d := 0#64) (show p < (lvl la m).length by rw [lvl_len, HN1.out]; exact hup1)] at he1
          rw [← getD_in (d := 0#64) (show p < (lvl lb m).length by rw [lvl_len, HN2.out]; exact hup2)] at he2
          obtain ⟨x, hx⟩ : ∃ x, (lvl la m).getD p 0#64 = x := ⟨_, rfl⟩
          obtain ⟨y, hy⟩ : ∃ y, (lvl lb m).getD p 0#64 = y := ⟨_, rfl⟩
          rw [hx] at he1 HDA
          rw [hy] at he2 HDA
          have hxy : (un x != un y) = decide (x ≠ y) := by rw [bne, eq_un]; simp
          obtain ⟨D, hD⟩ : ∃ D, dAll la lb m i = D := ⟨_, rfl⟩
          rw [hD] at HDA ⊢
          obtain ⟨sm, hsm⟩ : ∃ s, sz n m = s := ⟨_, rfl⟩
          rw [hsm] at hc1 hc2 hps hup1 hup2
          have hx2 : Ext wo wr.drew := HX4.out.trans (Ext.drew _)
          have HXD := Lib.hid hx2
          clear hp hx hy hD ho1 ho2 hHX hsm hx2 hq4
          cases D with
          | true =>
            go_wp2_with fail
            refine wp_region_ext [(0, true), (1, true), (2, true), (3, true), (4, true), (5, true), (6, true), (7, true), (8, true), (9, true), (10, true), (11, true), (12, true), (13, true), (14, true), (15, true), (16, true), (17, true), (18, true)] (by kernel_rfl) (by kernel_rfl) ?_
            iterate 19 (first
             | (refine ext_move rfl rfl (by rfl) (by rfl) ?_; simp only [Act.put, List.setIfInBounds_toArray, List.set_cons_zero, List.set_cons_succ])
             | (refine ext_assign rfl rfl (by rfl) (by rfl) ?_; simp only [Act.put, List.setIfInBounds_toArray, List.set_cons_zero, List.set_cons_succ])
             | (refine ext_pick_t rfl rfl (by rfl) (by rfl) (by rfl) ?_; simp only [Act.put, List.setIfInBounds_toArray, List.set_cons_zero, List.set_cons_succ])
             | (refine ext_pick_f rfl rfl (by rfl) (by rfl) (by rfl) ?_; simp only [Act.put, List.setIfInBounds_toArray, List.set_cons_zero, List.set_cons_succ])
             | (apply ext_take rfl (by rfl)
                · intro w' hS
                  have hSc := hS.cells
                  (try simp only [World.size_drew, World.cell?_drew] at hSc)
                  go_simp
                  (try simp (disch := omega) only [i64_id, u64_id, ↓IntWalk.iteOmega, Int.tdiv_eq_ediv_of_nonneg, Int.tmod_eq_emod_of_nonneg])
                  try rfl
                simp only [Act.put, List.setIfInBounds_toArray, List.set_cons_zero, List.set_cons_succ])
             | (refine ext_pass rfl (by rfl) ?_; simp only [Act.put, List.setIfInBounds_toArray, List.set_cons_zero, List.set_cons_succ]))
            refine ext_nil ?_
            go_wp2
            go_roundw
            case rel => exact ⟨m + 1, by omega, by go_num, by rw [HUP.out]; congr 1, by rw [HDA.out]; simp [bne, eq_un], HXD⟩
            case measure => simp [intOf]; omega
          | false =>
            go_wp2_with fail
            refine wp_region_ext [(0, true), (1, true), (2, true), (3, true), (4, true), (5, true), (6, true), (7, true), (8, true), (9, true), (10, true), (11, true), (12, true), (13, true), (14, true), (15, true), (16, true), (17, true), (18, true)] (by kernel_rfl) (by kernel_rfl) ?_
            iterate 19 (first
             | (refine ext_move rfl rfl (by rfl) (by rfl) ?_; simp only [Act.put, List.setIfInBounds_toArray, List.set_cons_zero, List.set_cons_succ])
             | (refine ext_assign rfl rfl (by rfl) (by rfl) ?_; simp only [Act.put, List.setIfInBounds_toArray, List.set_cons_zero, List.set_cons_succ])
             | (refine ext_pick_t rfl rfl (by rfl) (by rfl) (by rfl) ?_; simp only [Act.put, List.setIfInBounds_toArray, List.set_cons_zero, List.set_cons_succ])
             | (refine ext_pick_f rfl rfl (by rfl) (by rfl) (by rfl) ?_; simp only [Act.put, List.setIfInBounds_toArray, List.set_cons_zero, List.set_cons_succ])
             | (apply ext_take rfl (by rfl)
                · intro w' hS
                  have hSc := hS.cells
                  (try simp only [World.size_drew, World.cell?_drew] at hSc)
                  go_simp
                  (try simp (disch := omega) only [i64_id, u64_id, ↓IntWalk.iteOmega, Int.tdiv_eq_ediv_of_nonneg, Int.tmod_eq_emod_of_nonneg])
                  try rfl
                simp only [Act.put, List.setIfInBounds_toArray, List.set_cons_zero, List.set_cons_succ])
             | (refine ext_pass rfl (by rfl) ?_; simp only [Act.put, List.setIfInBounds_toArray, List.set_cons_zero, List.set_cons_succ]))
            refine ext_nil ?_
            go_wp2
            go_roundw
            case rel => exact ⟨m + 1, by omega, by go_num, by rw [HUP.out]; congr 1, by rw [HDA.out]; rfl, HXD⟩
            case measure => simp [intOf]; omega
        · have hmm : m = H + 1 := by omega
          subst hmm
          have hin2 : ¬ (((H : Int) + 1) < (H : Int) + 1) := by omega
          have HX5 := Lib.hid (HX.out.trans HX4.out)
          have HO5 := Lib.hid (HO.out.ext HX4.out)
          cases hD : dAll la lb (H + 1) i with
          | true =>
            rw [hD] at HDS
            have HDS2 : Hid (dRow la lb (i + 1) = dRow la lb i ++ [i]) := HDS.out
            have hsx := HX5.out.size
            clear hD
            go_wp2_with (at_builtin; refine Classical.byContradiction (fun hN => ?_))
            refine hN ?_
            clear hN
            refine wpList_append_one rfl _ _ _ rfl w2.heap.size 3 j0 (.int .i64 0) 8 Try.underlying43 hj hj0 hj1 hj2 rfl _ _ _ rfl (World.ownsRow.alloc HO5.out _) _ (encN i) rfl rfl (cell_new1 _ _ _) (by unfold maxLen; omega) (by omega) (by simp; omega) ?_
            intro v7 w7 ho7 hg7 _
            have HO7 : Hid (OwnG encN 3 w7 w2.heap.size v7 (dRow la lb (i + 1))) := by
              show OwnG _ _ _ _ _ _
              rw [HDS2.out]
              exact OwnG.snoc (enc := encN) (x := i) ho7
            have HX7 : Hid (Ext w2 w7) := (Below.alloc HX5.out hsx _).grown hg7 (by simp; omega) (fun q hq => (HO5.out.lt q hq).1)
            clear ho7 hg7
            go_wp2
            go_roundw
            case rel => exact ⟨i + 1, by omega, by go_num, HO7, HX7⟩
            case measure => simp [intOf]; omega
          | false =>
            rw [hD] at HDS
            have HDS2 : Hid (dRow la lb (i + 1) = dRow la lb i) := by show _ = _; rw [HDS.out]; simp
            rw [← HDS2.out] at HO5
            clear hD
            go_wp2_with fail
            go_roundw
            case rel => exact ⟨i + 1, by omega, by go_num, HO5, HX5⟩
            case measure => simp [intOf]; omega
    · have hin : i = n := by omega
      subst hin
      have hin2 : ¬ ((i : Int) < (i : Int)) := by omega
      have HDE : Hid (dRow la lb i = diffL la lb) := by show _ = _; unfold dRow diffL; rw [HN1.out]
      rw [HDE.out] at HO
      go_wp2_with fail
      go_ret2
      exact ⟨_, rfl, HO.out.slice, HX2.out.trans HX.out⟩
end Go.Proofs.Ytdhlikjdcnfkpaa
