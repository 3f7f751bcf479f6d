/-
  Chapter 26 (sumtree): diff and Diff.
-/
import Derived.Test.YtdhlikjdcnfkpaaStO
import Derived.LaidEqlPtr
namespace Go.Proofs.Ytdhlikjdcnfkpaa
open Go.RowKit
set_option linter.unusedVariables false
attribute [local go_sem] eq_un

theorem infoI : (Try.prog.info? 3).map (fun i => (i.zero, i.size, i.bytes)) = some (some (.int .i64 0), 1, 8) := by kernel_rfl
def encN (n : Nat) : Value := .int .i64 (n : Int)
theorem low_lt {n : Nat} : ∀ {k j : Nat}, j < sz n k → j * 4 ^ k < n
  | 0, j, h => by simpa [sz] using h
  | k + 1, j, h => by
    rw [sz] at h
    have := low_lt (n := n) (k := k) (j := 4 * j) (by omega)
    rw [Nat.pow_succ, Nat.mul_comm (4 ^ k) 4, ← Nat.mul_assoc, Nat.mul_comm j 4]
    exact this
theorem dK_len {a b : List (BitVec 64)} {k j : Nat} (h : j < sz a.length k) : (dK a b k j).length ≤ 4 ^ k := by
  rw [dK_eq a b k j h]
  refine Nat.le_trans (List.length_filter_le _ _) ?_
  rw [List.length_range']
  exact Nat.min_le_left _ _
def dPre (a b : List (BitVec 64)) (k j t : Nat) : List Nat := (List.range t).flatMap fun t => dK a b k (4 * j + t)
theorem dPre_succ (a b : List (BitVec 64)) (k j t : Nat) : dPre a b k j (t + 1) = dPre a b k j t ++ dK a b k (4 * j + t) := by unfold dPre; rw [List.range_succ, List.flatMap_append]; simp
theorem dPre_len {a b : List (BitVec 64)} {k j : Nat} : ∀ {t}, t ≤ kidN a.length k j → (dPre a b k j t).length ≤ t * 4 ^ k
  | 0, _ => by simp [dPre]
  | t + 1, h => by
    rw [dPre_succ, List.length_append, show (t + 1) * 4 ^ k = t * 4 ^ k + 4 ^ k from Nat.succ_mul _ _]
    have h1 := dPre_len (a := a) (b := b) (k := k) (j := j) (t := t) (by omega)
    have h2 := dK_len (a := a) (b := b) (kid_lt (n := a.length) (k := k) (j := j) (t := t) (by omega))
    omega
theorem wrap64_small {x : Int} (h0 : 0 ≤ x) (h1 : x ≤ 1000000000) : wrap64 x = x := by unfold wrap64; omega
theorem wrapI_small {x : Int} (h0 : 0 ≤ x) (h1 : x ≤ 1000000000) : IntKind.i64.wrap x = x := i64_id _ ⟨by omega, by omega⟩
theorem shl_kid (t k : Nat) : (t : Int) * (2 : Int) ^ (2 * k) = ((t * 4 ^ k : Nat) : Int) := by
  rw [Int.pow_mul]
  simp
theorem from_kid (j t k : Nat) : j * 4 ^ (k + 1) + t * 4 ^ k = (4 * j + t) * 4 ^ k := by
  rw [Nat.add_mul, Nat.pow_succ, Nat.mul_comm (4 ^ k) 4, ← Nat.mul_assoc, Nat.mul_comm j 4]

theorem infoN : (Try.prog.info? 60).map (fun i => (i.zero, i.size, i.bytes)) = some (some (.agg #[.int .u64 0, .slice none 0 0]), 2, 32) := by kernel_rfl
theorem ptr_eq {w : World} {p q : Nat} (hp : Plain w p) (hq : Plain w q) : (binOp .eql 27 (.pointer (some ⟨p, 0, none⟩)) (.pointer (some ⟨q, 0, none⟩))).run Try.prog w = .ok (.bool (decide (p = q))) w := by
  obtain ⟨i0, hi, hz0, hz1, hz2⟩ := info_parts infoN
  by_cases h : p = q
  · subst h
    rw [decide_eq_true rfl]
    exact run_eql_ptr_same w ⟨p, 0, none⟩ Try.underlying27 hi
  · rw [decide_eq_false h]
    obtain ⟨c1, t1, h1⟩ := hp
    obtain ⟨c2, t2, h2⟩ := hq
    exact run_eql_ptr_other w Try.underlying27 hi (by rw [hz1]; decide) (by intro e; injection e with e1; exact h e1) h1 h2
def DiffEnd (w0 : World) (lo : List Nat) (e : Ending) (w' : World) : Prop := ∃ v', e = .returned v' ∧ OwnG encN 3 w' w0.heap.size v' lo ∧ Ext w0 w'

set_option maxRecDepth 100000 in
set_option maxHeartbeats 2000000 in
/-- the sums are equal -/
theorem diff_eq (w0 w : World) (p q : Nat) (x : BitVec 64) (f k : Int) (vo : Value) (lo : List Nat) (hx : Ext w0 w) (hp : NodeS w p x) (hq : NodeS w q x) (ho : OwnG encN 3 w w0.heap.size vo lo) :
    Calls Try.prog 37 #[encP p, encP q, .int .i64 f, .int .i64 k, vo] w (DiffEnd w0 lo) := by
  obtain ⟨hpl, hcp, hpp⟩ := hp
  obtain ⟨hql, hcq, hqp⟩ := hq
  have HX := Lib.hid hx
  have HO := Lib.hid ho
  obtain ⟨av, cv, rfl⟩ := ho.shape
  have hpe : ∀ w', Ext w w' → (binOp .eql 27 (.pointer (some ⟨p, 0, none⟩)) (.pointer (some ⟨q, 0, none⟩))).run Try.prog w' = .ok (.bool (decide (p = q))) w' := fun w' h => ptr_eq (hpp.ext h) (hqp.ext h)
  have hxx : (un x == un x) = true := by simp
  unfold encP
  clear ho hx hpp hqp
  by_cases hpq : p = q
  · have hd : decide (p = q) = true := decide_eq_true hpq
    rw [hd] at hpe
    have HPE := Lib.hid hpq
    clear hpq hd
    go_enter Try.func37, Try.ntmps37
    go_wp2_with fail
    refine wp_region_ext [(0, true), (1, true), (2, true), (3, true), (4, true), (5, true), (6, true), (7, true), (8, true), (9, true), (10, true), (11, true), (12, true), (13, true), (14, true)] (by kernel_rfl) (by kernel_rfl) ?_
    iterate 15 (first
     | (refine ext_move rfl rfl (by rfl) (by rfl) ?_; simp only [Act.put, List.setIfInBounds_toArray, List.set_cons_zero, List.set_cons_succ])
     | (refine ext_assign rfl rfl (by rfl) (by rfl) ?_; simp only [Act.put, List.setIfInBounds_toArray, List.set_cons_zero, List.set_cons_succ])
     | (refine ext_pick_t rfl rfl (by rfl) (by rfl) (by rfl) ?_; simp only [Act.put, List.setIfInBounds_toArray, List.set_cons_zero, List.set_cons_succ])
     | (refine ext_pick_f rfl rfl (by rfl) (by rfl) (by rfl) ?_; simp only [Act.put, List.setIfInBounds_toArray, List.set_cons_zero, List.set_cons_succ])
     | (apply ext_take rfl (by rfl)
        · intro w' hS
          have hSc := hS.cells
          (try simp only [World.size_drew, World.cell?_drew] at hSc)
          go_simp
          (try simp (disch := omega) only [i64_id, u64_id, ↓IntWalk.iteOmega, Int.tdiv_eq_ediv_of_nonneg, Int.tmod_eq_emod_of_nonneg])
          try rfl
        simp only [Act.put, List.setIfInBounds_toArray, List.set_cons_zero, List.set_cons_succ])
     | (refine ext_pass rfl (by rfl) ?_; simp only [Act.put, List.setIfInBounds_toArray, List.set_cons_zero, List.set_cons_succ]))
    refine ext_nil ?_
    go_wp2_with fail
    go_ret
    exact ⟨_, rfl, HO.out.ext (Ext.drew _), HX.out.trans (Ext.drew _)⟩
  · have hd : decide (p = q) = false := decide_eq_false hpq
    rw [hd] at hpe
    clear hpq hd
    go_enter Try.func37, Try.ntmps37
    go_wp2_with fail
    refine wp_region_ext [(0, true), (1, true), (2, true), (3, true), (4, true), (5, true), (6, true), (7, true), (8, true), (9, true), (10, true), (11, true), (12, true), (13, true), (14, true)] (by kernel_rfl) (by kernel_rfl) ?_
    iterate 15 (first
     | (refine ext_move rfl rfl (by rfl) (by rfl) ?_; simp only [Act.put, List.setIfInBounds_toArray, List.set_cons_zero, List.set_cons_succ])
     | (refine ext_assign rfl rfl (by rfl) (by rfl) ?_; simp only [Act.put, List.setIfInBounds_toArray, List.set_cons_zero, List.set_cons_succ])
     | (refine ext_pick_t rfl rfl (by rfl) (by rfl) (by rfl) ?_; simp only [Act.put, List.setIfInBounds_toArray, List.set_cons_zero, List.set_cons_succ])
     | (refine ext_pick_f rfl rfl (by rfl) (by rfl) (by rfl) ?_; simp only [Act.put, List.setIfInBounds_toArray, List.set_cons_zero, List.set_cons_succ])
     | (apply ext_take rfl (by rfl)
        · intro w' hS
          have hSc := hS.cells
          (try simp only [World.size_drew, World.cell?_drew] at hSc)
          go_simp
          (try simp (disch := omega) only [i64_id, u64_id, ↓IntWalk.iteOmega, Int.tdiv_eq_ediv_of_nonneg, Int.tmod_eq_emod_of_nonneg])
          try rfl
        simp only [Act.put, List.setIfInBounds_toArray, List.set_cons_zero, List.set_cons_succ])
     | (refine ext_pass rfl (by rfl) ?_; simp only [Act.put, List.setIfInBounds_toArray, List.set_cons_zero, List.set_cons_succ]))
    refine ext_nil ?_
    go_wp2_with fail
    go_ret
    exact ⟨_, rfl, HO.out.ext (Ext.drew _), HX.out.trans (Ext.drew _)⟩
set_option maxRecDepth 100000 in
set_option maxHeartbeats 2000000 in
/-- level 0, the sums differ -/
theorem diff_leaf (w0 w : World) (p q f : Nat) (x y : BitVec 64) (vo : Value) (lo : List Nat) (hx : Ext w0 w) (hxy : x ≠ y) (hlo : lo.length ≤ 1000000) (hp : NodeS w p x) (hq : NodeS w q y) (ho : OwnG encN 3 w w0.heap.size vo lo) :
    Calls Try.prog 37 #[encP p, encP q, .int .i64 (f : Nat), .int .i64 0, vo] w (DiffEnd w0 (lo ++ [f])) := by
  obtain ⟨j0, hj, hj0, hj1, hj2⟩ := info_parts infoI
  have hpq : p ≠ q := by
    intro e
    subst e
    have h := hp.2.1.symm.trans hq.2.1
    unfold encU at h
    injection h with h
    injection h with h1 h2
    exact hxy (un_inj h2)
  obtain ⟨hpl, hcp, hpp⟩ := hp
  obtain ⟨hql, hcq, hqp⟩ := hq
  have HX := Lib.hid hx
  have HO := Lib.hid ho
  obtain ⟨av, cv, rfl⟩ := ho.shape
  have hpe : ∀ w', Ext w w' → (binOp .eql 27 (.pointer (some ⟨p, 0, none⟩)) (.pointer (some ⟨q, 0, none⟩))).run Try.prog w' = .ok (.bool (decide (p = q))) w' := fun w' h => ptr_eq (hpp.ext h) (hqp.ext h)
  have hxx : (un x == un y) = false := by rw [eq_un]; exact decide_eq_false hxy
  have hdx : decide (x = y) = false := decide_eq_false hxy
  have hd : decide (p = q) = false := decide_eq_false hpq
  rw [hd] at hpe
  have hsx := hx.size
  unfold encP
  clear ho hx hpp hqp hpq hd hxy
  go_enter Try.func37, Try.ntmps37
  go_wp2_with fail
  refine wp_region_ext [(0, true), (1, true), (2, true), (3, true), (4, true), (5, true), (6, true), (7, true), (8, true), (9, true), (10, true), (11, true), (12, true), (13, true), (14, true)] (by kernel_rfl) (by kernel_rfl) ?_
  iterate 15 (first
   | (refine ext_move rfl rfl (by rfl) (by rfl) ?_; simp only [Act.put, List.setIfInBounds_toArray, List.set_cons_zero, List.set_cons_succ])
   | (refine ext_assign rfl rfl (by rfl) (by rfl) ?_; simp only [Act.put, List.setIfInBounds_toArray, List.set_cons_zero, List.set_cons_succ])
   | (refine ext_pick_t rfl rfl (by rfl) (by rfl) (by rfl) ?_; simp only [Act.put, List.setIfInBounds_toArray, List.set_cons_zero, List.set_cons_succ])
   | (refine ext_pick_f rfl rfl (by rfl) (by rfl) (by rfl) ?_; simp only [Act.put, List.setIfInBounds_toArray, List.set_cons_zero, List.set_cons_succ])
   | (apply ext_take rfl (by rfl)
      · intro w' hS
        have hSc := hS.cells
        (try simp only [World.size_drew, World.cell?_drew] at hSc)
        go_simp
        (try simp (disch := omega) only [i64_id, u64_id, ↓IntWalk.iteOmega, Int.tdiv_eq_ediv_of_nonneg, Int.tmod_eq_emod_of_nonneg])
        try rfl
      simp only [Act.put, List.setIfInBounds_toArray, List.set_cons_zero, List.set_cons_succ])
   | (refine ext_pass rfl (by rfl) ?_; simp only [Act.put, List.setIfInBounds_toArray, List.set_cons_zero, List.set_cons_succ]))
  refine ext_nil ?_
  go_wp2_with (at_builtin; refine Classical.byContradiction (fun hN => ?_))
  refine hN ?_
  clear hN
  refine wpList_append_one rfl _ _ _ rfl w0.heap.size 3 j0 (.int .i64 0) 8 Try.underlying43 hj hj0 hj1 hj2 rfl _ _ _ rfl (HO.out.ext ((Ext.drew _).trans (Ext.alloc _ _))) _ (encN f) rfl rfl (cell_new1 _ _ _) (by unfold maxLen; omega) (by omega) (by simp; omega) ?_
  intro v2 w2 ho2 hg2 _
  have HO2 : Hid (OwnG encN 3 w2 w0.heap.size v2 (lo ++ [f])) := OwnG.snoc (enc := encN) (x := f) ho2
  have HX2 : Hid (Ext w0 w2) := Below.grown ((HX.out.trans (Ext.drew _)).trans (Ext.alloc _ _)) hg2 (by simp; omega) (fun q hq => (HO.out.lt q hq).1)
  clear ho2 hg2
  go_wp2_with fail
  go_ret
  exact ⟨_, rfl, HO2.out, HX2.out⟩
set_option maxRecDepth 100000 in
set_option maxHeartbeats 1000000 in
/-- above level 0, the sums differ -/
theorem diff_node (la lb : List (BitVec 64)) (P Q : Nat → Nat → Nat) (w0 : World) (k j : Nat) (hl : la.length ≤ 100000) (hab : la.length = lb.length) (ha : TreeAt w0 la P) (hb : TreeAt w0 lb Q) (hk : k + 1 ≤ hgt la.length) (hj : j < sz la.length (k + 1))
    (IH : ∀ (i : Nat) (lo : List Nat) (vo : Value) (w : World), i < sz la.length k → lo.length ≤ i * 4 ^ k → Ext w0 w → OwnG encN 3 w w0.heap.size vo lo →
      Calls Try.prog 37 #[encP (P k i), encP (Q k i), .int .i64 (i * 4 ^ k : Nat), .int .i64 k, vo] w (DiffEnd w0 (lo ++ dK la lb k i)))
    (lo : List Nat) (vo : Value) (w : World) (hlo : lo.length ≤ j * 4 ^ (k + 1)) (hx : Ext w0 w) (ho : OwnG encN 3 w w0.heap.size vo lo) (hne : (lvl la (k + 1)).getD j 0#64 ≠ (lvl lb (k + 1)).getD j 0#64) :
    Calls Try.prog 37 #[encP (P (k + 1) j), encP (Q (k + 1) j), .int .i64 (j * 4 ^ (k + 1) : Nat), .int .i64 (k + 1 : Nat), vo] w (DiffEnd w0 (lo ++ dK la lb (k + 1) j)) := by
  obtain ⟨⟨hp, hcp, hpp⟩, ka, hka, hsa⟩ := ha (k + 1) j hk hj
  obtain ⟨⟨hq, hcq, hqp⟩, kb, hkb, hsb⟩ := hb (k + 1) j (by rw [← hab]; exact hk) (by rw [← hab]; exact hj)
  rw [← hab] at hsb
  have hpq : P (k + 1) j ≠ Q (k + 1) j := by
    intro e
    rw [e] at hcp
    have h := hcp.symm.trans hcq
    unfold encU at h
    injection h with h
    injection h with h1 h2
    exact hne (un_inj h2)
  have hh := hgt_small hl
  have h4 : 4 ^ k ≤ 262144 := Nat.pow_le_pow_right (by omega) (show k ≤ 9 by omega)
  have hfb : j * 4 ^ (k + 1) < la.length := low_lt hj
  have HDK : Hid (dK la lb (k + 1) j = dPre la lb k j (kidN la.length k j)) := by show _ = _; rw [dK, if_neg hne]; rfl
  obtain ⟨x, hxe⟩ : ∃ x, (lvl la (k + 1)).getD j 0#64 = x := ⟨_, rfl⟩
  obtain ⟨y, hye⟩ : ∃ y, (lvl lb (k + 1)).getD j 0#64 = y := ⟨_, rfl⟩
  rw [hxe, hye] at hne
  rw [hxe] at hcp
  rw [hye] at hcq
  have hpe : ∀ w', Ext w w' → (binOp .eql 27 (.pointer (some ⟨P (k + 1) j, 0, none⟩)) (.pointer (some ⟨Q (k + 1) j, 0, none⟩))).run Try.prog w' = .ok (.bool (decide (P (k + 1) j = Q (k + 1) j))) w' := fun w' h => ptr_eq (hpp.ext (hx.trans h)) (hqp.ext (hx.trans h))
  rw [decide_eq_false hpq] at hpe
  have hxx : (un x == un y) = false := by rw [eq_un]; exact decide_eq_false hne
  have hdx : decide (x = y) = false := decide_eq_false hne
  obtain ⟨aa, ca, rfl⟩ := hsa.shape
  obtain ⟨ab, cb, rfl⟩ := hsb.shape
  have hkla := kidsL_len P la.length k j
  have hklb := kidsL_len Q la.length k j
  obtain ⟨m, hm⟩ : ∃ m, kidN la.length k j = m := ⟨_, rfl⟩
  have hm4 : m ≤ 4 := by rw [← hm]; unfold kidN; omega
  have HM := Lib.hid hm
  rw [hm] at hkla hklb HDK
  rw [hkla] at hka hsa
  rw [hklb] at hkb hsb
  have HKLA := Lib.hid hkla
  have HKLB := Lib.hid hklb
  have HSA := Lib.hid hsa
  have HSB := Lib.hid hsb
  have HX := Lib.hid hx
  have HO := Lib.hid ho
  have HIH := Lib.hid IH
  have hcpw := (hx.cell _ _ hp).trans hcp
  have hcqw := (hx.cell _ _ hq).trans hcq
  have hkaw := (hx.cell _ _ hp).trans hka
  have hkbw := (hx.cell _ _ hq).trans hkb
  have hplw := Nat.lt_of_lt_of_le hp hx.size
  have hqlw := Nat.lt_of_lt_of_le hq hx.size
  obtain ⟨av, cv, rfl⟩ := ho.shape
  obtain ⟨F, hF⟩ : ∃ F, j * 4 ^ (k + 1) = F := ⟨_, rfl⟩
  have HF := Lib.hid hF
  rw [hF] at hlo hfb ⊢
  have HLO := Lib.hid hlo
  have hlob : lo.length ≤ 100000 := by omega
  have hkk : decide (((k : Int) + 1) = 0) = false := by rw [decide_eq_false_iff_not]; omega
  have hkk2 : (((k + 1 : Nat) : Int) == 0) = false := by rw [beq_eq_false_iff_ne]; omega
  generalize P (k + 1) j = p at *
  generalize Q (k + 1) j = q at *
  unfold encP
  clear ho hx ha hb hne hxe hye hsa hsb hkla hklb hm IH hpp hqp hF hlo hpq
  go_enter Try.func37, Try.ntmps37
  go_wp2_with fail
  refine wp_region_ext [(0, true), (1, true), (2, true), (3, true), (4, true), (5, true), (6, true), (7, true), (8, true), (9, true), (10, true), (11, true), (12, true), (13, true), (14, true)] (by kernel_rfl) (by kernel_rfl) ?_
  iterate 15 (first
   | (refine ext_move rfl rfl (by rfl) (by rfl) ?_; simp only [Act.put, List.setIfInBounds_toArray, List.set_cons_zero, List.set_cons_succ])
   | (refine ext_assign rfl rfl (by rfl) (by rfl) ?_; simp only [Act.put, List.setIfInBounds_toArray, List.set_cons_zero, List.set_cons_succ])
   | (refine ext_pick_t rfl rfl (by rfl) (by rfl) (by rfl) ?_; simp only [Act.put, List.setIfInBounds_toArray, List.set_cons_zero, List.set_cons_succ])
   | (refine ext_pick_f rfl rfl (by rfl) (by rfl) (by rfl) ?_; simp only [Act.put, List.setIfInBounds_toArray, List.set_cons_zero, List.set_cons_succ])
   | (apply ext_take rfl (by rfl)
      · intro w' hS
        have hSc := hS.cells
        (try simp only [World.size_drew, World.cell?_drew] at hSc)
        go_simp
        (try simp (disch := omega) only [i64_id, u64_id, ↓IntWalk.iteOmega, Int.tdiv_eq_ediv_of_nonneg, Int.tmod_eq_emod_of_nonneg])
        try rfl
      simp only [Act.put, List.setIfInBounds_toArray, List.set_cons_zero, List.set_cons_succ])
   | (refine ext_pass rfl (by rfl) ?_; simp only [Act.put, List.setIfInBounds_toArray, List.set_cons_zero, List.set_cons_succ]))
  refine ext_nil ?_
  go_wp2_with fail
  go_loopw [4, 41] (fun vt xt wr => ∃ t : Nat, t ≤ m ∧ xt = .int .i64 t ∧ Hid (OwnG encN 3 wr w0.heap.size vt (lo ++ dPre la lb k j t)) ∧ Hid (Ext w0 wr)) (fun _ xt _ => m - (intOf xt).toNat)
  case atStart => exact ⟨0, Nat.zero_le _, rfl, Lib.hid (by have h := HO.out.ext (Ext.drew w); simpa [dPre] using h), Lib.hid (HX.out.trans (Ext.drew _))⟩
  case round =>
    obtain ⟨t, ht, rfl, HQ, HXr⟩ := hrel
    by_cases htm : t < m
    · have hin : (t : Int) < (m : Int) := by omega
      have k1 : t < (kidsL P la.length k j).length := by rw [HKLA.out]; exact htm
      have k2 : t < (kidsL Q la.length k j).length := by rw [HKLB.out]; exact htm
      obtain ⟨b1, o1, rfl, hb1, hc1⟩ := HSA.out.get t k1
      obtain ⟨b2, o2, rfl, hb2, hc2⟩ := HSB.out.get t k2
      simp only [kidsL, List.getElem_map, List.getElem_range] at hc1 hc2
      have hc1w := (HXr.out.cell _ _ hb1).trans hc1
      have hb1w := Nat.lt_of_lt_of_le hb1 HXr.out.size
      have hsh := shl_kid t k
      have h4t : t * 4 ^ k ≤ 1048576 := Nat.le_trans (Nat.mul_le_mul (show t ≤ 4 by omega) h4) (by omega)
      obtain ⟨S, hS⟩ : ∃ S, t * 4 ^ k = S := ⟨_, rfl⟩
      rw [hS] at hsh h4t
      have hfrom : F + S = (4 * j + t) * 4 ^ k := by rw [← HF.out, ← hS]; exact from_kid j t k
      have hkid : 4 * j + t < sz la.length k := kid_lt (by rw [HM.out]; exact htm)
      have hll : (lo ++ dPre la lb k j t).length ≤ (4 * j + t) * 4 ^ k := by
        rw [← hfrom, List.length_append, ← hS]
        have h1 := dPre_len (a := la) (b := lb) (k := k) (j := j) (t := t) (by rw [HM.out]; omega)
        have h2 := HLO.out
        omega
      have HI := Lib.hid (HIH.out (4 * j + t) (lo ++ dPre la lb k j t))
      rw [← hfrom] at HI
      rw [← hfrom] at hll
      have HLL := Lib.hid hll
      have HKID := Lib.hid hkid
      have HPS : Hid (lo ++ dPre la lb k j (t + 1) = lo ++ dPre la lb k j t ++ dK la lb k (4 * j + t)) := by show _ = _; rw [dPre_succ, List.append_assoc]
      unfold encP at hc1 hc2 hc1w HI
      generalize P k (4 * j + t) = p2 at *
      generalize Q k (4 * j + t) = q2 at *
      simp only [Int.natCast_add] at HI
      clear hS hfrom hll hkid
      have hwS : wrap64 ((S : Int)) = (S : Int) := wrap64_small (Int.natCast_nonneg _) (by have := Int.ofNat_le.2 h4t; exact Int.le_trans this (by decide))
      have hFS : F + S ≤ 2000000 := Nat.le_trans (Nat.add_le_add (Nat.le_trans (Nat.le_of_lt hfb) hl) h4t) (by decide)
      have hwF : wrap64 ((F : Int) + (S : Int)) = (F : Int) + (S : Int) := wrap64_small (by rw [← Int.natCast_add]; exact Int.natCast_nonneg _) (by rw [← Int.natCast_add]; exact Int.le_trans (Int.ofNat_le.2 hFS) (by decide))
      have hk9 : k ≤ 8 := by omega
      have hn2 : (2 * (k : Int)).toNat = 2 * k := by omega
      have hvS : IntKind.i64.wrap (S : Int) = (S : Int) := wrapI_small (Int.natCast_nonneg _) (by have := Int.ofNat_le.2 h4t; exact Int.le_trans this (by decide))
      have hvF : IntKind.i64.wrap ((F : Int) + (S : Int)) = (F : Int) + (S : Int) := wrapI_small (by rw [← Int.natCast_add]; exact Int.natCast_nonneg _) (by rw [← Int.natCast_add]; exact Int.le_trans (Int.ofNat_le.2 hFS) (by decide))
      go_wp2_with fail
      refine wp_region_bel (w0.heap.size) (w0) (HXr.out) [(0, true), (1, true), (2, true), (3, true), (4, true), (5, true), (6, true), (7, true), (8, true), (9, true), (10, true), (11, true), (12, true), (13, true), (14, true), (15, true), (16, true), (17, true), (18, false), (19, true)] (by kernel_rfl) (by kernel_rfl) ?_
      iterate 18 (first
       | (refine bel_move rfl rfl (by rfl) (by rfl) ?_; simp only [Act.put, List.setIfInBounds_toArray, List.set_cons_zero, List.set_cons_succ])
       | (apply bel_take rfl (by rfl)
          · intro w' hS
            have hSc := below_cellsB hS
            go_simp
            (try simp (disch := omega) only [i64_id, u64_id, ↓IntWalk.iteOmega, Int.tdiv_eq_ediv_of_nonneg, Int.tmod_eq_emod_of_nonneg])
            try rfl
          simp only [Act.put, List.setIfInBounds_toArray, List.set_cons_zero, List.set_cons_succ])
       | (refine bel_pass rfl (by rfl) ?_; simp only [Act.put, List.setIfInBounds_toArray, List.set_cons_zero, List.set_cons_succ]))
      (refine bel_do rfl (by rfl) (fun K hK => ?_)
       go_simp
       go_at_call 37
       refine (HI.out u4 wr.drew HKID.out HLL.out (HXr.out.trans (Ext.drew _)) (HQ.out.ext (Ext.drew _))).mono ?_
       rintro e w2 ⟨v2, rfl, ho2, hx2⟩
       refine hK _ _ hx2 ?_
       clear hK K
       (try simp only [Act.put, List.setIfInBounds_toArray, List.set_cons_zero, List.set_cons_succ]))
      (first
       | (refine bel_move rfl rfl (by rfl) (by rfl) ?_; simp only [Act.put, List.setIfInBounds_toArray, List.set_cons_zero, List.set_cons_succ])
       | (apply bel_take rfl (by rfl)
          · intro w' hS
            have hSc := below_cellsB hS
            go_simp
            (try simp (disch := omega) only [i64_id, u64_id, ↓IntWalk.iteOmega, Int.tdiv_eq_ediv_of_nonneg, Int.tmod_eq_emod_of_nonneg])
            try rfl
          simp only [Act.put, List.setIfInBounds_toArray, List.set_cons_zero, List.set_cons_succ])
       | (refine bel_pass rfl (by rfl) ?_; simp only [Act.put, List.setIfInBounds_toArray, List.set_cons_zero, List.set_cons_succ]))
      refine bel_nil ?_
      have HO2 : Hid (OwnG encN 3 w2 w0.heap.size v2 (lo ++ dPre la lb k j (t + 1))) := by show OwnG _ _ _ _ _ _; rw [HPS.out]; exact ho2
      have HX2 : Hid (Ext w0 w2) := hx2
      clear ho2 hx2
      go_wp2
      refine ⟨?_, ?measure⟩
      apply Exists.intro
      repeat apply Exists.intro
      refine ⟨?rel, rfl⟩
      case rel => exact ⟨t + 1, by omega, by go_num, HO2, HX2⟩
      case measure => simp [intOf]; omega
    · have htm : t = m := by omega
      subst htm
      have hin : ¬ ((t : Int) < (t : Int)) := by omega
      rw [← HDK.out] at HQ
      go_wp2_with fail
      go_ret
      exact ⟨_, rfl, HQ.out, HXr.out⟩
theorem diff_any (la lb : List (BitVec 64)) (P Q : Nat → Nat → Nat) (w0 : World) (hl : la.length ≤ 100000) (hab : la.length = lb.length) (ha : TreeAt w0 la P) (hb : TreeAt w0 lb Q) :
    ∀ (k j : Nat) (lo : List Nat) (vo : Value) (w : World), k ≤ hgt la.length → j < sz la.length k → lo.length ≤ j * 4 ^ k → Ext w0 w → OwnG encN 3 w w0.heap.size vo lo →
    Calls Try.prog 37 #[encP (P k j), encP (Q k j), .int .i64 (j * 4 ^ k : Nat), .int .i64 k, vo] w (DiffEnd w0 (lo ++ dK la lb k j)) := by
  intro k
  induction k with
  | zero =>
    intro j lo vo w hk hj hlo hx ho
    have hjn : j < la.length := by simpa [sz] using hj
    obtain ⟨hp, _⟩ := (ha.ext hx) 0 j hk hj
    obtain ⟨hq, _⟩ := (hb.ext hx) 0 j (by rw [← hab]; exact hk) (by rw [← hab]; exact hj)
    simp only [lvl] at hp hq
    rw [Nat.pow_zero, Nat.mul_one] at hlo ⊢
    by_cases he : la.getD j 0#64 = lb.getD j 0#64
    · have hd : dK la lb 0 j = [] := by rw [dK, if_pos he]
      rw [hd, List.append_nil]
      rw [← he] at hq
      exact diff_eq w0 w _ _ _ _ _ _ _ hx hp hq ho
    · have hd : dK la lb 0 j = [j] := by rw [dK, if_neg he]
      rw [hd]
      exact diff_leaf w0 w _ _ j _ _ _ _ hx he (by omega) hp hq ho
  | succ k ih =>
    intro j lo vo w hk hj hlo hx ho
    by_cases he : (lvl la (k + 1)).getD j 0#64 = (lvl lb (k + 1)).getD j 0#64
    · obtain ⟨hp, _⟩ := (ha.ext hx) (k + 1) j hk hj
      obtain ⟨hq, _⟩ := (hb.ext hx) (k + 1) j (by rw [← hab]; exact hk) (by rw [← hab]; exact hj)
      have hd : dK la lb (k + 1) j = [] := by rw [dK, if_pos he]
      rw [hd, List.append_nil]
      rw [← he] at hq
      exact diff_eq w0 w _ _ _ _ _ _ _ hx hp hq ho
    · exact diff_node la lb P Q w0 k j hl hab ha hb hk hj (fun i lo vo w hi h1 h2 h3 => ih i lo vo w (by omega) hi h1 h2 h3) lo vo w hlo hx ho he
def diffO (a b : List (BitVec 64)) : Option (List Nat) := if a.length = b.length then some (diffL a b) else none
def DiffEndO (W : World) (o : Option (List Nat)) (e : Ending) (w' : World) : Prop :=
  ∃ v, e = .returned (.tuple #[v, .int .i64 (if o.isSome then 0 else 1)]) ∧ SliceAt encN w' v (o.getD []) ∧ Below W.heap.size W w'
set_option maxRecDepth 100000 in
set_option maxHeartbeats 2000000 in
theorem Diff_any (la lb : List (BitVec 64)) (P Q : Nat → Nat → Nat) (w : World) (hl : la.length ≤ 100000) (hl2 : lb.length ≤ 100000) (ha : TreeAt w la P) (hb : TreeAt w lb Q) :
    Calls Try.prog 20 #[treeV la.length P, treeV lb.length Q] w (DiffEndO w (diffO la lb)) := by
  obtain ⟨ap, hTP⟩ := treeV_ptr la.length P
  obtain ⟨aq, hTQ⟩ := treeV_ptr lb.length Q
  have hTP2 := hTP
  have hTQ2 := hTQ
  unfold treeV at hTP2 hTQ2
  rw [hTP, hTQ]
  have a1 : Ext w (w.alloc (.cells #[.int .i64 la.length, .int .i64 (hgt la.length), .pointer ap] 29)) := Ext.alloc _ _
  have a2 : Ext (w.alloc (.cells #[.int .i64 la.length, .int .i64 (hgt la.length), .pointer ap] 29)) ((w.alloc (.cells #[.int .i64 la.length, .int .i64 (hgt la.length), .pointer ap] 29)).alloc (.cells #[.int .i64 lb.length, .int .i64 (hgt lb.length), .pointer aq] 29)) := Ext.alloc _ _
  have HX : Hid (Ext w ((w.alloc (.cells #[.int .i64 la.length, .int .i64 (hgt la.length), .pointer ap] 29)).alloc (.cells #[.int .i64 lb.length, .int .i64 (hgt lb.length), .pointer aq] 29))) := a1.trans a2
  have HA := Lib.hid ha
  have HB := Lib.hid hb
  clear hTP hTQ a1 a2
  by_cases hab : la.length = lb.length
  · have HE : Hid (diffO la lb = some (diffL la lb)) := if_pos hab
    have HAB := Lib.hid hab
    by_cases h0 : la.length = 0
    · have HD : Hid (diffL la lb = []) := by show _ = _; unfold diffL; rw [h0]; rfl
      have hb0 : lb.length = 0 := by omega
      rw [h0] at HX ⊢
      rw [hb0] at HX ⊢
      clear hab h0 hb0 ha hb hTP2 hTQ2
      go_enter Try.func20, Try.ntmps20
      go_wp2_with fail
      go_ret2
      rw [HE.out]
      exact ⟨_, rfl, by show SliceAt _ _ _ _; rw [show (some (diffL la lb)).getD [] = [] from HD.out]; exact SliceAt.nil, HX.out⟩
    · have HD : Hid (diffL la lb = dK la lb (hgt la.length) 0) := diffL_eq la lb (by omega)
      have hp : Value.pointer ap = encP (P (hgt la.length) 0) := by
        unfold topP at hTP2
        rw [if_neg h0] at hTP2
        injection hTP2 with h1
        exact (by injection h1 with h2; injection h2 with _ h2; injection h2 with _ h2; injection h2 with h2 _; exact h2.symm)
      have hq : Value.pointer aq = encP (Q (hgt la.length) 0) := by
        unfold topP at hTQ2
        rw [← hab, if_neg h0] at hTQ2
        injection hTQ2 with h1
        exact (by injection h1 with h2; injection h2 with _ h2; injection h2 with _ h2; injection h2 with h2 _; exact h2.symm)
      have hne0 : ((la.length : Int) == 0) = false := by rw [beq_eq_false_iff_ne]; omega
      have hnl : ((la.length : Int) != (la.length : Int)) = false := by simp
      have HP := Lib.hid hp
      have HQ := Lib.hid hq
      have hh := hgt_small hl
      have HDA := Lib.hid (diff_any la lb P Q w hl hab ha hb (hgt la.length) 0 [] (.slice none 0 0))
      rw [← hab] at HX ⊢
      have HSZ := Lib.hid (sz_pos (show 0 < la.length by omega) (hgt la.length))
      clear hab ha hb hTP2 hTQ2 hp hq
      go_enter Try.func20, Try.ntmps20
      go_wp2_with fail
      generalize (w.alloc (.cells #[.int .i64 la.length, .int .i64 (hgt la.length), .pointer ap] 29)).alloc (.cells #[.int .i64 la.length, .int .i64 (hgt la.length), .pointer aq] 29) = wa at *
      go_at_call 37
      rw [HP.out, HQ.out]
      have hd := HDA.out wa (Nat.le_refl _) HSZ.out (Nat.zero_le _) HX.out OwnG.nil
      rw [Nat.zero_mul, List.nil_append] at hd
      refine hd.mono ?_
      rintro e w2 ⟨v2, rfl, ho2, hx2⟩
      have HO2 := Lib.hid ho2
      have HX2 := Lib.hid hx2
      clear ho2 hx2 hd
      go_wp2_with fail
      go_ret2
      rw [HE.out]
      exact ⟨_, rfl, by show SliceAt _ _ _ _; rw [show (some (diffL la lb)).getD [] = _ from HD.out]; exact HO2.out.slice, HX2.out⟩
  · have HE : Hid (diffO la lb = none) := if_neg hab
    have hnl : ((la.length : Int) != (lb.length : Int)) = true := by rw [bne_iff_ne]; omega
    have hnl2 : ((la.length : Int) == (lb.length : Int)) = false := by rw [beq_eq_false_iff_ne]; omega
    clear hab ha hb hTP2 hTQ2
    go_enter Try.func20, Try.ntmps20
    go_wp2_with fail
    go_ret2
    rw [HE.out]
    exact ⟨_, rfl, SliceAt.nil, HX.out⟩
end Go.Proofs.Ytdhlikjdcnfkpaa
