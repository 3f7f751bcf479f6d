/-
  Chapter 26 (sumtree): count, same, Same, Nodes of the reference.
-/
import Derived.Test.YtdhlikjdcnfkpaaStQ
namespace Go.Proofs.Ytdhlikjdcnfkpaa
open Go.RowKit
set_option linter.unusedVariables false
attribute [local go_sem] eq_un

theorem sumR_le {f : Nat → Nat} {c : Nat} : ∀ {n}, (∀ t, t < n → f t ≤ c) → sumR f n ≤ n * c
  | 0, _ => by simp [sumR]
  | n + 1, h => by
    rw [sumR, Nat.succ_mul]
    exact Nat.add_le_add (sumR_le fun t ht => h t (by omega)) (h n (by omega))
theorem sumR_mono (f : Nat → Nat) {a : Nat} : ∀ {b}, a ≤ b → sumR f a ≤ sumR f b
  | 0, h => by rw [Nat.le_zero.1 h]; exact Nat.le_refl _
  | b + 1, h => by
    by_cases e : a = b + 1
    · rw [e]; exact Nat.le_refl _
    · rw [sumR]; exact Nat.le_trans (sumR_mono f (by omega)) (Nat.le_add_right _ _)
theorem sumR_le2 {f g : Nat → Nat} : ∀ {n}, (∀ t, t < n → f t ≤ g t) → sumR f n ≤ sumR g n
  | 0, _ => Nat.le_refl _
  | n + 1, h => Nat.add_le_add (sumR_le2 fun t ht => h t (by omega)) (h n (by omega))
theorem cnt_small (n : Nat) : ∀ k j, cnt n k j + 1 ≤ 4 ^ k
  | 0, j => by simp [cnt]
  | k + 1, j => by
    have h1 : sumR (fun t => cnt n k (4 * j + t)) (kidN n k j) ≤ kidN n k j * (4 ^ k - 1) := sumR_le fun t _ => by have := cnt_small n k (4 * j + t); omega
    have h2 : kidN n k j * (4 ^ k - 1) ≤ 4 * (4 ^ k - 1) := Nat.mul_le_mul_right _ (by unfold kidN; omega)
    have h3 : 1 ≤ 4 ^ k := Nat.pos_of_ne_zero (by simp)
    rw [cnt, Nat.pow_succ]
    omega
theorem same_small (P Q : Nat → Nat → Nat) (n : Nat) : ∀ k j, sameN P Q n k j ≤ cnt n k j
  | 0, _ => Nat.le_refl _
  | k + 1, j => by
    rw [sameN]
    split
    · exact Nat.le_refl _
    · rw [cnt]
      exact Nat.le_trans (sumR_le2 fun t _ => same_small P Q n k _) (Nat.le_add_left _ _)
theorem pow_small {k : Nat} (h : k ≤ 9) : 4 ^ k ≤ 262144 := Nat.pow_le_pow_right (by omega) h

def NumEnd (w0 : World) (c : Nat) (e : Ending) (w' : World) : Prop := e = .returned (.int .i64 c) ∧ Ext w0 w'
set_option maxRecDepth 100000 in
set_option maxHeartbeats 1000000 in
theorem count_zero (w0 w : World) (v : Value) (hx : Ext w0 w) : Calls Try.prog 45 #[v, .int .i64 0] w (NumEnd w0 0) := by
  have HX := Lib.hid hx
  clear hx
  go_enter Try.func45, Try.ntmps45
  go_wp2_with fail
  go_ret
  exact ⟨rfl, HX.out⟩
set_option maxRecDepth 100000 in
set_option maxHeartbeats 1000000 in
theorem count_node (l : List (BitVec 64)) (P : Nat → Nat → Nat) (w0 : World) (k j : Nat) (hl : l.length ≤ 100000) (ha : TreeAt w0 l P) (hk : k + 1 ≤ hgt l.length) (hj : j < sz l.length (k + 1))
    (IH : ∀ (i : Nat) (w : World), i < sz l.length k → Ext w0 w → Calls Try.prog 45 #[encP (P k i), .int .i64 k] w (NumEnd w0 (cnt l.length k i)))
    (w : World) (hx : Ext w0 w) : Calls Try.prog 45 #[encP (P (k + 1) j), .int .i64 (k + 1 : Nat)] w (NumEnd w0 (cnt l.length (k + 1) j)) := by
  obtain ⟨⟨hp, hcp, hpp⟩, ka, hka, hsa⟩ := ha (k + 1) j hk hj
  have hh := hgt_small hl
  obtain ⟨aa, ca, rfl⟩ := hsa.shape
  have hkla := kidsL_len P l.length k j
  obtain ⟨m, hm⟩ : ∃ m, kidN l.length k j = m := ⟨_, rfl⟩
  have hm4 : m ≤ 4 := by rw [← hm]; unfold kidN; omega
  have HM := Lib.hid hm
  have HCN : Hid (cnt l.length (k + 1) j = 1 + sumR (fun t => cnt l.length k (4 * j + t)) m) := by show _ = _; rw [cnt, hm]
  have hcs : ∀ t, cnt l.length k (4 * j + t) ≤ 262144 := fun t => by have := cnt_small l.length k (4 * j + t); have := pow_small (show k ≤ 9 by omega); omega
  obtain ⟨g, hg⟩ : ∃ g : Nat → Nat, (fun t => cnt l.length k (4 * j + t)) = g := ⟨_, rfl⟩
  have hgt_ : ∀ t, cnt l.length k (4 * j + t) = g t := fun t => by rw [← hg]
  have HGT := Lib.hid hgt_
  have hgs : ∀ t, g t ≤ 262144 := fun t => by rw [← hgt_]; exact hcs t
  have hsm : ∀ t, t ≤ m → sumR g t ≤ 1048576 := fun t ht => Nat.le_trans (sumR_le fun t _ => hgs t) (by omega)
  have HGS := Lib.hid hgs
  have HSM := Lib.hid hsm
  rw [hg] at HCN
  rw [hm] at hkla
  rw [hkla] at hka hsa
  have HKLA := Lib.hid hkla
  have HSA := Lib.hid hsa
  have HX := Lib.hid hx
  have HIH := Lib.hid IH
  have hkaw := (hx.cell _ _ hp).trans hka
  have hplw := Nat.lt_of_lt_of_le hp hx.size
  have hkk : decide (((k : Int) + 1) = 0) = false := by rw [decide_eq_false_iff_not]; omega
  have hkk2 : (((k + 1 : Nat) : Int) == 0) = false := by rw [beq_eq_false_iff_ne]; omega
  rw [HCN.out]
  generalize P (k + 1) j = p at *
  unfold encP
  clear hx ha hsa hkla hm IH hpp hg hcs hgt_ hgs hsm
  go_enter Try.func45, Try.ntmps45
  go_wp2_with fail
  go_loopw [5, 15] (fun ct xt wr => ∃ t : Nat, t ≤ m ∧ xt = .int .i64 t ∧ ct = .int .i64 (1 + sumR g t : Nat) ∧ Hid (Ext w0 wr)) (fun _ xt _ => m - (intOf xt).toNat)
  case atStart => exact ⟨0, Nat.zero_le _, rfl, rfl, HX⟩
  case round =>
    obtain ⟨t, ht, rfl, rfl, HXr⟩ := hrel
    by_cases htm : t < m
    · have hin : (t : Int) < (m : Int) := by omega
      have k1 : t < (kidsL P l.length k j).length := by rw [HKLA.out]; exact htm
      obtain ⟨b1, o1, rfl, hb1, hc1⟩ := HSA.out.get t k1
      simp only [kidsL, List.getElem_map, List.getElem_range] at hc1
      have hc1w := (HXr.out.cell _ _ hb1).trans hc1
      have hb1w := Nat.lt_of_lt_of_le hb1 HXr.out.size
      have hkid : 4 * j + t < sz l.length k := kid_lt (by rw [HM.out]; exact htm)
      have HI := Lib.hid (HIH.out (4 * j + t) wr hkid HXr.out)
      have hsz := HSM.out t ht
      have hgz := HGS.out t
      have HNX : Hid (sumR g (t + 1) = sumR g t + g t) := rfl
      rw [HGT.out] at HI
      unfold encP at hc1 hc1w HI
      generalize P k (4 * j + t) = p2 at *
      obtain ⟨S', hS'⟩ : ∃ x, sumR g (t + 1) = x := ⟨_, rfl⟩
      have HS' := Lib.hid hS'
      rw [hS'] at HNX
      clear hS'
      generalize sumR g t = S at *
      generalize g t = C at *
      clear hkid
      go_wp2_with fail
      go_at_call 45
      refine HI.out.mono ?_
      rintro e w2 ⟨rfl, hx2⟩
      have HX2 : Hid (Ext w0 w2) := hx2
      clear hx2
      have hcc : ((1 : Int) + S + C) = ((1 + S' : Nat) : Int) := by rw [HNX.out]; omega
      go_wp2
      refine ⟨?_, ?measure⟩
      apply Exists.intro
      repeat apply Exists.intro
      refine ⟨?rel, rfl⟩
      case rel => exact ⟨t + 1, by omega, by go_num, congrArg _ (by rw [HS'.out]; omega), HX2⟩
      case measure => simp [intOf]; omega
    · have htm : t = m := by omega
      subst htm
      have hin : ¬ ((t : Int) < (t : Int)) := by omega
      go_wp2_with fail
      go_ret
      exact ⟨rfl, HXr.out⟩
theorem count_any (l : List (BitVec 64)) (P : Nat → Nat → Nat) (w0 : World) (hl : l.length ≤ 100000) (ha : TreeAt w0 l P) : ∀ (k j : Nat) (w : World), k ≤ hgt l.length → j < sz l.length k → Ext w0 w →
    Calls Try.prog 45 #[encP (P k j), .int .i64 k] w (NumEnd w0 (cnt l.length k j)) := by
  intro k
  induction k with
  | zero => intro j w _ _ hx; exact count_zero w0 w _ hx
  | succ k ih => intro j w hk hj hx; exact count_node l P w0 k j hl ha hk hj (fun i w hi h => ih i w (by omega) hi h) w hx

set_option maxRecDepth 100000 in
set_option maxHeartbeats 1000000 in
theorem same_zero (w0 w : World) (v u : Value) (hx : Ext w0 w) : Calls Try.prog 39 #[v, u, .int .i64 0] w (NumEnd w0 0) := by
  have HX := Lib.hid hx
  clear hx
  go_enter Try.func39, Try.ntmps39
  go_wp2_with fail
  go_ret
  exact ⟨rfl, HX.out⟩
set_option maxRecDepth 100000 in
set_option maxHeartbeats 1000000 in
/-- the same node -/
theorem same_eq (l : List (BitVec 64)) (P : Nat → Nat → Nat) (w0 w : World) (k j : Nat) (hl : l.length ≤ 100000) (ha : TreeAt w0 l P) (hk : k + 1 ≤ hgt l.length) (hj : j < sz l.length (k + 1)) (hx : Ext w0 w) :
    Calls Try.prog 39 #[encP (P (k + 1) j), encP (P (k + 1) j), .int .i64 (k + 1 : Nat)] w (NumEnd w0 (cnt l.length (k + 1) j)) := by
  obtain ⟨⟨hp, hcp, hpp⟩, _⟩ := ha (k + 1) j hk hj
  have HC := Lib.hid (count_any l P w0 hl ha (k + 1) j w hk hj hx)
  have hpe := ptr_eq (hpp.ext hx) (hpp.ext hx)
  rw [decide_eq_true rfl] at hpe
  have hh := hgt_small hl
  have hkk : decide (((k : Int) + 1) = 0) = false := by rw [decide_eq_false_iff_not]; omega
  have hkk2 : (((k + 1 : Nat) : Int) == 0) = false := by rw [beq_eq_false_iff_ne]; omega
  unfold encP at HC ⊢
  generalize P (k + 1) j = p at *
  generalize cnt l.length (k + 1) j = C at *
  clear hx ha hpp hcp
  go_enter Try.func39, Try.ntmps39
  go_wp2_with fail
  go_at_call 45
  refine HC.out.mono ?_
  rintro e w2 ⟨rfl, hx2⟩
  have HX2 : Hid (Ext w0 w2) := hx2
  clear hx2
  go_wp2_with fail
  go_ret
  exact ⟨rfl, HX2.out⟩
set_option maxRecDepth 100000 in
set_option maxHeartbeats 1000000 in
theorem same_node (la lb : List (BitVec 64)) (P Q : Nat → Nat → Nat) (w0 : World) (k j : Nat) (hl : la.length ≤ 100000) (hab : la.length = lb.length) (ha : TreeAt w0 la P) (hb : TreeAt w0 lb Q) (hk : k + 1 ≤ hgt la.length) (hj : j < sz la.length (k + 1))
    (IH : ∀ (i : Nat) (w : World), i < sz la.length k → Ext w0 w → Calls Try.prog 39 #[encP (P k i), encP (Q k i), .int .i64 k] w (NumEnd w0 (sameN P Q la.length k i)))
    (w : World) (hx : Ext w0 w) (hpq : P (k + 1) j ≠ Q (k + 1) j) :
    Calls Try.prog 39 #[encP (P (k + 1) j), encP (Q (k + 1) j), .int .i64 (k + 1 : Nat)] w (NumEnd w0 (sameN P Q la.length (k + 1) j)) := by
  obtain ⟨⟨hp, hcp, hpp⟩, ka, hka, hsa⟩ := ha (k + 1) j hk hj
  obtain ⟨⟨hq, hcq, hqp⟩, kb, hkb, hsb⟩ := hb (k + 1) j (by rw [← hab]; exact hk) (by rw [← hab]; exact hj)
  rw [← hab] at hsb
  have hh := hgt_small hl
  obtain ⟨aa, ca, rfl⟩ := hsa.shape
  obtain ⟨ab, cb, rfl⟩ := hsb.shape
  have hkla := kidsL_len P la.length k j
  have hklb := kidsL_len Q la.length k j
  obtain ⟨m, hm⟩ : ∃ m, kidN la.length k j = m := ⟨_, rfl⟩
  have hm4 : m ≤ 4 := by rw [← hm]; unfold kidN; omega
  have HM := Lib.hid hm
  have HCN : Hid (sameN P Q la.length (k + 1) j = sumR (fun t => sameN P Q la.length k (4 * j + t)) m) := by show _ = _; rw [sameN, if_neg hpq, hm]
  have hcs : ∀ t, sameN P Q la.length k (4 * j + t) ≤ 262144 := fun t => by have := cnt_small la.length k (4 * j + t); have := same_small P Q la.length k (4 * j + t); have := pow_small (show k ≤ 9 by omega); omega
  obtain ⟨g, hg⟩ : ∃ g : Nat → Nat, (fun t => sameN P Q la.length k (4 * j + t)) = g := ⟨_, rfl⟩
  have hgt_ : ∀ t, sameN P Q la.length k (4 * j + t) = g t := fun t => by rw [← hg]
  have HGT := Lib.hid hgt_
  have hgs : ∀ t, g t ≤ 262144 := fun t => by rw [← hgt_]; exact hcs t
  have hsm : ∀ t, t ≤ m → sumR g t ≤ 1048576 := fun t ht => Nat.le_trans (sumR_le fun t _ => hgs t) (by omega)
  have HGS := Lib.hid hgs
  have HSM := Lib.hid hsm
  have hpe : ∀ w', Ext w w' → (binOp .eql 27 (.pointer (some ⟨P (k + 1) j, 0, none⟩)) (.pointer (some ⟨Q (k + 1) j, 0, none⟩))).run Try.prog w' = .ok (.bool (decide (P (k + 1) j = Q (k + 1) j))) w' := fun w' h => ptr_eq (hpp.ext (hx.trans h)) (hqp.ext (hx.trans h))
  rw [decide_eq_false hpq] at hpe
  have hpe0 := hpe w (Ext.refl _)
  rw [hg] at HCN
  rw [hm] at hkla hklb
  rw [hkla] at hka hsa
  rw [hklb] at hkb hsb
  have HKLA := Lib.hid hkla
  have HKLB := Lib.hid hklb
  have HSA := Lib.hid hsa
  have HSB := Lib.hid hsb
  have HX := Lib.hid hx
  have HIH := Lib.hid IH
  have hkaw := (hx.cell _ _ hp).trans hka
  have hkbw := (hx.cell _ _ hq).trans hkb
  have hplw := Nat.lt_of_lt_of_le hp hx.size
  have hqlw := Nat.lt_of_lt_of_le hq hx.size
  have hkk : decide (((k : Int) + 1) = 0) = false := by rw [decide_eq_false_iff_not]; omega
  have hkk2 : (((k + 1 : Nat) : Int) == 0) = false := by rw [beq_eq_false_iff_ne]; omega
  rw [HCN.out]
  generalize P (k + 1) j = p at *
  generalize Q (k + 1) j = q at *
  unfold encP
  clear hx ha hb hsa hsb hkla hklb hm IH hpp hqp hg hcs hgt_ hgs hsm hpq hpe
  go_enter Try.func39, Try.ntmps39
  go_wp2_with fail
  go_loopw [7, 23] (fun ct xt wr => ∃ t : Nat, t ≤ m ∧ xt = .int .i64 t ∧ ct = .int .i64 (sumR g t : Nat) ∧ Hid (Ext w0 wr)) (fun _ xt _ => m - (intOf xt).toNat)
  case atStart => exact ⟨0, Nat.zero_le _, rfl, rfl, HX⟩
  case round =>
    obtain ⟨t, ht, rfl, rfl, HXr⟩ := hrel
    by_cases htm : t < m
    · have hin : (t : Int) < (m : Int) := by omega
      have k1 : t < (kidsL P la.length k j).length := by rw [HKLA.out]; exact htm
      have k2 : t < (kidsL Q la.length k j).length := by rw [HKLB.out]; exact htm
      obtain ⟨b1, o1, rfl, hb1, hc1⟩ := HSA.out.get t k1
      obtain ⟨b2, o2, rfl, hb2, hc2⟩ := HSB.out.get t k2
      simp only [kidsL, List.getElem_map, List.getElem_range] at hc1 hc2
      have hc1w := (HXr.out.cell _ _ hb1).trans hc1
      have hb1w := Nat.lt_of_lt_of_le hb1 HXr.out.size
      have hc2w := (HXr.out.cell _ _ hb2).trans hc2
      have hb2w := Nat.lt_of_lt_of_le hb2 HXr.out.size
      have hqr := (HXr.out.cell _ _ hq).trans hkb
      have hqs := Nat.lt_of_lt_of_le hq HXr.out.size
      have hkid : 4 * j + t < sz la.length k := kid_lt (by rw [HM.out]; exact htm)
      have HI := Lib.hid (HIH.out (4 * j + t) wr hkid HXr.out)
      have hsz := HSM.out t ht
      have hgz := HGS.out t
      have HNX : Hid (sumR g (t + 1) = sumR g t + g t) := rfl
      rw [HGT.out] at HI
      unfold encP at hc1 hc1w hc2 hc2w HI
      generalize P k (4 * j + t) = p2 at *
      generalize Q k (4 * j + t) = q2 at *
      obtain ⟨S', hS'⟩ : ∃ x, sumR g (t + 1) = x := ⟨_, rfl⟩
      have HS' := Lib.hid hS'
      rw [hS'] at HNX
      clear hS'
      generalize sumR g t = S at *
      generalize g t = C at *
      clear hkid
      go_wp2_with fail
      go_at_call 39
      refine HI.out.mono ?_
      rintro e w2 ⟨rfl, hx2⟩
      have HX2 : Hid (Ext w0 w2) := hx2
      clear hx2
      have hcc : ((S : Int) + C) = ((S' : Nat) : Int) := by rw [HNX.out]; omega
      go_wp2
      refine ⟨?_, ?measure⟩
      apply Exists.intro
      repeat apply Exists.intro
      refine ⟨?rel, rfl⟩
      case rel =>
        exact ⟨t + 1, by omega, by go_num, congrArg _ (by rw [HS'.out]), HX2⟩
      case measure => simp [intOf]; omega
    · have htm : t = m := by omega
      subst htm
      have hin : ¬ ((t : Int) < (t : Int)) := by omega
      go_wp2_with fail
      go_ret
      exact ⟨rfl, HXr.out⟩
theorem same_in (la lb : List (BitVec 64)) (P Q : Nat → Nat → Nat) (w0 : World) (hl : la.length ≤ 100000) (hab : la.length = lb.length) (ha : TreeAt w0 la P) (hb : TreeAt w0 lb Q) :
    ∀ (k j : Nat) (w : World), k ≤ hgt la.length → j < sz la.length k → Ext w0 w →
    Calls Try.prog 39 #[encP (P k j), encP (Q k j), .int .i64 k] w (NumEnd w0 (sameN P Q la.length k j)) := by
  intro k
  induction k with
  | zero => intro j w _ _ hx; exact same_zero w0 w _ _ hx
  | succ k ih =>
    intro j w hk hj hx
    by_cases he : P (k + 1) j = Q (k + 1) j
    · rw [sameN, if_pos he, ← he]
      exact same_eq la P w0 w k j hl ha hk hj hx
    · exact same_node la lb P Q w0 k j hl hab ha hb hk hj (fun i w hi h => ih i w (by omega) hi h) w hx he
def SameEnd (W : World) (c : Nat) (e : Ending) (w' : World) : Prop := e = .returned (.int .i64 c) ∧ Below W.heap.size W w'
set_option maxRecDepth 100000 in
set_option maxHeartbeats 2000000 in
theorem Same_any (la lb : List (BitVec 64)) (P Q : Nat → Nat → Nat) (w : World) (hl : la.length ≤ 100000) (hab : la.length = lb.length) (h0 : 0 < la.length) (ha : TreeAt w la P) (hb : TreeAt w lb Q) :
    Calls Try.prog 24 #[treeV la.length P, treeV lb.length Q] w (SameEnd w (sameN P Q la.length (hgt la.length) 0)) := by
  obtain ⟨ap, hTP⟩ := treeV_ptr la.length P
  obtain ⟨aq, hTQ⟩ := treeV_ptr lb.length Q
  have hTP2 := hTP
  have hTQ2 := hTQ
  unfold treeV at hTP2 hTQ2
  rw [hTP, hTQ]
  have hp : Value.pointer ap = encP (P (hgt la.length) 0) := by
    unfold topP at hTP2
    rw [if_neg (by omega)] at hTP2
    injection hTP2 with h1
    exact (by injection h1 with h2; injection h2 with _ h2; injection h2 with _ h2; injection h2 with h2 _; exact h2.symm)
  have hq : Value.pointer aq = encP (Q (hgt la.length) 0) := by
    unfold topP at hTQ2
    rw [← hab, if_neg (by omega)] at hTQ2
    injection hTQ2 with h1
    exact (by injection h1 with h2; injection h2 with _ h2; injection h2 with _ h2; injection h2 with h2 _; exact h2.symm)
  have a1 : Ext w (w.alloc (.cells #[.int .i64 la.length, .int .i64 (hgt la.length), .pointer ap] 29)) := Ext.alloc _ _
  have a2 : Ext (w.alloc (.cells #[.int .i64 la.length, .int .i64 (hgt la.length), .pointer ap] 29)) ((w.alloc (.cells #[.int .i64 la.length, .int .i64 (hgt la.length), .pointer ap] 29)).alloc (.cells #[.int .i64 lb.length, .int .i64 (hgt lb.length), .pointer aq] 29)) := Ext.alloc _ _
  have HX : Hid (Ext w ((w.alloc (.cells #[.int .i64 la.length, .int .i64 (hgt la.length), .pointer ap] 29)).alloc (.cells #[.int .i64 lb.length, .int .i64 (hgt lb.length), .pointer aq] 29))) := a1.trans a2
  have HP := Lib.hid hp
  have HQ := Lib.hid hq
  have hne0 : ((la.length : Int) == 0) = false := by rw [beq_eq_false_iff_ne]; omega
  have hnl : ((la.length : Int) != (la.length : Int)) = false := by simp
  have hh := hgt_small hl
  have HDA := Lib.hid (same_in la lb P Q w hl hab ha hb (hgt la.length) 0)
  have HSZ := Lib.hid (sz_pos h0 (hgt la.length))
  rw [← hab] at HX ⊢
  clear hTP hTQ a1 a2 hab ha hb hTP2 hTQ2 hp hq
  go_enter Try.func24, Try.ntmps24
  go_wp2_with fail
  generalize (w.alloc (.cells #[.int .i64 la.length, .int .i64 (hgt la.length), .pointer ap] 29)).alloc (.cells #[.int .i64 la.length, .int .i64 (hgt la.length), .pointer aq] 29) = wa at *
  go_at_call 39
  rw [HP.out, HQ.out]
  refine (HDA.out wa (Nat.le_refl _) HSZ.out HX.out).mono ?_
  rintro e w2 ⟨rfl, hx2⟩
  have HX2 := Lib.hid hx2
  clear hx2
  go_wp2_with fail
  go_ret
  exact ⟨rfl, HX2.out⟩
set_option maxRecDepth 100000 in
set_option maxHeartbeats 2000000 in
theorem Same_no (n m : Nat) (P Q : Nat → Nat → Nat) (w : World) (hl : n ≠ m) :
    Calls Try.prog 24 #[treeV n P, treeV m Q] w (SameEnd w 0) := by
  obtain ⟨ap, hTP⟩ := treeV_ptr n P
  obtain ⟨aq, hTQ⟩ := treeV_ptr m Q
  rw [hTP, hTQ]
  have a1 : Ext w (w.alloc (.cells #[.int .i64 n, .int .i64 (hgt n), .pointer ap] 29)) := Ext.alloc _ _
  have a2 : Ext (w.alloc (.cells #[.int .i64 n, .int .i64 (hgt n), .pointer ap] 29)) ((w.alloc (.cells #[.int .i64 n, .int .i64 (hgt n), .pointer ap] 29)).alloc (.cells #[.int .i64 m, .int .i64 (hgt m), .pointer aq] 29)) := Ext.alloc _ _
  have HX : Hid (Ext w ((w.alloc (.cells #[.int .i64 n, .int .i64 (hgt n), .pointer ap] 29)).alloc (.cells #[.int .i64 m, .int .i64 (hgt m), .pointer aq] 29))) := a1.trans a2
  have hnl : ((n : Int) != (m : Int)) = true := by rw [bne_iff_ne]; omega
  have hnl2 : ((n : Int) == (m : Int)) = false := by rw [beq_eq_false_iff_ne]; omega
  clear hTP hTQ a1 a2
  go_enter Try.func24, Try.ntmps24
  go_wp2_with fail
  go_ret
  exact ⟨rfl, HX.out⟩

set_option maxRecDepth 100000 in
set_option maxHeartbeats 1000000 in
theorem rnodes_any (n : Nat) (w : World) (hn : n ≤ 100000) :
    Calls Try.prog 23 #[.int .i64 n] w fun e w' => e = .returned (.tuple #[.int .i64 (allN n), .int .i64 (hgt n)]) ∧ Below w.heap.size w w' := by
  have hh := hgt_small hn
  go_enter Try.func23, Try.ntmps23
  go_wp2_with fail
  go_loopw [0, 4, 5] (fun nv av pv wr => ∃ k : Nat, k ≤ hgt n ∧ nv = .int .i64 (sz n k : Nat) ∧ av = .int .i64 (allK n k : Nat) ∧ pv = .int .i64 k ∧ Hid (Ext w wr)) (fun _ _ pv _ => hgt n - (intOf pv).toNat)
  case atStart => exact ⟨0, Nat.zero_le _, rfl, rfl, rfl, Lib.hid (Ext.refl _)⟩
  case round =>
    obtain ⟨k, hk, rfl, rfl, rfl, HX⟩ := hrel
    have hs1 := sz_le n k
    have hs2 := sz_le n (k + 1)
    have ha1 : allK n k ≤ k * 100000 := sumR_le fun m _ => Nat.le_trans (sz_le _ _) hn
    have HS3 : Hid (sz n (k + 1) = (sz n k + 3) / 4) := rfl
    have HA3 : Hid (allK n (k + 1) = allK n k + sz n (k + 1)) := rfl
    by_cases h1 : 1 < sz n k
    · have hkH : k < hgt n := by
        rcases Nat.lt_or_ge k (hgt n) with h | h
        · exact h
        · have := sz_hgt n
          rw [show k = hgt n by omega] at h1
          omega
      have h1i : (1 : Int) < (sz n k : Int) := by omega
      have hd4 : ((sz n k : Int) + 3) / 4 = (sz n (k + 1) : Int) := by rw [HS3.out]; omega
      have ha2 : allK n k ≤ 1000000 := by omega
      have hac : (allK n k : Int) + (sz n (k + 1) : Int) = (allK n (k + 1) : Int) := by rw [HA3.out]; omega
      obtain ⟨s', hs'⟩ : ∃ x, sz n (k + 1) = x := ⟨_, rfl⟩
      obtain ⟨a', ha'⟩ : ∃ x, allK n (k + 1) = x := ⟨_, rfl⟩
      rw [hs', ha'] at hac
      rw [hs'] at hd4 hs2
      have HS' := Lib.hid hs'
      have HA' := Lib.hid ha'
      clear hs' ha'
      generalize sz n k = s at *
      generalize allK n k = a at *
      clear ha1
      go_wp2_with fail
      go_roundw
      case rel => exact ⟨k + 1, by omega, by rw [HS'.out, ← hd4], by rw [HA'.out], by go_num, HX⟩
      case measure => simp [intOf]; omega
    · have h1i : ¬ ((1 : Int) < (sz n k : Int)) := by omega
      have hkH : hgt n = k := by
        rcases Nat.lt_or_ge k (hgt n) with h | h
        · exact absurd (sz_below h) h1
        · omega
      have HE : Hid (allK n k = allN n) := by show _ = _; unfold allN; rw [hkH]
      rw [HE.out, hkH]
      go_wp2_with fail
      go_ret2
      exact ⟨rfl, HX.out⟩
end Go.Proofs.Ytdhlikjdcnfkpaa
