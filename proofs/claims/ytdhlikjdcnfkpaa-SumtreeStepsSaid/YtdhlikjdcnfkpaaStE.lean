/-
  Chapter 26 (sumtree): Path.
-/
import Derived.Test.YtdhlikjdcnfkpaaStD
namespace Go.Proofs.Ytdhlikjdcnfkpaa
open Go.RowKit
set_option linter.unusedVariables false

theorem erase_step_off {α : Type} {l : List α} {k c : Nat} (hk : k < l.length) (h : k ≠ c) : (l.take (k + 1)).eraseIdx c = (l.take k).eraseIdx c ++ [l[k]] := by
  have e : l.take (k + 1) = l.take k ++ [l[k]] := by rw [List.take_add_one, List.getElem?_eq_getElem hk]; rfl
  have hlen : (l.take k).length = k := by rw [List.length_take]; omega
  rw [e]
  rcases Nat.lt_or_ge c k with h2 | h2
  · rw [List.eraseIdx_append_of_lt_length (by omega)]
  · rw [List.eraseIdx_of_length_le (by simp; omega), List.eraseIdx_of_length_le (by omega)]
theorem erase_step_on {α : Type} {l : List α} {k : Nat} (hk : k < l.length) : (l.take (k + 1)).eraseIdx k = (l.take k).eraseIdx k := by
  have e : l.take (k + 1) = l.take k ++ [l[k]] := by rw [List.take_add_one, List.getElem?_eq_getElem hk]; rfl
  have hlen : (l.take k).length = k := by rw [List.length_take]; omega
  rw [e, List.eraseIdx_append_of_length_le (by omega), hlen, Nat.sub_self]
  rw [List.eraseIdx_of_length_le (l := l.take k) (by omega)]
  simp
theorem pathK_le (l : List (BitVec 64)) (i : Nat) : ∀ b a, (pathK l i a b).length ≤ 4 * b
  | 0, a => by rw [pathK_zero]; simp
  | b + 1, a => by
    rw [pathK_cons, List.length_append]
    have h1 := pathK_le l i b (a + 1)
    have h2 : (others (lvl l a) (i / 4 ^ a)).length ≤ 4 := by
      unfold others
      refine Nat.le_trans (List.length_eraseIdx_le _ _) ?_
      rw [grp_len]; unfold kidN; omega
    omega
/-- what lies in the visitor's box -/
def OutAt (g : Nat) (lo : List (BitVec 64)) (w0 w : World) : Prop :=
  ∃ vo, BoxAt w g #[vo] 22 ∧ OwnG encU 34 w w0.heap.size vo lo ∧ Below w0.heap.size w0 w

set_option maxRecDepth 100000 in
set_option maxHeartbeats 4000000 in
theorem visit_path (w0 w : World) (g p kid : Nat) (kv : Value) (ps : List Nat) (ss lo : List (BitVec 64)) (hg : w0.heap.size ≤ g) (hps : ps.length ≤ 4) (hlo : lo.length ≤ 100000)
    (hp : p < w0.heap.size) (hc : w0.cell? ⟨p, 1, none⟩ = some kv) (hk : SliceAt encP w0 kv ps) (hs : ps.length = ss.length) (hn : ∀ i (a : i < ps.length) (b : i < ss.length), NodeS w0 ps[i] ss[i]) (h : OutAt g lo w0 w) :
    Calls Try.prog 28 #[.pointer (some ⟨p, 0, none⟩), .int .i64 kid, .pointer (some ⟨g, 0, none⟩)] w fun e w' => e = .returned (.tuple #[]) ∧ OutAt g (ss.eraseIdx kid ++ lo) w0 w' := by
  obtain ⟨i0, hi, hz0, hz1, hz2⟩ := info_parts infoU
  obtain ⟨ad, cap, rfl⟩ := hk.shape
  obtain ⟨vo, hbx, hown, hx0⟩ := h
  have HX0 : Hid (Ext w0 w) := hx0
  have HK := Lib.hid hk
  have HN := Lib.hid hn
  have HSL := Lib.hid hs
  have HB := Lib.hid hbx
  have HO := Lib.hid hown
  have hcp := (hx0.cell (p := ⟨p, 1, none⟩) hp).trans hc
  have hpl : p < w.heap.size := Nat.lt_of_lt_of_le hp hx0.size
  obtain ⟨n, hpn⟩ : ∃ n, ps.length = n := ⟨_, rfl⟩
  have HPN := Lib.hid hpn
  rw [hpn] at HK hps hcp
  clear hk hn hs hpn hbx hown hc hx0
  go_enter Try.func28, Try.ntmps28
  go_wp2_with fail
  go_loopw [5, 13] (fun vt x wr => ∃ k : Nat, k ≤ n ∧ x = .int .i64 k ∧ Hid (OwnG encU 34 wr w.heap.size vt ((ss.take k).eraseIdx kid)) ∧ Hid (Ext w wr)) (fun _ x _ => n - (intOf x).toNat)
  case atStart => exact ⟨0, Nat.zero_le _, rfl, Lib.hid (by rw [List.take_zero]; exact OwnG.nil), Lib.hid (Ext.refl _)⟩
  case round =>
    obtain ⟨k, hk, rfl, HT, HX⟩ := hrel
    by_cases hlt : k < n
    · have hin : (k : Int) < (n : Int) := by omega
      have k1 : k < ps.length := by rw [HPN.out]; exact hlt
      have k2 : k < ss.length := by rw [← HSL.out]; exact k1
      obtain ⟨b, off, rfl, hb, hc⟩ := (HK.out.ext (HX0.out.trans HX.out)).get k k1
      obtain ⟨hp2, hcp2, _⟩ := (HN.out k k1 k2).ext (HX0.out.trans HX.out)
      unfold encP at hc
      generalize ps[k] = p2 at *
      by_cases hkk : k = kid
      · have HE : Hid ((ss.take (k + 1)).eraseIdx kid = (ss.take k).eraseIdx kid) := by show _ = _; rw [← hkk]; exact erase_step_on k2
        have hne : ((k : Int) != (kid : Int)) = false := by rw [bne_eq_false_iff_eq]; omega
        have hne2 : ((k : Int) == (kid : Int)) = true := by rw [beq_iff_eq]; omega
        rw [← HE.out] at HT
        clear hkk
        go_wp2_with fail
        go_roundw
        case rel => exact ⟨k + 1, by omega, by go_num, HT, HX⟩
        case measure => simp [intOf]; omega
      · have HE : Hid ((ss.take (k + 1)).eraseIdx kid = (ss.take k).eraseIdx kid ++ [ss[k]]) := erase_step_off k2 hkk
        have hne : ((k : Int) != (kid : Int)) = true := by rw [bne_iff_ne]; omega
        have hne2 : ((k : Int) == (kid : Int)) = false := by rw [beq_eq_false_iff_ne]; omega
        have hlen : ((ss.take k).eraseIdx kid).length ≤ k := Nat.le_trans (List.length_eraseIdx_le _ _) (by rw [List.length_take]; omega)
        generalize hsk : ss[k] = s at *
        have hsx := HX.out.size
        clear hkk k1 k2 hsk
        go_wp2_with (at_builtin; refine Classical.byContradiction (fun hN => ?_))
        refine hN ?_
        clear hN
        refine wpList_append_one rfl _ _ _ rfl w.heap.size 34 i0 (.int .u64 0) 8 Try.underlying22 hi hz0 hz1 hz2 rfl _ _ _ rfl (World.ownsRow.alloc HT.out _) _ (encU s) rfl rfl (cell_new1 _ _ _) (by unfold maxLen; omega) (by omega) (by simp; omega) ?_
        intro v2 w2 ho2 hg2 _
        have HO2 : Hid (OwnG encU 34 w2 w.heap.size v2 ((ss.take (k + 1)).eraseIdx kid)) := by
          show OwnG _ _ _ _ _ _
          rw [HE.out]
          exact OwnG.snoc (enc := encU) (x := s) ho2
        have hx2 : Hid (Ext w w2) := (Below.alloc HX.out hsx _).grown hg2 (by simp; omega) (fun q hq => (HT.out.lt q hq).1)
        clear ho2 hg2
        go_wp2
        go_roundw
        case rel => exact ⟨k + 1, by omega, by go_num, HO2, hx2⟩
        case measure => simp [intOf]; omega
    · have hkn : k = n := by omega
      subst hkn
      have hin : ¬ ((k : Int) < (k : Int)) := by omega
      rw [List.take_of_length_le (by rw [← HSL.out, HPN.out]; exact Nat.le_refl _)] at HT
      have hlen : (ss.eraseIdx kid).length ≤ 4 := Nat.le_trans (List.length_eraseIdx_le _ _) (by rw [← HSL.out, HPN.out]; exact hps)
      have hcb := (HB.out.ext HX.out).cell 0 (v := vo) rfl
      have hfb := (HB.out.ext HX.out).free 0
      have hgl := (HB.out.ext HX.out).lt
      obtain ⟨av, cv, hvo⟩ := HO.out.shape
      subst hvo
      go_wp2_with (at_builtin; refine Classical.byContradiction (fun hN => ?_))
      refine hN ?_
      clear hN
      refine wpList_append_slice (enc := encU) (fun _ => rfl) rfl _ _ 22 rfl w.heap.size 34 i0 (.int .u64 0) 8 Try.underlying22 hi hz0 hz1 hz2 rfl _ _ _ rfl HT.out _ lo rfl (HO.out.slice.ext HX.out) (by unfold maxLen; omega) (by omega) HX.out.size ?_
      intro v3 w3 ho3 hg3
      have HO3 : Hid (OwnG encU 34 w3 w.heap.size v3 (ss.eraseIdx kid ++ lo)) := OwnG.app ho3
      have HX3 : Hid (Ext w w3) := Below.grown HX.out hg3 HX.out.size (fun q hq => (HT.out.lt q hq).1)
      have HB3 := Lib.hid (HB.out.ext HX3.out)
      have hcb3 := HB3.out.cell 0 (v := .slice av lo.length cv) rfl
      have hfb3 := HB3.out.free 0
      have hgl3 := HB3.out.lt
      obtain ⟨a3, c3, hv3⟩ := HO3.out.shape
      rw [List.length_append] at hv3
      subst hv3
      have HEnd : Hid (OutAt g (ss.eraseIdx kid ++ lo) w0 (w3.setCell ⟨g, 0, none⟩ (.slice a3 ((ss.eraseIdx kid).length + lo.length) c3))) :=
        ⟨_, HB3.out.set 0 _, (HO3.out.lower HX0.out.size).off (HO3.out.not_box HB3.out (by decide)) _ _, bel_set (HX0.out.trans HX3.out) hg _ _⟩
      clear ho3 hg3 hcb hfb hgl
      go_wp2_with fail
      go_end0
      exact ⟨rfl, HEnd.out⟩

set_option maxRecDepth 100000 in
set_option maxHeartbeats 4000000 in
theorem way_path (l : List (BitVec 64)) (P : Nat → Nat → Nat) (i g : Nat) (w0 w : World) (hl : l.length ≤ 100000) (hi : i < l.length) (hg : w0.heap.size ≤ g) (h : TreeAt w0 l P) (ho : OutAt g [] w0 w) :
    Calls Try.prog 27 #[treeV l.length P, .int .i64 i, .func (.func 28) #[] #[.pointer (some ⟨g, 0, none⟩)]] w fun e w' => (∃ v, e = .returned v) ∧ OutAt g (pathL l i) w0 w' := by
  have e1 : topP l.length P = .pointer (some ⟨P (hgt l.length) 0, 0, none⟩) := by unfold topP encP; rw [if_neg (by omega)]
  unfold treeV
  rw [e1]
  have HT := Lib.hid h
  have hb0 := ho
  obtain ⟨vo, hb1, hb2, hb3⟩ := hb0
  have HXA : Hid (OutAt g [] w0 (w.alloc (.cells #[.int .i64 l.length, .int .i64 (hgt l.length), .pointer (some ⟨P (hgt l.length) 0, 0, none⟩)] 29))) :=
    ⟨vo, hb1.ext (Ext.alloc _ _), hb2.ext (Ext.alloc _ _), Below.alloc hb3 hb3.size _⟩
  have hh := hgt_small hl
  clear h ho hb1 hb2 hb3
  go_enter Try.func27, Try.ntmps27
  go_wp2_with fail
  generalize w.alloc (.cells #[.int .i64 l.length, .int .i64 (hgt l.length), .pointer (some ⟨P (hgt l.length) 0, 0, none⟩)] 29) = wa at *
  go_loopw [7, 8] (fun p x wr => ∃ k : Nat, k ≤ hgt l.length ∧ x = .int .i64 k ∧ p = .pointer (some ⟨P k (i / 4 ^ k), 0, none⟩) ∧ Hid (OutAt g (pathK l i k (hgt l.length - k)) w0 wr)) (fun _ x _ => (intOf x).toNat)
  case atStart => exact ⟨hgt l.length, Nat.le_refl _, rfl, by rw [up_top hi], by rw [Nat.sub_self, pathK_zero]; exact HXA⟩
  case round =>
    obtain ⟨k, hk, rfl, rfl, HX⟩ := hrel
    rcases k with _ | k
    · go_wp2_with fail
      go_ret
      exact ⟨⟨_, rfl⟩, HX.out⟩
    · obtain ⟨vo, _, _, hx⟩ := HX.out
      have hxx : Ext w0 wr := hx
      have HW : Hid (∀ W : World, Ext w0 W → P (k + 1) (i / 4 ^ (k + 1)) < W.heap.size ∧ ∃ b off m c, W.cell? ⟨P (k + 1) (i / 4 ^ (k + 1)), 1, none⟩ = some (.slice (some ⟨b, off, none⟩) m c) ∧ b < W.heap.size ∧ i / 4 ^ k % 4 < m ∧ W.cell? ⟨b, off + i / 4 ^ k % 4, none⟩ = some (.pointer (some ⟨P k (i / 4 ^ k), 0, none⟩))) :=
        fun W hW => way_node (HT.out.ext hW) hi (show k < hgt l.length by omega)
      have hwk := way_kid i k
      obtain ⟨⟨hpp, _⟩, kv, hkv, hks⟩ := HT.out (k + 1) (i / 4 ^ (k + 1)) (by omega) (up_lt hi (k + 1))
      have HPP := Lib.hid hpp
      have HKV := Lib.hid hkv
      have HKS := Lib.hid hks
      have HKN := Lib.hid (kids_nodes (j := i / 4 ^ (k + 1)) (fun k' j hk' hj => HT.out k' j (Nat.le_trans hk' (by omega)) hj : TreeTo w0 l P k) (up_lt hi (k + 1)))
      have hkl4 : (kidsL P l.length k (i / 4 ^ (k + 1))).length ≤ 4 := by rw [kidsL_len]; unfold kidN; omega
      have hkg : (kidsL P l.length k (i / 4 ^ (k + 1))).length = (grp (lvl l k) (i / 4 ^ (k + 1))).length := by rw [kidsL_len, grp_len]
      have HNX : Hid (pathK l i k (hgt l.length - k) = (grp (lvl l k) (i / 4 ^ (k + 1))).eraseIdx (i / 4 ^ k % 4) ++ pathK l i (k + 1) (hgt l.length - (k + 1))) := by
        show _ = _
        rw [show hgt l.length - k = (hgt l.length - (k + 1)) + 1 by omega, pathK_cons, up_step]; rfl
      have hlo : (pathK l i (k + 1) (hgt l.length - (k + 1))).length ≤ 100000 := by
        refine Nat.le_trans (pathK_le l i _ _) ?_
        omega
      generalize hkid : i / 4 ^ k % 4 = kid at *
      generalize hP1 : P (k + 1) (i / 4 ^ (k + 1)) = p at *
      generalize hP2 : P k (i / 4 ^ k) = p2 at *
      have HP2 := Lib.hid hP2
      have hk9 : kid ≤ 3 := by omega
      clear hkid hP1 hP2 hpp hkv hks
      go_wp2_with fail
      refine (visit_path w0 _ g p kid kv (kidsL P l.length k (i / 4 ^ (k + 1))) (grp (lvl l k) (i / 4 ^ (k + 1))) _ hg hkl4 hlo HPP.out HKV.out HKS.out hkg HKN.out HX.out).mono ?_
      rintro e w2 ⟨rfl, ho2⟩
      have HO2 : Hid (OutAt g (pathK l i k (hgt l.length - k)) w0 w2) := by show OutAt _ _ _ _; rw [HNX.out]; exact ho2
      obtain ⟨_, _, _, hx2⟩ := ho2
      obtain ⟨hp, b, off, m, c, hc1, hb, hkm, hc2⟩ := HW.out _ hx2
      have hkm2 : (kid : Int) < (m : Int) := by omega
      clear hx2
      go_wp2
      go_roundw
      case rel => exact ⟨k, by omega, by go_num, by rw [HP2.out], HO2⟩
      case measure => simp [intOf]

def PathEnd (W : World) (o : Option (List (BitVec 64))) (e : Ending) (w' : World) : Prop :=
  ∃ v, e = .returned (.tuple #[v, .int .i64 (if o.isSome then 0 else 2)]) ∧ SliceAt encU w' v (o.getD []) ∧ Below W.heap.size W w'
def pathO (l : List (BitVec 64)) (i : Int) : Option (List (BitVec 64)) := if 0 ≤ i ∧ i < l.length then some (pathL l i.toNat) else none
set_option maxRecDepth 100000 in
set_option maxHeartbeats 4000000 in
theorem path_any (l : List (BitVec 64)) (P : Nat → Nat → Nat) (i : Int) (w : World) (hl : l.length ≤ 100000) (h : TreeAt w l P) :
    Calls Try.prog 12 #[treeV l.length P, .int .i64 i] w (PathEnd w (pathO l i)) := by
  have HT := Lib.hid h
  clear h
  have HXA : Hid (Ext w (w.alloc (.cells #[.int .i64 l.length, .int .i64 (hgt l.length), topP l.length P] 29))) := Ext.alloc _ _
  have HBA : Hid (BoxAt (w.alloc (.cells #[.int .i64 l.length, .int .i64 (hgt l.length), topP l.length P] 29)) w.heap.size #[.int .i64 l.length, .int .i64 (hgt l.length), topP l.length P] 29) := BoxAt.new _ _ _
  have hX : (0 ≤ i ∧ i < l.length) ∨ ¬ (0 ≤ i ∧ i < l.length) := Decidable.em _
  rcases hX with hi | hi
  · have hdd : decide (0 ≤ i ∧ i < (l.length : Int)) = true := decide_eq_true hi
    have HE : Hid (pathO l i = some (pathL l i.toNat)) := if_pos hi
    obtain ⟨n, rfl⟩ := Int.eq_ofNat_of_zero_le hi.1
    have hin : n < l.length := by omega
    rw [Int.toNat_natCast] at HE
    have HD := Lib.hid hdd
    clear hi hdd
    unfold treeV
    go_enter Try.func12, Try.ntmps12
    go_wp2_with fail
    generalize w.alloc (.cells #[.int .i64 l.length, .int .i64 (hgt l.length), topP l.length P] 29) = wa at *
    go_at_call 26
    refine (has_any l.length P (n : Int) _ hl).mono ?_
    rintro e w1 ⟨rfl, hb1⟩
    rw [HD.out]
    have HX1 : Hid (Ext wa w1) := hb1
    have e1 : Ext w1 (w1.alloc (.cells #[.slice none 0 0] 22)) := Ext.alloc _ _
    have hc0 := (HBA.out.ext hb1).cell 0 (v := .int .i64 l.length) rfl
    have hc1 := (HBA.out.ext hb1).cell 1 (v := .int .i64 (hgt l.length)) rfl
    have hc2 := (HBA.out.ext hb1).cell 2 (v := topP l.length P) rfl
    have hbl := (HBA.out.ext hb1).lt
    have HOA : Hid (OutAt w1.heap.size [] w1 (w1.alloc (.cells #[.slice none 0 0] 22))) := ⟨_, BoxAt.new _ _ _, OwnG.nil, e1⟩
    clear hb1 e1
    go_wp2_with fail
    go_at_call 27
    refine (way_path l P n w1.heap.size w1 _ hl hin (Nat.le_refl _) (HT.out.ext (HXA.out.trans HX1.out)) HOA.out).mono ?_
    rintro e w2 ⟨⟨v, rfl⟩, vo, hb2, ho2, hx2⟩
    have HX2 : Hid (Ext w1 w2) := hx2
    have HO2 := Lib.hid ho2
    have hcv := hb2.cell 0 (v := vo) rfl
    have hlv := hb2.lt
    obtain ⟨av, cv, rfl⟩ := ho2.shape
    clear hb2 ho2 hx2
    go_wp2_with fail
    go_ret2
    rw [HE.out]
    exact ⟨_, rfl, HO2.out.slice, HXA.out.trans (HX1.out.trans HX2.out)⟩
  · have hdd : decide (0 ≤ i ∧ i < (l.length : Int)) = false := decide_eq_false hi
    have HE : Hid (pathO l i = none) := if_neg hi
    have HD := Lib.hid hdd
    clear hi hdd
    unfold treeV
    go_enter Try.func12, Try.ntmps12
    go_wp2_with fail
    generalize w.alloc (.cells #[.int .i64 l.length, .int .i64 (hgt l.length), topP l.length P] 29) = wa at *
    go_at_call 26
    refine (has_any l.length P i _ hl).mono ?_
    rintro e w1 ⟨rfl, hb1⟩
    rw [HD.out]
    have HX1 : Hid (Ext wa w1) := hb1
    clear hb1
    go_wp2_with fail
    go_ret2
    rw [HE.out]
    exact ⟨_, rfl, SliceAt.nil, HXA.out.trans HX1.out⟩
end Go.Proofs.Ytdhlikjdcnfkpaa
