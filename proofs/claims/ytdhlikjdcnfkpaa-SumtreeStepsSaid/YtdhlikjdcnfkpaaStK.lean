/-
  Chapter 26 (sumtree): the walk of SumtreeBuild.
-/
import Derived.Test.YtdhlikjdcnfkpaaStJ
import Derived.Test.YtdhlikjdcnfkpaaInts
namespace Go.Proofs.Ytdhlikjdcnfkpaa
open Go.RowKit
set_option linter.unusedVariables false

theorem cell_off {w : World} {b o b' o' : Nat} {x : Value} (h : b' ≠ b) : (w.setCell ⟨b', o', none⟩ x).cell? ⟨b, o, none⟩ = w.cell? ⟨b, o, none⟩ := set_block h
/-- a number is written into a block of numbers: no tree lies there -/
theorem TreeTo.setU {w : World} {l : List (BitVec 64)} {P : Nat → Nat → Nat} {K g o : Nat} {x : Value} (h : TreeTo w l P K) (hi : IntsAt w g) : TreeTo (w.setCell ⟨g, o, none⟩ x) l P K := by
  have hsl : ∀ {a n c}, ¬ (∃ y : BitVec 64, Value.slice a n c = encU y) := fun ⟨y, e⟩ => by unfold encU at e; cases e
  have hpt : ∀ {q}, ¬ (∃ y : BitVec 64, encP q = encU y) := fun ⟨y, e⟩ => by unfold encU encP at e; cases e
  intro k j hk hj
  obtain ⟨⟨h0, h1, hpl⟩, h2⟩ := h k j hk hj
  have hne : g ≠ P k j := by
    intro e
    subst e
    cases k with
    | zero => exact hsl (hi 1 _ h2)
    | succ k =>
      obtain ⟨v, h3, h4⟩ := h2
      obtain ⟨_, _, hv, _⟩ := h4
      rw [hv] at h3
      exact hsl (hi 1 _ h3)
  refine ⟨⟨by simpa using h0, by rw [cell_off hne]; exact h1, hpl.set _ _ _⟩, ?_⟩
  cases k with
  | zero => show _ = _; rw [cell_off hne]; exact h2
  | succ k =>
    obtain ⟨v, h3, h4⟩ := h2
    refine ⟨v, by rw [cell_off hne]; exact h3, ?_⟩
    obtain ⟨ad, cap, hv, hca, hc⟩ := h4
    refine ⟨ad, cap, hv, hca, hc.imp id ?_⟩
    rintro ⟨b, off, h5, h6, h7⟩
    refine ⟨b, off, h5, by simpa using h6, fun i hi2 => ?_⟩
    have h8 := h7 i hi2
    have hb : g ≠ b := fun e => by subst e; exact hpt (hi _ _ h8)
    rw [cell_off hb]; exact h8
theorem tree_empty (w : World) (P : Nat → Nat → Nat) : TreeAt w [] P := by
  intro k j hk hj
  have := sz_le ([] : List (BitVec 64)).length k
  simp at this
  rw [show sz ([] : List (BitVec 64)).length k = 0 from by simpa using this] at hj
  omega
theorem tree_nilV : treeV 0 (fun _ _ => 0) = .agg #[.int .i64 0, .int .i64 0, .pointer none] := by
  unfold treeV topP
  rw [if_pos rfl, hgt_low (by omega)]
  rfl
theorem inc_un (x : BitVec 64) : IntKind.u64.wrap (un x + 1) = un (x + 1#64) := by
  have h := x.isLt
  show ((((x.toNat : Nat) : Int) + 1) % 18446744073709551616 : Int) = (((x + 1#64).toNat : Nat) : Int)
  rw [BitVec.toNat_add]
  simp

set_option maxRecDepth 100000 in
set_option maxHeartbeats 1000000 in
theorem sumtreeBuild_walk (vl : Value) (l : List (BitVec 64)) (w : World) (hm : l.length ≤ maxLen) (h : SliceAt encU w vl l) :
    Calls Try.prog 6 #[vl] w fun e w' => e = .returned (.bool true) ∧ Below w.heap.size w w' := by
  obtain ⟨i0, hi, hz0, hz1, hz2⟩ := info_parts infoU
  obtain ⟨ad, cap, rfl⟩ := h.shape
  have HS := Lib.hid h
  clear h
  unfold maxLen at hm
  go_enter Try.func6, Try.ntmps6
  go_wp2_with fail
  go_at_call 11
  refine (awake_any _).mono ?_
  rintro e w1 ⟨rfl, hb1⟩
  have HX1 : Hid (Ext w w1) := hb1
  clear hb1
  by_cases hl : l.length ≤ 100
  · have hd : decide ((100 : Int) < (l.length : Int)) = false := by rw [decide_eq_false_iff_not]; omega
    go_wp2_with (at_builtin; refine Classical.byContradiction (fun hN => ?_))
    refine hN ?_
    clear hN
    have e1 : Ext w1 (w1.alloc (.cells #[] 34)) := Ext.alloc _ _
    refine wpList_append_u64 rfl _ _ 22 rfl 34 i0 8 Try.underlying22 hi hz0 hz1 hz2 w1.heap.size w1.heap.size rfl (BoxAt.new _ _ _) (Nat.le_refl _) e1.size _ l rfl (HS.out.ext (HX1.out.trans e1)) (by unfold maxLen; omega) (by omega) ?_
    intro g c w2 ho2 hx2 hi2 hg hgl
    have HX2 : Hid (Ext w1 w2) := e1.trans hx2
    have HO2 := Lib.hid ho2
    have HI2 := Lib.hid hi2
    have HG := Lib.hid hg
    clear e1 ho2 hx2 hi2 hg
    go_wp2_with fail
    go_at_call 13
    refine (build_any _ l _ (by omega) HO2.out.slice).mono ?_
    rintro e w3 ⟨P, rfl, ht, hb3⟩
    obtain ⟨ap, hTV⟩ := treeV_ptr l.length P
    have HTV := Lib.hid hTV
    rw [hTV]
    have e3 : Ext w3 (w3.alloc (.cells #[.int .i64 l.length, .int .i64 (hgt l.length), .pointer ap] 29)) := Ext.alloc _ _
    have HX3 : Hid (Ext w2 (w3.alloc (.cells #[.int .i64 l.length, .int .i64 (hgt l.length), .pointer ap] 29))) := Ext.trans hb3 e3
    have HB3 : Hid (BoxAt (w3.alloc (.cells #[.int .i64 l.length, .int .i64 (hgt l.length), .pointer ap] 29)) w3.heap.size #[.int .i64 l.length, .int .i64 (hgt l.length), .pointer ap] 29) := BoxAt.new _ _ _
    have HT3 := Lib.hid (ht.ext e3)
    have HGL := Lib.hid hgl
    have hge : g < w3.heap.size := Nat.lt_of_lt_of_le hgl (Ext.size hb3)
    clear ht hb3 hTV e3
    go_wp2_with fail
    generalize w3.alloc (.cells #[.int .i64 l.length, .int .i64 (hgt l.length), .pointer ap] 29) = w4 at *
    generalize w3.heap.size = gT at *
    have HI4 := Lib.hid (HI2.out.ext HX3.out hgl)
    have HO4 := Lib.hid (HO2.out.ext HX3.out)
    have HX4 : Hid (Below w1.heap.size w1 w4) := HX2.out.trans HX3.out
    go_loopw [5] (fun x wr => ∃ k : Nat, k ≤ l.length ∧ x = .int .i64 k ∧ Hid (∃ l', l'.length = l.length ∧ OwnG encU 34 wr w1.heap.size (.slice (some ⟨g, 0, none⟩) l.length c) l') ∧ Hid (IntsAt wr g) ∧ Hid (TreeAt wr l P) ∧ Hid (BoxAt wr gT #[.int .i64 l.length, .int .i64 (hgt l.length), .pointer ap] 29) ∧ Hid (Below w1.heap.size w1 wr)) (fun x _ => l.length - (intOf x).toNat)
    case atStart => exact ⟨0, by omega, rfl, Lib.hid ⟨l, rfl, HO4.out⟩, HI4, HT3, HB3, HX4⟩
    case round =>
      obtain ⟨k, hk, rfl, HO, HI, HT, HB, HX⟩ := hrel
      by_cases hlt : k < l.length
      · have hin : (k : Int) < (l.length : Int) := by omega
        obtain ⟨l', hl', ho⟩ := HO.out
        have hck := ho.at hl'.symm (k := k) (by omega)
        have hfk := ho.frees hl'.symm k
        obtain ⟨x, hx⟩ : ∃ x, l'[k]'(by omega) = x := ⟨_, rfl⟩
        rw [hx] at hck
        have hiw := inc_un x
        have HO5 : Hid (∃ l', l'.length = l.length ∧ OwnG encU 34 (wr.setCell ⟨g, k, none⟩ (.int .u64 (un (x + 1#64)))) w1.heap.size (.slice (some ⟨g, 0, none⟩) l.length c) l') := ⟨l'.set k (x + 1#64), by simp [hl'], ho.put hl'.symm k (x + 1#64)⟩
        have HI5 : Hid (IntsAt (wr.setCell ⟨g, k, none⟩ (.int .u64 (un (x + 1#64)))) g) := HI.out.set hck (x + 1#64)
        have HT5 : Hid (TreeAt (wr.setCell ⟨g, k, none⟩ (.int .u64 (un (x + 1#64)))) l P) := TreeTo.setU HT.out HI.out
        have HB5 : Hid (BoxAt (wr.setCell ⟨g, k, none⟩ (.int .u64 (un (x + 1#64)))) gT #[.int .i64 l.length, .int .i64 (hgt l.length), .pointer ap] 29) := HB.out.set_off (by omega) _ _
        have HX5 : Hid (Below w1.heap.size w1 (wr.setCell ⟨g, k, none⟩ (.int .u64 (un (x + 1#64))))) := bel_set HX.out HG.out _ _
        clear ho hl' hx
        go_wp2_with fail
        go_roundw
        case rel => exact ⟨k + 1, by omega, by go_num, HO5, HI5, HT5, HB5, HX5⟩
        case measure => simp [intOf]; omega
      · have hkn : k = l.length := by omega
        subst hkn
        have hin : ¬ ((l.length : Int) < (l.length : Int)) := by omega
        have hd0 := HB.out.cell 0 (v := .int .i64 l.length) rfl
        have hd1 := HB.out.cell 1 (v := .int .i64 (hgt l.length)) rfl
        have hd2 := HB.out.cell 2 (v := .pointer ap) rfl
        have hdl := HB.out.lt
        have HXr : Hid (Ext w1 wr) := HX.out
        go_wp2_with fail
        go_at_call 19
        have hst := same_true (.slice ad l.length cap) l P wr (by omega) HT.out (HS.out.ext (HX1.out.trans HXr.out))
        rw [HTV.out] at hst
        refine hst.mono ?_
        rintro e w6 ⟨rfl, hb6⟩
        have HX6 : Hid (Ext w w6) := HX1.out.trans (HXr.out.trans hb6)
        clear hb6 hst
        go_wp2_with fail
        go_at_call 19
        have hst := same_true (.slice none 0 0) [] (fun _ _ => 0) w6 (by simp) (tree_empty _ _) SliceAt.nil
        rw [show ([] : List (BitVec 64)).length = 0 from rfl, tree_nilV] at hst
        refine hst.mono ?_
        rintro e w7 ⟨rfl, hb7⟩
        have HX7 : Hid (Ext w w7) := HX6.out.trans hb7
        clear hb7 hst
        go_wp2_with fail
        go_ret
        exact ⟨rfl, HX7.out⟩
  · have hd : decide ((100 : Int) < (l.length : Int)) = true := by rw [decide_eq_true_eq]; omega
    go_wp2_with fail
    go_at_call 11
    refine (awake_any _).mono ?_
    rintro e w3 ⟨rfl, hb3⟩
    have HX3 : Hid (Ext w1 w3) := hb3
    clear hb3
    go_wp2_with fail
    go_ret
    exact ⟨rfl, HX1.out.trans HX3.out⟩
end Go.Proofs.Ytdhlikjdcnfkpaa
