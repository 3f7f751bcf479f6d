/-
  Chapter 9 (codec): the appending functions, in package codec and in its reference.
-/
import Derived.Test.YthjcdikpomlpmaaRows
import Derived.Test.YthjcdikpomlpmaaKit
import Derived.ProofKit
import Derived.WalkSpells
import Derived.WalkLawsBesides
namespace Go.Proofs.Ythjcdikpomlpmaa
open Go.RowKit
set_option linter.unusedVariables false
attribute [local go_sem] wrap8_nat or_high

theorem infoB : (Try.prog.info? 5).map (fun i => (i.zero, i.size, i.bytes)) = some (some (.int .u8 0), 1, 1) := by kernel_rfl

/-- a new row of bytes -/
abbrev OwnB (w : World) (base : Nat) (v : Value) (l : List (BitVec 8)) : Prop := w.ownsRow base 5 1 v l.length (l.map encB)
theorem OwnB.slice {w : World} {base : Nat} {v : Value} {l : List (BitVec 8)} (h : OwnB w base v l) : SliceAt encB w v l := SliceAt.of_owns h

theorem clone_any (v : Value) (l : List (BitVec 8)) (w : World) (hl : l.length ≤ 100000) (h : SliceAt encB w v l) :
    Calls Try.prog 57 #[v] w fun e w' => ∃ v', e = .returned v' ∧ OwnB w' w.heap.size v' l ∧ Below w.heap.size w w' := by
  obtain ⟨i0, hi, hz0, hz1, hz2⟩ := info_parts infoB
  have HA := Lib.hid h
  obtain ⟨ad, cap, rfl, hca, h⟩ := h
  cases ad with
  | none =>
    have hl0 : l = [] ∧ cap = 0 := by
      rcases h with ⟨h1, h2⟩ | ⟨_, _, h1, _⟩
      · exact ⟨h1, h2 rfl⟩
      · cases h1
    obtain ⟨rfl, rfl⟩ := hl0
    clear h
    go_enter Try.func57, Try.ntmps57
    have hq := fun (w : World) => Lib.run_eql_slice_nil (P := Try.prog) w 35 5 none 0 0 0 0 Try.underlying35
    go_wp2
    go_ret
    exact ⟨_, rfl, World.ownsRow_nil _ _ _ _, Below.refl _ _⟩
  | some ad =>
    clear h
    have hq := fun (w : World) => Lib.run_eql_slice_nil (P := Try.prog) w 35 5 (some ad) l.length cap 0 0 Try.underlying35
    go_enter Try.func57, Try.ntmps57
    go_wp2_with (at_builtin; refine wpList_append_slice (enc := encB) (fun _ => rfl) rfl (.tmp 5) (.tmp 6) 35 rfl w.heap.size 5 i0 (.int .u8 0) 1 Try.underlying35 hi hz0 hz1 hz2 rfl _ 0 [] rfl (World.ownsRow_lit w #[] 0 (Nat.le_refl _) (by decide) rfl) _ l rfl (HA.out.ext (Ext.alloc _ _)) (by unfold maxLen; omega) (by omega) (by simp) ?_; intro v1 w1 hown1 hgrow1; simp only [Nat.zero_add, List.nil_append] at hown1; have hx1 : Ext w w1 := ((Below.refl _ _).alloc (Nat.le_refl _) _).grown hgrow1 (by simp) (fun k hk => (by cases hk; exact Nat.le_refl _)))
    go_ret
    exact ⟨_, rfl, hown1, hx1⟩

set_option maxHeartbeats 400000 in
theorem appendUint_any (v : Value) (l : List (BitVec 8)) (n : Nat) (w : World) (hl : l.length ≤ 50000) (hn : n < 18446744073709551616) (h : SliceAt encB w v l) :
    Calls Try.prog 54 #[v, .int .u64 n] w fun e w' => ∃ v', e = .returned v' ∧ OwnB w' w.heap.size v' (l ++ uv n) ∧ Below w.heap.size w w' := by
  obtain ⟨i0, hi, hz0, hz1, hz2⟩ := info_parts infoB
  have HA := Lib.hid h
  have hlen := (uv_len n hn).2
  go_enter Try.func54, Try.ntmps54
  go_wp2_with (go_at_call 57; refine (clone_any _ l _ (by omega) HA.out).mono ?_; rintro e w1 ⟨v1, rfl, hown1, hb1⟩)
  have HO1 := Lib.hid hown1
  clear hown1
  go_loopw [5, 1] (fun vo i wr => ∃ (m : Nat) (pre : List (BitVec 8)), m ≤ n ∧ i = .int .u64 m ∧ uv n = pre ++ uv m ∧ OwnB wr w.heap.size vo (l ++ pre) ∧ Below w.heap.size w wr) (fun _ i _ => (intOf i).toNat)
  case atStart => exact ⟨n, [], Nat.le_refl _, rfl, rfl, by rw [List.append_nil]; exact HO1.out, hb1⟩
  case round =>
    obtain ⟨m, pre, hmn, rfl, huv, hown, hx⟩ := hrel
    have HO := Lib.hid hown
    have HU := Lib.hid huv
    have hpl : pre.length < 10 := by
      have := congrArg List.length huv
      rw [List.length_append] at this
      have := (uv_len m (by omega)).1
      omega
    have hll : (l ++ pre).length = l.length + pre.length := List.length_append
    have hm0 : (0 : Int) ≤ (m : Int) := by omega
    have hm1 : (m : Int) ≤ 18446744073709551615 := by omega
    clear hown huv
    by_cases hc : m < 128
    · have hc' : (decide ((128 : Int) ≤ (m : Int))) = false := by rw [decide_eq_false_iff_not]; omega
      have HC := Lib.hid hc
      clear hc
      go_wp2_with (at_builtin; refine wpList_append_slice (enc := encB) (fun _ => rfl) rfl (.tmp 18) (.tmp 21) 35 rfl w.heap.size 5 i0 (.int .u8 0) 1 Try.underlying35 hi hz0 hz1 hz2 rfl _ _ _ rfl (World.ownsRow.alloc HO.out _) _ [BitVec.ofNat 8 m] rfl (SliceAt.lit wr [BitVec.ofNat 8 m] _ _ _ rfl) (by unfold maxLen; simp only [List.length_singleton]; omega) (by simp only [List.length_singleton]; omega) (by have := hx.size; simp; omega) ?_; intro v2 w2 hown2 hgrow2; have hx2 : Below w.heap.size w w2 := (hx.alloc hx.size _).grown hgrow2 (by have := hx.size; simp; omega) (fun k hk => (World.ownsRow.lt HO.out k hk).1); have HO2 := Lib.hid hown2; clear hown2 hgrow2)
      go_ret
      refine ⟨_, rfl, ?_, hx2⟩
      have h2 := HO2.out
      rw [HU.out, uv_low HC.out, ← List.append_assoc]
      show World.ownsRow _ _ _ _ _ _ _
      rw [List.length_append, List.map_append]
      exact h2
    · have hc' : (128 : Int) ≤ (m : Int) := by omega
      go_wp2_with (at_builtin; refine wpList_append_slice (enc := encB) (fun _ => rfl) rfl (.tmp 12) (.tmp 16) 35 rfl w.heap.size 5 i0 (.int .u8 0) 1 Try.underlying35 hi hz0 hz1 hz2 rfl _ _ _ rfl (World.ownsRow.alloc HO.out _) _ [BitVec.ofNat 8 m ||| 128#8] rfl (SliceAt.lit wr [BitVec.ofNat 8 m ||| 128#8] _ _ _ rfl) (by unfold maxLen; simp only [List.length_singleton]; omega) (by simp only [List.length_singleton]; omega) (by have := hx.size; simp; omega) ?_; intro v2 w2 hown2 hgrow2; have hx2 : Below w.heap.size w w2 := (hx.alloc hx.size _).grown hgrow2 (by have := hx.size; simp; omega) (fun k hk => (World.ownsRow.lt HO.out k hk).1); have HO2 := Lib.hid hown2; clear hown2 hgrow2)
      go_roundw
      case rel =>
        refine ⟨m / 128, pre ++ [BitVec.ofNat 8 m ||| 128#8], by omega, by go_num, by rw [HU.out, uv_high hc]; simp, ?_, hx2⟩
        have h2 := HO2.out
        rw [← List.append_assoc]
        show World.ownsRow _ _ _ _ _ _ _
        rw [List.length_append, List.map_append]
        exact h2
      case measure => simp [intOf]; omega
end Go.Proofs.Ythjcdikpomlpmaa
