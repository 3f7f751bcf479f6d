/-
  Chapter 9 (codec): the appending functions of the reference; integers.
-/
import Derived.Test.YthjcdikpomlpmaaLkA
namespace Go.Proofs.Ythjcdikpomlpmaa
open Go.RowKit
set_option linter.unusedVariables false
attribute [local go_sem] wrap8_nat or_high

theorem or_table : ∀ k : Fin 256, (k.val ||| 128) = k.val % 128 + 128 := by decide +kernel
theorem high_val (m : Nat) : ((m : Int) % 128 + 128) = ub (BitVec.ofNat 8 m ||| 128#8) := by
  unfold ub
  rw [BitVec.toNat_or, BitVec.toNat_ofNat]
  have := or_table ⟨m % 2 ^ 8, Nat.mod_lt _ (by decide)⟩
  simp only at this
  rw [show (128#8).toNat = 128 by rfl, this]
  omega

set_option maxHeartbeats 400000 in
theorem rappendUint_any (v : Value) (l : List (BitVec 8)) (n : Nat) (w : World) (hl : l.length ≤ 50000) (hn : n < 18446744073709551616) (h : SliceAt encB w v l) :
    Calls Try.prog 47 #[v, .int .u64 n] w fun e w' => ∃ v', e = .returned v' ∧ OwnB w' w.heap.size v' (l ++ uv n) ∧ Below w.heap.size w w' := by
  obtain ⟨i0, hi, hz0, hz1, hz2⟩ := info_parts infoB
  have HA := Lib.hid h
  have hlen := (uv_len n hn).2
  go_enter Try.func47, Try.ntmps47
  go_wp2_with (at_builtin; refine wpList_append_slice (enc := encB) (fun _ => rfl) rfl (.tmp 6) (.tmp 7) 35 rfl w.heap.size 5 i0 (.int .u8 0) 1 Try.underlying35 hi hz0 hz1 hz2 rfl _ 0 [] rfl (World.ownsRow_lit w #[] 0 (Nat.le_refl _) (by decide) rfl) _ l rfl (HA.out.ext (Ext.alloc _ _)) (by unfold maxLen; omega) (by omega) (by simp) ?_; intro v1 w1 hown1 hgrow1; simp only [Nat.zero_add, List.nil_append] at hown1; have hb1 : Ext w w1 := ((Below.refl _ _).alloc (Nat.le_refl _) _).grown hgrow1 (by simp) (fun k hk => (by cases hk; exact Nat.le_refl _)); have HO1 := Lib.hid hown1; clear hown1 hgrow1)
  go_loopw [5, 1] (fun vo i wr => ∃ (m : Nat) (pre : List (BitVec 8)), m ≤ n ∧ i = .int .u64 m ∧ uv n = pre ++ uv m ∧ OwnB wr w.heap.size vo (l ++ pre) ∧ Below w.heap.size w wr) (fun _ i _ => (intOf i).toNat)
  case atStart => exact ⟨n, [], Nat.le_refl _, rfl, rfl, by rw [List.append_nil]; exact HO1.out, hb1⟩
  case round =>
    obtain ⟨m, pre, hmn, rfl, huv, hown, hx⟩ := hrel
    have HO := Lib.hid hown
    have HU := Lib.hid huv
    have hpl : pre.length < 10 := by
      have := congrArg List.length huv
      rw [List.length_append] at this
      have := (uv_len m (by omega)).1
      omega
    have hll : (l ++ pre).length = l.length + pre.length := List.length_append
    have hm0 : (0 : Int) ≤ (m : Int) := by omega
    have hm1 : (m : Int) ≤ 18446744073709551615 := by omega
    clear hown huv
    by_cases hc : m < 128
    · have hc' : (decide ((128 : Int) ≤ (m : Int))) = false := by rw [decide_eq_false_iff_not]; omega
      have HC := Lib.hid hc
      clear hc
      go_wp2_with (at_builtin; refine wpList_append_slice (enc := encB) (fun _ => rfl) rfl (.tmp 20) (.tmp 23) 35 rfl w.heap.size 5 i0 (.int .u8 0) 1 Try.underlying35 hi hz0 hz1 hz2 rfl _ _ _ rfl (World.ownsRow.alloc HO.out _) _ [BitVec.ofNat 8 m] rfl (SliceAt.lit wr [BitVec.ofNat 8 m] _ _ _ rfl) (by unfold maxLen; simp only [List.length_singleton]; omega) (by simp only [List.length_singleton]; omega) (by have := hx.size; simp; omega) ?_; intro v2 w2 hown2 hgrow2; have hx2 : Below w.heap.size w w2 := (hx.alloc hx.size _).grown hgrow2 (by have := hx.size; simp; omega) (fun k hk => (World.ownsRow.lt HO.out k hk).1); have HO2 := Lib.hid hown2; clear hown2 hgrow2)
      go_ret
      refine ⟨_, rfl, ?_, hx2⟩
      have h2 := HO2.out
      rw [HU.out, uv_low HC.out, ← List.append_assoc]
      show World.ownsRow _ _ _ _ _ _ _
      rw [List.length_append, List.map_append]
      exact h2
    · have hc' : (128 : Int) ≤ (m : Int) := by omega
      have hv := high_val m
      go_wp2_with (at_builtin; refine wpList_append_slice (enc := encB) (fun _ => rfl) rfl (.tmp 11) (.tmp 16) 35 rfl w.heap.size 5 i0 (.int .u8 0) 1 Try.underlying35 hi hz0 hz1 hz2 rfl _ _ _ rfl (World.ownsRow.alloc HO.out _) _ [BitVec.ofNat 8 m ||| 128#8] rfl (SliceAt.lit wr [BitVec.ofNat 8 m ||| 128#8] _ _ _ rfl) (by unfold maxLen; simp only [List.length_singleton]; omega) (by simp only [List.length_singleton]; omega) (by have := hx.size; simp; omega) ?_; intro v2 w2 hown2 hgrow2; have hx2 : Below w.heap.size w w2 := (hx.alloc hx.size _).grown hgrow2 (by have := hx.size; simp; omega) (fun k hk => (World.ownsRow.lt HO.out k hk).1); have HO2 := Lib.hid hown2; clear hown2 hgrow2)
      go_roundw
      case rel =>
        refine ⟨m / 128, pre ++ [BitVec.ofNat 8 m ||| 128#8], by omega, by go_num, by rw [HU.out, uv_high hc]; simp, ?_, hx2⟩
        have h2 := HO2.out
        rw [← List.append_assoc]
        show World.ownsRow _ _ _ _ _ _ _
        rw [List.length_append, List.map_append]
        exact h2
      case measure => simp [intOf]; omega

theorem wrap64 (x : Int) : IntKind.u64.wrap x = x % 18446744073709551616 := by
  simp only [IntKind.wrap, IntKind.bits, IntKind.signed]; simp
theorem un_not (x : BitVec 64) : un (~~~x) = 18446744073709551615 - un x := by
  unfold un; rw [BitVec.toNat_not]; have := x.isLt; omega
end Go.Proofs.Ythjcdikpomlpmaa
