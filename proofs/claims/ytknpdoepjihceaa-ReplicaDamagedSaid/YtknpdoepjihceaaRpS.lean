/-
  Chapter 29 (replica): the walk of ReplicaLimit.
-/
import Derived.Test.YtknpdoepjihceaaRpR
namespace Go.Proofs.Ytknpdoepjihceaa
open Go.ChangeShapes Go.WideShapes Go.ChangeAt Go.RowKit
set_option linter.unusedVariables false

theorem infoB3 : (Try.prog.info? 5).map (fun i => (i.zero, i.size, i.bytes)) = some (some (.int .u8 0), 1, 1) := by kernel_rfl
theorem opI64 : Opens Try.prog 3 Pat.i64 := Opens.i64 Try.underlying3 (by kernel_rfl)
theorem open_i64 {H : Type} {enc : TypeId × Value → H} {w : World} {r : Reach} {b0 : Nat} {v : Value} {d : DataW H} {ps : List MemPlace} (hval : Value.okWide Try.prog w r b0 3 v) (h : DataW.Trod enc Try.prog w 0 (fun _ => true) true 3 v d ps) : ∃ n : Int, v = .int .i64 n ∧ -9223372036854775808 ≤ n ∧ n ≤ 9223372036854775807 := by
  obtain ⟨x, hx⟩ := opI64.cell (by kernel_rfl) hval h
  obtain ⟨h1, h2⟩ := holds_i64 hx
  exact ⟨x, h1, h2⟩
/-- a new row of zeros -/
theorem zeros_own (w : World) (n : Nat) (hn : n ≤ maxLen) (base : Nat) (hb : base ≤ w.heap.size) : OwnG encB 5 (w.alloc (.cells (madeCells #[.int .u8 0] n) 5)) base (.slice (some ⟨w.heap.size, 0, none⟩) n n) (List.replicate n 0#8) := by
  have h := OwnG.lit (enc := encB) w (List.replicate n 0#8) 5 base hb (by simpa using hn) (madeCells #[.int .u8 0] n) (by
    apply Array.toList_inj.1
    rw [toList_madeCells_one]
    simp only [List.map_replicate]; rfl)
  simpa using h

set_option maxRecDepth 100000 in
set_option maxHeartbeats 4000000 in
theorem replicaLimit_walk (x : Int) (hx1 : -9223372036854775808 ≤ x) (hx2 : x ≤ 9223372036854775807) (w : World) :
    Calls Try.prog 4 #[.int .i64 x] w fun e w' => e = .returned (.bool true) ∧ Below w.heap.size w w' := by
  go_enter Try.func4, Try.ntmps4
  go_wp2_with fail
  go_at_call 8
  refine (awake_any _).mono ?_
  rintro e w1 ⟨rfl, hb1⟩
  have HX1 : Hid (Ext w w1) := hb1
  clear hb1
  by_cases hr : -3 ≤ x ∧ x ≤ 3
  · obtain ⟨hr1, hr2⟩ := hr
    have hd1 : decide (x < (-3 : Int)) = false := by rw [decide_eq_false_iff_not]; omega
    have hd2 : decide ((3 : Int) < x) = false := by rw [decide_eq_false_iff_not]; omega
    obtain ⟨n, hn⟩ : ∃ n : Nat, 1048576 + x = (n : Int) := ⟨(1048576 + x).toNat, by omega⟩
    have hmk : ∀ w : World, (Instr.makeSlice 22 (.int .i64 (1048576 + x)) (.int .i64 (1048576 + x))).run Try.prog w = .ok (.slice (some ⟨w.heap.size, 0, none⟩) n n) (w.alloc (.cells (madeCells #[.int .u8 0] n) 5)) := by
      intro w
      rw [hn]
      exact run_make_row' 22 5 (.int .u8 0) 1 Try.underlying22 infoB3 rfl .i64 .i64 n (by omega) (by omega) w
    have HO : Hid (OwnG encB 5 (w1.alloc (.cells (madeCells #[.int .u8 0] n) 5)) w1.heap.size (.slice (some ⟨w1.heap.size, 0, none⟩) n n) (List.replicate n 0#8)) := zeros_own w1 n (by unfold maxLen; omega) _ (Nat.le_refl _)
    have HXA : Hid (Ext w1 (w1.alloc (.cells (madeCells #[.int .u8 0] n) 5))) := Ext.alloc _ _
    have HN := Lib.hid hn
    clear hn
    by_cases hp : 0 < x
    · have hd3 : decide ((0 : Int) < x) = true := by rw [decide_eq_true_eq]; omega
      go_wp2_with fail
      go_at_call 9
      refine (chunks_no 1#64 _ (List.replicate n 0#8) _ (by rw [List.length_replicate]; have := HN.out; omega) (by rw [List.length_replicate]; have := HN.out; unfold maxLen; omega) HO.out.slice).mono ?_
      rintro e w2 ⟨rfl, rfl⟩
      go_wp2_with fail
      go_ret
      exact ⟨rfl, HX1.out.trans HXA.out⟩
    · have hd3 : decide ((0 : Int) < x) = false := by rw [decide_eq_false_iff_not]; omega
      go_wp2_with fail
      go_at_call 9
      refine (chunks_any 1#64 _ (List.replicate n 0#8) _ (by rw [List.length_replicate]; have := HN.out; omega) HO.out.slice).mono ?_
      rintro e w2 ⟨v2, rfl, ho2, hb2⟩
      have hln : (chunksL 1#64 (List.replicate n 0#8)).length = numL n := by rw [chunksL_len, List.length_replicate]
      obtain ⟨a2, c2, rfl⟩ := ho2.shape
      rw [hln]
      have HX2 : Hid (Ext w w2) := HX1.out.trans (HXA.out.trans hb2)
      obtain ⟨m, hm⟩ : ∃ m, numL n = m := ⟨_, rfl⟩
      have hq : (m : Int) = (1048576 + x + 31) / 32 := by rw [← hm, HN.out]; unfold numL; have := HN.out; omega
      rw [hm]
      have hmb : m ≤ 100000 := by rw [← hm]; unfold numL; have := HN.out; omega
      have HQ := Lib.hid hq
      have he1 : ((m : Int) == (1048576 + x + 31) / 32) = true := by rw [beq_iff_eq]; exact hq
      clear ho2 hb2 hln hm hq
      go_wp2_with fail
      go_ret
      exact ⟨rfl, HX2.out⟩
  · have hd : (decide (x < (-3 : Int)) || decide ((3 : Int) < x)) = true := by rw [Bool.or_eq_true, decide_eq_true_eq, decide_eq_true_eq]; omega
    by_cases hlo : x < -3
    · have hd1 : decide (x < (-3 : Int)) = true := by rw [decide_eq_true_eq]; omega
      clear hr hd
      go_wp2_with fail
      go_at_call 8
      refine (awake_any _).mono ?_
      rintro e w3 ⟨rfl, hb3⟩
      have HX3 : Hid (Ext w1 w3) := hb3
      clear hb3
      go_wp2_with fail
      go_ret
      exact ⟨rfl, HX1.out.trans HX3.out⟩
    · have hd1 : decide (x < (-3 : Int)) = false := by rw [decide_eq_false_iff_not]; omega
      have hd2 : decide ((3 : Int) < x) = true := by rw [decide_eq_true_eq]; omega
      clear hr hd
      go_wp2_with fail
      go_at_call 8
      refine (awake_any _).mono ?_
      rintro e w3 ⟨rfl, hb3⟩
      have HX3 : Hid (Ext w1 w3) := hb3
      clear hb3
      go_wp2_with fail
      go_ret
      exact ⟨rfl, HX1.out.trans HX3.out⟩
end Go.Proofs.Ytknpdoepjihceaa
