/-
  Chapter 8 (crc64): the frame of its laws: how their arguments are opened.
-/
import Derived.Test.YtmleonpecodimaaC8D
import Derived.Test.YtmleonpecodimaaLawKit
namespace Go.Proofs.Ytmleonpecodimaa
open Go.ChangeShapes Go.WideShapes Go.ChangeAt Go.RowKit
set_option linter.unusedVariables false

theorem own : ownKnob Try.prog.godebug = none := by kernel_rfl
theorem laid : laidOutB Try.prog = true := by kernel_rfl

theorem open_bytes {H : Type} {enc : TypeId × Value → H} {w : World} {r : Reach} {b0 : Nat} {v : Value} {d : DataW H} {ps : List MemPlace}
    (hval : Value.okWide Try.prog w r b0 22 v) (h : DataW.Trod enc Try.prog w 0 (fun _ => true) true 22 v d ps) :
    ∃ l : List (BitVec 8), SliceAt encB w v l ∧ l.length ≤ maxLen := by
  obtain ⟨zs, hs, hw, hl⟩ := open_slice_int Try.underlying22 Try.underlying5 (by kernel_rfl) hval h
  refine ⟨zs.map (BitVec.ofInt 8), hs.map _ (fun n hn => ?_), by simpa using hl⟩
  have := hw n hn
  simp [Lit.wf, IntKind.min, IntKind.max, IntKind.signed, IntKind.bits] at this
  show Value.int .u8 n = Value.int .u8 _
  rw [ub_ofInt n (by omega)]

theorem open_u64 {w : World} {r : Reach} {b0 : Nat} {v : Value} (hval : Value.okWide Try.prog w r b0 23 v) : ∃ x : BitVec 64, v = encU x := by
  have h : Cell.okWide Try.prog w r b0 23 v := by
    have h := hval
    unfold Value.okWide at h
    rw [Try.underlying23] at h
    exact h
  obtain ⟨n, rfl, h1, h2⟩ := cell_int Try.underlying23 h
  obtain ⟨x, rfl⟩ := un_ex n (by simp [IntKind.min, IntKind.max, IntKind.signed, IntKind.bits] at h1 h2; omega)
  exact ⟨x, rfl⟩
theorem open_i64 {w : World} {r : Reach} {b0 : Nat} {v : Value} (hval : Value.okWide Try.prog w r b0 3 v) : ∃ n : Int, v = .int .i64 n ∧ -9223372036854775808 ≤ n ∧ n ≤ 9223372036854775807 := by
  have h : Cell.okWide Try.prog w r b0 3 v := by
    have h := hval
    unfold Value.okWide at h
    rw [Try.underlying3] at h
    exact h
  obtain ⟨n, rfl, h1, h2⟩ := cell_int Try.underlying3 h
  exact ⟨n, rfl, by simp [IntKind.min, IntKind.max, IntKind.signed, IntKind.bits] at h1 h2; omega⟩

set_option maxHeartbeats 400000 in
theorem crc64Sum_walk (v : Value) (l : List (BitVec 8)) (x : BitVec 64) (w : World) (hl : l.length ≤ maxLen) (h : SliceAt encB w v l) :
    Calls Try.prog 3 #[v, encU x] w fun e w' => e = .returned (.bool true) ∧ Below w.heap.size w w' := by
  have h0 := h
  obtain ⟨ad, cap, rfl, _, _⟩ := h
  have H0 := Lib.hid h0
  have HL := Lib.hid hl
  unfold maxLen at hl
  clear h0
  by_cases hlen : l.length ≤ 300
  · go_enter Try.func3, Try.ntmps3
    go_wp2_with (first
      | (go_at_call 11; refine (awake_any _).mono ?_; rintro e w1 ⟨rfl, hb1⟩; have H1 := Lib.hid (H0.out.ext hb1))
      | (go_at_call 12; refine (sum_any _ _ _ HL.out H1.out).mono ?_; rintro e w2 ⟨rfl, rfl⟩)
      | (go_at_call 13; refine (rsum_any _ _ _ HL.out H1.out).mono ?_; rintro e w2 ⟨rfl, rfl⟩)
      | (go_at_call 14; refine (update_any _ _ _ _ HL.out H1.out).mono ?_; rintro e w2 ⟨rfl, rfl⟩)
      | (go_at_call 15; refine (rupdate_any _ _ _ _ HL.out H1.out).mono ?_; rintro e w2 ⟨rfl, rfl⟩))
    go_ret
    exact ⟨rfl, hb1⟩
  · go_enter Try.func3, Try.ntmps3
    go_wp2_with (go_at_call 11; refine (awake_any _).mono ?_; rintro e w1 ⟨rfl, hb1⟩)
    go_ret
    exact ⟨rfl, hb1⟩
end Go.Proofs.Ytmleonpecodimaa
