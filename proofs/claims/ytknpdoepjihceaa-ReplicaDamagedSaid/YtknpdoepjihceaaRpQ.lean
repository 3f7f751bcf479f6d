/-
  Chapter 29 (replica): what a law's arguments are; the walk of ReplicaGather.
-/
import Derived.Test.YtknpdoepjihceaaRpP
import Derived.Test.YtknpdoepjihceaaLawKit
namespace Go.Proofs.Ytknpdoepjihceaa
open Go.ChangeShapes Go.WideShapes Go.ChangeAt Go.RowKit
set_option linter.unusedVariables false
attribute [local go_sem] eq_strB

theorem own : ownKnob Try.prog.godebug = none := by kernel_rfl
theorem laid : laidOutB Try.prog = true := by kernel_rfl
theorem opU8 : Opens Try.prog 5 Pat.u8 := Opens.u8 Try.underlying5 (by kernel_rfl)
theorem opU64 : Opens Try.prog 23 Pat.u64 := Opens.u64 Try.underlying23 (by kernel_rfl)
theorem opBytes : Opens Try.prog 22 (Pat.slice Pat.u8) := Opens.slice opU8 Try.underlying22 (by kernel_rfl) (by kernel_rfl)
theorem opRows : Opens Try.prog 25 (Pat.slice (Pat.slice Pat.u8)) := Opens.slice opBytes Try.underlying25 (by kernel_rfl) (by kernel_rfl)
theorem opCopies : Opens Try.prog 32 (Pat.slice (Pat.slice (Pat.slice Pat.u8))) := Opens.slice opRows Try.underlying32 (by kernel_rfl) (by kernel_rfl)
section
variable {H : Type} {enc : TypeId × Value → H} {w : World} {r : Reach} {b0 : Nat} {v : Value} {d : DataW H} {ps : List MemPlace}
theorem open_u64 (hval : Value.okWide Try.prog w r b0 23 v) (h : DataW.Trod enc Try.prog w 0 (fun _ => true) true 23 v d ps) : ∃ x, v = encU x := by
  obtain ⟨x, hx⟩ := opU64.cell (by kernel_rfl) hval h
  exact ⟨x, holds_u64 hx⟩
theorem open_bytes (hval : Value.okWide Try.prog w r b0 22 v) (h : DataW.Trod enc Try.prog w 0 (fun _ => true) true 22 v d ps) :
    ∃ l : List (BitVec 8), SliceAt encB w v l ∧ l.length ≤ maxLen := by
  obtain ⟨l, hl⟩ := opBytes.cell (by kernel_rfl) hval h
  obtain ⟨h1, h2⟩ := holds_slice hl
  exact ⟨l, h1.at.1, h2⟩
theorem open_copies (hval : Value.okWide Try.prog w r b0 32 v) (h : DataW.Trod enc Try.prog w 0 (fun _ => true) true 32 v d ps) :
    ∃ l : List (List (List (BitVec 8))), SliceR (Pat.slice (Pat.slice Pat.u8)) w v l ∧ l.length ≤ maxLen := by
  obtain ⟨l, hl⟩ := opCopies.cell (by kernel_rfl) hval h
  exact ⟨l, holds_slice hl⟩
end
theorem short_len {cs : List (List (List (BitVec 8)))} (h : shortB cs = true) : cs.length ≤ 100000 ∧ (∀ c ∈ cs, c.length ≤ 100000) ∧ (∀ c ∈ cs, ∀ l ∈ c, l.length ≤ 100000) := by
  unfold shortB shortC at h
  simp only [Bool.and_eq_true, decide_eq_true_eq, List.all_eq_true] at h
  exact ⟨by omega, fun c hc => by have := (h.2 c hc).1; omega, fun c hc l hl => by have := (h.2 c hc).2 l hl; omega⟩

theorem replicaGather_walk (vs : Value) (cs : List (List (List (BitVec 8)))) (gen : BitVec 64) (w : World) (hm : cs.length ≤ maxLen) (h : SliceR (Pat.slice (Pat.slice Pat.u8)) w vs cs) :
    Calls Try.prog 5 #[vs, encU gen] w fun e w' => e = .returned (.bool true) ∧ Below w.heap.size w w' := by
  have HS := Lib.hid h
  clear h
  go_enter Try.func5, Try.ntmps5
  go_wp2_with fail
  go_at_call 8
  refine (awake_any _).mono ?_
  rintro e w1 ⟨rfl, hb1⟩
  have HX1 : Hid (Ext w w1) := hb1
  clear hb1
  go_wp2_with fail
  go_at_call 12
  refine (short_any vs cs _ hm (SliceR.ext HS.out HX1.out)).mono ?_
  rintro e w2 ⟨rfl, rfl⟩
  cases hsh : shortB cs with
  | false =>
    go_wp2_with fail
    go_at_call 8
    refine (awake_any _).mono ?_
    rintro e w3 ⟨rfl, hb3⟩
    have HX3 : Hid (Ext w1 w3) := hb3
    clear hb3
    go_wp2_with fail
    go_ret
    exact ⟨rfl, HX1.out.trans HX3.out⟩
  | true =>
    obtain ⟨s1, s2, s3⟩ := short_len hsh
    have H2 := Lib.hid s2
    have H3 := Lib.hid s3
    clear s2 s3 hsh
    go_wp2_with fail
    go_at_call 13
    refine (gather_any vs cs gen _ s1 H2.out H3.out (SliceR.ext HS.out HX1.out)).mono ?_
    rintro e w3 ⟨v3, rfl, ho3, hb3⟩
    have HX3 : Hid (Ext w1 w3) := hb3
    have HO3 := Lib.hid (OwnG.slice ho3)
    obtain ⟨x, hx⟩ : ∃ x, (if (gatL cs gen).isSome then (0 : Int) else 12) = x := ⟨_, rfl⟩
    rw [hx]
    have HE := Lib.hid hx
    clear hx
    clear hb3 ho3
    go_wp2_with fail
    go_at_call 14
    refine (rgather_any vs cs gen _ s1 H2.out H3.out (SliceR.ext HS.out (HX1.out.trans HX3.out))).mono ?_
    rintro e w4 ⟨v4, rfl, ho4, hb4⟩
    have HX4 : Hid (Ext w3 w4) := hb4
    have HO4 := Lib.hid (OwnG.slice ho4)
    have HO5 := Lib.hid (HO3.out.ext hb4)
    rw [HE.out]
    clear hb4 ho4 HE
    have k1 := run_str (P := Try.prog) Try.underlying22 Try.underlying5 Try.underlying9 w4 _ _ HO5.out
    have k2 := run_str (P := Try.prog) Try.underlying22 Try.underlying5 Try.underlying9 w4 _ _ HO4.out
    generalize (gatL cs gen).getD [] = o at *
    have hoo : decide (o = o) = true := by simp
    have hxx : (x == x) = true := by simp
    go_wp2_with fail
    go_ret
    exact ⟨rfl, HX1.out.trans (HX3.out.trans HX4.out)⟩
end Go.Proofs.Ytknpdoepjihceaa
