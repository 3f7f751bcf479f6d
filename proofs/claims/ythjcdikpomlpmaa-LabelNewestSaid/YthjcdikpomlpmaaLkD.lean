/-
  Chapter 9 (codec): reading a natural number.
-/
import Derived.Test.YthjcdikpomlpmaaLkC
namespace Go.Proofs.Ythjcdikpomlpmaa
open Go.RowKit
set_option linter.unusedVariables false
attribute [local go_sem] xor_un and_un or_un not_un wrap_ub

/-- a natural number is read: k bytes of it are read already, they gave x -/
def rdU : Nat → Nat → BitVec 64 → List (BitVec 8) → Option (BitVec 64 × List (BitVec 8))
  | 0, _, _, _ => none
  | _ + 1, _, _, [] => none
  | f + 1, k, x, c :: r =>
    if k = 9 ∧ 1 < c.toNat then none
    else if c.toNat < 128 then (if c = 0#8 ∧ 0 < k then none else some (x ||| ((Crc.reg c &&& 127#64) <<< (7 * k)), r))
    else rdU f (k + 1) (x ||| ((Crc.reg c &&& 127#64) <<< (7 * k))) r
theorem rdU_big {k : Nat} {x : BitVec 64} {c : BitVec 8} {r : List (BitVec 8)} (h9 : k = 9) (h1 : 1 < c.toNat) : rdU (10 - k) k x (c :: r) = none := by
  subst h9; show rdU 1 9 x (c :: r) = none
  unfold rdU; rw [if_pos ⟨rfl, h1⟩]
theorem rdU_zero {k : Nat} {x : BitVec 64} {c : BitVec 8} {r : List (BitVec 8)} (hk : k < 10) (hc : c = 0#8) (h0 : 0 < k) : rdU (10 - k) k x (c :: r) = none := by
  rw [show 10 - k = (9 - k) + 1 by omega]; unfold rdU
  subst hc
  rw [if_neg (by rintro ⟨_, h⟩; exact absurd h (by decide)), if_pos (by decide), if_pos ⟨rfl, h0⟩]
theorem rdU_end {k : Nat} {x : BitVec 64} {c : BitVec 8} {r : List (BitVec 8)} (hk : k < 10) (h9 : ¬ (k = 9 ∧ 1 < c.toNat)) (hc : c.toNat < 128) (h0 : ¬ (c = 0#8 ∧ 0 < k)) :
    rdU (10 - k) k x (c :: r) = some (x ||| ((Crc.reg c &&& 127#64) <<< (7 * k)), r) := by
  rw [show 10 - k = (9 - k) + 1 by omega]; unfold rdU
  rw [if_neg h9, if_pos hc, if_neg h0]
theorem rdU_next {k : Nat} {x : BitVec 64} {c : BitVec 8} {r : List (BitVec 8)} (hk : k < 10) (h9 : k ≠ 9) (hc : ¬ c.toNat < 128) :
    rdU (10 - k) k x (c :: r) = rdU (10 - (k + 1)) (k + 1) (x ||| ((Crc.reg c &&& 127#64) <<< (7 * k))) r := by
  rw [show 10 - k = (10 - (k + 1)) + 1 by omega, rdU]
  rw [if_neg (fun h => h9 h.1), if_neg hc]
def rd (bad : Bool) (l : List (BitVec 8)) : Option (BitVec 64 × List (BitVec 8)) := if bad then none else rdU 10 0 0#64 l

theorem and_127 (x : BitVec 64) : bits .and .u64 (un x) 127 = un (x &&& 127#64) := and_un x 127#64
theorem shl_un (x : BitVec 64) (k : Nat) : IntKind.u64.wrap (un x * (2 : Int) ^ k) = un (x <<< k) := by
  rw [wrap64]; unfold un
  rw [BitVec.toNat_shiftLeft, Nat.shiftLeft_eq]; simp
attribute [local go_sem] and_127

theorem turn_refl (w : World) (o : Option Nat) : w.grownBy w o := ⟨rfl, rfl, rfl, Nat.le_refl _, fun _ _ _ => rfl⟩
theorem turn_trans {w w1 w2 : World} {o : Option Nat} (h : w.grownBy w1 o) (k : w1.grownBy w2 o) : w.grownBy w2 o :=
  ⟨k.os.trans h.os, k.tape.trans h.tape, k.output.trans h.output, Nat.le_trans h.size k.size, fun i hi hne => (k.block i (Nat.lt_of_lt_of_le hi h.size) hne).trans (h.block i hi hne)⟩
theorem turn_set (w : World) (b o : Nat) (v : Value) : w.grownBy (w.setCell ⟨b, o, none⟩ v) (some b) :=
  ⟨rfl, rfl, rfl, by simp, fun k _ hk => Below.heap_setCell _ _ _ k (fun e => hk (by rw [e]))⟩
theorem turn_fail (w : World) (b : Nat) : w.grownBy (failW w b) (some b) := turn_trans (turn_set _ _ _ _) (turn_set _ _ _ _)

theorem take_one (w : World) (b : Nat) (c : BitVec 8) (r : List (BitVec 8)) (hl : (c :: r).length ≤ maxLen) (h : RdAt w b (c :: r) false) :
    Calls Try.prog 69 #[.pointer (some ⟨b, 0, none⟩), .int .u64 1] w fun e w' => ∃ g o cap, e = .returned (.tuple #[.slice (some ⟨g, o, none⟩) 1 cap, .int .i64 0]) ∧ w'.cell? ⟨g, o, none⟩ = some (encB c) ∧ g < w'.heap.size ∧ RdAt w' b r false ∧ w.grownBy w' (some b) := by
  refine (take_yes w b _ 1 hl h (by simp)).mono ?_
  rintro e w1 ⟨v1, v2, rfl, rfl, hs, hr⟩
  obtain ⟨ad, cap, rfl, _, hs⟩ := hs
  rcases hs with ⟨hs, _⟩ | ⟨g, o, rfl, hg, hs⟩
  · simp at hs
  · exact ⟨g, o, cap, rfl, hs 0 (by simp), hg, hr, turn_set _ _ _ _⟩

/-- what a method of a reader leaves behind -/
def After (w w' : World) (b : Nat) (l : List (BitVec 8)) (bad : Bool) : Prop := RdAt w' b l bad ∧ w.grownBy w' (some b)

def UintPost (w : World) (b : Nat) (o : Option (BitVec 64 × List (BitVec 8))) (e : Ending) (w' : World) : Prop :=
  match o with
  | some (x, r) => e = .returned (.tuple #[encU x, .int .i64 0]) ∧ After w w' b r false
  | none => e = .returned (.tuple #[.int .u64 0, .int .i64 5]) ∧ After w w' b [] true
theorem uintPost_none {w w' : World} {b : Nat} {o : Option (BitVec 64 × List (BitVec 8))} {e : Ending} (h : o = none) (he : e = .returned (.tuple #[.int .u64 0, .int .i64 5])) (ha : After w w' b [] true) : UintPost w b o e w' := by
  subst h; exact ⟨he, ha⟩
theorem uintPost_some {w w' : World} {b : Nat} {o : Option (BitVec 64 × List (BitVec 8))} {e : Ending} {x : BitVec 64} {r : List (BitVec 8)} (h : o = some (x, r)) (he : e = .returned (.tuple #[encU x, .int .i64 0])) (ha : After w w' b r false) : UintPost w b o e w' := by
  subst h; exact ⟨he, ha⟩

set_option maxHeartbeats 800000 in
theorem uint_any (w : World) (b : Nat) (l : List (BitVec 8)) (bad : Bool) (hl : l.length ≤ 100000) (h : RdAt w b l bad) :
    Calls Try.prog 59 #[.pointer (some ⟨b, 0, none⟩)] w fun e w' => UintPost w b (rd bad l) e w' := by
  generalize ho : rd bad l = o
  have HO : Hid (o = if bad then none else rdU 10 0 0#64 l) := ho.symm
  clear ho
  have HR := Lib.hid h
  go_enter Try.func59, Try.ntmps59
  go_wp2
  go_loopw [9, 4] (fun i acc wr => ∃ (k : Nat) (x : BitVec 64) (r : List (BitVec 8)), k ≤ 10 ∧ i = .int .i64 k ∧ acc = .int .u64 (un x) ∧ o = (if bad then none else rdU (10 - k) k x r) ∧ r.length ≤ l.length ∧ RdAt wr b r bad ∧ w.grownBy wr (some b)) (fun i _ _ => 10 - (intOf i).toNat)
  case atStart => exact ⟨0, 0#64, l, by omega, rfl, rfl, HO.out, Nat.le_refl _, HR.out, turn_refl _ _⟩
  case round =>
    obtain ⟨k, x, r, hk, rfl, rfl, hrd, hrl, hrr, hg⟩ := hrel
    have HRR := Lib.hid hrr
    have HD := Lib.hid hrd
    have HG := Lib.hid hg
    clear hrr hrd hg
    by_cases hlt : k < 10
    · cases bad with
      | true =>
        go_wp2_with (go_at_call 69; refine (take_no _ _ _ _ 1 (by omega) (by unfold maxLen; omega) HRR.out (.inl rfl)).mono ?_; rintro e w1 ⟨rfl, rfl⟩)
        go_ret2
        exact uintPost_none HD.out rfl ⟨HRR.out.failed, turn_trans HG.out (turn_fail _ _)⟩
      | false =>
        cases r with
        | nil =>
          go_wp2_with (go_at_call 69; refine (take_no _ _ _ _ 1 (by omega) (by unfold maxLen; omega) HRR.out (.inr (by simp))).mono ?_; rintro e w1 ⟨rfl, rfl⟩)
          go_ret2
          exact uintPost_none (by rw [HD.out, show 10 - k = (9 - k) + 1 by omega]; rfl) rfl ⟨HRR.out.failed, turn_trans HG.out (turn_fail _ _)⟩
        | cons c r =>
          have hl' : (c :: r).length ≤ maxLen := by unfold maxLen; omega
          have HL' := Lib.hid hl'
          clear hl'
          go_wp2_with fail
          go_at_call 69
          refine (take_one _ _ _ _ HL'.out HRR.out).mono ?_
          rintro e w1 ⟨g1, o1, cap1, rfl, hc1, hg1, hr1, ht1⟩
          have HR1 := Lib.hid hr1
          have HT1 := Lib.hid (turn_trans HG.out ht1)
          clear hr1 ht1
          have hcb := ub_bound c
          have hcn : ub c = (c.toNat : Int) := rfl
          have hand : bits .and .u64 (ub c) 127 = un (Crc.reg c &&& 127#64) := by rw [← reg_ub, and_127]
          have hc0 : c = 0#8 ↔ ub c = 0 := ⟨fun h => by rw [h]; rfl, fun h => ub_inj h⟩
          have HC0 := Lib.hid hc0
          have HCN := Lib.hid hcn
          clear hc0 hcn
          generalize hn : ub c = n at *
          have HL1 := Lib.hid (show r.length ≤ l.length by have := hrl; simp at this; omega)
          have hval : bits .or .u64 (un x) (IntKind.u64.wrap (un (Crc.reg c &&& 127#64) * 2 ^ (7 * k))) = un (x ||| ((Crc.reg c &&& 127#64) <<< (7 * k))) := by rw [shl_un, or_un]
          by_cases h9 : k = 9
          · have H9 := Lib.hid h9
            have hd : ((k : Int) == 9) = true := by rw [beq_iff_eq]; omega
            have hk0 : (0 : Int) < (k : Int) := by omega
            clear h9
            by_cases h1 : 1 < n
            · go_wp2_with (go_at_call 70; refine (fail_any _ _ _ _ HR1.out).mono ?_; rintro e w2 ⟨rfl, rfl⟩)
              go_ret2
              exact uintPost_none (HD.out.trans (rdU_big H9.out (by have := HCN.out; omega))) rfl ⟨HR1.out.failed, turn_trans HT1.out (turn_fail _ _)⟩
            · by_cases h0 : n = 0
              · have H0 := Lib.hid h0
                have hq : (n == 0) = true := by rw [beq_iff_eq]; exact h0
                have hz128 : n < 128 := by omega
                clear h0
                go_wp2_with (go_at_call 70; refine (fail_any _ _ _ _ HR1.out).mono ?_; rintro e w2 ⟨rfl, rfl⟩)
                go_ret2
                exact uintPost_none (HD.out.trans (rdU_zero hlt (HC0.out.2 H0.out) (by omega))) rfl ⟨HR1.out.failed, turn_trans HT1.out (turn_fail _ _)⟩
              · have H0 := Lib.hid h0
                have hq : (n == 0) = false := by rw [beq_eq_false_iff_ne]; exact h0
                have hz128 : n < 128 := by omega
                clear h0
                go_wp2
                go_ret2
                exact uintPost_some (HD.out.trans (rdU_end hlt (by rintro ⟨_, h⟩; have := HCN.out; omega) (by have := HCN.out; omega) (by rintro ⟨h, _⟩; exact H0.out (HC0.out.1 h)))) rfl ⟨HR1.out, HT1.out⟩
          · have H9 := Lib.hid h9
            have hd : ((k : Int) == 9) = false := by rw [beq_eq_false_iff_ne]; omega
            clear h9
            by_cases h128 : n < 128
            · by_cases h0 : n = 0
              · have H0 := Lib.hid h0
                have hq : (n == 0) = true := by rw [beq_iff_eq]; exact h0
                have hz128 : n < 128 := by omega
                clear h0
                by_cases hk0 : 0 < k
                · go_wp2_with (go_at_call 70; refine (fail_any _ _ _ _ HR1.out).mono ?_; rintro e w2 ⟨rfl, rfl⟩)
                  go_ret2
                  exact uintPost_none (HD.out.trans (rdU_zero hlt (HC0.out.2 H0.out) hk0)) rfl ⟨HR1.out.failed, turn_trans HT1.out (turn_fail _ _)⟩
                · have HK := Lib.hid hk0
                  go_wp2
                  go_ret2
                  exact uintPost_some (HD.out.trans (rdU_end hlt (fun h => H9.out h.1) (by have := HCN.out; omega) (fun h => HK.out h.2))) rfl ⟨HR1.out, HT1.out⟩
              · have H0 := Lib.hid h0
                have hq : (n == 0) = false := by rw [beq_eq_false_iff_ne]; exact h0
                have hz128 : n < 128 := by omega
                clear h0
                go_wp2
                go_ret2
                exact uintPost_some (HD.out.trans (rdU_end hlt (fun h => H9.out h.1) (by have := HCN.out; omega) (fun h => H0.out (HC0.out.1 h.1)))) rfl ⟨HR1.out, HT1.out⟩
            · go_wp2
              go_roundw
              case rel => exact ⟨k + 1, _, r, by omega, by go_num, rfl, HD.out.trans (rdU_next hlt H9.out (by have := HCN.out; omega)), HL1.out, HR1.out, HT1.out⟩
              case measure => simp [intOf]; omega
    · go_wp2_with (go_at_call 70; refine (fail_any _ _ _ _ HRR.out).mono ?_; rintro e w1 ⟨rfl, rfl⟩)
      go_ret2
      exact uintPost_none (by rw [HD.out, show 10 - k = 0 by omega]; cases bad <;> rfl) rfl ⟨HRR.out.failed, turn_trans HG.out (turn_fail _ _)⟩
end Go.Proofs.Ythjcdikpomlpmaa
