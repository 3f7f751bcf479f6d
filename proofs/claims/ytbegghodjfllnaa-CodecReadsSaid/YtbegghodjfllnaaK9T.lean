/-
  Chapter 9 (codec): the walk of CodecReads.
-/
import Derived.Test.YtbegghodjfllnaaK9S
namespace Go.Proofs.Ytbegghodjfllnaa
open Go.RowKit
set_option linter.unusedVariables false

/-- between two reads -/
def Mid (w0 wr : World) (b1 b2 : Nat) : Prop := (∃ l bad, RdAt wr b1 l bad ∧ RdAt wr b2 l bad ∧ l.length ≤ 200 ∧ (bad = true → l = [])) ∧ Ext w0 wr

set_option maxHeartbeats 2000000 in
theorem codecReads_walk (v vk : Value) (l lk : List (BitVec 8)) (w : World) (hl : l.length ≤ maxLen) (hlk : lk.length ≤ maxLen) (h : SliceAt encB w v l) (hk : SliceAt encB w vk lk) :
    Calls Try.prog 8 #[v, vk] w fun e w' => e = .returned (.bool true) ∧ Below w.heap.size w w' := by
  have HA := Lib.hid h
  have HK := Lib.hid hk
  unfold maxLen at hl hlk
  obtain ⟨ad, cap, rfl, hca, _⟩ := h
  obtain ⟨adk, capk, rfl, hcak, hkc⟩ := hk
  by_cases hs : l.length ≤ 200 ∧ lk.length ≤ 20
  · obtain ⟨hs1, hs2⟩ := hs
    have HKC := Lib.hid hkc
    have HCK := Lib.hid hcak
    clear hkc hca hcak
    go_enter Try.func8, Try.ntmps8
    go_wp2_with fail
    go_at_call 10
    refine (awake_any _).mono ?_
    rintro e w1 ⟨rfl, hb1⟩
    go_wp2_with fail
    go_at_call 20
    refine (new_any _ l _ (by omega) (HA.out.ext hb1)).mono ?_
    rintro e w2 ⟨b1, rfl, hn1, hr1, hb2⟩
    have hx2 : Ext w w2 := Ext.trans hb1 hb2
    have hl1 := hr1.lt
    have HR1 := Lib.hid hr1
    clear hr1
    go_wp2_with fail
    go_at_call 28
    refine (rnew_any _ l _ (by omega) (HA.out.ext hx2)).mono ?_
    rintro e w3 ⟨b2, rfl, hn2, hr2, hb3⟩
    have hx3 : Ext w w3 := hx2.trans hb3
    have HR2 := Lib.hid hr2
    have HR1' := Lib.hid (HR1.out.ext hb3)
    have hbw1 : w.heap.size ≤ b1 := by have := Ext.size hb1; omega
    have hbw2 : w.heap.size ≤ b2 := by omega
    have hne : b1 ≠ b2 := by omega
    have HNE := Lib.hid hne
    clear hr2 hne
    go_wp2_with fail
    go_loopw [7] (fun i wr => ∃ k : Nat, k ≤ lk.length ∧ i = .int .i64 k ∧ Mid w wr b1 b2) (fun i _ => lk.length - (intOf i).toNat)
    case atStart => exact ⟨0, by omega, rfl, ⟨l, false, HR1'.out, HR2.out, by omega, fun h => by cases h⟩, hx3⟩
    case round =>
      obtain ⟨k, hkl, rfl, ⟨l', bad, hr1, hr2, hl', hbl⟩, hx⟩ := hrel
      have HQ1 := Lib.hid hr1
      have HQ2 := Lib.hid hr2
      have HBL := Lib.hid hbl
      have hxs := hx.size
      clear hr1 hr2 hbl
      by_cases hlt : k < lk.length
      · have hcell : ∃ g off, adk = some ⟨g, off, none⟩ ∧ wr.cell? ⟨g, off + k, none⟩ = some (encB (lk[k]'hlt)) := by
          rcases HKC.out with ⟨h0, _⟩ | ⟨g, off, h1, h2, h3⟩
          · rw [h0] at hlt; simp at hlt
          · exact ⟨g, off, h1, (hx.cell g _ h2).trans (h3 k hlt)⟩
        obtain ⟨g, off, rfl, hcg⟩ := hcell
        generalize lk[k]'hlt = c at *
        go_wp2_with fail
        go_at_call 29
        refine (read_any _ _ _ l' bad c (by omega) HBL.out HNE.out HQ1.out HQ2.out).mono ?_
        rintro e w4 ⟨rfl, ⟨l'', bad', hr3, hr4, hl'', hbl'⟩, hbe⟩
        have HQ3 := Lib.hid hr3
        have HQ4 := Lib.hid hr4
        have HBL' := Lib.hid hbl'
        have HX4 := Lib.hid (Below.trans hx (hbe w.heap.size hbw1 hbw2 hxs))
        have hl200 : l''.length ≤ 100000 := by omega
        have hl201 : l''.length ≤ 200 := by omega
        clear hr3 hr4 hbl' hbe
        go_wp2_with fail
        go_at_call 24
        refine (left_any _ _ l'' bad' hl200 HQ3.out).mono ?_
        rintro e w5 ⟨rfl, rfl⟩
        go_wp2_with fail
        go_at_call 30
        refine (rleft_any _ _ l'' bad' hl200 HQ4.out).mono ?_
        rintro e w5 ⟨rfl, rfl⟩
        go_wp2_with fail
        go_at_call 26
        refine (done_any _ _ l'' bad' hl200 HQ3.out).mono ?_
        rintro e w5 ⟨rfl, rfl⟩
        go_wp2_with fail
        go_at_call 31
        refine (rdone_any _ _ l'' bad' hl200 HQ4.out).mono ?_
        rintro e w5 ⟨rfl, rfl⟩
        go_wp2_with fail
        go_roundw
        case rel => exact ⟨k + 1, by omega, by go_num, ⟨l'', bad', HQ3.out, HQ4.out, hl201, HBL'.out⟩, HX4.out⟩
        case measure => simp [intOf]; omega
      · have hl200 : l'.length ≤ 100000 := by omega
        go_wp2_with fail
        go_at_call 24
        refine (left_any _ _ l' bad hl200 HQ1.out).mono ?_
        rintro e w5 ⟨rfl, rfl⟩
        go_wp2_with fail
        go_at_call 30
        refine (rleft_any _ _ l' bad hl200 HQ2.out).mono ?_
        rintro e w5 ⟨rfl, rfl⟩
        go_wp2_with fail
        go_at_call 26
        refine (done_any _ _ l' bad hl200 HQ1.out).mono ?_
        rintro e w5 ⟨rfl, rfl⟩
        go_wp2_with fail
        go_at_call 31
        refine (rdone_any _ _ l' bad hl200 HQ2.out).mono ?_
        rintro e w5 ⟨rfl, rfl⟩
        go_wp2_with fail
        go_ret
        exact ⟨rfl, hx⟩
  · have hs' : (200 : Int) < (l.length : Int) ∨ (l.length : Int) ≤ 200 ∧ (20 : Int) < (lk.length : Int) := by omega
    clear hs hkc
    rcases hs' with h1 | ⟨h1, h2⟩
    all_goals
      go_enter Try.func8, Try.ntmps8
      go_wp2_with fail
      go_at_call 10
      refine (awake_any _).mono ?_
      rintro e w1 ⟨rfl, hb1⟩
      go_wp2_with fail
      go_ret
      exact ⟨rfl, hb1⟩
end Go.Proofs.Ytbegghodjfllnaa
