/-
  Chapter 9 (codec): a reader of the reference: New, Int, Count, Bytes, Block.
-/
import Derived.Test.YthjcdikpomlpmaaLkN
namespace Go.Proofs.Ythjcdikpomlpmaa
open Go.RowKit
set_option linter.unusedVariables false
attribute [local go_sem] xor_un and_un or_un not_un wrap_ub

theorem cell_alloc_at (w : World) (cs : Array Value) (t : TypeId) (fr : Nat × Nat) (i : Nat) {n : Nat} (h : n = w.heap.size) : (w.alloc (.cells cs t fr)).cell? ⟨n, i, none⟩ = cs[i]? := by subst h; exact cell_alloc_any w cs t fr i
theorem turn_ext {w w' : World} (h : Ext w w') (o : Option Nat) : w.grownBy w' o := ⟨h.os, h.tape, h.output, h.below.size, fun k hk _ => h.block k hk⟩
theorem rnew_any (v : Value) (l : List (BitVec 8)) (w : World) (hl : l.length ≤ 100000) (h : SliceAt encB w v l) :
    Calls Try.prog 63 #[v] w fun e w' => ∃ b, e = .returned (.pointer (some ⟨b, 0, none⟩)) ∧ w.heap.size ≤ b ∧ RdAt w' b l false ∧ Below w.heap.size w w' := by
  obtain ⟨i0, hi, hz0, hz1, hz2⟩ := info_parts infoB
  have HA := Lib.hid h
  clear h
  go_enter Try.func63, Try.ntmps63
  go_wp2_with (at_builtin; refine wpList_append_slice (enc := encB) (fun _ => rfl) rfl _ _ 35 rfl w.heap.size 5 i0 (.int .u8 0) 1 Try.underlying35 hi hz0 hz1 hz2 rfl _ 0 [] rfl (World.ownsRow_lit w #[] 0 (Nat.le_refl _) (by decide) rfl) _ l rfl (HA.out.ext (Ext.alloc _ _)) (by unfold maxLen; omega) (by omega) (by simp) ?_; intro v1 w1 hown1 hgrow1; simp only [Nat.zero_add, List.nil_append] at hown1; have hb1 : Ext w w1 := ((Below.refl _ _).alloc (Nat.le_refl _) _).grown hgrow1 (by simp) (fun k hk => (by cases hk; exact Nat.le_refl _)); have HS1 := Lib.hid (OwnB.slice hown1); obtain ⟨ad1, cap1, rfl, _, _⟩ := OwnB.slice hown1; clear hown1 hgrow1)
  go_ret
  have hs1 := HS1.out.ext (Ext.alloc w1 (.cells #[.slice ad1 l.length cap1, .bool false] 101))
  refine ⟨_, rfl, hb1.size, ⟨by simp, ⟨_, ?_, hs1⟩, ?_, fun j => by simp, fun j c => ?_⟩, Below.alloc hb1 hb1.size _⟩
  · simp
  · simp
  · rw [cell_alloc_any]
    match j with
    | 0 => intro h; cases h
    | 1 => intro h; cases h
    | n + 2 => intro h; simp at h

set_option maxRecDepth 100000 in
set_option maxHeartbeats 800000 in
theorem rbytes_any (w : World) (b : Nat) (l : List (BitVec 8)) (bad : Bool) (hl : l.length ≤ 100000) (hbl : bad = true → l = []) (h : RdAt w b l bad) :
    Calls Try.prog 65 #[.pointer (some ⟨b, 0, none⟩)] w fun e w' => ReadPost IsBytes (.slice none 0 0) w b (rdB bad l) e w' := by
  obtain ⟨i0, hi, hz0, hz1, hz2⟩ := info_parts infoB
  have HR := Lib.hid h
  have HBL := Lib.hid hbl
  clear h hbl
  generalize ho : rdB bad l = o
  unfold rdB at ho
  have HO := Lib.hid ho
  clear ho
  go_enter Try.func65, Try.ntmps65
  go_wp2_with fail
  go_at_call 64
  refine (ruint_any _ _ _ _ hl HBL.out HR.out).mono ?_
  intro e w1 hu
  cases hr : rd bad l with
  | none =>
    rw [hr] at hu
    have hno : Hid (o = none) := by rw [hr] at HO; exact HO.out.symm
    obtain ⟨rfl, ha⟩ := hu
    have HA := Lib.hid ha
    clear ha hr
    go_wp2
    go_ret2
    exact readPost_none hno.out rfl HA.out
  | some p =>
    obtain ⟨x, r⟩ := p
    have hrl := rd_len hr
    rw [hr] at hu
    obtain ⟨n, hn⟩ : ∃ n, x.toNat = n := ⟨_, rfl⟩
    have hxn : encU x = .int .u64 (n : Int) := by show Value.int .u64 (un x) = _; unfold un; rw [hn]
    have hn64 : (n : Int) ≤ 18446744073709551615 := by have := x.isLt; omega
    obtain ⟨rfl, ha⟩ := hu
    rw [hxn]
    have HA := Lib.hid ha
    have HR1 := Lib.hid ha.1
    obtain ⟨hlt, ⟨v, hv, hs⟩, hf, hfr, hnb⟩ := ha.1
    have HS := Lib.hid hs
    obtain ⟨ad, cap, rfl, hca, hcell⟩ := hs
    have hf0 := hfr 0
    have hcl : (r.length : Int) ≤ (cap : Int) := by omega
    by_cases hc : n ≤ r.length
    · have hso : Hid (o = some (r.take n, r.drop n)) := by rw [hr] at HO; simp only [hn, if_pos hc] at HO; exact HO.out.symm
      have hc1 : (n : Int) ≤ (r.length : Int) := by omega
      have hc2 : (n : Int) ≤ (cap : Int) := by omega
      have HT := Lib.hid ((HS.out.take n hc).ext (Ext.alloc w1 (.cells #[] 5)))
      have HC := Lib.hid hc
      have HCA := Lib.hid hca
      have htl : Hid ((r.take n).length = n) := by show _ = _; rw [List.length_take]; omega
      clear hr hcell ha hfr hnb hn hxn hca
      go_wp2_with (at_builtin; refine wpList_append_slice (enc := encB) (fun _ => rfl) rfl _ _ 35 rfl w1.heap.size 5 i0 (.int .u8 0) 1 Try.underlying35 hi hz0 hz1 hz2 rfl _ 0 [] rfl (World.ownsRow_lit w1 #[] 0 (Nat.le_refl _) (by decide) rfl) _ (r.take n) rfl HT.out (by unfold maxLen; rw [htl.out]; omega) (by rw [htl.out]; omega) (by simp) ?_; intro v2 w2 hown2 hgrow2; simp only [Nat.zero_add, List.nil_append] at hown2; have hb2 : Ext w1 w2 := ((Below.refl _ _).alloc (Nat.le_refl _) _).grown hgrow2 (by simp) (fun k hk => (by cases hk; exact Nat.le_refl _)); have HO2 := Lib.hid (OwnB.slice hown2); have hc2 := hb2.cells; have hf2 := hb2.frozens; have hs2 := Nat.lt_of_lt_of_le hlt hb2.size; clear hown2 hgrow2)
      all_goals
        go_ret2
        have hv2 : w2.cell? ⟨b, 0, none⟩ = some (.slice ad r.length cap) := (hb2.cell b 0 hlt).trans hv
        have hr2 := HR1.out.ext hb2
        have hfin : ∀ v' : Value, SliceAt encB w1 v' (r.drop n) → RdAt (w2.setCell ⟨b, 0, none⟩ v') b (r.drop n) false := fun v' hv' =>
          ⟨by simpa using hs2, ⟨v', set_same hv2, (hv'.ext hb2).set hv2 slice_ne⟩, by rw [set_off (by decide)]; exact hr2.flag, fun j => by simpa using hr2.free j, nb_set hr2.nb hv2 hv'.ne⟩
        have htn : ∀ v' : Value, w.grownBy (w2.setCell ⟨b, 0, none⟩ v') (some b) := fun v' => turn_trans HA.out.2 (turn_trans (turn_ext hb2 (some b)) (turn_set w2 b 0 v'))
        first
          | exact readPost_some hso.out rfl (SliceAt.set HO2.out hv2 slice_ne) ⟨hfin _ (HS.out.drop n HC.out), htn _⟩
          | exact readPost_some hso.out rfl (SliceAt.set HO2.out hv2 slice_ne) ⟨hfin _ (HS.out.drop_all n HC.out (by omega)), htn _⟩
    · have hno : Hid (o = none) := by rw [hr] at HO; simp only [hn, if_neg hc] at HO; exact HO.out.symm
      have hc1 : (r.length : Int) < (n : Int) := by omega
      clear hr hcell hca hc hxn ha hfr hnb hn
      go_wp2_with (go_at_call 71; refine (rfail_any _ _ _ _ HR1.out).mono ?_; rintro e w2 ⟨rfl, rfl⟩)
      go_ret2
      exact readPost_none hno.out rfl ⟨HR1.out.failed, turn_trans HA.out.2 (turn_fail _ _)⟩

end Go.Proofs.Ythjcdikpomlpmaa
