/-
  Chapter 9 (codec): a reader of the reference: New, Int, Count, Bytes, Block.
-/
import Derived.Test.YtbegghodjfllnaaK9N
namespace Go.Proofs.Ytbegghodjfllnaa
open Go.RowKit
set_option linter.unusedVariables false
attribute [local go_sem] xor_un and_un or_un not_un wrap_ub

theorem cell_alloc_at (w : World) (cs : Array Value) (t : TypeId) (fr : Nat × Nat) (i : Nat) {n : Nat} (h : n = w.heap.size) : (w.alloc (.cells cs t fr)).cell? ⟨n, i, none⟩ = cs[i]? := by subst h; exact cell_alloc_any w cs t fr i
theorem turn_ext {w w' : World} (h : Ext w w') (o : Option Nat) : w.grownBy w' o := ⟨h.os, h.tape, h.output, h.below.size, fun k hk _ => h.block k hk⟩
theorem rnew_any (v : Value) (l : List (BitVec 8)) (w : World) (hl : l.length ≤ 100000) (h : SliceAt encB w v l) :
    Calls Try.prog 28 #[v] w fun e w' => ∃ b, e = .returned (.pointer (some ⟨b, 0, none⟩)) ∧ w.heap.size ≤ b ∧ RdAt w' b l false ∧ Below w.heap.size w w' := by
  obtain ⟨i0, hi, hz0, hz1, hz2⟩ := info_parts infoB
  have HA := Lib.hid h
  clear h
  go_enter Try.func28, Try.ntmps28
  go_wp2_with (at_builtin; refine wpList_append_slice (enc := encB) (fun _ => rfl) rfl _ _ 25 rfl w.heap.size 5 i0 (.int .u8 0) 1 Try.underlying25 hi hz0 hz1 hz2 rfl _ 0 [] rfl (World.ownsRow_lit w #[] 0 (Nat.le_refl _) (by decide) rfl) _ l rfl (HA.out.ext (Ext.alloc _ _)) (by unfold maxLen; omega) (by omega) (by simp) ?_; intro v1 w1 hown1 hgrow1; simp only [Nat.zero_add, List.nil_append] at hown1; have hb1 : Ext w w1 := ((Below.refl _ _).alloc (Nat.le_refl _) _).grown hgrow1 (by simp) (fun k hk => (by cases hk; exact Nat.le_refl _)); have HS1 := Lib.hid (OwnB.slice hown1); obtain ⟨ad1, cap1, rfl, _, _⟩ := OwnB.slice hown1; clear hown1 hgrow1)
  go_ret
  have hs1 := HS1.out.ext (Ext.alloc w1 (.cells #[.slice ad1 l.length cap1, .bool false] 64))
  refine ⟨_, rfl, hb1.size, ⟨by simp, ⟨_, ?_, hs1⟩, ?_, fun j => by simp, fun j c => ?_⟩, Below.alloc hb1 hb1.size _⟩
  · simp
  · simp
  · rw [cell_alloc_any]
    match j with
    | 0 => intro h; cases h
    | 1 => intro h; cases h
    | n + 2 => intro h; simp at h

set_option maxHeartbeats 400000 in
theorem rint_any (w : World) (b : Nat) (l : List (BitVec 8)) (bad : Bool) (hl : l.length ≤ 100000) (hbl : bad = true → l = []) (h : RdAt w b l bad) :
    Calls Try.prog 36 #[.pointer (some ⟨b, 0, none⟩)] w fun e w' => ReadPost IsInt (.int .i64 0) w b (rdI bad l) e w' := by
  have HR := Lib.hid h
  have HBL := Lib.hid hbl
  clear h hbl
  generalize ho : rdI bad l = o
  unfold rdI at ho
  have HO := Lib.hid ho
  clear ho
  go_enter Try.func36, Try.ntmps36
  go_wp2_with fail
  go_at_call 35
  refine (ruint_any _ _ _ _ hl HBL.out HR.out).mono ?_
  intro e w1 hu
  cases hr : rd bad l with
  | none =>
    rw [hr] at hu
    have hno : Hid (o = none) := by rw [hr] at HO; exact HO.out.symm
    obtain ⟨rfl, ha⟩ := hu
    have HA := Lib.hid ha
    clear ha hr
    go_wp2
    go_ret2
    exact readPost_none hno.out rfl HA.out
  | some p =>
    obtain ⟨x, r⟩ := p
    rw [hr] at hu
    have hso : Hid (o = some (unz x, r)) := by rw [hr] at HO; exact HO.out.symm
    obtain ⟨rfl, ha⟩ := hu
    have HA := Lib.hid ha
    clear ha hr
    have hxb := un_bound x
    have hxn : un x = (x.toNat : Int) := rfl
    have HXN := Lib.hid hxn
    clear hxn
    by_cases hm : un x % 2 = 0
    · have HU : Hid (un x / 2 = unz x) := by
        show _ = _; unfold unz; rw [if_pos (by have := HXN.out; omega), HXN.out]; omega
      have hq : (un x % 2 == 0) = true := by rw [beq_iff_eq]; exact hm
      clear hm
      go_wp2
      go_ret2
      exact readPost_some hso.out rfl (show _ = _ by rw [← HU.out]; rfl) HA.out
    · have HU : Hid (-(un x / 2) - 1 = unz x) := by
        show _ = _; unfold unz; rw [if_neg (by have := HXN.out; omega), HXN.out]; omega
      have hq : (un x % 2 == 0) = false := by rw [beq_eq_false_iff_ne]; exact hm
      clear hm
      go_wp2
      go_ret2
      exact readPost_some hso.out rfl (show _ = _ by rw [← HU.out]; rfl) HA.out

set_option maxHeartbeats 400000 in
theorem rcount_any (w : World) (b : Nat) (l : List (BitVec 8)) (bad : Bool) (most : Int) (hm : -9223372036854775808 ≤ most ∧ most ≤ 9223372036854775807) (hl : l.length ≤ 100000) (hbl : bad = true → l = []) (h : RdAt w b l bad) :
    Calls Try.prog 39 #[.pointer (some ⟨b, 0, none⟩), .int .i64 most] w fun e w' => ReadPost IsInt (.int .i64 0) w b (rdC most bad l) e w' := by
  have HR := Lib.hid h
  have HBL := Lib.hid hbl
  clear h hbl
  generalize ho : rdC most bad l = o
  unfold rdC at ho
  have HO := Lib.hid ho
  clear ho
  go_enter Try.func39, Try.ntmps39
  go_wp2_with fail
  go_at_call 35
  refine (ruint_any _ _ _ _ hl HBL.out HR.out).mono ?_
  intro e w1 hu
  cases hr : rd bad l with
  | none =>
    rw [hr] at hu
    have hno : Hid (o = none) := by rw [hr] at HO; exact HO.out.symm
    obtain ⟨rfl, ha⟩ := hu
    have HA := Lib.hid ha
    clear ha hr
    go_wp2
    go_ret2
    exact readPost_none hno.out rfl HA.out
  | some p =>
    obtain ⟨x, r⟩ := p
    rw [hr] at hu
    obtain ⟨rfl, ha⟩ := hu
    have HA := Lib.hid ha
    have HR1 := Lib.hid ha.1
    clear ha
    have hxb := un_bound x
    by_cases hc : 0 ≤ most ∧ un x ≤ most
    · have hso : Hid (o = some (un x, r)) := by rw [hr] at HO; simp only [if_pos hc] at HO; exact HO.out.symm
      obtain ⟨hc1, hc2⟩ := hc
      clear hr
      go_wp2
      go_ret2
      exact readPost_some hso.out rfl rfl HA.out
    · have hno : Hid (o = none) := by rw [hr] at HO; simp only [if_neg hc] at HO; exact HO.out.symm
      clear hr
      by_cases hc0 : 0 ≤ most
      · have hc1 : most < un x := by omega
        clear hc
        go_wp2_with (go_at_call 40; refine (rfail_any _ _ _ _ HR1.out).mono ?_; rintro e w2 ⟨rfl, rfl⟩)
        go_ret2
        exact readPost_none hno.out rfl ⟨HR1.out.failed, turn_trans HA.out.2 (turn_fail _ _)⟩
      · clear hc
        go_wp2_with (go_at_call 40; refine (rfail_any _ _ _ _ HR1.out).mono ?_; rintro e w2 ⟨rfl, rfl⟩)
        go_ret2
        exact readPost_none hno.out rfl ⟨HR1.out.failed, turn_trans HA.out.2 (turn_fail _ _)⟩

set_option maxHeartbeats 800000 in
theorem rbytes_any (w : World) (b : Nat) (l : List (BitVec 8)) (bad : Bool) (hl : l.length ≤ 100000) (hbl : bad = true → l = []) (h : RdAt w b l bad) :
    Calls Try.prog 37 #[.pointer (some ⟨b, 0, none⟩)] w fun e w' => ReadPost IsBytes (.slice none 0 0) w b (rdB bad l) e w' := by
  obtain ⟨i0, hi, hz0, hz1, hz2⟩ := info_parts infoB
  have HR := Lib.hid h
  have HBL := Lib.hid hbl
  clear h hbl
  generalize ho : rdB bad l = o
  unfold rdB at ho
  have HO := Lib.hid ho
  clear ho
  go_enter Try.func37, Try.ntmps37
  go_wp2_with fail
  go_at_call 35
  refine (ruint_any _ _ _ _ hl HBL.out HR.out).mono ?_
  intro e w1 hu
  cases hr : rd bad l with
  | none =>
    rw [hr] at hu
    have hno : Hid (o = none) := by rw [hr] at HO; exact HO.out.symm
    obtain ⟨rfl, ha⟩ := hu
    have HA := Lib.hid ha
    clear ha hr
    go_wp2
    go_ret2
    exact readPost_none hno.out rfl HA.out
  | some p =>
    obtain ⟨x, r⟩ := p
    have hrl := rd_len hr
    rw [hr] at hu
    obtain ⟨n, hn⟩ : ∃ n, x.toNat = n := ⟨_, rfl⟩
    have hxn : encU x = .int .u64 (n : Int) := by show Value.int .u64 (un x) = _; unfold un; rw [hn]
    have hn64 : (n : Int) ≤ 18446744073709551615 := by have := x.isLt; omega
    obtain ⟨rfl, ha⟩ := hu
    rw [hxn]
    have HA := Lib.hid ha
    have HR1 := Lib.hid ha.1
    obtain ⟨hlt, ⟨v, hv, hs⟩, hf, hfr, hnb⟩ := ha.1
    have HS := Lib.hid hs
    obtain ⟨ad, cap, rfl, hca, hcell⟩ := hs
    have hf0 := hfr 0
    have hcl : (r.length : Int) ≤ (cap : Int) := by omega
    by_cases hc : n ≤ r.length
    · have hso : Hid (o = some (r.take n, r.drop n)) := by rw [hr] at HO; simp only [hn, if_pos hc] at HO; exact HO.out.symm
      have hc1 : (n : Int) ≤ (r.length : Int) := by omega
      have hc2 : (n : Int) ≤ (cap : Int) := by omega
      have HT := Lib.hid ((HS.out.take n hc).ext (Ext.alloc w1 (.cells #[] 5)))
      have HC := Lib.hid hc
      have HCA := Lib.hid hca
      have htl : Hid ((r.take n).length = n) := by show _ = _; rw [List.length_take]; omega
      clear hr hcell ha hfr hnb hn hxn hca
      go_wp2_with (at_builtin; refine wpList_append_slice (enc := encB) (fun _ => rfl) rfl _ _ 25 rfl w1.heap.size 5 i0 (.int .u8 0) 1 Try.underlying25 hi hz0 hz1 hz2 rfl _ 0 [] rfl (World.ownsRow_lit w1 #[] 0 (Nat.le_refl _) (by decide) rfl) _ (r.take n) rfl HT.out (by unfold maxLen; rw [htl.out]; omega) (by rw [htl.out]; omega) (by simp) ?_; intro v2 w2 hown2 hgrow2; simp only [Nat.zero_add, List.nil_append] at hown2; have hb2 : Ext w1 w2 := ((Below.refl _ _).alloc (Nat.le_refl _) _).grown hgrow2 (by simp) (fun k hk => (by cases hk; exact Nat.le_refl _)); have HO2 := Lib.hid (OwnB.slice hown2); have hc2 := hb2.cells; have hf2 := hb2.frozens; have hs2 := Nat.lt_of_lt_of_le hlt hb2.size; clear hown2 hgrow2)
      all_goals
        go_ret2
        have hv2 : w2.cell? ⟨b, 0, none⟩ = some (.slice ad r.length cap) := (hb2.cell b 0 hlt).trans hv
        have hr2 := HR1.out.ext hb2
        have hfin : ∀ v' : Value, SliceAt encB w1 v' (r.drop n) → RdAt (w2.setCell ⟨b, 0, none⟩ v') b (r.drop n) false := fun v' hv' =>
          ⟨by simpa using hs2, ⟨v', set_same hv2, (hv'.ext hb2).set hv2 slice_ne⟩, by rw [set_off (by decide)]; exact hr2.flag, fun j => by simpa using hr2.free j, nb_set hr2.nb hv2 hv'.ne⟩
        have htn : ∀ v' : Value, w.grownBy (w2.setCell ⟨b, 0, none⟩ v') (some b) := fun v' => turn_trans HA.out.2 (turn_trans (turn_ext hb2 (some b)) (turn_set w2 b 0 v'))
        first
          | exact readPost_some hso.out rfl (SliceAt.set HO2.out hv2 slice_ne) ⟨hfin _ (HS.out.drop n HC.out), htn _⟩
          | exact readPost_some hso.out rfl (SliceAt.set HO2.out hv2 slice_ne) ⟨hfin _ (HS.out.drop_all n HC.out (by omega)), htn _⟩
    · have hno : Hid (o = none) := by rw [hr] at HO; simp only [hn, if_neg hc] at HO; exact HO.out.symm
      have hc1 : (r.length : Int) < (n : Int) := by omega
      clear hr hcell hca hc hxn ha hfr hnb hn
      go_wp2_with (go_at_call 40; refine (rfail_any _ _ _ _ HR1.out).mono ?_; rintro e w2 ⟨rfl, rfl⟩)
      go_ret2
      exact readPost_none hno.out rfl ⟨HR1.out.failed, turn_trans HA.out.2 (turn_fail _ _)⟩

set_option maxRecDepth 100000 in
set_option maxHeartbeats 1600000 in
theorem rblock_any (w : World) (b : Nat) (l : List (BitVec 8)) (bad : Bool) (hl : l.length ≤ 100000) (hbl : bad = true → l = []) (h : RdAt w b l bad) :
    Calls Try.prog 38 #[.pointer (some ⟨b, 0, none⟩)] w fun e w' => ReadPost IsBlock zeroX w b (rdX bad l) e w' := by
  have hlt := h.lt
  have hbf : b ≠ w.heap.size := by omega
  have hbf2 : b ≠ w.heap.size + 1 := by omega
  have HRW := Lib.hid h
  generalize ho : rdX bad l = o
  unfold rdX at ho
  by_cases hc : l.length < 8
  · have hno : Hid (o = none) := by
      show _ = _
      split at ho
      · exact ho.symm
      · rw [if_neg (by omega)] at ho; exact ho.symm
    have HX := Lib.hid (((h.ext (Ext.alloc w (.cells #[.int .u8 0, .int .u8 0, .int .u8 0, .int .u8 0, .int .u8 0, .int .u8 0, .int .u8 0, .int .u8 0] 31))).ext (Ext.alloc _ (.cells #[.int .u8 0, .int .u8 0, .int .u8 0, .int .u8 0, .int .u8 0, .int .u8 0, .int .u8 0, .int .u8 0] 31))).ext (Ext.drew _))
    have HF := Lib.hid (((HRW.out.failed.ext (Ext.alloc _ (.cells #[.int .u8 0, .int .u8 0, .int .u8 0, .int .u8 0, .int .u8 0, .int .u8 0, .int .u8 0, .int .u8 0] 31))).ext (Ext.alloc _ (.cells #[.int .u8 0, .int .u8 0, .int .u8 0, .int .u8 0, .int .u8 0, .int .u8 0, .int .u8 0, .int .u8 0] 31))).ext (Ext.drew _))
    have HG := Lib.hid (turn_trans (turn_trans (turn_trans (turn_fail w b) (turn_alloc (.cells #[.int .u8 0, .int .u8 0, .int .u8 0, .int .u8 0, .int .u8 0, .int .u8 0, .int .u8 0, .int .u8 0] 31) (some b))) (turn_alloc (.cells #[.int .u8 0, .int .u8 0, .int .u8 0, .int .u8 0, .int .u8 0, .int .u8 0, .int .u8 0, .int .u8 0] 31) (some b))) (turn_ext (Ext.drew _) (some b)))
    obtain ⟨_, ⟨v, hv, hs⟩, hf, hfr, hnb⟩ := h
    obtain ⟨ad, cap, rfl, hca, hs⟩ := hs
    have hc1 : (l.length : Int) < 8 := by omega
    clear ho hs hfr hnb hca hc
    unfold failW at HF HG
    go_enter Try.func38, Try.ntmps38
    go_wp2
    refine wp_region_fix (fun w' => ∀ o, w'.cell? ⟨w.heap.size + 1, o, none⟩ = ((w.alloc (.cells #[.int .u8 0, .int .u8 0, .int .u8 0, .int .u8 0, .int .u8 0, .int .u8 0, .int .u8 0, .int .u8 0] 31)).alloc (.cells #[.int .u8 0, .int .u8 0, .int .u8 0, .int .u8 0, .int .u8 0, .int .u8 0, .int .u8 0, .int .u8 0] 31)).cell? ⟨w.heap.size + 1, o, none⟩) [(0, true), (1, true), (2, false), (3, false), (4, true)] (by kernel_rfl) (by kernel_rfl) ?_ ?_
    · intro o; rfl
    iterate 2 (first
     | (refine fix_move rfl rfl (by rfl) (by rfl) ?_; simp only [Act.put, List.setIfInBounds_toArray, List.set_cons_zero, List.set_cons_succ])
     | (apply fix_take rfl (by rfl)
        · intro w' hSc
          go_simp
          (try simp (disch := omega) only [i64_id, u64_id, ↓IntWalk.iteOmega, Int.tdiv_eq_ediv_of_nonneg, Int.tmod_eq_emod_of_nonneg])
          try rfl
        simp only [Act.put, List.setIfInBounds_toArray, List.set_cons_zero, List.set_cons_succ])
     | (refine fix_pass rfl (by rfl) ?_; simp only [Act.put, List.setIfInBounds_toArray, List.set_cons_zero, List.set_cons_succ]))
    (refine fix_do rfl (by rfl) (fun K hK => ?_)
     go_simp
     go_at_call 40
     refine (rfail_any _ _ _ _ HX.out).mono ?_
     rintro e w1 ⟨rfl, rfl⟩
     unfold failW
     refine hK _ _ ?_ ?_
     · intro o
       rw [set_block hbf2, set_block hbf2]; rfl
     clear hK K
     (try simp only [Act.put, List.setIfInBounds_toArray, List.set_cons_zero, List.set_cons_succ]))
    (refine fix_do rfl (by rfl) (fun K hK => ?_)
     go_simp
     refine hK _ _ ?_ ?_
     · intro o
       show World.cell? (World.alloc _ _) _ = World.cell? (World.alloc _ _) _
       rw [cell_alloc_at _ _ _ _ _ (by simp), cell_alloc_at _ _ _ _ _ (by simp)]
     clear hK K
     (try simp only [Act.put, List.setIfInBounds_toArray, List.set_cons_zero, List.set_cons_succ]))
    iterate 1 (first
     | (refine fix_move rfl rfl (by rfl) (by rfl) ?_; simp only [Act.put, List.setIfInBounds_toArray, List.set_cons_zero, List.set_cons_succ])
     | (apply fix_take rfl (by rfl)
        · intro w' hSc
          go_simp
          (try simp (disch := omega) only [i64_id, u64_id, ↓IntWalk.iteOmega, Int.tdiv_eq_ediv_of_nonneg, Int.tmod_eq_emod_of_nonneg])
          try rfl
        simp only [Act.put, List.setIfInBounds_toArray, List.set_cons_zero, List.set_cons_succ])
     | (refine fix_pass rfl (by rfl) ?_; simp only [Act.put, List.setIfInBounds_toArray, List.set_cons_zero, List.set_cons_succ]))
    refine fix_nil ?_
    go_wp2_with fail
    refine bodyPost_ret (v := .tuple #[zeroX, .int .i64 5]) ?_ rfl ?_
    · unfold zeroX
      simp only [results, Try.results38]
      go_simp
    · exact readPost_none hno.out rfl ⟨HF.out, HG.out⟩
  · have hl8 : 8 ≤ l.length := by omega
    have hb : bad = false := by
      cases bad
      · rfl
      · have := hbl rfl; rw [this] at hl8; simp at hl8
    subst hb
    have hso : Hid (o = some (l.take 8, l.drop 8)) := by
      show _ = _
      rw [if_neg (by simp), if_pos hl8] at ho; exact ho.symm
    clear ho hc h hbl
    obtain ⟨_, ⟨v, hv, hs⟩, hf, hfr, hnb⟩ := HRW.out
    have HS := Lib.hid hs
    obtain ⟨g, off, cap, rfl, hca, hg, hcell⟩ := hs.some_of (by omega)
    have hgb : g ≠ b := fun e => by subst e; exact hnb _ _ (hcell 0 (by omega))
    have hbg : b ≠ g := Ne.symm hgb
    have hfin : ∀ v' : Value, (v' = .slice (some ⟨g, off + 8, none⟩) (l.length - 8) (cap - 8) ∨ cap = 8 ∧ v' = .slice (some ⟨g, off, none⟩) (l.length - 8) 0) → RdAt (w.setCell ⟨b, 0, none⟩ v') b (l.drop 8) false := by
      intro v' hv'
      have hx : SliceAt encB w v' (l.drop 8) := by
        rcases hv' with rfl | ⟨hc, rfl⟩
        · exact hs.drop 8 hl8
        · exact hs.drop_all 8 hl8 hc
      refine ⟨by simpa using hlt, ⟨v', set_same hv, hx.set hv slice_ne⟩, ?_, fun j => by simpa using hfr j, nb_set hnb hv hx.ne⟩
      rw [set_off (by decide)]; exact hf
    have HFin := Lib.hid hfin
    have k0 : w.cell? ⟨g, off, none⟩ = some (encB (l[0]'(by omega))) := hcell 0 (by omega)
    have k1 : w.cell? ⟨g, off + 1, none⟩ = some (encB (l[1]'(by omega))) := hcell 1 (by omega)
    have k2 : w.cell? ⟨g, off + 2, none⟩ = some (encB (l[2]'(by omega))) := hcell 2 (by omega)
    have k3 : w.cell? ⟨g, off + 3, none⟩ = some (encB (l[3]'(by omega))) := hcell 3 (by omega)
    have k4 : w.cell? ⟨g, off + 4, none⟩ = some (encB (l[4]'(by omega))) := hcell 4 (by omega)
    have k5 : w.cell? ⟨g, off + 5, none⟩ = some (encB (l[5]'(by omega))) := hcell 5 (by omega)
    have k6 : w.cell? ⟨g, off + 6, none⟩ = some (encB (l[6]'(by omega))) := hcell 6 (by omega)
    have k7 : w.cell? ⟨g, off + 7, none⟩ = some (encB (l[7]'(by omega))) := hcell 7 (by omega)
    have hte : [l[0]'(by omega), l[1]'(by omega), l[2]'(by omega), l[3]'(by omega), l[4]'(by omega), l[5]'(by omega), l[6]'(by omega), l[7]'(by omega)] = l.take 8 := by
      obtain ⟨x0, x1, x2, x3, x4, x5, x6, x7, r, rfl⟩ := ten hl8
      rfl
    generalize l[0]'(by omega) = x0 at *
    generalize l[1]'(by omega) = x1 at *
    generalize l[2]'(by omega) = x2 at *
    generalize l[3]'(by omega) = x3 at *
    generalize l[4]'(by omega) = x4 at *
    generalize l[5]'(by omega) = x5 at *
    generalize l[6]'(by omega) = x6 at *
    generalize l[7]'(by omega) = x7 at *
    have HTE := Lib.hid hte
    have hgs : g ≠ w.heap.size := by omega
    have hf0 := hfr 0
    have HCA := Lib.hid hca
    have hc8 : (8 : Int) ≤ (cap : Int) := by omega
    have hl8i : (8 : Int) ≤ (l.length : Int) := by omega
    clear hfin hcell hfr hnb hs hte hca
    have hg2 : g ≠ w.heap.size + 1 := by omega
    go_enter Try.func38, Try.ntmps38
    go_wp2
    refine wp_loop_rounds 9 ?_
    iterate 8 (rw [rounds_succ]; go_wp2)
    rw [rounds_succ]
    go_wp2
    all_goals
      refine bodyPost_ret (v := .tuple #[.agg #[encB x0, encB x1, encB x2, encB x3, encB x4, encB x5, encB x6, encB x7], .int .i64 0]) ?_ rfl ?_
      · simp only [results, Try.results38]
        go_simp
      · first
          | exact readPost_some hso.out rfl ⟨by rw [← HTE.out]; rfl, by rw [← HTE.out]; rfl⟩ ⟨((HFin.out _ (.inl rfl)).ext (Ext.alloc _ _)).ext (Ext.alloc _ _), turn_trans (turn_trans (turn_set _ _ _ _) (turn_alloc _ _)) (turn_alloc _ _)⟩
          | exact readPost_some hso.out rfl ⟨by rw [← HTE.out]; rfl, by rw [← HTE.out]; rfl⟩ ⟨((HFin.out _ (.inr ⟨by omega, rfl⟩)).ext (Ext.alloc _ _)).ext (Ext.alloc _ _), turn_trans (turn_trans (turn_set _ _ _ _) (turn_alloc _ _)) (turn_alloc _ _)⟩
end Go.Proofs.Ytbegghodjfllnaa
