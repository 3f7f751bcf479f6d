/-
  Chapter 9 (codec): the law's own function read: both readers read a value of a kind.
-/
import Derived.Test.YtbegghodjfllnaaK9P
import Derived.Test.YtbegghodjfllnaaK9E
import Derived.Test.YtbegghodjfllnaaEq
namespace Go.Proofs.Ytbegghodjfllnaa
open Go.RowKit
set_option linter.unusedVariables false
attribute [local go_sem] eq_strE ne_strE eqB_self

theorem size8 : ∀ w, (sizeOf 5).run Try.prog w = .ok 1 w := by intro w; kernel_rfl
theorem eq_block (d : Nat) (x0 x1 x2 x3 x4 x5 x6 x7 y0 y1 y2 y3 y4 y5 y6 y7 : BitVec 8) (w : World) : (Op.equalIn (d + 2) 31 (.agg #[encB x0, encB x1, encB x2, encB x3, encB x4, encB x5, encB x6, encB x7]) (.agg #[encB y0, encB y1, encB y2, encB y3, encB y4, encB y5, encB y6, encB y7])).run Try.prog w = .ok (eqB [x0, x1, x2, x3, x4, x5, x6, x7] [y0, y1, y2, y3, y4, y5, y6, y7]) w :=
  run_equalIn_block w d Try.underlying31 Try.underlying5 size8 [x0, x1, x2, x3, x4, x5, x6, x7] [y0, y1, y2, y3, y4, y5, y6, y7] rfl rfl
attribute [local go_sem] eq_block

theorem After.ext {w w1 w2 : World} {b : Nat} {l : List (BitVec 8)} {bad : Bool} (h : After w w1 b l bad) (e : Ext w1 w2) : After w w2 b l bad := ⟨h.1.ext e, turn_trans h.2 (turn_ext e _)⟩
/-- both readers have read the same, and nothing below them has turned -/
def Both (w w' : World) (b1 b2 n : Nat) : Prop :=
  (∃ l bad, RdAt w' b1 l bad ∧ RdAt w' b2 l bad ∧ l.length ≤ n ∧ (bad = true → l = [])) ∧ ∀ B, B ≤ b1 → B ≤ b2 → B ≤ w.heap.size → Below B w w'
theorem both_of {w w1 w2 : World} {b1 b2 n : Nat} {l : List (BitVec 8)} {bad : Bool} (h1 : After w w1 b1 l bad) (hnb : ∀ j c, w1.cell? ⟨b2, j, none⟩ ≠ some (encB c)) (h2 : After w1 w2 b2 l bad) (hne : b1 ≠ b2) (hl : l.length ≤ n) (hbl : bad = true → l = []) : Both w w2 b1 b2 n :=
  ⟨⟨l, bad, h1.1.turn hnb h2.2 hne, h2.1, hl, hbl⟩, fun B hB1 hB2 hB => Below.grown (Below.grown (Below.refl _ _) h1.2 hB (fun k hk => by cases hk; exact hB1)) h2.2 (Nat.le_trans hB h1.2.size) (fun k hk => by cases hk; exact hB2)⟩
def ReadBoth (w : World) (b1 b2 n : Nat) (e : Ending) (w' : World) : Prop := e = .returned (.bool true) ∧ Both w w' b1 b2 n
theorem rdI_len {bad : Bool} {l r : List (BitVec 8)} {x : Int} (h : rdI bad l = some (x, r)) : r.length ≤ l.length := by
  unfold rdI at h
  cases hr : rd bad l with
  | none => rw [hr] at h; cases h
  | some p => obtain ⟨y, q⟩ := p; rw [hr] at h; cases h; exact rd_len hr
theorem rdC_len {most : Int} {bad : Bool} {l r : List (BitVec 8)} {x : Int} (h : rdC most bad l = some (x, r)) : r.length ≤ l.length := by
  unfold rdC at h
  cases hr : rd bad l with
  | none => rw [hr] at h; cases h
  | some p =>
    obtain ⟨y, q⟩ := p; rw [hr] at h; simp only at h
    split at h
    · cases h; exact rd_len hr
    · cases h
theorem rdB_len {bad : Bool} {l r x : List (BitVec 8)} (h : rdB bad l = some (x, r)) : r.length ≤ l.length := by
  unfold rdB at h
  cases hr : rd bad l with
  | none => rw [hr] at h; cases h
  | some p =>
    obtain ⟨y, q⟩ := p; rw [hr] at h; simp only at h
    split at h
    · cases h; have := rd_len hr; rw [List.length_drop]; omega
    · cases h
theorem rdX_len {bad : Bool} {l r x : List (BitVec 8)} (h : rdX bad l = some (x, r)) : r.length ≤ l.length := by
  unfold rdX at h
  split at h
  · cases h
  split at h
  · cases h; rw [List.length_drop]; omega
  · cases h
theorem eight {α : Type} {l : List α} (h : l.length = 8) : ∃ x0 x1 x2 x3 x4 x5 x6 x7, l = [x0, x1, x2, x3, x4, x5, x6, x7] := by
  match l, h with
  | [x0, x1, x2, x3, x4, x5, x6, x7], _ => exact ⟨x0, x1, x2, x3, x4, x5, x6, x7, rfl⟩
theorem zeroX_eq : zeroX = .agg #[encB 0#8, encB 0#8, encB 0#8, encB 0#8, encB 0#8, encB 0#8, encB 0#8, encB 0#8] := rfl

set_option maxHeartbeats 800000 in
theorem read_0 (w : World) (b1 b2 : Nat) (l : List (BitVec 8)) (bad : Bool) (c : BitVec 8) (hl : l.length ≤ 1000) (hbl : bad = true → l = []) (hne : b1 ≠ b2) (h1 : RdAt w b1 l bad) (h2 : RdAt w b2 l bad) (hm : ub c % 5 = 0) :
    Calls Try.prog 29 #[.pointer (some ⟨b1, 0, none⟩), .pointer (some ⟨b2, 0, none⟩), encB c] w fun e w' => ReadBoth w b1 b2 l.length e w' := by
  have H1 := Lib.hid h1
  have H2 := Lib.hid h2
  have HBL := Lib.hid hbl
  have HNE := Lib.hid hne
  have hcb := ub_bound c
  have hq0 : (ub c % 5 == 0) = true := by rw [hm]; rfl
  have hl5 : l.length ≤ 100000 := by omega
  clear h1 h2 hbl hne hm
  go_enter Try.func29, Try.ntmps29
  go_wp2_with fail
  go_at_call 21
  refine (uint_any _ _ l bad hl5 H1.out).mono ?_
  intro e w1 hp
  cases hrd : rd bad l with
  | none =>
    rw [hrd] at hp
    have HD := Lib.hid hrd
    clear hrd
    obtain ⟨rfl, ha1⟩ := hp
    have HA1 := Lib.hid ha1
    have HS1 := Lib.hid (H2.out.turn H1.out.nb ha1.2 (Ne.symm HNE.out))
    clear ha1
    have HA1e := HA1
    have HS1n := HS1
    go_wp2_with fail
    go_at_call 35
    refine (ruint_any _ _ l bad hl5 HBL.out HS1n.out).mono ?_
    intro e w2 hp
    rw [HD.out] at hp
    obtain ⟨rfl, ha2⟩ := hp
    have HA2 := Lib.hid ha2
    clear ha2
    have HA2e := HA2
    go_wp2_with fail
    go_ret
    exact ⟨rfl, both_of HA1e.out HS1n.out.nb HA2e.out HNE.out (by simp) (fun _ => rfl)⟩
  | some p =>
    obtain ⟨x, r⟩ := p
    have hrl := rd_len hrd
    rw [hrd] at hp
    have HD := Lib.hid hrd
    clear hrd
    obtain ⟨rfl, ha1⟩ := hp
    have HA1 := Lib.hid ha1
    have HS1 := Lib.hid (H2.out.turn H1.out.nb ha1.2 (Ne.symm HNE.out))
    clear ha1
    have HA1e := HA1
    have HS1n := HS1
    go_wp2_with fail
    go_at_call 35
    refine (ruint_any _ _ l bad hl5 HBL.out HS1n.out).mono ?_
    intro e w2 hp
    rw [HD.out] at hp
    obtain ⟨rfl, ha2⟩ := hp
    have HA2 := Lib.hid ha2
    clear ha2
    have HA2e := HA2
    go_wp2_with fail
    go_ret
    exact ⟨rfl, both_of HA1e.out HS1n.out.nb HA2e.out HNE.out hrl (fun h => by cases h)⟩

set_option maxHeartbeats 800000 in
theorem read_1 (w : World) (b1 b2 : Nat) (l : List (BitVec 8)) (bad : Bool) (c : BitVec 8) (hl : l.length ≤ 1000) (hbl : bad = true → l = []) (hne : b1 ≠ b2) (h1 : RdAt w b1 l bad) (h2 : RdAt w b2 l bad) (hm : ub c % 5 = 1) :
    Calls Try.prog 29 #[.pointer (some ⟨b1, 0, none⟩), .pointer (some ⟨b2, 0, none⟩), encB c] w fun e w' => ReadBoth w b1 b2 l.length e w' := by
  have H1 := Lib.hid h1
  have H2 := Lib.hid h2
  have HBL := Lib.hid hbl
  have HNE := Lib.hid hne
  have hcb := ub_bound c
  have hq0 : (ub c % 5 == 0) = false := by rw [hm]; rfl
  have hq1 : (ub c % 5 == 1) = true := by rw [hm]; rfl
  have hl5 : l.length ≤ 100000 := by omega
  clear h1 h2 hbl hne hm
  go_enter Try.func29, Try.ntmps29
  go_wp2_with fail
  go_at_call 22
  refine (int_any _ _ l bad hl5 H1.out).mono ?_
  intro e w1 hp
  cases hrd : rdI bad l with
  | none =>
    rw [hrd] at hp
    have HD := Lib.hid hrd
    clear hrd
    obtain ⟨rfl, ha1⟩ := hp
    have HA1 := Lib.hid ha1
    have HS1 := Lib.hid (H2.out.turn H1.out.nb ha1.2 (Ne.symm HNE.out))
    clear ha1
    have HA1e := HA1
    have HS1n := HS1
    go_wp2_with fail
    go_at_call 36
    refine (rint_any _ _ l bad hl5 HBL.out HS1n.out).mono ?_
    intro e w2 hp
    rw [HD.out] at hp
    obtain ⟨rfl, ha2⟩ := hp
    have HA2 := Lib.hid ha2
    clear ha2
    have HA2e := HA2
    go_wp2_with fail
    go_ret
    exact ⟨rfl, both_of HA1e.out HS1n.out.nb HA2e.out HNE.out (by simp) (fun _ => rfl)⟩
  | some p =>
    obtain ⟨x, r⟩ := p
    have hrl := rdI_len hrd
    rw [hrd] at hp
    have HD := Lib.hid hrd
    clear hrd
    obtain ⟨v1, rfl, hv1, ha1⟩ := hp
    have hv1 : v1 = .int .i64 x := hv1
    subst hv1
    have HA1 := Lib.hid ha1
    have HS1 := Lib.hid (H2.out.turn H1.out.nb ha1.2 (Ne.symm HNE.out))
    clear ha1
    have HA1e := HA1
    have HS1n := HS1
    go_wp2_with fail
    go_at_call 36
    refine (rint_any _ _ l bad hl5 HBL.out HS1n.out).mono ?_
    intro e w2 hp
    rw [HD.out] at hp
    obtain ⟨v2, rfl, hv2, ha2⟩ := hp
    have hv2 : v2 = .int .i64 x := hv2
    subst hv2
    have HA2 := Lib.hid ha2
    clear ha2
    have HA2e := HA2
    go_wp2_with fail
    go_ret
    exact ⟨rfl, both_of HA1e.out HS1n.out.nb HA2e.out HNE.out hrl (fun h => by cases h)⟩

set_option maxHeartbeats 800000 in
theorem read_2 (w : World) (b1 b2 : Nat) (l : List (BitVec 8)) (bad : Bool) (c : BitVec 8) (hl : l.length ≤ 1000) (hbl : bad = true → l = []) (hne : b1 ≠ b2) (h1 : RdAt w b1 l bad) (h2 : RdAt w b2 l bad) (hm : ub c % 5 = 2) :
    Calls Try.prog 29 #[.pointer (some ⟨b1, 0, none⟩), .pointer (some ⟨b2, 0, none⟩), encB c] w fun e w' => ReadBoth w b1 b2 l.length e w' := by
  have H1 := Lib.hid h1
  have H2 := Lib.hid h2
  have HBL := Lib.hid hbl
  have HNE := Lib.hid hne
  have hcb := ub_bound c
  have hq0 : (ub c % 5 == 0) = false := by rw [hm]; rfl
  have hq1 : (ub c % 5 == 1) = false := by rw [hm]; rfl
  have hq2 : (ub c % 5 == 2) = true := by rw [hm]; rfl
  have hl5 : l.length ≤ 100000 := by omega
  clear h1 h2 hbl hne hm
  go_enter Try.func29, Try.ntmps29
  go_wp2_with fail
  go_at_call 23
  refine (bytes_any _ _ l bad hl5 H1.out).mono ?_
  intro e w1 hp
  cases hrd : rdB bad l with
  | none =>
    rw [hrd] at hp
    have HD := Lib.hid hrd
    clear hrd
    obtain ⟨rfl, ha1⟩ := hp
    have HA1 := Lib.hid ha1
    have HS1 := Lib.hid (H2.out.turn H1.out.nb ha1.2 (Ne.symm HNE.out))
    clear ha1
    have HA1e := HA1
    have HS1n := HS1
    go_wp2_with fail
    go_at_call 37
    refine (rbytes_any _ _ l bad hl5 HBL.out HS1n.out).mono ?_
    intro e w2 hp
    rw [HD.out] at hp
    obtain ⟨rfl, ha2⟩ := hp
    have HA2 := Lib.hid ha2
    clear ha2
    have HA2e := HA2
    have hcv := run_str (P := Try.prog) Try.underlying25 Try.underlying5 Try.underlying9 w2 _ _ SliceAt.nil
    go_wp2_with fail
    go_ret
    exact ⟨rfl, both_of HA1e.out HS1n.out.nb HA2e.out HNE.out (by simp) (fun _ => rfl)⟩
  | some p =>
    obtain ⟨x, r⟩ := p
    have hrl := rdB_len hrd
    rw [hrd] at hp
    have HD := Lib.hid hrd
    clear hrd
    obtain ⟨v1, rfl, hv1, ha1⟩ := hp
    have HV1 : Hid (SliceAt encB w1 v1 x) := hv1
    clear hv1
    have HA1 := Lib.hid ha1
    have HS1 := Lib.hid (H2.out.turn H1.out.nb ha1.2 (Ne.symm HNE.out))
    clear ha1
    have HA1e := HA1
    have HS1n := HS1
    go_wp2_with fail
    go_at_call 37
    refine (rbytes_any _ _ l bad hl5 HBL.out HS1n.out).mono ?_
    intro e w2 hp
    rw [HD.out] at hp
    obtain ⟨v2, rfl, hv2, ha2⟩ := hp
    have HV2 : Hid (SliceAt encB w2 v2 x) := hv2
    clear hv2
    have HV3 := Lib.hid (HV1.out.turn HS1.out.nb ha2.2)
    have HA2 := Lib.hid ha2
    clear ha2
    have HA2e := HA2
    have hcv1 := run_str (P := Try.prog) Try.underlying25 Try.underlying5 Try.underlying9 w2 _ _ HV3.out
    have hcv2 := run_str (P := Try.prog) Try.underlying25 Try.underlying5 Try.underlying9 w2 _ _ HV2.out
    go_wp2_with fail
    go_ret
    exact ⟨rfl, both_of HA1e.out HS1n.out.nb HA2e.out HNE.out hrl (fun h => by cases h)⟩

set_option maxHeartbeats 800000 in
theorem read_3 (w : World) (b1 b2 : Nat) (l : List (BitVec 8)) (bad : Bool) (c : BitVec 8) (hl : l.length ≤ 1000) (hbl : bad = true → l = []) (hne : b1 ≠ b2) (h1 : RdAt w b1 l bad) (h2 : RdAt w b2 l bad) (hm : ub c % 5 = 3) :
    Calls Try.prog 29 #[.pointer (some ⟨b1, 0, none⟩), .pointer (some ⟨b2, 0, none⟩), encB c] w fun e w' => ReadBoth w b1 b2 l.length e w' := by
  have H1 := Lib.hid h1
  have H2 := Lib.hid h2
  have HBL := Lib.hid hbl
  have HNE := Lib.hid hne
  have hcb := ub_bound c
  have hq0 : (ub c % 5 == 0) = false := by rw [hm]; rfl
  have hq1 : (ub c % 5 == 1) = false := by rw [hm]; rfl
  have hq2 : (ub c % 5 == 2) = false := by rw [hm]; rfl
  have hq3 : (ub c % 5 == 3) = true := by rw [hm]; rfl
  have hl5 : l.length ≤ 100000 := by omega
  clear h1 h2 hbl hne hm
  go_enter Try.func29, Try.ntmps29
  go_wp2_with fail
  go_at_call 27
  refine (block_any _ _ l bad hl5 H1.out).mono ?_
  intro e w1 hp
  cases hrd : rdX bad l with
  | none =>
    rw [hrd] at hp
    have HD := Lib.hid hrd
    clear hrd
    obtain ⟨rfl, ha1⟩ := hp
    have HA1 := Lib.hid ha1
    have HS1 := Lib.hid (H2.out.turn H1.out.nb ha1.2 (Ne.symm HNE.out))
    clear ha1
    rw [zeroX_eq]
    have HA1e := Lib.hid (HA1.out.ext (Ext.alloc w1 (.cells #[encB 0#8, encB 0#8, encB 0#8, encB 0#8, encB 0#8, encB 0#8, encB 0#8, encB 0#8] 31)))
    have HS1n := Lib.hid (HS1.out.ext (Ext.alloc w1 (.cells #[encB 0#8, encB 0#8, encB 0#8, encB 0#8, encB 0#8, encB 0#8, encB 0#8, encB 0#8] 31)))
    have hlt1 : w1.heap.size ≠ b2 := by have := HS1.out.lt; omega
    go_wp2_with fail
    go_at_call 38
    refine (rblock_any _ _ l bad hl5 HBL.out HS1n.out).mono ?_
    intro e w2 hp
    rw [HD.out] at hp
    obtain ⟨rfl, ha2⟩ := hp
    have HA2 := Lib.hid ha2
    clear ha2
    rw [zeroX_eq]
    have HA2e := Lib.hid (HA2.out.ext (Ext.alloc w2 (.cells #[encB 0#8, encB 0#8, encB 0#8, encB 0#8, encB 0#8, encB 0#8, encB 0#8, encB 0#8] 31)))
    have hz2 : w1.heap.size < w2.heap.size := by have := HA2.out.2.size; simp at this; omega
    have hk : ∀ o, w2.cell? ⟨w1.heap.size, o, none⟩ = (w1.alloc (.cells #[encB 0#8, encB 0#8, encB 0#8, encB 0#8, encB 0#8, encB 0#8, encB 0#8, encB 0#8] 31)).cell? ⟨w1.heap.size, o, none⟩ := fun o => World.cell?_of_block (HA2.out.2.block w1.heap.size (by simp) (fun e => hlt1 (Option.some.inj e)))
    go_wp2_with fail
    go_ret
    exact ⟨rfl, both_of HA1e.out HS1n.out.nb HA2e.out HNE.out (by simp) (fun _ => rfl)⟩
  | some p =>
    obtain ⟨x, r⟩ := p
    have hrl := rdX_len hrd
    rw [hrd] at hp
    have HD := Lib.hid hrd
    clear hrd
    obtain ⟨v1, rfl, ⟨rfl, h81⟩, ha1⟩ := hp
    obtain ⟨x0, x1, x2, x3, x4, x5, x6, x7, rfl⟩ := eight h81
    clear h81
    rw [show (List.map encB [x0, x1, x2, x3, x4, x5, x6, x7]).toArray = #[encB x0, encB x1, encB x2, encB x3, encB x4, encB x5, encB x6, encB x7] from rfl]
    have HA1 := Lib.hid ha1
    have HS1 := Lib.hid (H2.out.turn H1.out.nb ha1.2 (Ne.symm HNE.out))
    clear ha1
    have HA1e := Lib.hid (HA1.out.ext (Ext.alloc w1 (.cells #[encB x0, encB x1, encB x2, encB x3, encB x4, encB x5, encB x6, encB x7] 31)))
    have HS1n := Lib.hid (HS1.out.ext (Ext.alloc w1 (.cells #[encB x0, encB x1, encB x2, encB x3, encB x4, encB x5, encB x6, encB x7] 31)))
    have hlt1 : w1.heap.size ≠ b2 := by have := HS1.out.lt; omega
    go_wp2_with fail
    go_at_call 38
    refine (rblock_any _ _ l bad hl5 HBL.out HS1n.out).mono ?_
    intro e w2 hp
    rw [HD.out] at hp
    obtain ⟨v2, rfl, ⟨rfl, h82⟩, ha2⟩ := hp
    clear h82
    rw [show (List.map encB [x0, x1, x2, x3, x4, x5, x6, x7]).toArray = #[encB x0, encB x1, encB x2, encB x3, encB x4, encB x5, encB x6, encB x7] from rfl]
    have HA2 := Lib.hid ha2
    clear ha2
    have HA2e := Lib.hid (HA2.out.ext (Ext.alloc w2 (.cells #[encB x0, encB x1, encB x2, encB x3, encB x4, encB x5, encB x6, encB x7] 31)))
    have hz2 : w1.heap.size < w2.heap.size := by have := HA2.out.2.size; simp at this; omega
    have hk : ∀ o, w2.cell? ⟨w1.heap.size, o, none⟩ = (w1.alloc (.cells #[encB x0, encB x1, encB x2, encB x3, encB x4, encB x5, encB x6, encB x7] 31)).cell? ⟨w1.heap.size, o, none⟩ := fun o => World.cell?_of_block (HA2.out.2.block w1.heap.size (by simp) (fun e => hlt1 (Option.some.inj e)))
    go_wp2_with fail
    go_ret
    exact ⟨rfl, both_of HA1e.out HS1n.out.nb HA2e.out HNE.out hrl (fun h => by cases h)⟩

set_option maxHeartbeats 800000 in
theorem read_4 (w : World) (b1 b2 : Nat) (l : List (BitVec 8)) (bad : Bool) (c : BitVec 8) (hl : l.length ≤ 1000) (hbl : bad = true → l = []) (hne : b1 ≠ b2) (h1 : RdAt w b1 l bad) (h2 : RdAt w b2 l bad) (hm : ub c % 5 = 4) :
    Calls Try.prog 29 #[.pointer (some ⟨b1, 0, none⟩), .pointer (some ⟨b2, 0, none⟩), encB c] w fun e w' => ReadBoth w b1 b2 l.length e w' := by
  have H1 := Lib.hid h1
  have H2 := Lib.hid h2
  have HBL := Lib.hid hbl
  have HNE := Lib.hid hne
  have hcb := ub_bound c
  have hq0 : (ub c % 5 == 0) = false := by rw [hm]; rfl
  have hq1 : (ub c % 5 == 1) = false := by rw [hm]; rfl
  have hq2 : (ub c % 5 == 2) = false := by rw [hm]; rfl
  have hq3 : (ub c % 5 == 3) = false := by rw [hm]; rfl
  have hl5 : l.length ≤ 100000 := by omega
  clear h1 h2 hbl hne hm
  go_enter Try.func29, Try.ntmps29
  go_wp2_with fail
  go_at_call 25
  refine (count_any _ _ l bad (ub c) ⟨by omega, by omega⟩ hl5 H1.out).mono ?_
  intro e w1 hp
  cases hrd : rdC (ub c) bad l with
  | none =>
    rw [hrd] at hp
    have HD := Lib.hid hrd
    clear hrd
    obtain ⟨rfl, ha1⟩ := hp
    have HA1 := Lib.hid ha1
    have HS1 := Lib.hid (H2.out.turn H1.out.nb ha1.2 (Ne.symm HNE.out))
    clear ha1
    have HA1e := HA1
    have HS1n := HS1
    go_wp2_with fail
    go_at_call 39
    refine (rcount_any _ _ l bad (ub c) ⟨by omega, by omega⟩ hl5 HBL.out HS1n.out).mono ?_
    intro e w2 hp
    rw [HD.out] at hp
    obtain ⟨rfl, ha2⟩ := hp
    have HA2 := Lib.hid ha2
    clear ha2
    have HA2e := HA2
    go_wp2_with fail
    go_ret
    exact ⟨rfl, both_of HA1e.out HS1n.out.nb HA2e.out HNE.out (by simp) (fun _ => rfl)⟩
  | some p =>
    obtain ⟨x, r⟩ := p
    have hrl := rdC_len hrd
    rw [hrd] at hp
    have HD := Lib.hid hrd
    clear hrd
    obtain ⟨v1, rfl, hv1, ha1⟩ := hp
    have hv1 : v1 = .int .i64 x := hv1
    subst hv1
    have HA1 := Lib.hid ha1
    have HS1 := Lib.hid (H2.out.turn H1.out.nb ha1.2 (Ne.symm HNE.out))
    clear ha1
    have HA1e := HA1
    have HS1n := HS1
    go_wp2_with fail
    go_at_call 39
    refine (rcount_any _ _ l bad (ub c) ⟨by omega, by omega⟩ hl5 HBL.out HS1n.out).mono ?_
    intro e w2 hp
    rw [HD.out] at hp
    obtain ⟨v2, rfl, hv2, ha2⟩ := hp
    have hv2 : v2 = .int .i64 x := hv2
    subst hv2
    have HA2 := Lib.hid ha2
    clear ha2
    have HA2e := HA2
    go_wp2_with fail
    go_ret
    exact ⟨rfl, both_of HA1e.out HS1n.out.nb HA2e.out HNE.out hrl (fun h => by cases h)⟩

theorem read_any (w : World) (b1 b2 : Nat) (l : List (BitVec 8)) (bad : Bool) (c : BitVec 8) (hl : l.length ≤ 1000) (hbl : bad = true → l = []) (hne : b1 ≠ b2) (h1 : RdAt w b1 l bad) (h2 : RdAt w b2 l bad) :
    Calls Try.prog 29 #[.pointer (some ⟨b1, 0, none⟩), .pointer (some ⟨b2, 0, none⟩), encB c] w fun e w' => ReadBoth w b1 b2 l.length e w' := by
  have hcb := ub_bound c
  rcases (show ub c % 5 = 0 ∨ ub c % 5 = 1 ∨ ub c % 5 = 2 ∨ ub c % 5 = 3 ∨ ub c % 5 = 4 by omega) with h | h | h | h | h
  · exact read_0 w b1 b2 l bad c hl hbl hne h1 h2 h
  · exact read_1 w b1 b2 l bad c hl hbl hne h1 h2 h
  · exact read_2 w b1 b2 l bad c hl hbl hne h1 h2 h
  · exact read_3 w b1 b2 l bad c hl hbl hne h1 h2 h
  · exact read_4 w b1 b2 l bad c hl hbl hne h1 h2 h
end Go.Proofs.Ytbegghodjfllnaa
