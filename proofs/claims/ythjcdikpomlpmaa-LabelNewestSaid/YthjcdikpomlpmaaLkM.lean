/-
  Chapter 9 (codec): a reader of package codec: Int, Count, Bytes, Block, Left, Done.
-/
import Derived.Test.YthjcdikpomlpmaaLkD
namespace Go.Proofs.Ythjcdikpomlpmaa
open Go.RowKit
set_option linter.unusedVariables false
attribute [local go_sem] xor_un and_un or_un not_un wrap_ub

/-- the integer of a natural number that was read -/
def unz (x : BitVec 64) : Int := if x.toNat % 2 = 0 then (x.toNat / 2 : Nat) else -(x.toNat / 2 : Nat) - 1
theorem unz_bound (x : BitVec 64) : -9223372036854775808 ≤ unz x ∧ unz x ≤ 9223372036854775807 := by
  have := x.isLt
  unfold unz; split <;> omega
theorem i64_wrap (n : Int) : IntKind.i64.wrap n = (n + 9223372036854775808) % 18446744073709551616 - 9223372036854775808 := by
  simp only [IntKind.wrap, IntKind.bits, IntKind.signed]; simp; omega
theorem xor_i64_zero (a : Int) (h : -9223372036854775808 ≤ a ∧ a ≤ 9223372036854775807) : bits .xor .i64 a 0 = a := by
  show IntKind.i64.wrap ((BitVec.ofInt 64 a ^^^ BitVec.ofInt 64 0).toNat : Int) = a
  rw [show BitVec.ofInt 64 0 = 0#64 from rfl, BitVec.xor_zero, BitVec.toNat_ofInt, i64_wrap]
  omega
theorem xor_i64_ones (a : Int) (h : -9223372036854775808 ≤ a ∧ a ≤ 9223372036854775807) : bits .xor .i64 a (-1) = -a - 1 := by
  show IntKind.i64.wrap ((BitVec.ofInt 64 a ^^^ BitVec.ofInt 64 (-1)).toNat : Int) = _
  rw [show BitVec.ofInt 64 (-1) = ~~~0#64 from by decide, ← Crc.not_eq_xor, BitVec.toNat_not, BitVec.toNat_ofInt, i64_wrap]
  omega
theorem and_one_val (x : BitVec 64) : bits .and .u64 (un x) 1 = un x % 2 := by
  rw [and_one_un]
  unfold un
  rw [BitVec.toNat_and, show (1#64).toNat = 1 from rfl, Nat.and_one_is_mod]
  omega

/-- what a read of a value leaves behind -/
def ReadPost {α : Type} (P : World → Value → α → Prop) (zero : Value) (w : World) (b : Nat) (o : Option (α × List (BitVec 8))) (e : Ending) (w' : World) : Prop :=
  match o with
  | some (x, r) => ∃ v, e = .returned (.tuple #[v, .int .i64 0]) ∧ P w' v x ∧ After w w' b r false
  | none => e = .returned (.tuple #[zero, .int .i64 5]) ∧ After w w' b [] true
section
variable {α : Type} {P : World → Value → α → Prop} {zero : Value} {w w' : World} {b : Nat} {o : Option (α × List (BitVec 8))} {e : Ending}
theorem readPost_none (h : o = none) (he : e = .returned (.tuple #[zero, .int .i64 5])) (ha : After w w' b [] true) : ReadPost P zero w b o e w' := by
  subst h; exact ⟨he, ha⟩
theorem readPost_some {x : α} {r : List (BitVec 8)} {v : Value} (h : o = some (x, r)) (he : e = .returned (.tuple #[v, .int .i64 0])) (hp : P w' v x) (ha : After w w' b r false) : ReadPost P zero w b o e w' := by
  subst h; exact ⟨v, he, hp, ha⟩
end
def rdI (bad : Bool) (l : List (BitVec 8)) : Option (Int × List (BitVec 8)) := (rd bad l).map fun p => (unz p.1, p.2)
def rdC (most : Int) (bad : Bool) (l : List (BitVec 8)) : Option (Int × List (BitVec 8)) :=
  match rd bad l with
  | some (x, r) => if 0 ≤ most ∧ un x ≤ most then some (un x, r) else none
  | none => none
def rdB (bad : Bool) (l : List (BitVec 8)) : Option (List (BitVec 8) × List (BitVec 8)) :=
  match rd bad l with
  | some (x, r) => if x.toNat ≤ r.length then some (r.take x.toNat, r.drop x.toNat) else none
  | none => none
def rdX (bad : Bool) (l : List (BitVec 8)) : Option (List (BitVec 8) × List (BitVec 8)) :=
  if bad then none else if 8 ≤ l.length then some (l.take 8, l.drop 8) else none
def IsInt (w : World) (v : Value) (x : Int) : Prop := v = .int .i64 x
def IsBytes (w : World) (v : Value) (l : List (BitVec 8)) : Prop := SliceAt encB w v l
def IsBlock (w : World) (v : Value) (l : List (BitVec 8)) : Prop := v = .agg (l.map encB).toArray ∧ l.length = 8
theorem rd_len {bad : Bool} {l : List (BitVec 8)} {x : BitVec 64} {r : List (BitVec 8)} (h : rd bad l = some (x, r)) : r.length ≤ l.length := by
  have key : ∀ (f k : Nat) (y : BitVec 64) (l : List (BitVec 8)), rdU f k y l = some (x, r) → r.length ≤ l.length := by
    intro f
    induction f with
    | zero => intro k y l h; simp [rdU] at h
    | succ f ih =>
      intro k y l h
      cases l with
      | nil => simp [rdU] at h
      | cons c l =>
        unfold rdU at h
        split at h
        · cases h
        split at h
        · split at h
          · cases h
          · cases h; simp
        · have := ih _ _ _ h
          simp; omega
  unfold rd at h
  split at h
  · cases h
  · exact key _ _ _ _ h

set_option maxHeartbeats 400000 in
theorem count_any (w : World) (b : Nat) (l : List (BitVec 8)) (bad : Bool) (most : Int) (hm : -9223372036854775808 ≤ most ∧ most ≤ 9223372036854775807) (hl : l.length ≤ 100000) (h : RdAt w b l bad) :
    Calls Try.prog 60 #[.pointer (some ⟨b, 0, none⟩), .int .i64 most] w fun e w' => ReadPost IsInt (.int .i64 0) w b (rdC most bad l) e w' := by
  have HR := Lib.hid h
  clear h
  generalize ho : rdC most bad l = o
  unfold rdC at ho
  have HO := Lib.hid ho
  clear ho
  go_enter Try.func60, Try.ntmps60
  go_wp2_with fail
  go_at_call 59
  refine (uint_any _ _ _ _ hl HR.out).mono ?_
  intro e w1 hu
  cases hr : rd bad l with
  | none =>
    rw [hr] at hu
    have hno : Hid (o = none) := by rw [hr] at HO; exact HO.out.symm
    obtain ⟨rfl, ha⟩ := hu
    have HA := Lib.hid ha
    clear ha hr
    go_wp2
    go_ret2
    exact readPost_none hno.out rfl HA.out
  | some p =>
    obtain ⟨x, r⟩ := p
    rw [hr] at hu
    obtain ⟨rfl, ha⟩ := hu
    have HA := Lib.hid ha
    have HR1 := Lib.hid ha.1
    clear ha
    have hxb := un_bound x
    by_cases hc : 0 ≤ most ∧ un x ≤ most
    · have hso : Hid (o = some (un x, r)) := by rw [hr] at HO; simp only [if_pos hc] at HO; exact HO.out.symm
      obtain ⟨hc1, hc2⟩ := hc
      clear hr
      go_wp2
      go_ret2
      exact readPost_some hso.out rfl rfl HA.out
    · have hno : Hid (o = none) := by rw [hr] at HO; simp only [if_neg hc] at HO; exact HO.out.symm
      clear hr
      by_cases hc0 : 0 ≤ most
      · have hc1 : most < un x := by omega
        clear hc
        go_wp2_with (go_at_call 70; refine (fail_any _ _ _ _ HR1.out).mono ?_; rintro e w2 ⟨rfl, rfl⟩)
        go_ret2
        exact readPost_none hno.out rfl ⟨HR1.out.failed, turn_trans HA.out.2 (turn_fail _ _)⟩
      · clear hc
        go_wp2_with (go_at_call 70; refine (fail_any _ _ _ _ HR1.out).mono ?_; rintro e w2 ⟨rfl, rfl⟩)
        go_ret2
        exact readPost_none hno.out rfl ⟨HR1.out.failed, turn_trans HA.out.2 (turn_fail _ _)⟩

set_option maxHeartbeats 400000 in
theorem bytes_any (w : World) (b : Nat) (l : List (BitVec 8)) (bad : Bool) (hl : l.length ≤ 100000) (h : RdAt w b l bad) :
    Calls Try.prog 61 #[.pointer (some ⟨b, 0, none⟩)] w fun e w' => ReadPost IsBytes (.slice none 0 0) w b (rdB bad l) e w' := by
  have HR := Lib.hid h
  clear h
  generalize ho : rdB bad l = o
  unfold rdB at ho
  have HO := Lib.hid ho
  clear ho
  go_enter Try.func61, Try.ntmps61
  go_wp2_with fail
  go_at_call 59
  refine (uint_any _ _ _ _ hl HR.out).mono ?_
  intro e w1 hu
  cases hr : rd bad l with
  | none =>
    rw [hr] at hu
    have hno : Hid (o = none) := by rw [hr] at HO; exact HO.out.symm
    obtain ⟨rfl, ha⟩ := hu
    have HA := Lib.hid ha
    clear ha hr
    go_wp2
    go_ret2
    exact readPost_none hno.out rfl HA.out
  | some p =>
    obtain ⟨x, r⟩ := p
    have hrl := rd_len hr
    rw [hr] at hu
    obtain ⟨rfl, ha⟩ := hu
    have HA := Lib.hid ha
    have HR1 := Lib.hid ha.1
    clear ha
    by_cases hc : x.toNat ≤ r.length
    · have hso : Hid (o = some (r.take x.toNat, r.drop x.toNat)) := by rw [hr] at HO; simp only [if_pos hc] at HO; exact HO.out.symm
      clear hr
      have HT : Hid (∀ w', Calls Try.prog 69 #[.pointer (some ⟨b, 0, none⟩), .int .u64 (x.toNat : Int)] w1 w' → Calls Try.prog 69 #[.pointer (some ⟨b, 0, none⟩), encU x] w1 w') := fun _ h => h
      go_wp2_with fail
      go_at_call 69
      refine HT.out _ ((take_yes _ _ r x.toNat (by unfold maxLen; omega) HR1.out hc).mono ?_)
      rintro e w2 ⟨v, v', rfl, rfl, hs, hr2⟩
      have HS := Lib.hid hs
      have HR2 := Lib.hid hr2
      clear hs hr2
      go_wp2_with fail
      go_ret2
      exact readPost_some hso.out rfl HS.out ⟨HR2.out, turn_trans HA.out.2 (turn_set _ _ _ _)⟩
    · have hno : Hid (o = none) := by rw [hr] at HO; simp only [if_neg hc] at HO; exact HO.out.symm
      clear hr
      have HT : Hid (∀ w', Calls Try.prog 69 #[.pointer (some ⟨b, 0, none⟩), .int .u64 (x.toNat : Int)] w1 w' → Calls Try.prog 69 #[.pointer (some ⟨b, 0, none⟩), encU x] w1 w') := fun _ h => h
      go_wp2_with fail
      go_at_call 69
      refine HT.out _ ((take_no _ _ r false x.toNat x.isLt (by unfold maxLen; omega) HR1.out (.inr (by omega))).mono ?_)
      rintro e w2 ⟨rfl, rfl⟩
      go_wp2_with fail
      go_ret2
      exact readPost_none hno.out rfl ⟨HR1.out.failed, turn_trans HA.out.2 (turn_fail _ _)⟩

/-- what Done says -/
def fin (bad : Bool) (l : List (BitVec 8)) : Int := if bad = true ∨ l ≠ [] then 5 else 0
theorem done_any (w : World) (b : Nat) (l : List (BitVec 8)) (bad : Bool) (hl : l.length ≤ 100000) (h : RdAt w b l bad) :
    Calls Try.prog 62 #[.pointer (some ⟨b, 0, none⟩)] w fun e w' => e = .returned (.int .i64 (fin bad l)) ∧ w = w' := by
  obtain ⟨hlt, ⟨v, hv, hs⟩, hf, hfr, hnb⟩ := h
  obtain ⟨ad, cap, rfl, hca, hs⟩ := hs
  clear hs hnb hfr
  cases bad with
  | true =>
    go_enter Try.func62, Try.ntmps62
    go_wp2
    go_ret
    exact ⟨rfl, rfl⟩
  | false =>
    cases l with
    | nil =>
      simp only [List.length_nil] at hv
      go_enter Try.func62, Try.ntmps62
      go_wp2
      go_ret
      exact ⟨rfl, rfl⟩
    | cons c l =>
      have hp : 0 < (c :: l).length := by simp
      generalize hn : (c :: l).length = n at *
      go_enter Try.func62, Try.ntmps62
      go_wp2
      go_ret
      exact ⟨rfl, rfl⟩

theorem SliceAt.some_of {α : Type} {enc : α → Value} {w : World} {v : Value} {l : List α} (h : SliceAt enc w v l) (hl : 0 < l.length) :
    ∃ b off cap, v = .slice (some ⟨b, off, none⟩) l.length cap ∧ l.length ≤ cap ∧ b < w.heap.size ∧ ∀ i (h : i < l.length), w.cell? ⟨b, off + i, none⟩ = some (enc l[i]) := by
  obtain ⟨ad, cap, rfl, hca, h⟩ := h
  rcases h with ⟨h1, _⟩ | ⟨b, off, rfl, h2, h3⟩
  · subst h1; simp at hl
  · exact ⟨b, off, cap, rfl, hca, h2, h3⟩
def zeroX : Value := .agg #[.int .u8 0, .int .u8 0, .int .u8 0, .int .u8 0, .int .u8 0, .int .u8 0, .int .u8 0, .int .u8 0]
theorem turn_alloc {w : World} (o : Obj) (b : Option Nat) : w.grownBy (w.alloc o) b := ⟨rfl, rfl, rfl, by simp, fun k hk _ => Below.heap_alloc _ _ _ hk⟩
theorem ten {α : Type} {l : List α} (h : 8 ≤ l.length) : ∃ x0 x1 x2 x3 x4 x5 x6 x7 r, l = x0 :: x1 :: x2 :: x3 :: x4 :: x5 :: x6 :: x7 :: r := by
  match l, h with
  | x0 :: x1 :: x2 :: x3 :: x4 :: x5 :: x6 :: x7 :: r, _ => exact ⟨x0, x1, x2, x3, x4, x5, x6, x7, r, rfl⟩

end Go.Proofs.Ythjcdikpomlpmaa
