/-
  Part 4 of the proof.
-/
import Derived.Test.YtjabgpejmnpamaaGreatDoorY01
import Derived.Stop.BytesEq
set_option linter.unusedVariables false
namespace Go.Proofs.YtjabgpejmnpamaaGreatDoor
open Go.RowKit
attribute [local go_sem] wrap8_nat or_high
theorem or_table : ∀ k : Fin 256, (k.val ||| 128) = k.val % 128 + 128 := by decide +kernel
theorem wrap64 (x : Int) : IntKind.u64.wrap x = x % 18446744073709551616 := by
  simp only [IntKind.wrap, IntKind.bits, IntKind.signed]; simp
theorem un_not (x : BitVec 64) : un (~~~x) = 18446744073709551615 - un x := by
  unfold un; rw [BitVec.toNat_not]; have := x.isLt; omega
end Go.Proofs.YtjabgpejmnpamaaGreatDoor

namespace Go.Proofs.YtjabgpejmnpamaaGreatDoor
open Go.RowKit
attribute [local go_sem] wrap8_nat or_high
structure RdAt (w : World) (b : Nat) (l : List (BitVec 8)) (bad : Bool) : Prop where
  lt : b < w.heap.size
  rest : ∃ v, w.cell? ⟨b, 0, none⟩ = some v ∧ SliceAt encB w v l
  flag : w.cell? ⟨b, 1, none⟩ = some (.bool bad)
  free : ∀ j, w.frozen? ⟨b, j, none⟩ = false
  nb : ∀ j c, w.cell? ⟨b, j, none⟩ ≠ some (encB c)
theorem nb_set {w : World} {b o : Nat} {x u : Value} (h : ∀ j c, w.cell? ⟨b, j, none⟩ ≠ some (encB c)) (hc : w.cell? ⟨b, o, none⟩ = some u) (hx : ∀ c, x ≠ encB c) : ∀ j c, (w.setCell ⟨b, o, none⟩ x).cell? ⟨b, j, none⟩ ≠ some (encB c) := by
  intro j c
  by_cases e : o = j
  · subst e
    rw [set_same hc]
    intro h'
    exact hx c (Option.some.inj h')
  · rw [set_off e]; exact h j c
theorem slice_ne {ad : Option Addr} {n m : Nat} : ∀ c : BitVec 8, Value.slice ad n m ≠ encB c := fun c h => by cases h
theorem SliceAt.ne {w : World} {v : Value} {l : List (BitVec 8)} (h : SliceAt encB w v l) : ∀ c, v ≠ encB c := by
  obtain ⟨ad, cap, rfl, _⟩ := h; exact slice_ne
theorem SliceAt.set {w : World} {v x u : Value} {l : List (BitVec 8)} {b o : Nat} (h : SliceAt encB w v l) (hc : w.cell? ⟨b, o, none⟩ = some u) (hu : ∀ c, u ≠ encB c) : SliceAt encB (w.setCell ⟨b, o, none⟩ x) v l := by
  obtain ⟨ad, cap, hv, hca, h⟩ := h
  refine ⟨ad, cap, hv, hca, h.imp id ?_⟩
  rintro ⟨b1, off, ha, hb, hk⟩
  refine ⟨b1, off, ha, by simpa using hb, fun i hi => ?_⟩
  have := hk i hi
  by_cases e1 : b = b1
  · subst e1
    by_cases e2 : o = off + i
    · subst e2
      rw [hc] at this
      exact absurd (Option.some.inj this) (hu _)
    · rw [set_off e2]; exact this
  · rw [set_block e1]; exact this
theorem SliceAt.take3 {w : World} {ad : Option Addr} {m cap : Nat} {l : List (BitVec 8)} (h : SliceAt encB w (.slice ad m cap) l) (n : Nat) (hn : n ≤ m) : SliceAt encB w (.slice ad n n) (l.take n) := by
  obtain ⟨ad', cap', hv, hca, h⟩ := h.take n hn
  injection hv with h1 h2 h3
  subst h1; subst h3
  refine ⟨ad, n, by rw [← h2], by omega, h.imp (fun ⟨h4, _⟩ => ⟨h4, fun _ => ?_⟩) id⟩
  rw [h4] at h2; exact h2
theorem SliceAt.drop {w : World} {ad : Option Addr} {cap : Nat} {l : List (BitVec 8)} (h : SliceAt encB w (.slice ad l.length cap) l) (n : Nat) (hn : n ≤ l.length) :
    SliceAt encB w (.slice (ad.map (·.add n)) (l.length - n) (cap - n)) (l.drop n) := by
  obtain ⟨ad', cap', hv, hca, h⟩ := h
  cases hv
  refine ⟨_, cap - n, by rw [List.length_drop], by rw [List.length_drop]; omega, ?_⟩
  rcases h with ⟨h1, h2⟩ | ⟨b', off', h1, h2, h3⟩
  · left; refine ⟨by rw [h1]; simp, fun h => ?_⟩
    cases ad with
    | none => rw [h2 rfl]; omega
    | some _ => cases h
  · subst h1
    refine .inr ⟨b', off' + n, by rw [Option.map_some, add_plain], h2, fun i hi => ?_⟩
    have hi' : n + i < l.length := by rw [List.length_drop] at hi; omega
    have := h3 (n + i) hi'
    rw [Nat.add_assoc, this]; simp
theorem SliceAt.drop_all {w : World} {ad : Option Addr} {cap : Nat} {l : List (BitVec 8)} (h : SliceAt encB w (.slice ad l.length cap) l) (n : Nat) (hn : n ≤ l.length) (hc : cap = n) :
    SliceAt encB w (.slice ad (l.length - n) 0) (l.drop n) := by
  obtain ⟨ad', cap', hv, hca, h⟩ := h
  cases hv
  have hl : l.length = n := by omega
  exact ⟨_, 0, by rw [List.length_drop], by rw [List.length_drop]; omega, .inl ⟨List.drop_eq_nil_of_le (by omega), fun _ => rfl⟩⟩
theorem RdAt.ext {w w' : World} {b : Nat} {l : List (BitVec 8)} {bad : Bool} (h : RdAt w b l bad) (e : Ext w w') : RdAt w' b l bad := by
  obtain ⟨hlt, ⟨v, hv, hs⟩, hf, hfr, hnb⟩ := h
  refine ⟨Nat.lt_of_lt_of_le hlt e.below.size, ⟨v, (e.cell b 0 hlt).trans hv, hs.ext e⟩, (e.cell b 1 hlt).trans hf, fun j => (e.frozen b j hlt).trans (hfr j), fun j c => ?_⟩
  rw [e.cell b j hlt]; exact hnb j c
theorem SliceAt.turn {w w' : World} {b : Nat} {v : Value} {l : List (BitVec 8)} (h : SliceAt encB w v l) (hnb : ∀ j c, w.cell? ⟨b, j, none⟩ ≠ some (encB c)) (hg : w.grownBy w' (some b)) : SliceAt encB w' v l := by
  obtain ⟨ad, cap, hv, hca, h⟩ := h
  refine ⟨ad, cap, hv, hca, ?_⟩
  rcases h with h | ⟨g, off, ha, hb, hc⟩
  · exact .inl h
  · rcases Nat.eq_zero_or_pos l.length with h0 | h0
    · have hl := List.eq_nil_of_length_eq_zero h0
      exact .inl ⟨hl, fun h => by rw [ha] at h; cases h⟩
    · have hne : g ≠ b := fun e => by subst e; exact hnb _ _ (hc 0 h0)
      refine .inr ⟨g, off, ha, Nat.lt_of_lt_of_le hb hg.size, fun i hi => ?_⟩
      rw [World.cell?_of_block (w := w) (hg.block g hb (fun e => hne (Option.some.inj e)))]
      exact hc i hi
theorem fail_any (w : World) (b : Nat) (l : List (BitVec 8)) (bad : Bool) (h : RdAt w b l bad) :
    Calls Tryz.prog 188 #[.pointer (some ⟨b, 0, none⟩)] w fun e w' => e = .returned (.int .i64 5) ∧ w' = (w.setCell ⟨b, 0, none⟩ (.slice none 0 0)).setCell ⟨b, 1, none⟩ (.bool true) := by
  obtain ⟨hlt, ⟨v, hv, hs⟩, hf, hfr, hnb⟩ := h
  have hf0 := hfr 0
  have hf1 := hfr 1
  have HS := Lib.hid hs
  clear hs hfr hnb
  go_enter Tryz.func188, Tryz.ntmps188
  go_wp2
  go_ret
  exact ⟨rfl, rfl⟩
def failW (w : World) (b : Nat) : World := (w.setCell ⟨b, 0, none⟩ (.slice none 0 0)).setCell ⟨b, 1, none⟩ (.bool true)
theorem RdAt.failed {w : World} {b : Nat} {l : List (BitVec 8)} {bad : Bool} (h : RdAt w b l bad) : RdAt (failW w b) b [] true := by
  obtain ⟨hlt, ⟨v, hv, hs⟩, hf, hfr, hnb⟩ := h
  have h1 : (w.setCell ⟨b, 0, none⟩ (.slice none 0 0)).cell? ⟨b, 1, none⟩ = some (.bool bad) := by rw [set_off (by decide)]; exact hf
  unfold failW
  refine ⟨by simpa using hlt, ⟨.slice none 0 0, ?_, SliceAt.nil⟩, set_same h1, fun j => by simpa using hfr j, nb_set (nb_set hnb hv slice_ne) h1 (fun c h => by cases h)⟩
  rw [set_off (by decide)]; exact set_same hv
set_option maxHeartbeats 400000 in
theorem take_no (w : World) (b : Nat) (l : List (BitVec 8)) (bad : Bool) (n : Nat) (hn : n < 18446744073709551616) (hl : l.length ≤ maxLen) (h : RdAt w b l bad) (hno : bad = true ∨ l.length < n) :
    Calls Tryz.prog 187 #[.pointer (some ⟨b, 0, none⟩), .int .u64 n] w fun e w' => e = .returned (.tuple #[.slice none 0 0, .int .i64 5]) ∧ w' = failW w b := by
  have HR := Lib.hid h
  obtain ⟨hlt, ⟨v, hv, hs⟩, hf, hfr, hnb⟩ := h
  obtain ⟨ad, cap, rfl, _, hs⟩ := hs
  have hf0 := hfr 0
  have hf1 := hfr 1
  unfold maxLen at hl
  clear hs hfr hnb
  cases bad with
  | true =>
    clear hno
    go_enter Tryz.func187, Tryz.ntmps187
    go_wp2_with (go_at_call 188; refine (fail_any _ _ _ _ HR.out).mono ?_; rintro e w1 ⟨rfl, rfl⟩)
    go_ret2
    exact ⟨rfl, rfl⟩
  | false =>
    have hno' : (l.length : Int) < (n : Int) := by
      rcases hno with h | h
      · cases h
      · omega
    clear hno
    go_enter Tryz.func187, Tryz.ntmps187
    go_wp2_with (go_at_call 188; refine (fail_any _ _ _ _ HR.out).mono ?_; rintro e w1 ⟨rfl, rfl⟩)
    go_ret2
    exact ⟨rfl, rfl⟩
end Go.Proofs.YtjabgpejmnpamaaGreatDoor

namespace Go.Proofs.YtjabgpejmnpamaaGreatDoor
open Go.RowKit
attribute [local go_sem] xor_un and_un or_un not_un wrap_ub
def rdU : Nat → Nat → BitVec 64 → List (BitVec 8) → Option (BitVec 64 × List (BitVec 8))
  | 0, _, _, _ => none
  | _ + 1, _, _, [] => none
  | f + 1, k, x, c :: r =>
    if k = 9 ∧ 1 < c.toNat then none
    else if c.toNat < 128 then (if c = 0#8 ∧ 0 < k then none else some (x ||| ((Crc.reg c &&& 127#64) <<< (7 * k)), r))
    else rdU f (k + 1) (x ||| ((Crc.reg c &&& 127#64) <<< (7 * k))) r
theorem rdU_big {k : Nat} {x : BitVec 64} {c : BitVec 8} {r : List (BitVec 8)} (h9 : k = 9) (h1 : 1 < c.toNat) : rdU (10 - k) k x (c :: r) = none := by
  subst h9; show rdU 1 9 x (c :: r) = none
  unfold rdU; rw [if_pos ⟨rfl, h1⟩]
theorem rdU_zero {k : Nat} {x : BitVec 64} {c : BitVec 8} {r : List (BitVec 8)} (hk : k < 10) (hc : c = 0#8) (h0 : 0 < k) : rdU (10 - k) k x (c :: r) = none := by
  rw [show 10 - k = (9 - k) + 1 by omega]; unfold rdU
  subst hc
  rw [if_neg (by rintro ⟨_, h⟩; exact absurd h (by decide)), if_pos (by decide), if_pos ⟨rfl, h0⟩]
theorem rdU_end {k : Nat} {x : BitVec 64} {c : BitVec 8} {r : List (BitVec 8)} (hk : k < 10) (h9 : ¬ (k = 9 ∧ 1 < c.toNat)) (hc : c.toNat < 128) (h0 : ¬ (c = 0#8 ∧ 0 < k)) :
    rdU (10 - k) k x (c :: r) = some (x ||| ((Crc.reg c &&& 127#64) <<< (7 * k)), r) := by
  rw [show 10 - k = (9 - k) + 1 by omega]; unfold rdU
  rw [if_neg h9, if_pos hc, if_neg h0]
theorem rdU_next {k : Nat} {x : BitVec 64} {c : BitVec 8} {r : List (BitVec 8)} (hk : k < 10) (h9 : k ≠ 9) (hc : ¬ c.toNat < 128) :
    rdU (10 - k) k x (c :: r) = rdU (10 - (k + 1)) (k + 1) (x ||| ((Crc.reg c &&& 127#64) <<< (7 * k))) r := by
  rw [show 10 - k = (10 - (k + 1)) + 1 by omega, rdU]
  rw [if_neg (fun h => h9 h.1), if_neg hc]
def rd (bad : Bool) (l : List (BitVec 8)) : Option (BitVec 64 × List (BitVec 8)) := if bad then none else rdU 10 0 0#64 l
theorem and_127 (x : BitVec 64) : bits .and .u64 (un x) 127 = un (x &&& 127#64) := and_un x 127#64
theorem shl_un (x : BitVec 64) (k : Nat) : IntKind.u64.wrap (un x * (2 : Int) ^ k) = un (x <<< k) := by
  rw [wrap64]; unfold un
  rw [BitVec.toNat_shiftLeft, Nat.shiftLeft_eq]; simp
attribute [local go_sem] and_127
theorem turn_refl (w : World) (o : Option Nat) : w.grownBy w o := ⟨rfl, rfl, rfl, Nat.le_refl _, fun _ _ _ => rfl⟩
theorem turn_trans {w w1 w2 : World} {o : Option Nat} (h : w.grownBy w1 o) (k : w1.grownBy w2 o) : w.grownBy w2 o :=
  ⟨k.os.trans h.os, k.tape.trans h.tape, k.output.trans h.output, Nat.le_trans h.size k.size, fun i hi hne => (k.block i (Nat.lt_of_lt_of_le hi h.size) hne).trans (h.block i hi hne)⟩
theorem turn_set (w : World) (b o : Nat) (v : Value) : w.grownBy (w.setCell ⟨b, o, none⟩ v) (some b) :=
  ⟨rfl, rfl, rfl, by simp, fun k _ hk => Below.heap_setCell _ _ _ k (fun e => hk (by rw [e]))⟩
theorem turn_fail (w : World) (b : Nat) : w.grownBy (failW w b) (some b) := turn_trans (turn_set _ _ _ _) (turn_set _ _ _ _)
end Go.Proofs.YtjabgpejmnpamaaGreatDoor

namespace Go.Proofs.YtjabgpejmnpamaaGreatDoor
open Go.RowKit
attribute [local go_sem] xor_un and_un or_un not_un wrap_ub
def unz (x : BitVec 64) : Int := if x.toNat % 2 = 0 then (x.toNat / 2 : Nat) else -(x.toNat / 2 : Nat) - 1
theorem i64_wrap (n : Int) : IntKind.i64.wrap n = (n + 9223372036854775808) % 18446744073709551616 - 9223372036854775808 := by
  simp only [IntKind.wrap, IntKind.bits, IntKind.signed]; simp; omega
theorem xor_i64_zero (a : Int) (h : -9223372036854775808 ≤ a ∧ a ≤ 9223372036854775807) : bits .xor .i64 a 0 = a := by
  show IntKind.i64.wrap ((BitVec.ofInt 64 a ^^^ BitVec.ofInt 64 0).toNat : Int) = a
  rw [show BitVec.ofInt 64 0 = 0#64 from rfl, BitVec.xor_zero, BitVec.toNat_ofInt, i64_wrap]
  omega
theorem xor_i64_ones (a : Int) (h : -9223372036854775808 ≤ a ∧ a ≤ 9223372036854775807) : bits .xor .i64 a (-1) = -a - 1 := by
  show IntKind.i64.wrap ((BitVec.ofInt 64 a ^^^ BitVec.ofInt 64 (-1)).toNat : Int) = _
  rw [show BitVec.ofInt 64 (-1) = ~~~0#64 from by decide, ← Crc.not_eq_xor, BitVec.toNat_not, BitVec.toNat_ofInt, i64_wrap]
  omega
theorem and_one_val (x : BitVec 64) : bits .and .u64 (un x) 1 = un x % 2 := by
  rw [and_one_un]
  unfold un
  rw [BitVec.toNat_and, show (1#64).toNat = 1 from rfl, Nat.and_one_is_mod]
  omega
section
variable {α : Type} {P : World → Value → α → Prop} {zero : Value} {w w' : World} {b : Nat} {o : Option (α × List (BitVec 8))} {e : Ending}
end
def rdI (bad : Bool) (l : List (BitVec 8)) : Option (Int × List (BitVec 8)) := (rd bad l).map fun p => (unz p.1, p.2)
def rdC (most : Int) (bad : Bool) (l : List (BitVec 8)) : Option (Int × List (BitVec 8)) :=
  match rd bad l with
  | some (x, r) => if 0 ≤ most ∧ un x ≤ most then some (un x, r) else none
  | none => none
def rdB (bad : Bool) (l : List (BitVec 8)) : Option (List (BitVec 8) × List (BitVec 8)) :=
  match rd bad l with
  | some (x, r) => if x.toNat ≤ r.length then some (r.take x.toNat, r.drop x.toNat) else none
  | none => none
def rdX (bad : Bool) (l : List (BitVec 8)) : Option (List (BitVec 8) × List (BitVec 8)) :=
  if bad then none else if 8 ≤ l.length then some (l.take 8, l.drop 8) else none
def IsInt (w : World) (v : Value) (x : Int) : Prop := v = .int .i64 x
def IsBlock (w : World) (v : Value) (l : List (BitVec 8)) : Prop := v = .agg (l.map encB).toArray ∧ l.length = 8
theorem rd_len {bad : Bool} {l : List (BitVec 8)} {x : BitVec 64} {r : List (BitVec 8)} (h : rd bad l = some (x, r)) : r.length ≤ l.length := by
  have key : ∀ (f k : Nat) (y : BitVec 64) (l : List (BitVec 8)), rdU f k y l = some (x, r) → r.length ≤ l.length := by
    intro f
    induction f with
    | zero => intro k y l h; simp [rdU] at h
    | succ f ih =>
      intro k y l h
      cases l with
      | nil => simp [rdU] at h
      | cons c l =>
        unfold rdU at h
        split at h
        · cases h
        split at h
        · split at h
          · cases h
          · cases h; simp
        · have := ih _ _ _ h
          simp; omega
  unfold rd at h
  split at h
  · cases h
  · exact key _ _ _ _ h
def fin (bad : Bool) (l : List (BitVec 8)) : Int := if bad = true ∨ l ≠ [] then 5 else 0
theorem done_any (w : World) (b : Nat) (l : List (BitVec 8)) (bad : Bool) (hl : l.length ≤ 100000) (h : RdAt w b l bad) :
    Calls Tryz.prog 127 #[.pointer (some ⟨b, 0, none⟩)] w fun e w' => e = .returned (.int .i64 (fin bad l)) ∧ w = w' := by
  obtain ⟨hlt, ⟨v, hv, hs⟩, hf, hfr, hnb⟩ := h
  obtain ⟨ad, cap, rfl, hca, hs⟩ := hs
  clear hs hnb hfr
  cases bad with
  | true =>
    go_enter Tryz.func127, Tryz.ntmps127
    go_wp2
    go_ret
    exact ⟨rfl, rfl⟩
  | false =>
    cases l with
    | nil =>
      simp only [List.length_nil] at hv
      go_enter Tryz.func127, Tryz.ntmps127
      go_wp2
      go_ret
      exact ⟨rfl, rfl⟩
    | cons c l =>
      have hp : 0 < (c :: l).length := by simp
      generalize hn : (c :: l).length = n at *
      go_enter Tryz.func127, Tryz.ntmps127
      go_wp2
      go_ret
      exact ⟨rfl, rfl⟩
theorem SliceAt.some_of {α : Type} {enc : α → Value} {w : World} {v : Value} {l : List α} (h : SliceAt enc w v l) (hl : 0 < l.length) :
    ∃ b off cap, v = .slice (some ⟨b, off, none⟩) l.length cap ∧ l.length ≤ cap ∧ b < w.heap.size ∧ ∀ i (h : i < l.length), w.cell? ⟨b, off + i, none⟩ = some (enc l[i]) := by
  obtain ⟨ad, cap, rfl, hca, h⟩ := h
  rcases h with ⟨h1, _⟩ | ⟨b, off, rfl, h2, h3⟩
  · subst h1; simp at hl
  · exact ⟨b, off, cap, rfl, hca, h2, h3⟩
def zeroX : Value := .agg #[.int .u8 0, .int .u8 0, .int .u8 0, .int .u8 0, .int .u8 0, .int .u8 0, .int .u8 0, .int .u8 0]
theorem turn_alloc {w : World} (o : Obj) (b : Option Nat) : w.grownBy (w.alloc o) b := ⟨rfl, rfl, rfl, by simp, fun k hk _ => Below.heap_alloc _ _ _ hk⟩
theorem ten {α : Type} {l : List α} (h : 8 ≤ l.length) : ∃ x0 x1 x2 x3 x4 x5 x6 x7 r, l = x0 :: x1 :: x2 :: x3 :: x4 :: x5 :: x6 :: x7 :: r := by
  match l, h with
  | x0 :: x1 :: x2 :: x3 :: x4 :: x5 :: x6 :: x7 :: r, _ => exact ⟨x0, x1, x2, x3, x4, x5, x6, x7, r, rfl⟩
end Go.Proofs.YtjabgpejmnpamaaGreatDoor

namespace Go.Proofs.YtjabgpejmnpamaaGreatDoor
open Go.RowKit
attribute [local go_sem] xor_un and_un or_un not_un wrap_ub
theorem low7 (c : BitVec 8) : un (Crc.reg c &&& 127#64) = ub c % 128 := by
  rw [← reg_ub]
  unfold un
  rw [BitVec.toNat_and, show (127#64).toNat = 2 ^ 7 - 1 from rfl, Nat.and_two_pow_sub_one_eq_mod]
  omega
end Go.Proofs.YtjabgpejmnpamaaGreatDoor

namespace Go.Proofs.YtjabgpejmnpamaaGreatDoor
open Go.RowKit
theorem grp (a b : Nat) (h : a < 128) : BitVec.ofNat 64 a ||| BitVec.ofNat 64 b <<< 7 = BitVec.ofNat 64 (a + 128 * b) := by
  apply BitVec.eq_of_getLsbD_eq
  intro i hi
  rw [BitVec.getLsbD_or, BitVec.getLsbD_shiftLeft, BitVec.getLsbD_ofNat, BitVec.getLsbD_ofNat, BitVec.getLsbD_ofNat]
  have e : (a + 128 * b).testBit i = if i < 7 then a.testBit i else b.testBit (i - 7) := by
    rw [Nat.add_comm]; exact Nat.testBit_two_pow_mul_add b (show a < 2 ^ 7 from h) i
  rw [e]
  by_cases h7 : i < 7
  · simp [h7, hi]
  · have ha : a.testBit i = false := Nat.testBit_lt_two_pow (Nat.lt_of_lt_of_le h (by
      have : 2 ^ 7 ≤ 2 ^ i := Nat.pow_le_pow_right (by decide) (by omega)
      omega))
    simp [h7, hi, ha]
    omega
theorem reg_low (c : BitVec 8) : Crc.reg c &&& 127#64 = BitVec.ofNat 64 (c.toNat % 128) := by
  apply BitVec.eq_of_toNat_eq
  have h := low7 c
  unfold un ub at h
  rw [BitVec.toNat_ofNat]
  omega
theorem grp_shift (x : BitVec 64) (c : BitVec 8) (m k : Nat) : (x ||| (Crc.reg c &&& 127#64) <<< (7 * k)) ||| BitVec.ofNat 64 m <<< (7 * (k + 1)) = x ||| BitVec.ofNat 64 (c.toNat % 128 + 128 * m) <<< (7 * k) := by
  rw [← grp _ _ (Nat.mod_lt _ (by decide)), reg_low, BitVec.or_assoc, BitVec.shiftLeft_or_distrib, ← BitVec.shiftLeft_add, show 7 + 7 * k = 7 * (k + 1) by omega]
theorem rdU_uv : ∀ (f k : Nat) (x : BitVec 64) (m : Nat) (r : List (BitVec 8)), f + k = 10 → m < 2 ^ (64 - 7 * k) → (k = 0 ∨ m ≠ 0) → k ≤ 9 →
    rdU f k x (uv m ++ r) = some (x ||| BitVec.ofNat 64 m <<< (7 * k), r)
  | 0, k, x, m, r, hf, hm, h0, hk => by omega
  | f + 1, k, x, m, r, hf, hm, h0, hk => by
    by_cases h128 : m < 128
    · rw [uv_low h128, List.singleton_append]
      have hc : (BitVec.ofNat 8 m).toNat = m := by rw [BitVec.toNat_ofNat]; omega
      unfold rdU
      rw [if_neg, if_pos (by omega), if_neg, reg_low, hc, Nat.mod_eq_of_lt h128]
      · rintro ⟨e, h⟩
        have := congrArg BitVec.toNat e
        rw [hc] at this
        rcases h0 with h0 | h0
        · omega
        · exact h0 this
      · rintro ⟨e, h⟩
        subst e
        have : m < 2 := hm
        omega
    · rw [uv_high h128, List.cons_append]
      have hc : (BitVec.ofNat 8 m ||| 128#8).toNat = m % 128 + 128 := by
        rw [BitVec.toNat_or, BitVec.toNat_ofNat]
        have h1 := or_table ⟨m % 2 ^ 8, Nat.mod_lt _ (by decide)⟩
        simp only at h1
        rw [show (128#8).toNat = 128 from rfl, h1]
        omega
      have hk9 : k ≠ 9 := by
        rintro rfl
        have : m < 2 := hm
        omega
      unfold rdU
      rw [if_neg (fun h => hk9 h.1), if_neg (by omega)]
      have e : 2 ^ (64 - 7 * k) = 128 * 2 ^ (64 - 7 * (k + 1)) := by
        rw [show 64 - 7 * k = 7 + (64 - 7 * (k + 1)) by omega, Nat.pow_add]
      rw [rdU_uv f (k + 1) _ (m / 128) r (by omega) (by omega) (.inr (by omega)) (by omega), grp_shift, hc]
      rw [show (m % 128 + 128) % 128 + 128 * (m / 128) = m by omega]
theorem rd_uv (m : Nat) (r : List (BitVec 8)) (h : m < 18446744073709551616) : rd false (uv m ++ r) = some (BitVec.ofNat 64 m, r) := by
  unfold rd
  rw [if_neg (by simp), rdU_uv 10 0 0#64 m r rfl h (.inl rfl) (by omega)]
  simp
theorem unz_zz (n : Int) (h1 : -9223372036854775808 ≤ n) (h2 : n ≤ 9223372036854775807) : unz (BitVec.ofNat 64 (zz n)) = n := by
  have hz := zz_lt h1 h2
  have e : (BitVec.ofNat 64 (zz n)).toNat = zz n := by rw [BitVec.toNat_ofNat]; omega
  unfold unz
  rw [e]
  unfold zz
  by_cases h : 0 ≤ n
  · rw [if_pos h, if_pos (by omega)]; omega
  · rw [if_neg h, if_neg (by omega)]; omega
theorem rdI_zz (n : Int) (r : List (BitVec 8)) (h1 : -9223372036854775808 ≤ n) (h2 : n ≤ 9223372036854775807) : rdI false (uv (zz n) ++ r) = some (n, r) := by
  unfold rdI
  rw [rd_uv _ _ (zz_lt h1 h2)]
  simp [unz_zz n h1 h2]
theorem rdB_uv (l r : List (BitVec 8)) (h : l.length < 18446744073709551616) : rdB false (uv l.length ++ (l ++ r)) = some (l, r) := by
  unfold rdB
  rw [rd_uv _ _ h]
  simp only [BitVec.toNat_ofNat]
  rw [Nat.mod_eq_of_lt (by omega), if_pos (by simp)]
  simp
theorem rdX_eq (l r : List (BitVec 8)) (h : l.length = 8) : rdX false (l ++ r) = some (l, r) := by
  unfold rdX
  rw [if_neg (by simp), if_pos (by simp [h]), List.take_left' h, List.drop_left' h]
end Go.Proofs.YtjabgpejmnpamaaGreatDoor

namespace Go.Proofs.YtjabgpejmnpamaaGreatDoor
open Go.RowKit
attribute [local go_sem] eq_strB
theorem appendBytes_any (v vx : Value) (l lx : List (BitVec 8)) (w : World) (hl : l.length ≤ 50000) (hlx : lx.length ≤ 50000) (h : SliceAt encB w v l) (hx : SliceAt encB w vx lx) :
    Calls Tryz.prog 36 #[v, vx] w fun e w' => ∃ v', e = .returned v' ∧ OwnB w' w.heap.size v' (l ++ uv lx.length ++ lx) ∧ Below w.heap.size w w' := by
  obtain ⟨i0, hi, hz0, hz1, hz2⟩ := info_parts infoB
  have HA := Lib.hid h
  have HX := Lib.hid hx
  have hul := (uv_len lx.length (by omega)).2
  obtain ⟨adx, capx, rfl, _, _⟩ := hx
  clear h
  go_enter Tryz.func36, Tryz.ntmps36
  go_wp2_with (first
    | (go_at_call 75; refine (appendUint_any _ l _ _ hl (by omega) HA.out).mono ?_; rintro e w1 ⟨v1, rfl, hown1, hb1⟩; have HO := Lib.hid hown1; clear hown1)
    | (at_builtin; refine wpList_append_slice (enc := encB) (fun _ => rfl) rfl (.tmp 9) (.tmp 10) 47 rfl w.heap.size 5 i0 (.int .u8 0) 1 Tryz.underlying47 hi hz0 hz1 hz2 rfl _ _ _ rfl HO.out _ lx rfl (HX.out.ext hb1) (by unfold maxLen; rw [List.length_append]; omega) (by rw [List.length_append]; omega) hb1.size ?_; intro v2 w2 hown2 hgrow2; have hx2 : Below w.heap.size w w2 := Below.grown hb1 hgrow2 hb1.size (fun k hk => (World.ownsRow.lt HO.out k hk).1); have HO2 := Lib.hid hown2; clear hown2 hgrow2))
  go_ret
  refine ⟨_, rfl, ?_, hx2⟩
  have h2 := HO2.out
  show World.ownsRow _ _ _ _ _ _ _
  rw [List.length_append, List.map_append]
  exact h2
end Go.Proofs.YtjabgpejmnpamaaGreatDoor

namespace Go.Proofs.YtjabgpejmnpamaaGreatDoor
open Go.RowKit
theorem owns_mono {w : World} {b b' : Nat} {e : TypeId} {sz : Nat} {v : Value} {n : Nat} {xs : List Value} (h : w.ownsRow b e sz v n xs) (hb : b' ≤ b) : w.ownsRow b' e sz v n xs :=
  ⟨h.1, h.2.imp id (fun ⟨g, cap, cur, hv, hg, r⟩ => ⟨g, cap, cur, hv, Nat.le_trans hb hg, r⟩)⟩
end Go.Proofs.YtjabgpejmnpamaaGreatDoor

namespace Go.Proofs.YtjabgpejmnpamaaGreatDoor
open Go.RowKit
section
attribute [local go_sem] wrap8_nat or_high
theorem zz_walk (n : Int) (hn : -9223372036854775808 ≤ n) (hn2 : n ≤ 9223372036854775807) :
    bits .xor .u64 (IntKind.u64.wrap (IntKind.u64.wrap n * 2)) (IntKind.u64.wrap (n / 9223372036854775808)) = ((zz n : Nat) : Int) := by
  rw [wrap64, wrap64, wrap64]
  by_cases h : 0 ≤ n
  · have e1 : n % 18446744073709551616 * 2 % 18446744073709551616 = 2 * n := by omega
    have e2 : n / 9223372036854775808 % 18446744073709551616 = un 0#64 := by
      show _ = 0; omega
    obtain ⟨x, hx⟩ := un_ex (2 * n) (by omega)
    rw [e1, e2, hx, xor_un, BitVec.xor_zero, ← hx]
    unfold zz; rw [if_pos h]; omega
  · have e1 : n % 18446744073709551616 * 2 % 18446744073709551616 = 2 * n + 18446744073709551616 := by omega
    have e2 : n / 9223372036854775808 % 18446744073709551616 = IntKind.u64.max := by
      show _ = (18446744073709551615 : Int); omega
    obtain ⟨x, hx⟩ := un_ex (2 * n + 18446744073709551616) (by omega)
    have h3 : IntKind.u64.max = un (~~~0#64) := by decide
    rw [e1, e2, hx, h3, xor_un, ← Crc.not_eq_xor, un_not, ← hx]
    unfold zz; rw [if_neg h]; omega
set_option maxHeartbeats 400000 in
theorem appendInt_any (v : Value) (l : List (BitVec 8)) (n : Int) (w : World) (hl : l.length ≤ 50000) (hn : -9223372036854775808 ≤ n) (hn2 : n ≤ 9223372036854775807) (h : SliceAt encB w v l) :
    Calls Tryz.prog 136 #[v, .int .i64 n] w fun e w' => ∃ v', e = .returned v' ∧ OwnB w' w.heap.size v' (l ++ uv (zz n)) ∧ Below w.heap.size w w' := by
  have HA := Lib.hid h
  have HZ := Lib.hid (zz_walk n hn hn2)
  have HZL := Lib.hid (zz_lt hn hn2)
  go_enter Tryz.func136, Tryz.ntmps136
  go_wp2_with (go_at_call 75; rw [HZ.out]; refine (appendUint_any _ l _ _ hl HZL.out HA.out).mono ?_; rintro e w1 ⟨v1, rfl, hown1, hb1⟩)
  go_ret
  exact ⟨_, rfl, hown1, hb1⟩
set_option maxHeartbeats 400000 in
theorem appendBlock_any (v : Value) (l lx : List (BitVec 8)) (w : World) (hl : l.length ≤ 50000) (hlx : lx.length = 8) (h : SliceAt encB w v l) :
    Calls Tryz.prog 135 #[v, .agg (lx.map encB).toArray] w fun e w' => ∃ v', e = .returned v' ∧ OwnB w' w.heap.size v' (l ++ lx) ∧ Below w.heap.size w w' := by
  obtain ⟨i0, hi, hz0, hz1, hz2⟩ := info_parts infoB
  have HA := Lib.hid h
  have HX := Lib.hid (SliceAt.lit (enc := encB) w lx 76 (0, 0) _ rfl)
  rw [hlx] at HX
  clear h
  go_enter Tryz.func135, Tryz.ntmps135
  go_wp2_with fail
  have hxW : Ext w (w.alloc (.cells (lx.map encB).toArray 76)) := Ext.alloc _ _
  generalize w.alloc (.cells (lx.map encB).toArray 76) = W at *
  have HA1 := Lib.hid (HA.out.ext hxW)
  have hsz : w.heap.size ≤ W.heap.size := hxW.below.size
  refine wp_region_bel (w.heap.size) (w) (hxW) [(0, true), (2, true), (1, false), (3, false), (4, true)] (by kernel_rfl) (by kernel_rfl) ?_
  iterate 2 ((first
   | refine bel_move rfl rfl (by rfl) (by rfl) ?_
   | (apply bel_take rfl (by rfl)
      · intro w' hS
        have hSc := below_cellsB hS
        go_simp
        (try simp (disch := omega) only [i64_id, u64_id, ↓IntWalk.iteOmega, Int.tdiv_eq_ediv_of_nonneg, Int.tmod_eq_emod_of_nonneg])
        try rfl)
   | refine bel_pass rfl (by rfl) ?_); simp only [Act.put, setZa, setZ0, setZ1])
  (refine bel_do rfl (by rfl) (fun K hK => ?_)
   go_simp
   go_at_call 122
   refine (clone_any _ l _ (by omega) (HA1.out.ext (Ext.drew _))).mono ?_
   rintro e w1 ⟨v1, rfl, hown1, hb1⟩
   have HO := Lib.hid hown1
   have hx1 : Ext W w1 := (Ext.drew _).trans hb1
   have HX1 := Lib.hid (HX.out.ext hx1)
   refine hK _ _ (hxW.trans hx1) ?_
   clear hK K hown1
   (try simp only [Act.put, setZa, setZ0, setZ1]))
  (refine bel_do rfl (by rfl) (fun K hK => ?_)
   refine wp_of_list rfl ?_
   refine wpList_append_slice (enc := encB) (fun _ => rfl) rfl (.tmp 6) (.tmp 7) 47 rfl W.drew.heap.size 5 i0 (.int .u8 0) 1 Tryz.underlying47 hi hz0 hz1 hz2 rfl _ _ _ rfl HO.out _ lx rfl HX1.out (by unfold maxLen; omega) (by omega) hb1.size ?_
   intro v2 w2 hown2 hgrow2
   have hx2 : Below W.drew.heap.size W.drew w2 := Below.grown hb1 hgrow2 hb1.size (fun k hk => (World.ownsRow.lt HO.out k hk).1)
   have hx3 : Ext W w2 := (Ext.drew _).trans hx2
   have HO2 := Lib.hid hown2
   refine hK _ _ (hxW.trans hx3) ?_
   clear hK K hown2 hgrow2
   (try simp only [Act.put, setZa, setZ0, setZ1]))
  iterate 1 ((first
   | refine bel_move rfl rfl (by rfl) (by rfl) ?_
   | (apply bel_take rfl (by rfl)
      · intro w' hS
        have hSc := below_cellsB hS
        go_simp
        (try simp (disch := omega) only [i64_id, u64_id, ↓IntWalk.iteOmega, Int.tdiv_eq_ediv_of_nonneg, Int.tmod_eq_emod_of_nonneg])
        try rfl)
   | refine bel_pass rfl (by rfl) ?_); simp only [Act.put, setZa, setZ0, setZ1])
  refine bel_nil ?_
  go_wp2
  go_ret
  refine ⟨_, rfl, ?_, hxW.trans hx3⟩
  have h2 := HO2.out
  show World.ownsRow _ _ _ _ _ _ _
  rw [List.length_append, List.map_append]
  exact owns_mono h2 (by simpa using hsz)
end
section
attribute [local go_sem] xor_un and_un or_un not_un wrap_ub
def TakePost (w : World) (b g off n cap k : Nat) (e : Ending) (w' : World) : Prop :=
  ∃ v', e = .returned (.tuple #[.slice (some ⟨g, off, none⟩) k k, .int .i64 0]) ∧ w' = w.setCell ⟨b, 0, none⟩ v' ∧ (v' = .slice (some ⟨g, off + k, none⟩) (n - k) (cap - k) ∨ cap = k ∧ v' = .slice (some ⟨g, off, none⟩) (n - k) 0)
theorem take_at (w : World) (b g off n cap k : Nat) (hlt : b < w.heap.size) (hv : w.cell? ⟨b, 0, none⟩ = some (.slice (some ⟨g, off, none⟩) n cap)) (hf : w.cell? ⟨b, 1, none⟩ = some (.bool false)) (hfr : ∀ j, w.frozen? ⟨b, j, none⟩ = false) (hk : k ≤ n) (hn : n ≤ cap) (hn2 : n ≤ 100000) :
    Calls Tryz.prog 187 #[.pointer (some ⟨b, 0, none⟩), .int .u64 k] w fun e w' => TakePost w b g off n cap k e w' := by
  have hf0 := hfr 0
  have hf1 := hfr 1
  have hk1 : (k : Int) ≤ (n : Int) := by omega
  have hk2 : (k : Int) ≤ (cap : Int) := by omega
  have HN := Lib.hid hn
  clear hfr hn
  go_enter Tryz.func187, Tryz.ntmps187
  go_wp2
  · go_ret2
    exact ⟨_, rfl, rfl, .inr ⟨by omega, rfl⟩⟩
  · go_ret2
    exact ⟨_, rfl, rfl, .inl rfl⟩
end
end Go.Proofs.YtjabgpejmnpamaaGreatDoor

namespace Go.Proofs.YtjabgpejmnpamaaGreatDoor
open Go.RowKit
attribute [local go_sem] and8_ub half8 wrapI_ub wrap8_ub bits8 unsigned8
theorem gmul_any (a b : BitVec 8) (w : World) :
    Calls Tryz.prog 142 #[encB a, encB b] w fun e w' => e = .returned (encB (mulG a b)) ∧ w = w' := by
  go_enter Tryz.func142, Tryz.ntmps142
  go_wp2
  go_loop [1, 5, 6] (fun bv xv ov => ∃ (n : Nat) (x o c : BitVec 8), bv = encB c ∧ xv = .int .i64 (ub x) ∧ ov = .int .i64 (ub o) ∧ c.toNat < 2 ^ n ∧ mulN n x o c = mulG a b) (fun bv _ _ => (intOf bv).toNat)
  case atStart => exact ⟨8, a, 0#8, b, rfl, rfl, rfl, b.isLt, rfl⟩
  case round =>
    obtain ⟨n, x, o, c, rfl, rfl, rfl, hc, he⟩ := hrel
    by_cases h0 : c = 0#8
    · have HE : Hid (o = mulG a b) := by
        subst h0
        rw [← he]
        cases n <;> rfl
      have hz : ¬ 0 < ub c := by rw [h0]; decide
      have hz2 : decide (0 < ub c) = false := by rw [h0]; decide
      clear he h0 hc
      go_wp2
      go_ret
      exact ⟨by rw [HE.out]; rfl, rfl⟩
    · obtain ⟨m, rfl⟩ : ∃ m, n = m + 1 := by
        cases n with
        | zero => exact absurd (BitVec.eq_of_toNat_eq (x := c) (y := 0#8) (by simpa using hc)) h0
        | succ m => exact ⟨m, rfl⟩
      have hp := ub_pos h0
      have hm := half_lt c m hc
      rw [mulN, if_neg h0] at he
      have HE := Lib.hid he
      have HC := Lib.hid hm
      have hxb := ub_bound x
      clear he h0 hc hm
      by_cases h1 : c &&& 1#8 = 1#8
      · have hb : (ub (c &&& 1#8) == 1) = true := by rw [h1]; rfl
        have HE2 : Hid (mulN m (dbl x) (o ^^^ x) (c >>> 1) = mulG a b) := by have := HE.out; rw [if_pos h1] at this; exact this
        clear h1 HE
        by_cases h2 : ub x * 2 > 255
        · have hd := dblI_yes x h2
          go_wp2
          go_round
          case rel => exact ⟨m, dbl x, o ^^^ x, c >>> 1, rfl, rfl, rfl, HC.out, HE2.out⟩
          case measure => simp [intOf]; omega
        · have hd := dblI_no x h2
          go_wp2
          go_round
          case rel => exact ⟨m, dbl x, o ^^^ x, c >>> 1, rfl, (by first | rfl | rw [hd]), rfl, HC.out, HE2.out⟩
          case measure => simp [intOf]; omega
      · have hb : (ub (c &&& 1#8) == 1) = false := by
          rw [beq_eq_false_iff_ne]; intro h; exact h1 (ub_inj (y := 1#8) h)
        have HE2 : Hid (mulN m (dbl x) o (c >>> 1) = mulG a b) := by have := HE.out; rw [if_neg h1] at this; exact this
        clear h1 HE
        by_cases h2 : ub x * 2 > 255
        · have hd := dblI_yes x h2
          go_wp2
          go_round
          case rel => exact ⟨m, dbl x, o, c >>> 1, rfl, rfl, rfl, HC.out, HE2.out⟩
          case measure => simp [intOf]; omega
        · have hd := dblI_no x h2
          go_wp2
          go_round
          case rel => exact ⟨m, dbl x, o, c >>> 1, rfl, (by first | rfl | rw [hd]), rfl, HC.out, HE2.out⟩
          case measure => simp [intOf]; omega
theorem odd_nat (e : Nat) (h : e ≤ 1000000) : bits .and .i64 (e : Int) 1 = ((e % 2 : Nat) : Int) := by
  show IntKind.i64.wrap ((BitVec.ofInt 64 (e : Int) &&& BitVec.ofInt 64 1).toNat : Int) = _
  have e1 : (BitVec.ofInt 64 (e : Int) &&& BitVec.ofInt 64 1).toNat = e % 2 := by
    rw [show BitVec.ofInt 64 1 = 1#64 from rfl, BitVec.and_one_eq_setWidth_ofBool_getLsbD]
    rw [BitVec.ofInt_natCast, BitVec.toNat_setWidth, BitVec.toNat_ofBool, BitVec.getLsbD_ofNat]
    rcases Nat.mod_two_eq_zero_or_one e with h | h <;> simp [Nat.testBit, h]
  rw [e1, i64_form]
  have := Nat.mod_lt e (y := 2) (by decide)
  omega
set_option maxHeartbeats 400000 in
theorem power_any (a : BitVec 8) (e : Nat) (he1 : e ≤ 255) (w : World) :
    Calls Tryz.prog 143 #[encB a, .int .i64 e] w fun e' w' => e' = .returned (encB (powG a e)) ∧ w = w' := by
  go_enter Tryz.func143, Tryz.ntmps143
  go_wp2
  go_loop [0, 1, 5] (fun av ev ov => ∃ (n m : Nat) (x o : BitVec 8), av = encB x ∧ ev = .int .i64 m ∧ ov = encB o ∧ m < 2 ^ n ∧ m ≤ 255 ∧ powN n o x m = powG a e) (fun _ ev _ => (intOf ev).toNat)
  case atStart => exact ⟨8, e, a, 1#8, rfl, rfl, rfl, by omega, he1, rfl⟩
  case round =>
    obtain ⟨n, m, x, o, rfl, rfl, rfl, hn, hm, he⟩ := hrel
    by_cases h0 : m = 0
    · have HE : Hid (o = powG a e) := by
        subst h0
        rw [← he]
        cases n <;> rfl
      subst h0
      clear he hn
      go_wp2
      go_ret
      exact ⟨by rw [HE.out]; rfl, rfl⟩
    · obtain ⟨k, rfl⟩ : ∃ k, n = k + 1 := by
        cases n with
        | zero => exact absurd hn (by simp; omega)
        | succ k => exact ⟨k, rfl⟩
      have hk : m / 2 < 2 ^ k := by rw [Nat.pow_succ] at hn; omega
      rw [powN, if_neg h0] at he
      have HE := Lib.hid he
      have HK := Lib.hid hk
      have hodd := odd_nat m (by omega)
      clear he hn hk
      by_cases h1 : m % 2 = 1
      · rw [h1] at hodd
        have HE2 : Hid (powN k (mulG o x) (mulG x x) (m / 2) = powG a e) := by have := HE.out; rw [if_pos h1] at this; exact this
        clear h1 HE
        go_wp2_with (go_at_call 142; refine (gmul_any _ _ _).mono ?_; rintro e w' ⟨rfl, rfl⟩)
        go_round
        case rel => exact ⟨k, m / 2, _, _, rfl, (by first | rfl | simp), rfl, HK.out, by omega, HE2.out⟩
        case measure => simp [intOf]; omega
      · have h2 : m % 2 = 0 := by omega
        rw [h2] at hodd
        have HE2 : Hid (powN k o (mulG x x) (m / 2) = powG a e) := by have := HE.out; rw [if_neg h1] at this; exact this
        clear h1 h2 HE
        go_wp2_with (go_at_call 142; refine (gmul_any _ _ _).mono ?_; rintro e w' ⟨rfl, rfl⟩)
        go_round
        case rel => exact ⟨k, m / 2, _, _, rfl, (by first | rfl | simp), rfl, HK.out, by omega, HE2.out⟩
        case measure => simp [intOf]; omega
theorem reduce_any (n : Nat) (h : n ≤ 1000000) (w : World) :
    Calls Tryz.prog 144 #[.int .i64 n] w fun e' w' => e' = .returned (.int .i64 (n % 255 : Nat)) ∧ w = w' := by
  go_enter Tryz.func144, Tryz.ntmps144
  go_wp2
  go_ret
  refine ⟨?_, rfl⟩
  simp
theorem exp_any (n : Nat) (h : n ≤ 1000000) (w : World) :
    Calls Tryz.prog 95 #[.int .i64 n] w fun e' w' => e' = .returned (encB (expG n)) ∧ w = w' := by
  go_enter Tryz.func95, Tryz.ntmps95
  obtain ⟨r, hr⟩ : ∃ r, n % 255 = r := ⟨_, rfl⟩
  have hr2 : r ≤ 255 := by omega
  have HR := Lib.hid hr
  go_wp2_with (first | (go_at_call 144; refine (reduce_any n h _).mono ?_; rintro e w' ⟨rfl, rfl⟩; rw [HR.out]) | (go_at_call 143; refine (power_any 2#8 r hr2 _).mono ?_; rintro e w' ⟨rfl, rfl⟩))
  go_ret
  exact ⟨by unfold expG; rw [HR.out]; rfl, rfl⟩
theorem inv_any (a : BitVec 8) (h : a ≠ 0#8) (w : World) :
    Calls Tryz.prog 196 #[encB a] w fun e' w' => e' = .returned (.tuple #[encB (invG a), .int .i64 0]) ∧ w = w' := by
  have hp := ub_pos h
  have hz : (ub a == 0) = false := by rw [beq_eq_false_iff_ne]; omega
  go_enter Tryz.func196, Tryz.ntmps196
  go_wp2_with (go_at_call 143; refine (power_any a 254 (by decide) _).mono ?_; rintro e w' ⟨rfl, rfl⟩)
  go_ret2
  exact ⟨rfl, rfl⟩
end Go.Proofs.YtjabgpejmnpamaaGreatDoor

namespace Go.Proofs.YtjabgpejmnpamaaGreatDoor
open Go.RowKit
theorem cell_enc (c : BitVec 8) : Extern.Stop.cell (UInt8.ofBitVec c) = encB c := by
  show Value.int .u8 _ = Value.int .u8 _
  unfold ub; simp
theorem map_cell (l : List (BitVec 8)) : (l.map fun c => UInt8.ofBitVec c).map Extern.Stop.cell = l.map encB := by
  rw [List.map_map]; exact List.map_congr_left fun c _ => cell_enc c
theorem ofBitVec_eq (xs ys : List (BitVec 8)) : ((xs.map fun c => UInt8.ofBitVec c) == ys.map fun c => UInt8.ofBitVec c) = decide (xs = ys) := by
  rw [Bool.eq_iff_iff, beq_iff_eq, decide_eq_true_eq]
  exact List.map_inj_right (fun x y e => by simpa using e)
def eqB (xs ys : List (BitVec 8)) : Bool := decide (xs = ys)
theorem eqB_iff {xs ys : List (BitVec 8)} : eqB xs ys = true ↔ xs = ys := by unfold eqB; simp
theorem eqB_self (xs : List (BitVec 8)) : eqB xs xs = true := eqB_iff.2 rfl
theorem run_equalIn_block {P : Program} (w : World) (d : Nat) {t e : TypeId} {n : Nat} (ht : P.underlying t = some (.array n e)) (he : P.underlying e = some (.int .u8)) (hsz : ∀ w, (sizeOf e).run P w = .ok 1 w)
    (xs ys : List (BitVec 8)) (hx : xs.length = n) (hy : ys.length = n) :
    (Op.equalIn (d + 2) t (.agg (xs.map encB).toArray) (.agg (ys.map encB).toArray)).run P w = .ok (eqB xs ys) w := by
  have := run_equalIn_bytes (P := P) w d t e n ht he hsz (xs.map fun c => UInt8.ofBitVec c) (ys.map fun c => UInt8.ofBitVec c) (by simpa using hx) (by simpa using hy)
  rw [map_cell, map_cell, ofBitVec_eq] at this
  exact this
end Go.Proofs.YtjabgpejmnpamaaGreatDoor

namespace Go.Proofs.YtjabgpejmnpamaaGreatDoor
open Go.RowKit
def le : Nat → BitVec 64 → List (BitVec 8)
  | 0, _ => []
  | n + 1, x => x.setWidth 8 :: le n (x >>> 8)
theorem le_length (n : Nat) (x : BitVec 64) : (le n x).length = n := by
  induction n generalizing x with
  | zero => rfl
  | succ n ih => simp [le, ih]
theorem le_step {n k : Nat} (x : BitVec 64) (h : k < n) : le (n - k) (x >>> (8 * k)) = (x >>> (8 * k)).setWidth 8 :: le (n - (k + 1)) (x >>> (8 * (k + 1))) := by
  rw [show n - k = (n - (k + 1)) + 1 by omega, le, ← BitVec.shiftRight_add, show 8 * k + 8 = 8 * (k + 1) by omega]
def unle : List (BitVec 8) → BitVec 64
  | [] => 0#64
  | c :: r => Crc.reg c ||| unle r <<< 8
theorem unle_step (c : BitVec 8) (r : List (BitVec 8)) (k : Nat) : unle (c :: r) <<< (8 * k) = Crc.reg c <<< (8 * k) ||| unle r <<< (8 * (k + 1)) := by
  rw [unle, BitVec.shiftLeft_or_distrib, ← BitVec.shiftLeft_add, show 8 + 8 * k = 8 * (k + 1) by omega]
theorem reg_bit (c : BitVec 8) (i : Nat) (h : i < 64) : (Crc.reg c).getLsbD i = c.getLsbD i := by
  unfold Crc.reg; rw [BitVec.getLsbD_setWidth]; simp [h]
theorem unle_bit (l : List (BitVec 8)) (i : Nat) (h : i < 64) : (unle l).getLsbD i = (l.getD (i / 8) 0#8).getLsbD (i % 8) := by
  induction l generalizing i with
  | nil => simp [unle]
  | cons c r ih =>
    rw [unle, BitVec.getLsbD_or, reg_bit c i h, BitVec.getLsbD_shiftLeft]
    by_cases h8 : i < 8
    · rw [show i / 8 = 0 by omega, show i % 8 = i by omega]; simp [h8]
    · rw [ih (i - 8) (by omega), show i / 8 = (i - 8) / 8 + 1 by omega, show i % 8 = (i - 8) % 8 by omega]
      have : c.getLsbD i = false := BitVec.getLsbD_of_ge _ _ (by omega)
      simp [h8, h, this]
theorem le_get (n : Nat) (x : BitVec 64) (i : Nat) (h : i < n) : (le n x).getD i 0#8 = (x >>> (8 * i)).setWidth 8 := by
  induction n generalizing x i with
  | zero => omega
  | succ n ih =>
    cases i with
    | zero => simp [le]
    | succ i =>
      rw [le]
      simp only [List.getD_cons_succ]
      rw [ih _ _ (by omega), ← BitVec.shiftRight_add, show 8 + 8 * i = 8 * (i + 1) by omega]
theorem unle_le (x : BitVec 64) : unle (le 8 x) = x := by
  apply BitVec.eq_of_getLsbD_eq
  intro i hi
  rw [unle_bit _ _ hi, le_get 8 x _ (by omega), BitVec.getLsbD_setWidth, BitVec.getLsbD_ushiftRight]
  rw [show 8 * (i / 8) + i % 8 = i by omega]
  simp [show i % 8 < 8 by omega]
theorem le_unle (l : List (BitVec 8)) (h : l.length ≤ 8) : le l.length (unle l) = l := by
  apply List.ext_getElem (le_length _ _)
  intro i h1 h2
  have e1 : (le l.length (unle l))[i] = (le l.length (unle l)).getD i 0#8 := by simp [List.getD, h1]
  rw [e1, le_get _ _ _ h2]
  apply BitVec.eq_of_getLsbD_eq
  intro j hj
  rw [BitVec.getLsbD_setWidth, BitVec.getLsbD_ushiftRight, unle_bit _ _ (by omega), show (8 * i + j) / 8 = i by omega, show (8 * i + j) % 8 = j by omega]
  simp [hj, h2]
theorem unle_low (n : Nat) (x : BitVec 64) (hn : n ≤ 8) (hx : x.toNat < 2 ^ (8 * n)) : unle (le n x) = x := by
  apply BitVec.eq_of_getLsbD_eq
  intro i hi
  rw [unle_bit _ _ hi]
  by_cases h : i < 8 * n
  · rw [le_get n x _ (by omega), BitVec.getLsbD_setWidth, BitVec.getLsbD_ushiftRight, show 8 * (i / 8) + i % 8 = i by omega]
    simp [show i % 8 < 8 by omega]
  · have hp : 2 ^ (8 * n) ≤ 2 ^ i := Nat.pow_le_pow_right (by decide) (by omega)
    have : (le n x).getD (i / 8) 0#8 = 0#8 := by
      rw [List.getD_eq_getElem?_getD, List.getElem?_eq_none (by rw [le_length]; omega)]; rfl
    rw [this, BitVec.getLsbD, BitVec.getLsbD, Nat.testBit_lt_two_pow (by omega : x.toNat < 2 ^ i)]; simp
theorem unle_lt (l : List (BitVec 8)) (n : Nat) (h : l.length ≤ n) (hn : n ≤ 7) : (unle l).toNat < 2 ^ (8 * n) := by
  have : unle l = ((unle l).setWidth (8 * n)).setWidth 64 := by
    apply BitVec.eq_of_getLsbD_eq
    intro i hi
    rw [BitVec.getLsbD_setWidth, BitVec.getLsbD_setWidth, unle_bit _ _ hi]
    by_cases h8 : i < 8 * n
    · simp [h8, hi]
    · have : l.getD (i / 8) 0#8 = 0#8 := by
        rw [List.getD_eq_getElem?_getD, List.getElem?_eq_none (by omega)]; rfl
      rw [this]; simp [h8]
  rw [this, BitVec.toNat_setWidth, BitVec.toNat_setWidth]
  exact Nat.lt_of_le_of_lt (Nat.mod_le _ _) (Nat.mod_lt _ (Nat.two_pow_pos _))
end Go.Proofs.YtjabgpejmnpamaaGreatDoor

namespace Go.Proofs.YtjabgpejmnpamaaGreatDoor
open Go.RowKit
attribute [local go_sem] wrap8_un or_un wrap_ub
theorem rpinfoB : (Tryz.prog.info? 5).map (fun i => (i.zero, i.size, i.bytes)) = some (some (.int .u8 0), 1, 1) := by kernel_rfl
theorem rpsum_as (x : BitVec 64) (v : Value) (l : List (BitVec 8)) (w : World) (hx : Crc.sum l = x) (hl : l.length ≤ maxLen) (h : SliceAt encB w v l) :
    Calls Tryz.prog 45 #[v] w fun e w' => e = .returned (encU x) ∧ w = w' := by subst hx; exact sum_any v l w hl h
end Go.Proofs.YtjabgpejmnpamaaGreatDoor
