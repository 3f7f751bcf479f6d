/-
  Chapter 9 (codec): a reader of package codec: New, fail, take.
-/
import Derived.Test.YthjcdikpomlpmaaLkB
namespace Go.Proofs.Ythjcdikpomlpmaa
open Go.RowKit
set_option linter.unusedVariables false
attribute [local go_sem] wrap8_nat or_high

/-- block b holds a reader: v is what is left, which reads as l -/
structure RdAt (w : World) (b : Nat) (l : List (BitVec 8)) (bad : Bool) : Prop where
  lt : b < w.heap.size
  rest : ∃ v, w.cell? ⟨b, 0, none⟩ = some v ∧ SliceAt encB w v l
  flag : w.cell? ⟨b, 1, none⟩ = some (.bool bad)
  free : ∀ j, w.frozen? ⟨b, j, none⟩ = false
  nb : ∀ j c, w.cell? ⟨b, j, none⟩ ≠ some (encB c)
theorem nb_set {w : World} {b o : Nat} {x u : Value} (h : ∀ j c, w.cell? ⟨b, j, none⟩ ≠ some (encB c)) (hc : w.cell? ⟨b, o, none⟩ = some u) (hx : ∀ c, x ≠ encB c) : ∀ j c, (w.setCell ⟨b, o, none⟩ x).cell? ⟨b, j, none⟩ ≠ some (encB c) := by
  intro j c
  by_cases e : o = j
  · subst e
    rw [set_same hc]
    intro h'
    exact hx c (Option.some.inj h')
  · rw [set_off e]; exact h j c
theorem slice_ne {ad : Option Addr} {n m : Nat} : ∀ c : BitVec 8, Value.slice ad n m ≠ encB c := fun c h => by cases h
theorem SliceAt.ne {w : World} {v : Value} {l : List (BitVec 8)} (h : SliceAt encB w v l) : ∀ c, v ≠ encB c := by
  obtain ⟨ad, cap, rfl, _⟩ := h; exact slice_ne

/-- a slice of bytes is not turned by a store to a cell that holds none -/
theorem SliceAt.set {w : World} {v x u : Value} {l : List (BitVec 8)} {b o : Nat} (h : SliceAt encB w v l) (hc : w.cell? ⟨b, o, none⟩ = some u) (hu : ∀ c, u ≠ encB c) : SliceAt encB (w.setCell ⟨b, o, none⟩ x) v l := by
  obtain ⟨ad, cap, hv, hca, h⟩ := h
  refine ⟨ad, cap, hv, hca, h.imp id ?_⟩
  rintro ⟨b1, off, ha, hb, hk⟩
  refine ⟨b1, off, ha, by simpa using hb, fun i hi => ?_⟩
  have := hk i hi
  by_cases e1 : b = b1
  · subst e1
    by_cases e2 : o = off + i
    · subst e2
      rw [hc] at this
      exact absurd (Option.some.inj this) (hu _)
    · rw [set_off e2]; exact this
  · rw [set_block e1]; exact this
/-- 's[:n:n]' -/
theorem SliceAt.take3 {w : World} {ad : Option Addr} {m cap : Nat} {l : List (BitVec 8)} (h : SliceAt encB w (.slice ad m cap) l) (n : Nat) (hn : n ≤ m) : SliceAt encB w (.slice ad n n) (l.take n) := by
  obtain ⟨ad', cap', hv, hca, h⟩ := h.take n hn
  injection hv with h1 h2 h3
  subst h1; subst h3
  refine ⟨ad, n, by rw [← h2], by omega, h.imp (fun ⟨h4, _⟩ => ⟨h4, fun _ => ?_⟩) id⟩
  rw [h4] at h2; exact h2
/-- 's[n:]' -/
theorem SliceAt.drop {w : World} {ad : Option Addr} {cap : Nat} {l : List (BitVec 8)} (h : SliceAt encB w (.slice ad l.length cap) l) (n : Nat) (hn : n ≤ l.length) :
    SliceAt encB w (.slice (ad.map (·.add n)) (l.length - n) (cap - n)) (l.drop n) := by
  obtain ⟨ad', cap', hv, hca, h⟩ := h
  cases hv
  refine ⟨_, cap - n, by rw [List.length_drop], by rw [List.length_drop]; omega, ?_⟩
  rcases h with ⟨h1, h2⟩ | ⟨b', off', h1, h2, h3⟩
  · left; refine ⟨by rw [h1]; simp, fun h => ?_⟩
    cases ad with
    | none => rw [h2 rfl]; omega
    | some _ => cases h
  · subst h1
    refine .inr ⟨b', off' + n, by rw [Option.map_some, add_plain], h2, fun i hi => ?_⟩
    have hi' : n + i < l.length := by rw [List.length_drop] at hi; omega
    have := h3 (n + i) hi'
    rw [Nat.add_assoc, this]; simp
theorem SliceAt.drop_all {w : World} {ad : Option Addr} {cap : Nat} {l : List (BitVec 8)} (h : SliceAt encB w (.slice ad l.length cap) l) (n : Nat) (hn : n ≤ l.length) (hc : cap = n) :
    SliceAt encB w (.slice ad (l.length - n) 0) (l.drop n) := by
  obtain ⟨ad', cap', hv, hca, h⟩ := h
  cases hv
  have hl : l.length = n := by omega
  exact ⟨_, 0, by rw [List.length_drop], by rw [List.length_drop]; omega, .inl ⟨List.drop_eq_nil_of_le (by omega), fun _ => rfl⟩⟩

theorem RdAt.ext {w w' : World} {b : Nat} {l : List (BitVec 8)} {bad : Bool} (h : RdAt w b l bad) (e : Ext w w') : RdAt w' b l bad := by
  obtain ⟨hlt, ⟨v, hv, hs⟩, hf, hfr, hnb⟩ := h
  refine ⟨Nat.lt_of_lt_of_le hlt e.below.size, ⟨v, (e.cell b 0 hlt).trans hv, hs.ext e⟩, (e.cell b 1 hlt).trans hf, fun j => (e.frozen b j hlt).trans (hfr j), fun j c => ?_⟩
  rw [e.cell b j hlt]; exact hnb j c
/-- a slice of bytes is not turned by what only one reader's block is turned by -/
theorem SliceAt.turn {w w' : World} {b : Nat} {v : Value} {l : List (BitVec 8)} (h : SliceAt encB w v l) (hnb : ∀ j c, w.cell? ⟨b, j, none⟩ ≠ some (encB c)) (hg : w.grownBy w' (some b)) : SliceAt encB w' v l := by
  obtain ⟨ad, cap, hv, hca, h⟩ := h
  refine ⟨ad, cap, hv, hca, ?_⟩
  rcases h with h | ⟨g, off, ha, hb, hc⟩
  · exact .inl h
  · rcases Nat.eq_zero_or_pos l.length with h0 | h0
    · have hl := List.eq_nil_of_length_eq_zero h0
      exact .inl ⟨hl, fun h => by rw [ha] at h; cases h⟩
    · have hne : g ≠ b := fun e => by subst e; exact hnb _ _ (hc 0 h0)
      refine .inr ⟨g, off, ha, Nat.lt_of_lt_of_le hb hg.size, fun i hi => ?_⟩
      rw [World.cell?_of_block (w := w) (hg.block g hb (fun e => hne (Option.some.inj e)))]
      exact hc i hi
theorem RdAt.turn {w w' : World} {b g : Nat} {l : List (BitVec 8)} {bad : Bool} (h : RdAt w b l bad) (hnb : ∀ j c, w.cell? ⟨g, j, none⟩ ≠ some (encB c)) (hg : w.grownBy w' (some g)) (hne : b ≠ g) : RdAt w' b l bad := by
  obtain ⟨hlt, ⟨v, hv, hs⟩, hf, hfr, hb⟩ := h
  have hk := hg.block b hlt (fun e => hne (Option.some.inj e))
  refine ⟨Nat.lt_of_lt_of_le hlt hg.size, ⟨v, (World.cell?_of_block (w := w) hk).trans hv, hs.turn hnb hg⟩, (World.cell?_of_block (w := w) hk).trans hf, fun j => (World.frozen?_of_block (w := w) hk).trans (hfr j), fun j c => ?_⟩
  rw [World.cell?_of_block (w := w) hk]; exact hb j c

theorem fail_nil (w : World) :
    Calls Try.prog 70 #[.pointer none] w fun e w' => e = .returned (.int .i64 5) ∧ w' = w := by
  go_enter Try.func70, Try.ntmps70
  go_wp2
  go_ret
  exact ⟨rfl, rfl⟩
theorem fail_any (w : World) (b : Nat) (l : List (BitVec 8)) (bad : Bool) (h : RdAt w b l bad) :
    Calls Try.prog 70 #[.pointer (some ⟨b, 0, none⟩)] w fun e w' => e = .returned (.int .i64 5) ∧ w' = (w.setCell ⟨b, 0, none⟩ (.slice none 0 0)).setCell ⟨b, 1, none⟩ (.bool true) := by
  obtain ⟨hlt, ⟨v, hv, hs⟩, hf, hfr, hnb⟩ := h
  have hf0 := hfr 0
  have hf1 := hfr 1
  have HS := Lib.hid hs
  clear hs hfr hnb
  go_enter Try.func70, Try.ntmps70
  go_wp2
  go_ret
  exact ⟨rfl, rfl⟩
/-- the world behind a failure -/
def failW (w : World) (b : Nat) : World := (w.setCell ⟨b, 0, none⟩ (.slice none 0 0)).setCell ⟨b, 1, none⟩ (.bool true)
theorem RdAt.failed {w : World} {b : Nat} {l : List (BitVec 8)} {bad : Bool} (h : RdAt w b l bad) : RdAt (failW w b) b [] true := by
  obtain ⟨hlt, ⟨v, hv, hs⟩, hf, hfr, hnb⟩ := h
  have h1 : (w.setCell ⟨b, 0, none⟩ (.slice none 0 0)).cell? ⟨b, 1, none⟩ = some (.bool bad) := by rw [set_off (by decide)]; exact hf
  unfold failW
  refine ⟨by simpa using hlt, ⟨.slice none 0 0, ?_, SliceAt.nil⟩, set_same h1, fun j => by simpa using hfr j, nb_set (nb_set hnb hv slice_ne) h1 (fun c h => by cases h)⟩
  rw [set_off (by decide)]; exact set_same hv
theorem new_any (v : Value) (l : List (BitVec 8)) (w : World) (hl : l.length ≤ 100000) (h : SliceAt encB w v l) :
    Calls Try.prog 58 #[v] w fun e w' => ∃ b, e = .returned (.pointer (some ⟨b, 0, none⟩)) ∧ w.heap.size ≤ b ∧ RdAt w' b l false ∧ Below w.heap.size w w' := by
  have HA := Lib.hid h
  clear h
  go_enter Try.func58, Try.ntmps58
  go_wp2_with (go_at_call 57; refine (clone_any _ l _ hl HA.out).mono ?_; rintro e w1 ⟨v1, rfl, hown1, hb1⟩; have HS1 := Lib.hid (OwnB.slice hown1); obtain ⟨ad1, cap1, rfl, _, _⟩ := OwnB.slice hown1; clear hown1)
  go_ret
  have hs1 := HS1.out.ext (Ext.alloc w1 (.cells #[.slice ad1 l.length cap1, .bool false] 98))
  refine ⟨_, rfl, hb1.size, ⟨by simp, ⟨_, ?_, hs1⟩, ?_, fun j => by simp, fun j c => ?_⟩, hb1.alloc hb1.size _⟩
  · simp
  · simp
  · rw [cell_alloc_any]
    match j with
    | 0 => intro h; cases h
    | 1 => intro h; cases h
    | n + 2 => intro h; simp at h

set_option maxHeartbeats 400000 in
theorem take_no (w : World) (b : Nat) (l : List (BitVec 8)) (bad : Bool) (n : Nat) (hn : n < 18446744073709551616) (hl : l.length ≤ maxLen) (h : RdAt w b l bad) (hno : bad = true ∨ l.length < n) :
    Calls Try.prog 69 #[.pointer (some ⟨b, 0, none⟩), .int .u64 n] w fun e w' => e = .returned (.tuple #[.slice none 0 0, .int .i64 5]) ∧ w' = failW w b := by
  have HR := Lib.hid h
  obtain ⟨hlt, ⟨v, hv, hs⟩, hf, hfr, hnb⟩ := h
  obtain ⟨ad, cap, rfl, _, hs⟩ := hs
  have hf0 := hfr 0
  have hf1 := hfr 1
  unfold maxLen at hl
  clear hs hfr hnb
  cases bad with
  | true =>
    clear hno
    go_enter Try.func69, Try.ntmps69
    go_wp2_with (go_at_call 70; refine (fail_any _ _ _ _ HR.out).mono ?_; rintro e w1 ⟨rfl, rfl⟩)
    go_ret2
    exact ⟨rfl, rfl⟩
  | false =>
    have hno' : (l.length : Int) < (n : Int) := by
      rcases hno with h | h
      · cases h
      · omega
    clear hno
    go_enter Try.func69, Try.ntmps69
    go_wp2_with (go_at_call 70; refine (fail_any _ _ _ _ HR.out).mono ?_; rintro e w1 ⟨rfl, rfl⟩)
    go_ret2
    exact ⟨rfl, rfl⟩
set_option maxHeartbeats 400000 in
theorem take_yes (w : World) (b : Nat) (l : List (BitVec 8)) (n : Nat) (hl : l.length ≤ maxLen) (h : RdAt w b l false) (hn : n ≤ l.length) :
    Calls Try.prog 69 #[.pointer (some ⟨b, 0, none⟩), .int .u64 n] w fun e w' => ∃ v v', e = .returned (.tuple #[v, .int .i64 0]) ∧ w' = w.setCell ⟨b, 0, none⟩ v' ∧ SliceAt encB w' v (l.take n) ∧ RdAt w' b (l.drop n) false := by
  obtain ⟨hlt, ⟨v, hv, hs⟩, hf, hfr, hnb⟩ := h
  have HS := Lib.hid hs
  obtain ⟨ad, cap, rfl, hca, hs⟩ := hs
  have hf0 := hfr 0
  have hf1 := hfr 1
  have HF := Lib.hid hfr
  unfold maxLen at hl
  have hn' : (n : Int) ≤ (l.length : Int) := by omega
  have hn2 : (n : Int) ≤ (cap : Int) := by omega
  have HT := Lib.hid (HS.out.take3 n hn)
  have hfin : ∀ x, SliceAt encB w x (l.drop n) → SliceAt encB (w.setCell ⟨b, 0, none⟩ x) (.slice ad n n) (l.take n) ∧ RdAt (w.setCell ⟨b, 0, none⟩ x) b (l.drop n) false := by
    intro x hx
    refine ⟨HT.out.set hv (fun c h => by cases h), by simpa using hlt, ⟨x, set_same hv, hx.set hv (fun c h => by cases h)⟩, ?_, fun j => by simpa using hfr j, nb_set hnb hv hx.ne⟩
    rw [set_off (by decide)]; exact hf
  have HFin := Lib.hid hfin
  clear hs hfr hfin hnb
  go_enter Try.func69, Try.ntmps69
  go_wp2
  · go_ret2
    exact ⟨_, rfl, ⟨_, rfl⟩, HFin.out _ (HS.out.drop_all n hn (by assumption))⟩
  · go_ret2
    exact ⟨_, rfl, ⟨_, rfl⟩, HFin.out _ (HS.out.drop n hn)⟩
end Go.Proofs.Ythjcdikpomlpmaa
