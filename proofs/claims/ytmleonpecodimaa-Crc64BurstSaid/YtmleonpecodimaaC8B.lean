/-
  Chapter 8 (crc64): matrices: apply, square; Combine.
-/
import Derived.Test.YtmleonpecodimaaC8A
namespace Go.Proofs.Ytmleonpecodimaa
open Go.RowKit
set_option linter.unusedVariables false
attribute [local go_sem] xor_un and_un and_one_un xor_poly_un half_un or_un not_un unsigned64 wrap_ub

/-- block b holds the matrix of f -/
def MatAt (w : World) (b : Nat) (f : BitVec 64 → BitVec 64) : Prop := ∀ i, i < 64 → w.cell? ⟨b, i, none⟩ = some (encU (f (1#64 <<< i)))

theorem ne_zero_yes {x : BitVec 64} (h : x ≠ 0#64) : (un x != 0) = true := by rw [bne_iff_ne]; intro e; exact h (un_inj e)
theorem ne_zero_no {x : BitVec 64} (h : x = 0#64) : (un x != 0) = false := by subst h; rfl

set_option maxHeartbeats 400000 in
theorem apply_any (b : Nat) (f : BitVec 64 → BitVec 64) (hf : Crc.Lin f) (x : BitVec 64) (w : World) (hm : MatAt w b f) :
    Calls Try.prog 22 #[.pointer (some ⟨b, 0, none⟩), encU x] w fun e w' => e = .returned (encU (f x)) ∧ w = w' := by
  have HF : Hid (∀ (y : BitVec 64) (i : Nat), f (y <<< i) = (if y &&& 1#64 = 1#64 then f (1#64 <<< i) else 0#64) ^^^ f ((y >>> 1) <<< (i + 1))) := Crc.apply_round hf
  have HZ := Lib.hid hf.zero
  have HM := Lib.hid hm
  clear hm hf
  go_enter Try.func22, Try.ntmps22
  go_wp2
  go_loop [1, 5, 6] (fun y z i => ∃ (k : Nat) (s : BitVec 64), i = .int .i64 k ∧ y = encU (x >>> k) ∧ z = encU s ∧ s ^^^ f ((x >>> k) <<< k) = f x ∧ k ≤ 64) (fun _ _ i => 64 - (intOf i).toNat)
  case atStart => exact ⟨0, 0#64, rfl, by simp, rfl, by simp, by omega⟩
  case round =>
    obtain ⟨k, s, rfl, rfl, rfl, hs, hk⟩ := hrel
    by_cases hy : x >>> k = 0#64
    · have HS : Hid (s = f x) := by rw [hy, BitVec.zero_shiftLeft, HZ.out, BitVec.xor_zero] at hs; exact hs
      have hb := ne_zero_no hy
      clear hs hy
      go_wp2
      go_ret
      exact ⟨by rw [HS.out]; rfl, rfl⟩
    · have hk64 : k < 64 := Crc.shr_ne hy
      have hb := ne_zero_yes hy
      have hc := HM.out k hk64
      rw [HF.out, ← BitVec.shiftRight_add] at hs
      have HS := Lib.hid hs
      have i0 : (0 : Int) ≤ (k : Int) := by omega
      have i1 : (k : Int) < 64 := by omega
      have HR : Hid ((x >>> k) >>> 1 = x >>> (k + 1)) := (BitVec.shiftRight_add x k 1).symm
      clear hs hy
      by_cases h1 : (x >>> k) &&& 1#64 = 1#64
      · have h2 := one_yes h1
        have HS2 : Hid (s ^^^ f (1#64 <<< k) ^^^ f (x >>> (k + 1) <<< (k + 1)) = f x) := by
          have := HS.out; rw [if_pos h1, ← BitVec.xor_assoc] at this; exact this
        clear h1 HS
        go_wp2
        go_round
        case rel => exact ⟨k + 1, _, by go_num, by rw [HR.out], rfl, HS2.out, by omega⟩
        case measure => simp [intOf]; omega
      · have h2 := one_no h1
        have HS2 : Hid (s ^^^ f (x >>> (k + 1) <<< (k + 1)) = f x) := by
          have := HS.out; rw [if_neg h1, BitVec.zero_xor] at this; exact this
        clear h1 HS
        go_wp2
        go_round
        case rel => exact ⟨k + 1, _, by go_num, by rw [HR.out], rfl, HS2.out, by omega⟩
        case measure => simp [intOf]; omega

theorem lin_square {f : BitVec 64 → BitVec 64} (h : Crc.Lin f) : Crc.Lin (fun x => f (f x)) := Crc.lin_comp h

/-- a matrix that is being filled: block B holds 64 cells that may be written, the first k of them those of f -/
def Filling (w : World) (B : Nat) (f : BitVec 64 → BitVec 64) (k : Nat) : Prop :=
  B < w.heap.size ∧ (∀ j, j < 64 → ∃ v, w.cell? ⟨B, j, none⟩ = some v) ∧ (∀ j, w.frozen? ⟨B, j, none⟩ = false) ∧ ∀ j, j < k → w.cell? ⟨B, j, none⟩ = some (encU (f (1#64 <<< j)))
theorem Filling.start (w : World) (t : TypeId) (f : BitVec 64 → BitVec 64) : Filling (w.alloc (.cells (Array.replicate 64 (.int .u64 0)) t)) w.heap.size f 0 := by
  refine ⟨by simp, fun j hj => ⟨.int .u64 0, ?_⟩, fun j => by simp, fun j hj => absurd hj (Nat.not_lt_zero _)⟩
  rw [World.cell?_alloc_at (hn := rfl), Array.getElem?_replicate]; simp [hj]
theorem Filling.drew {w : World} {B : Nat} {f : BitVec 64 → BitVec 64} {k : Nat} (h : Filling w B f k) : Filling w.drew B f k := h
theorem Filling.put {w : World} {B : Nat} {f : BitVec 64 → BitVec 64} {k : Nat} (h : Filling w B f k) (hk : k < 64) : Filling (w.setCell ⟨B, k, none⟩ (encU (f (1#64 <<< k)))) B f (k + 1) := by
  obtain ⟨h1, h2, h3, h4⟩ := h
  refine ⟨by simpa using h1, fun j hj => ?_, fun j => by simpa using h3 j, fun j hj => ?_⟩
  · obtain ⟨v, hv⟩ := h2 j hj; exact cell?_setCell_some hv
  · rcases Nat.lt_succ_iff_lt_or_eq.1 hj with h' | h'
    · rw [set_off (by omega)]; exact h4 j h'
    · subst h'; obtain ⟨v, hv⟩ := h2 j hk; exact set_same hv
theorem Filling.mat {w : World} {B : Nat} {f : BitVec 64 → BitVec 64} (h : Filling w B f 64) : MatAt w B f := h.2.2.2
theorem MatAt.below {w w' : World} {b B : Nat} {f : BitVec 64 → BitVec 64} (h : MatAt w b f) (hb : b < B) (e : Below B w w') : MatAt w' b f :=
  fun i hi => (e.cell (p := ⟨b, i, none⟩) hb).trans (h i hi)

set_option maxHeartbeats 800000 in
theorem square_any (b : Nat) (f : BitVec 64 → BitVec 64) (hf : Crc.Lin f) (w : World) (hbw : b < w.heap.size) (hm : MatAt w b f) :
    Calls Try.prog 21 #[.pointer (some ⟨b, 0, none⟩)] w fun e w' => ∃ b', e = .returned (.pointer (some ⟨b', 0, none⟩)) ∧ b' < w'.heap.size ∧ w.heap.size ≤ b' ∧ MatAt w' b' (fun x => f (f x)) ∧ Below w.heap.size w w' := by
  have HM := Lib.hid hm
  have HF := Lib.hid hf
  clear hm hf
  go_enter Try.func21, Try.ntmps21
  go_wp2
  change Code.wp _ _ _ _ (w.alloc (.cells (Array.replicate 64 (.int .u64 0)) 42))
  go_loopw [4, 5] (fun _ i wr => ∃ k : Nat, k ≤ 64 ∧ i = .int .i64 k ∧ Below w.heap.size w wr ∧ Filling wr w.heap.size (fun x => f (f x)) k) (fun _ i _ => 64 - (intOf i).toNat)
  case atStart => exact ⟨0, Nat.zero_le _, rfl, (Below.refl _ _).alloc (Nat.le_refl _) _, Filling.start _ _ _⟩
  case round =>
    obtain ⟨k, hk, rfl, hx, hfl⟩ := hrel
    by_cases hlt : k < 64
    · have hmr : MatAt wr b f := HM.out.below hbw hx
      have hc := hmr k hlt
      obtain ⟨v0, hv0⟩ := hfl.2.1 k hlt
      have hfz := hfl.2.2.1 k
      have i0 : (0 : Int) ≤ (k : Int) := by omega
      have i1 : (k : Int) < 64 := by omega
      have HFL := Lib.hid hfl
      have HMR := Lib.hid hmr
      clear hfl hmr
      go_wp2_with (go_at_call 22; refine (apply_any _ _ HF.out _ _ HMR.out).mono ?_; rintro e w' ⟨rfl, rfl⟩)
      go_roundw
      case rel => exact ⟨k + 1, by omega, by go_num, hx.setCell (by simp) _, HFL.out.put hlt⟩
      case measure => simp [intOf]; omega
    · have h64 : k = 64 := by omega
      subst h64
      have HFL := Lib.hid hfl
      clear hfl
      go_wp2
      go_ret
      exact ⟨_, rfl, HFL.out.1, Nat.le_refl _, HFL.out.mat, hx⟩
end Go.Proofs.Ytmleonpecodimaa
