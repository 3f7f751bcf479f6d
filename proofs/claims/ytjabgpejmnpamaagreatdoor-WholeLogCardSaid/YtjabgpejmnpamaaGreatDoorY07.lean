/-
  Part 7 of the proof.
-/
import Derived.Test.YtjabgpejmnpamaaGreatDoorY04
import Derived.Test.YtjabgpejmnpamaaGreatDoorY05
set_option linter.unusedVariables false
namespace Go.Proofs.YtjabgpejmnpamaaGreatDoor
open Go.RowKit
attribute [local go_sem] wrap8_un or_un wrap_ub
def rpseal8 (l : List (BitVec 8)) : List (BitVec 8) := l ++ le 8 (Crc.sum l)
theorem seal8_len (p : List (BitVec 8)) : (rpseal8 p).length = p.length + 8 := by simp [rpseal8, le_length]
theorem rpshl_un (x : BitVec 64) (k : Nat) : IntKind.u64.wrap (un x * (2 : Int) ^ k) = un (x <<< k) := by
  have : ∀ y : Int, IntKind.u64.wrap y = y % 18446744073709551616 := fun y => by simp only [IntKind.wrap, IntKind.bits, IntKind.signed]; simp
  rw [this]; unfold un
  rw [BitVec.toNat_shiftLeft, Nat.shiftLeft_eq]; simp
set_option maxHeartbeats 400000 in
theorem number_any (v : Value) (l : List (BitVec 8)) (w : World) (hl : l.length ≤ 8) (h : SliceAt encB w v l) :
    Calls Tryz.prog 189 #[v] w fun e w' => e = .returned (encU (unle l)) ∧ w = w' := by
  obtain ⟨ad, cap, rfl, _, ha⟩ := h
  go_enter Tryz.func189, Tryz.ntmps189
  go_wp2
  go_loop [3, 8] (fun v i => ∃ (k : Nat) (y : BitVec 64), k ≤ l.length ∧ i = .int .i64 k ∧ v = encU y ∧ unle l = y ||| unle (l.drop k) <<< (8 * k)) (fun _ i => l.length - (intOf i).toNat)
  case atStart => exact ⟨0, 0#64, Nat.zero_le _, rfl, rfl, by simp⟩
  case round =>
    obtain ⟨k, y, hk, rfl, rfl, he⟩ := hrel
    by_cases hlt : k < l.length
    · rw [List.drop_eq_getElem_cons hlt, unle_step, ← BitVec.or_assoc] at he
      have HE := Lib.hid he
      clear he
      rcases ha with ⟨ha, _⟩ | ⟨b, o, rfl, hb, ha⟩
      · subst ha; simp at hlt
      have hc := ha k hlt
      generalize l[k] = c at *
      have hsh := rpshl_un (Crc.reg c) (8 * k)
      clear ha
      go_wp2
      go_round
      case rel => exact ⟨k + 1, _, by omega, by go_num, rfl, HE.out⟩
      case measure => simp [intOf]; omega
    · have HE : Hid (unle l = y) := by
        rw [List.drop_eq_nil_of_le (by omega), unle] at he; show unle l = y; simpa using he
      clear he
      go_wp2
      go_ret
      exact ⟨by rw [HE.out]; rfl, rfl⟩
theorem number_as (x : BitVec 64) (v : Value) (l : List (BitVec 8)) (w : World) (hx : unle l = x) (hl : l.length ≤ 8) (h : SliceAt encB w v l) :
    Calls Tryz.prog 189 #[v] w fun e w' => e = .returned (encU x) ∧ w = w' := by subst hx; exact number_any v l w hl h
end Go.Proofs.YtjabgpejmnpamaaGreatDoor
