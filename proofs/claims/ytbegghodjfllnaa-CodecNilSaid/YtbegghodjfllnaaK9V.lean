/-
  Chapter 9 (codec): read with a nil reader; the walk of CodecNil.
-/
import Derived.Test.YtbegghodjfllnaaK9U
namespace Go.Proofs.Ytbegghodjfllnaa
open Go.RowKit
set_option linter.unusedVariables false
attribute [local go_sem] eq_strE ne_strE eqB_self eq_block

def ReadNil (w : World) (b : Nat) (e : Ending) (w' : World) : Prop := e = .returned (.bool true) ∧ ∀ B, B ≤ b → B ≤ w.heap.size → Below B w w'

set_option maxHeartbeats 800000 in
theorem readn_0 (w : World) (b : Nat) (c : BitVec 8) (h : RdAt w b [] false) (hm : ub c % 5 = 0) :
    Calls Try.prog 29 #[.pointer none, .pointer (some ⟨b, 0, none⟩), encB c] w fun e w' => ReadNil w b e w' := by
  have H := Lib.hid h
  have hcb := ub_bound c
  have hlt := h.lt
  have hq0 : (ub c % 5 == 0) = true := by rw [hm]; rfl
  clear h hm
  go_enter Try.func29, Try.ntmps29
  go_wp2_with fail
  go_at_call 21
  refine (uint_nil _).mono ?_
  rintro e w1 ⟨rfl, rfl⟩
  go_wp2_with fail
  go_at_call 35
  refine (ruint_any _ _ [] false (by simp) (fun h => by cases h) H.out).mono ?_
  intro e w2 hp
  rw [show rd false [] = none from rfl] at hp
  obtain ⟨rfl, ha2⟩ := hp
  have HA2 := Lib.hid ha2
  clear ha2
  go_wp2_with fail
  go_ret
  exact ⟨rfl, fun B hB1 hB => Below.grown (Below.refl _ _) HA2.out.2 hB (fun k hk => by cases hk; exact hB1)⟩

set_option maxHeartbeats 800000 in
theorem readn_1 (w : World) (b : Nat) (c : BitVec 8) (h : RdAt w b [] false) (hm : ub c % 5 = 1) :
    Calls Try.prog 29 #[.pointer none, .pointer (some ⟨b, 0, none⟩), encB c] w fun e w' => ReadNil w b e w' := by
  have H := Lib.hid h
  have hcb := ub_bound c
  have hlt := h.lt
  have hq0 : (ub c % 5 == 0) = false := by rw [hm]; rfl
  have hq1 : (ub c % 5 == 1) = true := by rw [hm]; rfl
  clear h hm
  go_enter Try.func29, Try.ntmps29
  go_wp2_with fail
  go_at_call 22
  refine (int_nil _).mono ?_
  rintro e w1 ⟨rfl, rfl⟩
  go_wp2_with fail
  go_at_call 36
  refine (rint_any _ _ [] false (by simp) (fun h => by cases h) H.out).mono ?_
  intro e w2 hp
  rw [show rdI false [] = none from rfl] at hp
  obtain ⟨rfl, ha2⟩ := hp
  have HA2 := Lib.hid ha2
  clear ha2
  go_wp2_with fail
  go_ret
  exact ⟨rfl, fun B hB1 hB => Below.grown (Below.refl _ _) HA2.out.2 hB (fun k hk => by cases hk; exact hB1)⟩

set_option maxHeartbeats 800000 in
theorem readn_2 (w : World) (b : Nat) (c : BitVec 8) (h : RdAt w b [] false) (hm : ub c % 5 = 2) :
    Calls Try.prog 29 #[.pointer none, .pointer (some ⟨b, 0, none⟩), encB c] w fun e w' => ReadNil w b e w' := by
  have H := Lib.hid h
  have hcb := ub_bound c
  have hlt := h.lt
  have hq0 : (ub c % 5 == 0) = false := by rw [hm]; rfl
  have hq1 : (ub c % 5 == 1) = false := by rw [hm]; rfl
  have hq2 : (ub c % 5 == 2) = true := by rw [hm]; rfl
  clear h hm
  go_enter Try.func29, Try.ntmps29
  go_wp2_with fail
  go_at_call 23
  refine (bytes_nil _).mono ?_
  rintro e w1 ⟨rfl, rfl⟩
  go_wp2_with fail
  go_at_call 37
  refine (rbytes_any _ _ [] false (by simp) (fun h => by cases h) H.out).mono ?_
  intro e w2 hp
  rw [show rdB false [] = none from rfl] at hp
  obtain ⟨rfl, ha2⟩ := hp
  have HA2 := Lib.hid ha2
  clear ha2
  have hcv := run_str (P := Try.prog) Try.underlying25 Try.underlying5 Try.underlying9 w2 _ _ SliceAt.nil
  go_wp2_with fail
  go_ret
  exact ⟨rfl, fun B hB1 hB => Below.grown (Below.refl _ _) HA2.out.2 hB (fun k hk => by cases hk; exact hB1)⟩

set_option maxHeartbeats 800000 in
theorem readn_3 (w : World) (b : Nat) (c : BitVec 8) (h : RdAt w b [] false) (hm : ub c % 5 = 3) :
    Calls Try.prog 29 #[.pointer none, .pointer (some ⟨b, 0, none⟩), encB c] w fun e w' => ReadNil w b e w' := by
  have H := Lib.hid h
  have hcb := ub_bound c
  have hlt := h.lt
  have hq0 : (ub c % 5 == 0) = false := by rw [hm]; rfl
  have hq1 : (ub c % 5 == 1) = false := by rw [hm]; rfl
  have hq2 : (ub c % 5 == 2) = false := by rw [hm]; rfl
  have hq3 : (ub c % 5 == 3) = true := by rw [hm]; rfl
  clear h hm
  go_enter Try.func29, Try.ntmps29
  go_wp2_with fail
  go_at_call 27
  refine (block_nil _).mono ?_
  rintro e w1 ⟨rfl, hb1⟩
  rw [zeroX_eq]
  have hlt1 : w1.heap.size ≠ b := by have := Ext.size hb1; omega
  have H1 := Lib.hid ((H.out.ext hb1).ext (Ext.alloc w1 (.cells #[encB 0#8, encB 0#8, encB 0#8, encB 0#8, encB 0#8, encB 0#8, encB 0#8, encB 0#8] 31)))
  go_wp2_with fail
  go_at_call 38
  refine (rblock_any _ _ [] false (by simp) (fun h => by cases h) H1.out).mono ?_
  intro e w2 hp
  rw [show rdX false [] = none from rfl] at hp
  obtain ⟨rfl, ha2⟩ := hp
  have HA2 := Lib.hid ha2
  clear ha2
  rw [zeroX_eq]
  have hz2 : w1.heap.size < w2.heap.size := by have := HA2.out.2.size; simp at this; omega
  have hk : ∀ o, w2.cell? ⟨w1.heap.size, o, none⟩ = (w1.alloc (.cells #[encB 0#8, encB 0#8, encB 0#8, encB 0#8, encB 0#8, encB 0#8, encB 0#8, encB 0#8] 31)).cell? ⟨w1.heap.size, o, none⟩ := fun o => World.cell?_of_block (HA2.out.2.block w1.heap.size (by simp) (fun e => hlt1 (Option.some.inj e)))
  have HFin : Hid (∀ B, B ≤ b → B ≤ w.heap.size → Below B w (w2.alloc (.cells #[encB 0#8, encB 0#8, encB 0#8, encB 0#8, encB 0#8, encB 0#8, encB 0#8, encB 0#8] 31))) := Lib.hid fun B hB1 hB =>
    Below.alloc (Below.grown (Below.alloc (Below.mono hb1 hB) (Nat.le_trans hB (Ext.size hb1)) _) HA2.out.2 (Nat.le_trans hB (by have := Ext.size hb1; simp; omega)) (fun k hk => by cases hk; exact hB1)) (by have := Ext.size hb1; omega) _
  go_wp2_with fail
  go_ret
  exact ⟨rfl, HFin.out⟩

set_option maxHeartbeats 800000 in
theorem readn_4 (w : World) (b : Nat) (c : BitVec 8) (h : RdAt w b [] false) (hm : ub c % 5 = 4) :
    Calls Try.prog 29 #[.pointer none, .pointer (some ⟨b, 0, none⟩), encB c] w fun e w' => ReadNil w b e w' := by
  have H := Lib.hid h
  have hcb := ub_bound c
  have hlt := h.lt
  have hq0 : (ub c % 5 == 0) = false := by rw [hm]; rfl
  have hq1 : (ub c % 5 == 1) = false := by rw [hm]; rfl
  have hq2 : (ub c % 5 == 2) = false := by rw [hm]; rfl
  have hq3 : (ub c % 5 == 3) = false := by rw [hm]; rfl
  clear h hm
  go_enter Try.func29, Try.ntmps29
  go_wp2_with fail
  go_at_call 25
  refine (count_nil _ (ub c) ⟨by omega, by omega⟩).mono ?_
  rintro e w1 ⟨rfl, rfl⟩
  go_wp2_with fail
  go_at_call 39
  refine (rcount_any _ _ [] false (ub c) ⟨by omega, by omega⟩ (by simp) (fun h => by cases h) H.out).mono ?_
  intro e w2 hp
  rw [show rdC (ub c) false [] = none from rfl] at hp
  obtain ⟨rfl, ha2⟩ := hp
  have HA2 := Lib.hid ha2
  clear ha2
  go_wp2_with fail
  go_ret
  exact ⟨rfl, fun B hB1 hB => Below.grown (Below.refl _ _) HA2.out.2 hB (fun k hk => by cases hk; exact hB1)⟩

theorem readn_any (w : World) (b : Nat) (c : BitVec 8) (h : RdAt w b [] false) :
    Calls Try.prog 29 #[.pointer none, .pointer (some ⟨b, 0, none⟩), encB c] w fun e w' => ReadNil w b e w' := by
  have hcb := ub_bound c
  rcases (show ub c % 5 = 0 ∨ ub c % 5 = 1 ∨ ub c % 5 = 2 ∨ ub c % 5 = 3 ∨ ub c % 5 = 4 by omega) with h' | h' | h' | h' | h'
  · exact readn_0 w b c h h'
  · exact readn_1 w b c h h'
  · exact readn_2 w b c h h'
  · exact readn_3 w b c h h'
  · exact readn_4 w b c h h'
end Go.Proofs.Ytbegghodjfllnaa
