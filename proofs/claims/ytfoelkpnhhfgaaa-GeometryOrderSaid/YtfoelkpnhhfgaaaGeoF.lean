/-
  Chapter 10 (geometry): the example of the document ('awake').
-/
import Derived.Test.YtfoelkpnhhfgaaaGeoE
namespace Go.Proofs.Ytfoelkpnhhfgaaa
open Go.RowKit
set_option linter.unusedVariables false

theorem SliceAt.one {α : Type} {enc : α → Value} (w : World) (x : α) (t : TypeId) : SliceAt enc (w.alloc (.cells #[enc x] t)) (.slice (some ⟨w.heap.size, 0, none⟩) 1 1) [x] := by
  refine ⟨_, 1, rfl, .inr ⟨_, 0, rfl, by simp, fun i hi => ?_⟩⟩
  have : i = 0 := by simpa using hi
  subst this
  simp

theorem awake_locate (w : World) :
    Calls Try.prog 21 #[geoV 80 5 2 4 1, .int .i64 93] w fun e w' => e = .returned (.tuple #[.int .i64 1, .int .i64 1, .int .i64 1, .int .i64 0]) ∧ Below w.heap.size w w' := by
  have := locate_any 80 5 2 4 1 93 w
  rwa [show loc 80 5 2 4 1 93 = ⟨1, 1, 1, 0⟩ by rfl] at this
theorem awake_shadow (w : World) :
    Calls Try.prog 18 #[geoV 80 5 2 4 1, .int .i64 89] w fun e w' => ∃ v, e = .returned v ∧ SliceAt encI w' v [93] ∧ Below w.heap.size w w' := by
  have := shadow_any 80 5 2 4 1 89 w
  rwa [show shw 80 5 2 4 1 89 = [93] by rfl] at this
theorem awake_size (w : World) :
    Calls Try.prog 13 #[geoV 80 5 2 4 1] w fun e w' => e = .returned (.int .i64 120) ∧ Below w.heap.size w w' := by
  have := size_any 80 5 2 4 1 w
  rwa [show szz 80 5 2 4 1 = 120 by rfl] at this

set_option maxHeartbeats 1000000 in
theorem awake_any (w : World) :
    Calls Try.prog 10 #[] w fun e w' => e = .returned (.bool true) ∧ Below w.heap.size w w' := by
  go_enter Try.func10, Try.ntmps10
  go_wp2_with (first
    | (go_at_call 21; refine (awake_locate _).mono ?_; rintro e w1 ⟨rfl, hb1⟩; have hc1 := below_cells hb1; have hz1 : w.heap.size < w1.heap.size := (by have := hb1.size; simp at this; omega))
    | (go_at_call 18; refine (awake_shadow _).mono ?_; rintro e w2 ⟨v2, rfl, hs2, hb2⟩; have hc2 := below_cells hb2; have hz2 : w.heap.size < w2.heap.size := (by have := hb2.size; omega))
    | (go_at_call 17; refine (ints_any _ _ _ _ _ (hs2.ext (Ext.alloc _ _)) (SliceAt.one (enc := encI) _ _ _) (by decide) (by decide)).mono ?_; rintro e w3 ⟨rfl, hb3⟩; have hc3 := ((Ext.alloc _ _).trans hb3).cells; have hz3 : w.heap.size < w3.heap.size := (by have := hb3.size; simp at this; omega))
    | (go_at_call 13; refine (awake_size _).mono ?_; rintro e w4 ⟨rfl, hb4⟩))
  go_ret
  exact ⟨rfl, ((((Ext.alloc _ _).trans hb1).trans hb2).trans ((Ext.alloc _ _).trans hb3)).trans hb4⟩
end Go.Proofs.Ytfoelkpnhhfgaaa
