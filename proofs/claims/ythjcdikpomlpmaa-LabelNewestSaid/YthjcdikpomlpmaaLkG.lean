/-
  Chapter 9 (codec): AppendBytes of the reference; AppendBlock.
-/
import Derived.Test.YthjcdikpomlpmaaLkE
namespace Go.Proofs.Ythjcdikpomlpmaa
open Go.RowKit
set_option linter.unusedVariables false

theorem rappendBytes_any (v vx : Value) (l lx : List (BitVec 8)) (w : World) (hl : l.length ≤ 50000) (hlx : lx.length ≤ 50000) (h : SliceAt encB w v l) (hx : SliceAt encB w vx lx) :
    Calls Try.prog 49 #[v, vx] w fun e w' => ∃ v', e = .returned v' ∧ OwnB w' w.heap.size v' (l ++ uv lx.length ++ lx) ∧ Below w.heap.size w w' := by
  obtain ⟨i0, hi, hz0, hz1, hz2⟩ := info_parts infoB
  have HA := Lib.hid h
  have HX := Lib.hid hx
  have hul := (uv_len lx.length (by omega)).2
  obtain ⟨adx, capx, rfl, _, _⟩ := hx
  clear h
  go_enter Try.func49, Try.ntmps49
  go_wp2_with (first
    | (go_at_call 47; refine (rappendUint_any _ l _ _ hl (by omega) HA.out).mono ?_; rintro e w1 ⟨v1, rfl, hown1, hb1⟩; have HO := Lib.hid hown1; clear hown1)
    | (at_builtin; refine wpList_append_slice (enc := encB) (fun _ => rfl) rfl (.tmp 9) (.tmp 10) 35 rfl w.heap.size 5 i0 (.int .u8 0) 1 Try.underlying35 hi hz0 hz1 hz2 rfl _ _ _ rfl HO.out _ lx rfl (HX.out.ext hb1) (by unfold maxLen; rw [List.length_append]; omega) (by rw [List.length_append]; omega) hb1.size ?_; intro v2 w2 hown2 hgrow2; have hx2 : Below w.heap.size w w2 := Below.grown hb1 hgrow2 hb1.size (fun k hk => (World.ownsRow.lt HO.out k hk).1); have HO2 := Lib.hid hown2; clear hown2 hgrow2))
  go_ret
  refine ⟨_, rfl, ?_, hx2⟩
  have h2 := HO2.out
  show World.ownsRow _ _ _ _ _ _ _
  rw [List.length_append, List.map_append]
  exact h2


theorem owns_mono {w : World} {b b' : Nat} {e : TypeId} {sz : Nat} {v : Value} {n : Nat} {xs : List Value} (h : w.ownsRow b e sz v n xs) (hb : b' ≤ b) : w.ownsRow b' e sz v n xs :=
  ⟨h.1, h.2.imp id (fun ⟨g, cap, cur, hv, hg, r⟩ => ⟨g, cap, cur, hv, Nat.le_trans hb hg, r⟩)⟩

end Go.Proofs.Ythjcdikpomlpmaa
