/-
  Chapter 8 (crc64): the reference's Combine; two byte strings one after the other; the example of the document.
-/
import Derived.Test.YtmleonpecodimaaC8C
import Derived.Lib.SlBytesConst
namespace Go.Proofs.Ytmleonpecodimaa
open Go.RowKit
set_option linter.unusedVariables false
attribute [local go_sem] xor_un and_un and_one_un xor_poly_un half_un or_un not_un unsigned64 wrap_ub

theorem rcombine_any (a b : BitVec 64) (n : Nat) (hn : n ≤ 1000000) (w : World) :
    Calls Try.prog 18 #[encU a, encU b, .int .i64 n] w fun e w' => e = .returned (encU (Crc.combine a b n)) ∧ w = w' := by
  go_enter Try.func18, Try.ntmps18
  go_wp2_with (go_at_call 20; refine (steps_any _ _ (by omega) _).mono ?_; rintro e w' ⟨rfl, rfl⟩)
  go_ret
  exact ⟨by rw [show Crc.combine a b n = Crc.stepN (8 * (n : Int)).toNat a ^^^ b by unfold Crc.combine; rw [show (8 * (n : Int)).toNat = 8 * n by omega]]; rfl, rfl⟩

theorem infoB : (Try.prog.info? 5).map (fun i => (i.zero, i.size, i.bytes)) = some (some (.int .u8 0), 1, 1) := by kernel_rfl

set_option maxHeartbeats 400000 in
theorem joined_any (va vb : Value) (la lb : List (BitVec 8)) (w : World) (hla : la.length ≤ 100000) (hlb : lb.length ≤ 100000) (ha : SliceAt encB w va la) (hb : SliceAt encB w vb lb) :
    Calls Try.prog 16 #[va, vb] w fun e w' => ∃ v, e = .returned v ∧ SliceAt encB w' v (la ++ lb) ∧ Below w.heap.size w w' := by
  obtain ⟨i0, hi, hz0, hz1, hz2⟩ := info_parts infoB
  have HA := Lib.hid ha
  have HB := Lib.hid hb
  clear ha hb
  go_enter Try.func16, Try.ntmps16
  go_wp2_with (first
    | (at_builtin; refine wpList_append_slice (enc := encB) (fun _ => rfl) rfl (.tmp 5) (.tmp 6) 22 rfl w.heap.size 5 i0 (.int .u8 0) 1 Try.underlying22 hi hz0 hz1 hz2 rfl _ 0 [] rfl (World.ownsRow_lit w #[] 0 (Nat.le_refl _) (by decide) rfl) _ la rfl (HA.out.ext (Ext.alloc _ _)) (by unfold maxLen; omega) (by omega) (by simp) ?_; intro v1 w1 hown1 hgrow1; simp only [Nat.zero_add, List.nil_append] at hown1; have hx1 : Ext w w1 := ((Below.refl _ _).alloc (Nat.le_refl _) _).grown hgrow1 (by simp) (fun k hk => (by cases hk; exact Nat.le_refl _)))
    | (at_builtin; refine wpList_append_slice (enc := encB) (fun _ => rfl) rfl (.tmp 7) (.tmp 8) 22 rfl w.heap.size 5 i0 (.int .u8 0) 1 Try.underlying22 hi hz0 hz1 hz2 rfl _ _ _ rfl hown1 _ lb rfl (HB.out.ext hx1) (by unfold maxLen; omega) (by omega) hx1.below.size ?_; intro v2 w2 hown2 hgrow2; have hx2 : Ext w w2 := Below.grown hx1 hgrow2 hx1.below.size (fun k hk => (hown1.lt k hk).1); have hown2' := hown2))
  go_ret
  exact ⟨_, rfl, SliceAt.of_owns (by rw [List.map_append]; exact hown2'), hx2⟩

theorem cell_alloc_any (w : World) (cs : Array Value) (t : TypeId) (fr : Nat × Nat) (i : Nat) : (w.alloc (.cells cs t fr)).cell? ⟨w.heap.size, i, none⟩ = cs[i]? := by
  have h : (w.alloc (.cells cs t fr)).heap[w.heap.size]? = some (.cells cs t fr) := by
    show (w.heap.push (.cells cs t fr))[w.heap.size]? = _
    simp
  unfold World.cell?
  simp only [h, Option.isSome_none, Bool.false_eq_true, if_false]
theorem SliceAt.lit {α : Type} {enc : α → Value} (w : World) (l : List α) (t : TypeId) (fr : Nat × Nat) (cs : Array Value) (h : cs = (l.map enc).toArray) : SliceAt enc (w.alloc (.cells cs t fr)) (.slice (some ⟨w.heap.size, 0, none⟩) l.length l.length) l := by
  subst h
  refine ⟨_, l.length, rfl, Nat.le_refl _, .inr ⟨_, 0, rfl, by simp, fun i hi => ?_⟩⟩
  rw [Nat.zero_add, cell_alloc_any]
  simp [hi]

def nine : List (BitVec 8) := [49#8, 50#8, 51#8, 52#8, 53#8, 54#8, 55#8, 56#8, 57#8]
theorem sum_nine : un (Crc.sum nine) = 11051210869376104954 := by decide +kernel
theorem awake_sum (v : Value) (w : World) (h : SliceAt encB w v nine) :
    Calls Try.prog 12 #[v] w fun e w' => e = .returned (.int .u64 11051210869376104954) ∧ w = w' := by
  have := sum_any v nine w (by decide) h
  rwa [show encU (Crc.sum nine) = .int .u64 11051210869376104954 by unfold encU; rw [sum_nine]] at this
theorem awake_sum0 (w : World) :
    Calls Try.prog 12 #[.slice none 0 0] w fun e w' => e = .returned (.int .u64 0) ∧ w = w' := by
  have := sum_any (.slice none 0 0) [] w (by decide) SliceAt.nil
  rwa [show encU (Crc.sum []) = .int .u64 0 by unfold encU; rw [show un (Crc.sum []) = 0 by decide +kernel]] at this
theorem awake_combine (w : World) :
    Calls Try.prog 17 #[.int .u64 5, .int .u64 0, .int .i64 0] w fun e w' => e = .returned (.int .u64 5) ∧ Below w.heap.size w w' := by
  have := combine_any 5#64 0#64 0 (by decide) w
  rwa [show encU (Crc.combine 5#64 0#64 (0 : Int).toNat) = .int .u64 5 by rfl] at this

set_option maxHeartbeats 400000 in
theorem awake_any (w : World) :
    Calls Try.prog 11 #[] w fun e w' => e = .returned (.bool true) ∧ Below w.heap.size w w' := by
  have kc := fun (w : World) (C : Array Value) (n c : Nat) => Lib.run_convert_bytes_const (P := Try.prog) w 22 5 C n c Try.underlying22 Try.underlying5
  go_enter Try.func11, Try.ntmps11
  go_wp2_with (first
    | (go_at_call 12; (with_reducible refine (awake_sum0 _).mono ?_); rintro e w1 ⟨rfl, rfl⟩)
    | (go_at_call 12; refine (awake_sum _ _ (SliceAt.lit _ nine _ _ _ rfl)).mono ?_; rintro e w1 ⟨rfl, rfl⟩)
    | (go_at_call 17; refine (awake_combine _).mono ?_; rintro e w2 ⟨rfl, hb2⟩))
  go_ret
  exact ⟨rfl, (Ext.alloc _ _).trans hb2⟩
end Go.Proofs.Ytmleonpecodimaa
