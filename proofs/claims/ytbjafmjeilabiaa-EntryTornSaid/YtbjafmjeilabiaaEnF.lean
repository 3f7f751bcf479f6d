/-
  Chapter 15 (entry): what is decoded from an encoding; awake.
-/
import Derived.Test.YtbjafmjeilabiaaEnE
namespace Go.Proofs.Ytbjafmjeilabiaa
open Go.RowKit
set_option linter.unusedVariables false

theorem pln_len (k b : Int) (v : BitVec 64) (d : List (BitVec 8)) (t : BitVec 64) (hd : d.length = 8) : (pln k b v d t).length = 29 := by
  simp [pln, le_length, hd]
theorem seal8_len (p : List (BitVec 8)) : (seal8 p).length = p.length + 8 := by simp [seal8, le_length]
theorem seal8_dC (p : List (BitVec 8)) (h : p.length = 29) : dC (seal8 p) = Crc.sum p := by
  unfold dC seal8; rw [List.take_left' h]
theorem seal8_dS (p : List (BitVec 8)) (h : p.length = 29) : dS (seal8 p) = Crc.sum p := by
  unfold dS seal8
  rw [List.take_of_length_le (by simp [le_length, h]), List.drop_left' h, unle_le]
def okE (k b : Int) (v : BitVec 64) (x0 x1 x2 x3 x4 x5 x6 x7 : BitVec 8) (t : BitVec 64) (n : Int) : Value := .tuple #[.agg #[encI k, encI b, encU v, encB x0, encB x1, encB x2, encB x3, encB x4, encB x5, encB x6, encB x7], encU t, .int .i64 n]
theorem bad_ok (n : Int) : badE n = okE 0 0 0#64 0#8 0#8 0#8 0#8 0#8 0#8 0#8 0#8 0#64 n := rfl
theorem decV_ok (l : List (BitVec 8)) : ∃ k b v x0 x1 x2 x3 x4 x5 x6 x7 t n, decV l = okE k b v x0 x1 x2 x3 x4 x5 x6 x7 t n := by
  unfold decV
  split
  · exact ⟨_, _, _, _, _, _, _, _, _, _, _, _, _, bad_ok 5⟩
  split
  · exact ⟨_, _, _, _, _, _, _, _, _, _, _, _, _, bad_ok 6⟩
  split
  · exact ⟨_, _, _, _, _, _, _, _, _, _, _, _, _, rfl⟩
  · exact ⟨_, _, _, _, _, _, _, _, _, _, _, _, _, bad_ok 5⟩
theorem dec_enc (k b : Int) (v : BitVec 64) (x0 x1 x2 x3 x4 x5 x6 x7 : BitVec 8) (t : BitVec 64) (h : vld k b v [x0, x1, x2, x3, x4, x5, x6, x7] = true) :
    decV (seal8 (pln k b v [x0, x1, x2, x3, x4, x5, x6, x7] t)) = okE k b v x0 x1 x2 x3 x4 x5 x6 x7 t 0 := by
  obtain ⟨⟨hk1, hk2⟩, ⟨hb1, hb2⟩, hv⟩ := vld_bounds h
  have hl := pln_len k b v [x0, x1, x2, x3, x4, x5, x6, x7] t rfl
  have eK : dK (seal8 (pln k b v [x0, x1, x2, x3, x4, x5, x6, x7] t)) = k := by
    show ub ((BitVec.ofInt 64 k).setWidth 8) = k
    rcases (show k = 1 ∨ k = 2 by omega) with rfl | rfl <;> rfl
  have eB : dB (seal8 (pln k b v [x0, x1, x2, x3, x4, x5, x6, x7] t)) = b := by
    show un (unle (le 4 (BitVec.ofInt 64 b))) = b
    rw [unle_low 4 _ (by omega), un_ofInt b (by omega)]
    have := un_ofInt b (by omega)
    unfold un at this
    omega
  have eV : dV (seal8 (pln k b v [x0, x1, x2, x3, x4, x5, x6, x7] t)) = v := by
    show unle (le 8 v) = v
    exact unle_le v
  have eT : dT (seal8 (pln k b v [x0, x1, x2, x3, x4, x5, x6, x7] t)) = t := by
    show unle (le 8 t) = t
    exact unle_le t
  unfold decV
  rw [if_neg (by rw [seal8_len, hl]; decide), if_neg (by rw [seal8_dS _ hl, seal8_dC _ hl]; exact fun h => h rfl), eK, eB, eV, eT]
  rw [if_pos (by exact h)]
  rfl

set_option maxHeartbeats 800000 in
theorem awake_any (w : World) :
    Calls Try.prog 11 #[] w fun e w' => e = .returned (.bool true) ∧ Below w.heap.size w w' := by
  have HV : Hid (vld 2 258 1#64 [0#8, 0#8, 0#8, 0#8, 0#8, 0#8, 0#8, 0#8] = true) := by show _ = _; decide +kernel
  have HD := Lib.hid (dec_enc 2 258 1#64 0#8 0#8 0#8 0#8 0#8 0#8 0#8 0#8 3#64 HV.out)
  have hl := seal8_len (pln 2 258 1#64 [0#8, 0#8, 0#8, 0#8, 0#8, 0#8, 0#8, 0#8] 3#64)
  rw [pln_len _ _ _ _ _ rfl] at hl
  have HL := Lib.hid hl
  have HT : Hid ((seal8 (pln 2 258 1#64 [0#8, 0#8, 0#8, 0#8, 0#8, 0#8, 0#8, 0#8] 3#64)).take 6 = [2#8, 2#8, 1#8, 0#8, 0#8, 1#8]) := rfl
  have HE : Hid (∀ w : World, Calls Try.prog 9 #[.agg #[.int .i64 2, .int .i64 258, .int .u64 1, .int .u8 0, .int .u8 0, .int .u8 0, .int .u8 0, .int .u8 0, .int .u8 0, .int .u8 0, .int .u8 0], .int .u64 3] w fun e w' => ∃ v', e = .returned (.tuple #[v', .int .i64 0]) ∧ OwnB w' w.heap.size v' (seal8 (pln 2 258 1#64 [0#8, 0#8, 0#8, 0#8, 0#8, 0#8, 0#8, 0#8] 3#64)) ∧ Below w.heap.size w w') :=
    fun w => encode_yes 2 258 1#64 0#8 0#8 0#8 0#8 0#8 0#8 0#8 0#8 3#64 w HV.out
  generalize seal8 (pln 2 258 1#64 [0#8, 0#8, 0#8, 0#8, 0#8, 0#8, 0#8, 0#8] 3#64) = L at *
  have hcmp : (strB (L.take 6)).toList = [2, 2, 1, 0, 0, 1] := by rw [HT.out]; decide +kernel
  have hS6 : strB [2#8, 2#8, 1#8, 0#8, 0#8, 1#8] = ⟨#[2, 2, 1, 0, 0, 1]⟩ := rfl
  have HS6 := Lib.hid hS6
  clear hS6 hl HV
  go_enter Try.func11, Try.ntmps11
  go_wp2_with fail
  go_at_call 9
  refine (HE.out _).mono ?_
  rintro e w1 ⟨v1, rfl, ho1, hb1⟩
  have HS1 := Lib.hid (OwnB.slice ho1)
  obtain ⟨bb, off, cap, rfl, hca, hbb, _⟩ := (OwnB.slice ho1).some_of (by have := HL.out; omega)
  rw [HL.out] at HS1 hca ⊢
  have hc37 : (37 : Int) ≤ (cap : Int) := by omega
  clear ho1 hca
  go_wp2_with fail
  go_at_call 12
  refine (decode_any _ L _ (by rw [HL.out]; decide) HS1.out).mono ?_
  rintro e w2 ⟨rfl, hb2⟩
  rw [HD.out]
  unfold okE
  have hcv := fun (w' : World) (hx : Ext w2 w') => run_str (P := Try.prog) Try.underlying27 Try.underlying5 Try.underlying9 w' _ _ (((HS1.out.take 6 (by omega)).ext hb2).ext hx)
  have hxal := Ext.alloc w2
  go_wp2_with fail
  go_ret
  exact ⟨ret_bool rfl, Ext.trans (Ext.trans hb1 hb2) (Ext.alloc _ _)⟩
end Go.Proofs.Ytbjafmjeilabiaa
