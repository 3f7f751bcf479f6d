/-
  Chapter 15 (entry): the walks of EntryInverse, EntryTorn.
-/
import Derived.Test.YtbjafmjeilabiaaEnG
namespace Go.Proofs.Ytbjafmjeilabiaa
open Go.RowKit
set_option linter.unusedVariables false
attribute [local go_sem] eq_block eq_zero eqB_self

theorem decV_short (l : List (BitVec 8)) (h : l.length < 37) : decV l = badE 5 := by
  unfold decV; rw [if_pos (by omega)]

set_option maxHeartbeats 800000 in
theorem entryInverse_walk (k b : Int) (v : BitVec 64) (x0 x1 x2 x3 x4 x5 x6 x7 : BitVec 8) (t : BitVec 64) (w : World) :
    Calls Try.prog 6 #[.agg #[encI k, encI b, encU v, encB x0, encB x1, encB x2, encB x3, encB x4, encB x5, encB x6, encB x7], encU t] w fun e w' => e = .returned (.bool true) ∧ Below w.heap.size w w' := by
  by_cases hv : vld k b v [x0, x1, x2, x3, x4, x5, x6, x7] = true
  · have HE := Lib.hid (fun w => encode_any k b v x0 x1 x2 x3 x4 x5 x6 x7 t w)
    unfold encN encL at HE
    simp only [hv, if_true] at HE
    have HD := Lib.hid (dec_enc k b v x0 x1 x2 x3 x4 x5 x6 x7 t hv)
    have hl := seal8_len (pln k b v [x0, x1, x2, x3, x4, x5, x6, x7] t)
    rw [pln_len _ _ _ _ _ rfl] at hl
    generalize seal8 (pln k b v [x0, x1, x2, x3, x4, x5, x6, x7] t) = L at *
    have HL := Lib.hid hl
    have HV := Lib.hid hv
    clear hl hv
    go_enter Try.func6, Try.ntmps6
    go_wp2_with fail
    have hz : w.heap.size < (w.alloc (.cells #[encI k, encI b, encU v, encB x0, encB x1, encB x2, encB x3, encB x4, encB x5, encB x6, encB x7] 26)).heap.size := by simp
    generalize hW : w.alloc (.cells #[encI k, encI b, encU v, encB x0, encB x1, encB x2, encB x3, encB x4, encB x5, encB x6, encB x7] 26) = W at *
    have c0 : W.cell? ⟨w.heap.size, 0, none⟩ = some (encI k) := by rw [← hW]; simp
    have c1 : W.cell? ⟨w.heap.size, 1, none⟩ = some (encI b) := by rw [← hW]; simp
    have c2 : W.cell? ⟨w.heap.size, 2, none⟩ = some (encU v) := by rw [← hW]; simp
    have c3 : W.cell? ⟨w.heap.size, 3, none⟩ = some (encB x0) := by rw [← hW]; simp
    have c4 : W.cell? ⟨w.heap.size, 4, none⟩ = some (encB x1) := by rw [← hW]; simp
    have c5 : W.cell? ⟨w.heap.size, 5, none⟩ = some (encB x2) := by rw [← hW]; simp
    have c6 : W.cell? ⟨w.heap.size, 6, none⟩ = some (encB x3) := by rw [← hW]; simp
    have c7 : W.cell? ⟨w.heap.size, 7, none⟩ = some (encB x4) := by rw [← hW]; simp
    have c8 : W.cell? ⟨w.heap.size, 8, none⟩ = some (encB x5) := by rw [← hW]; simp
    have c9 : W.cell? ⟨w.heap.size, 9, none⟩ = some (encB x6) := by rw [← hW]; simp
    have c10 : W.cell? ⟨w.heap.size, 10, none⟩ = some (encB x7) := by rw [← hW]; simp
    have hxW : Ext w W := by rw [← hW]; exact Ext.alloc _ _
    have hbF : ∀ o, W.frozen? ⟨w.heap.size, o, none⟩ = false := fun o => by rw [← hW]; simp
    have HBF := Lib.hid hbF
    clear hW hbF
    go_wp2_with fail
    go_at_call 9
    refine (HE.out _).mono ?_
    rintro e w1 ⟨v1, rfl, ho1, hx1⟩
    have HS1 := Lib.hid (OwnB.slice ho1)
    have hc1 := Ext.cells hx1
    have hlt1 := Nat.lt_of_lt_of_le hz (Ext.size hx1)
    clear ho1
    go_wp2_with fail
    go_at_call 12
    refine (decode_any _ L _ (by rw [HL.out]; decide) HS1.out).mono ?_
    rintro e w2 ⟨rfl, hb2⟩
    rw [HD.out]
    unfold okE
    have hx2 : Ext W w2 := Ext.trans hx1 hb2
    have hc2 := hx2.cells
    have hlt2 := Nat.lt_of_lt_of_le hz hx2.size
    go_wp2_with fail
    go_at_call 11
    refine (awake_any _).mono ?_
    rintro e w3 ⟨rfl, hb3⟩
    have hx3 : Ext W w3 := (hx2.trans (Ext.alloc _ _)).trans hb3
    have hc3 := hx3.cells
    have hd3 := Ext.cells hb3
    have hs3 : w2.heap.size < w3.heap.size := by have := Ext.size hb3; simp at this; omega
    have hlt3 := Nat.lt_of_lt_of_le hz hx3.size
    go_wp2_with fail
    go_at_call 15
    refine (rvalid_any _ _ _ _ _ _ _ _ _ _ _ _).mono ?_
    rintro e w4 ⟨rfl, hb4⟩
    rw [HV.out]
    have hx4 : Ext W w4 := hx3.trans hb4
    have hc4 := hx4.cells
    have hd4 := Ext.cells hb4
    have hs4 : w2.heap.size < w4.heap.size := by have := Ext.size hb4; omega
    have hlt4 := Nat.lt_of_lt_of_le hz hx4.size
    go_wp2_with fail
    go_ret
    exact ⟨rfl, hxW.trans hx4⟩
  · have hv : vld k b v [x0, x1, x2, x3, x4, x5, x6, x7] = false := by simpa using hv
    have HE := Lib.hid (fun w => encode_no k b v x0 x1 x2 x3 x4 x5 x6 x7 t w hv)
    have HV := Lib.hid hv
    have HD := Lib.hid (decV_short [] (by decide))
    clear hv
    go_enter Try.func6, Try.ntmps6
    go_wp2_with fail
    have hz : w.heap.size < (w.alloc (.cells #[encI k, encI b, encU v, encB x0, encB x1, encB x2, encB x3, encB x4, encB x5, encB x6, encB x7] 26)).heap.size := by simp
    generalize hW : w.alloc (.cells #[encI k, encI b, encU v, encB x0, encB x1, encB x2, encB x3, encB x4, encB x5, encB x6, encB x7] 26) = W at *
    have c0 : W.cell? ⟨w.heap.size, 0, none⟩ = some (encI k) := by rw [← hW]; simp
    have c1 : W.cell? ⟨w.heap.size, 1, none⟩ = some (encI b) := by rw [← hW]; simp
    have c2 : W.cell? ⟨w.heap.size, 2, none⟩ = some (encU v) := by rw [← hW]; simp
    have c3 : W.cell? ⟨w.heap.size, 3, none⟩ = some (encB x0) := by rw [← hW]; simp
    have c4 : W.cell? ⟨w.heap.size, 4, none⟩ = some (encB x1) := by rw [← hW]; simp
    have c5 : W.cell? ⟨w.heap.size, 5, none⟩ = some (encB x2) := by rw [← hW]; simp
    have c6 : W.cell? ⟨w.heap.size, 6, none⟩ = some (encB x3) := by rw [← hW]; simp
    have c7 : W.cell? ⟨w.heap.size, 7, none⟩ = some (encB x4) := by rw [← hW]; simp
    have c8 : W.cell? ⟨w.heap.size, 8, none⟩ = some (encB x5) := by rw [← hW]; simp
    have c9 : W.cell? ⟨w.heap.size, 9, none⟩ = some (encB x6) := by rw [← hW]; simp
    have c10 : W.cell? ⟨w.heap.size, 10, none⟩ = some (encB x7) := by rw [← hW]; simp
    have hxW : Ext w W := by rw [← hW]; exact Ext.alloc _ _
    have hbF : ∀ o, W.frozen? ⟨w.heap.size, o, none⟩ = false := fun o => by rw [← hW]; simp
    have HBF := Lib.hid hbF
    clear hW hbF
    go_wp2_with fail
    go_at_call 9
    refine (HE.out _).mono ?_
    rintro e w1 ⟨rfl, hx1⟩
    go_wp2_with fail
    go_at_call 12
    refine (decode_any _ [] _ (by decide) SliceAt.nil).mono ?_
    rintro e w2 ⟨rfl, hb2⟩
    rw [HD.out]
    unfold badE
    have hx2 : Ext W w2 := Ext.trans hx1 hb2
    go_wp2_with fail
    go_at_call 11
    refine (awake_any _).mono ?_
    rintro e w3 ⟨rfl, hb3⟩
    have hx3 : Ext W w3 := (hx2.trans (Ext.alloc _ _)).trans hb3
    have hc3 := hx3.cells
    have hlt3 := Nat.lt_of_lt_of_le hz hx3.size
    go_wp2_with fail
    go_at_call 15
    refine (rvalid_any _ _ _ _ _ _ _ _ _ _ _ _).mono ?_
    rintro e w4 ⟨rfl, hb4⟩
    rw [HV.out]
    go_wp2_with fail
    go_at_call 11
    refine (awake_any _).mono ?_
    rintro e w5 ⟨rfl, hb5⟩
    go_wp2_with fail
    go_ret
    exact ⟨rfl, hxW.trans ((hx3.trans hb4).trans hb5)⟩

set_option maxHeartbeats 800000 in
theorem entryTorn_walk (k b : Int) (v : BitVec 64) (x0 x1 x2 x3 x4 x5 x6 x7 : BitVec 8) (t : BitVec 64) (n : BitVec 8) (w : World) :
    Calls Try.prog 8 #[.agg #[encI k, encI b, encU v, encB x0, encB x1, encB x2, encB x3, encB x4, encB x5, encB x6, encB x7], encU t, encB n] w fun e w' => e = .returned (.bool true) ∧ Below w.heap.size w w' := by
  by_cases hv : vld k b v [x0, x1, x2, x3, x4, x5, x6, x7] = true
  · have HE := Lib.hid (fun w => rencode_any k b v x0 x1 x2 x3 x4 x5 x6 x7 t w)
    unfold encN encL at HE
    simp only [hv, if_true] at HE
    have hl := seal8_len (pln k b v [x0, x1, x2, x3, x4, x5, x6, x7] t)
    rw [pln_len _ _ _ _ _ rfl] at hl
    generalize seal8 (pln k b v [x0, x1, x2, x3, x4, x5, x6, x7] t) = L at *
    have HL := Lib.hid hl
    clear hl hv
    have hnb := ub_bound n
    generalize hm : ub n % 37 = m
    have hm1 : 0 ≤ m := by omega
    have hm2 : m < 37 := by omega
    obtain ⟨m, rfl⟩ := Int.eq_ofNat_of_zero_le hm1
    go_enter Try.func8, Try.ntmps8
    go_wp2_with fail
    have hz : w.heap.size < (w.alloc (.cells #[encI k, encI b, encU v, encB x0, encB x1, encB x2, encB x3, encB x4, encB x5, encB x6, encB x7] 26)).heap.size := by simp
    generalize hW : w.alloc (.cells #[encI k, encI b, encU v, encB x0, encB x1, encB x2, encB x3, encB x4, encB x5, encB x6, encB x7] 26) = W at *
    have c0 : W.cell? ⟨w.heap.size, 0, none⟩ = some (encI k) := by rw [← hW]; simp
    have c1 : W.cell? ⟨w.heap.size, 1, none⟩ = some (encI b) := by rw [← hW]; simp
    have c2 : W.cell? ⟨w.heap.size, 2, none⟩ = some (encU v) := by rw [← hW]; simp
    have c3 : W.cell? ⟨w.heap.size, 3, none⟩ = some (encB x0) := by rw [← hW]; simp
    have c4 : W.cell? ⟨w.heap.size, 4, none⟩ = some (encB x1) := by rw [← hW]; simp
    have c5 : W.cell? ⟨w.heap.size, 5, none⟩ = some (encB x2) := by rw [← hW]; simp
    have c6 : W.cell? ⟨w.heap.size, 6, none⟩ = some (encB x3) := by rw [← hW]; simp
    have c7 : W.cell? ⟨w.heap.size, 7, none⟩ = some (encB x4) := by rw [← hW]; simp
    have c8 : W.cell? ⟨w.heap.size, 8, none⟩ = some (encB x5) := by rw [← hW]; simp
    have c9 : W.cell? ⟨w.heap.size, 9, none⟩ = some (encB x6) := by rw [← hW]; simp
    have c10 : W.cell? ⟨w.heap.size, 10, none⟩ = some (encB x7) := by rw [← hW]; simp
    have hxW : Ext w W := by rw [← hW]; exact Ext.alloc _ _
    have hbF : ∀ o, W.frozen? ⟨w.heap.size, o, none⟩ = false := fun o => by rw [← hW]; simp
    have HBF := Lib.hid hbF
    clear hW hbF
    go_wp2_with fail
    go_at_call 10
    refine (HE.out _).mono ?_
    rintro e w1 ⟨v1, rfl, ho1, hx1⟩
    have HS1 := Lib.hid (OwnB.slice ho1)
    obtain ⟨bb, off, cap, rfl, hca, hbb, _⟩ := (OwnB.slice ho1).some_of (by have := HL.out; omega)
    have hlb := HL.out
    rw [hlb] at HS1 hca ⊢
    have hc37 : (37 : Int) ≤ (cap : Int) := by omega
    have hmc : (m : Int) ≤ (cap : Int) := by omega
    clear ho1 hca hlb
    go_wp2_with fail
    go_at_call 11
    refine (awake_any _).mono ?_
    rintro e w2 ⟨rfl, hb2⟩
    go_wp2_with fail
    go_at_call 12
    refine (decode_any _ (L.take m) _ (by unfold maxLen; simp; omega) ((HS1.out.take m (by omega)).ext hb2)).mono ?_
    rintro e w3 ⟨rfl, hb3⟩
    rw [decV_short (L.take m) (by simp; omega)]
    unfold badE
    go_wp2_with fail
    go_ret
    exact ⟨rfl, hxW.trans (((Ext.trans hx1 hb2).trans hb3).trans (Ext.alloc _ _))⟩
  · have HE := Lib.hid (fun w => rencode_no k b v x0 x1 x2 x3 x4 x5 x6 x7 t w (by simpa using hv))
    clear hv
    go_enter Try.func8, Try.ntmps8
    go_wp2_with fail
    have hz : w.heap.size < (w.alloc (.cells #[encI k, encI b, encU v, encB x0, encB x1, encB x2, encB x3, encB x4, encB x5, encB x6, encB x7] 26)).heap.size := by simp
    generalize hW : w.alloc (.cells #[encI k, encI b, encU v, encB x0, encB x1, encB x2, encB x3, encB x4, encB x5, encB x6, encB x7] 26) = W at *
    have c0 : W.cell? ⟨w.heap.size, 0, none⟩ = some (encI k) := by rw [← hW]; simp
    have c1 : W.cell? ⟨w.heap.size, 1, none⟩ = some (encI b) := by rw [← hW]; simp
    have c2 : W.cell? ⟨w.heap.size, 2, none⟩ = some (encU v) := by rw [← hW]; simp
    have c3 : W.cell? ⟨w.heap.size, 3, none⟩ = some (encB x0) := by rw [← hW]; simp
    have c4 : W.cell? ⟨w.heap.size, 4, none⟩ = some (encB x1) := by rw [← hW]; simp
    have c5 : W.cell? ⟨w.heap.size, 5, none⟩ = some (encB x2) := by rw [← hW]; simp
    have c6 : W.cell? ⟨w.heap.size, 6, none⟩ = some (encB x3) := by rw [← hW]; simp
    have c7 : W.cell? ⟨w.heap.size, 7, none⟩ = some (encB x4) := by rw [← hW]; simp
    have c8 : W.cell? ⟨w.heap.size, 8, none⟩ = some (encB x5) := by rw [← hW]; simp
    have c9 : W.cell? ⟨w.heap.size, 9, none⟩ = some (encB x6) := by rw [← hW]; simp
    have c10 : W.cell? ⟨w.heap.size, 10, none⟩ = some (encB x7) := by rw [← hW]; simp
    have hxW : Ext w W := by rw [← hW]; exact Ext.alloc _ _
    have hbF : ∀ o, W.frozen? ⟨w.heap.size, o, none⟩ = false := fun o => by rw [← hW]; simp
    have HBF := Lib.hid hbF
    clear hW hbF
    go_wp2_with fail
    go_at_call 10
    refine (HE.out _).mono ?_
    rintro e w1 ⟨rfl, hx1⟩
    go_wp2_with fail
    go_at_call 11
    refine (awake_any _).mono ?_
    rintro e w2 ⟨rfl, hb2⟩
    go_wp2_with fail
    go_at_call 11
    refine (awake_any _).mono ?_
    rintro e w3 ⟨rfl, hb3⟩
    go_wp2_with fail
    go_ret
    exact ⟨rfl, hxW.trans ((Ext.trans hx1 hb2).trans hb3)⟩
end Go.Proofs.Ytbjafmjeilabiaa
