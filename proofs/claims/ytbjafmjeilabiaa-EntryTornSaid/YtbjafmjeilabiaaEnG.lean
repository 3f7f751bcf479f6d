/-
  Chapter 15 (entry): the walks of EntryEncode, EntryDecode, EntryInverse, EntryTorn.
-/
import Derived.Test.YtbjafmjeilabiaaEnF
namespace Go.Proofs.Ytbjafmjeilabiaa
open Go.RowKit
set_option linter.unusedVariables false

attribute [local go_sem] eq_block eq_zero eqB_self
/-- the error and the bytes of an encoding -/
def encN (k b : Int) (v : BitVec 64) (d : List (BitVec 8)) : Int := if vld k b v d = true then 0 else 1
def encL (k b : Int) (v : BitVec 64) (d : List (BitVec 8)) (t : BitVec 64) : List (BitVec 8) := if vld k b v d = true then seal8 (pln k b v d t) else []
theorem encL_len (k b : Int) (v : BitVec 64) (d : List (BitVec 8)) (t : BitVec 64) (hd : d.length = 8) : (encL k b v d t).length ≤ 37 := by
  unfold encL; split
  · rw [seal8_len, pln_len _ _ _ _ _ hd]; omega
  · simp
theorem encode_any (k b : Int) (v : BitVec 64) (x0 x1 x2 x3 x4 x5 x6 x7 : BitVec 8) (t : BitVec 64) (w : World) :
    Calls Try.prog 9 #[.agg #[encI k, encI b, encU v, encB x0, encB x1, encB x2, encB x3, encB x4, encB x5, encB x6, encB x7], encU t] w fun e w' => ∃ v', e = .returned (.tuple #[v', .int .i64 (encN k b v [x0, x1, x2, x3, x4, x5, x6, x7])]) ∧ OwnB w' w.heap.size v' (encL k b v [x0, x1, x2, x3, x4, x5, x6, x7] t) ∧ Below w.heap.size w w' := by
  unfold encN encL
  by_cases h : vld k b v [x0, x1, x2, x3, x4, x5, x6, x7] = true
  · rw [if_pos h, if_pos h]; exact encode_yes k b v x0 x1 x2 x3 x4 x5 x6 x7 t w h
  · rw [if_neg h, if_neg h]
    exact (encode_no k b v x0 x1 x2 x3 x4 x5 x6 x7 t w (by simpa using h)).mono fun e w' ⟨he, hb⟩ => ⟨_, he, OwnB.nil _ _, hb⟩
theorem rencode_any (k b : Int) (v : BitVec 64) (x0 x1 x2 x3 x4 x5 x6 x7 : BitVec 8) (t : BitVec 64) (w : World) :
    Calls Try.prog 10 #[.agg #[encI k, encI b, encU v, encB x0, encB x1, encB x2, encB x3, encB x4, encB x5, encB x6, encB x7], encU t] w fun e w' => ∃ v', e = .returned (.tuple #[v', .int .i64 (encN k b v [x0, x1, x2, x3, x4, x5, x6, x7])]) ∧ OwnB w' w.heap.size v' (encL k b v [x0, x1, x2, x3, x4, x5, x6, x7] t) ∧ Below w.heap.size w w' := by
  unfold encN encL
  by_cases h : vld k b v [x0, x1, x2, x3, x4, x5, x6, x7] = true
  · rw [if_pos h, if_pos h]; exact rencode_yes k b v x0 x1 x2 x3 x4 x5 x6 x7 t w h
  · rw [if_neg h, if_neg h]
    exact (rencode_no k b v x0 x1 x2 x3 x4 x5 x6 x7 t w (by simpa using h)).mono fun e w' ⟨he, hb⟩ => ⟨_, he, OwnB.nil _ _, hb⟩

set_option maxHeartbeats 800000 in
theorem entryEncode_walk (k b : Int) (v : BitVec 64) (x0 x1 x2 x3 x4 x5 x6 x7 : BitVec 8) (t : BitVec 64) (w : World) :
    Calls Try.prog 3 #[.agg #[encI k, encI b, encU v, encB x0, encB x1, encB x2, encB x3, encB x4, encB x5, encB x6, encB x7], encU t] w fun e w' => e = .returned (.bool true) ∧ Below w.heap.size w w' := by
  go_enter Try.func3, Try.ntmps3
  go_wp2_with fail
  have hz : w.heap.size < (w.alloc (.cells #[encI k, encI b, encU v, encB x0, encB x1, encB x2, encB x3, encB x4, encB x5, encB x6, encB x7] 26)).heap.size := by simp
  generalize hW : w.alloc (.cells #[encI k, encI b, encU v, encB x0, encB x1, encB x2, encB x3, encB x4, encB x5, encB x6, encB x7] 26) = W at *
  have c0 : W.cell? ⟨w.heap.size, 0, none⟩ = some (encI k) := by rw [← hW]; simp
  have c1 : W.cell? ⟨w.heap.size, 1, none⟩ = some (encI b) := by rw [← hW]; simp
  have c2 : W.cell? ⟨w.heap.size, 2, none⟩ = some (encU v) := by rw [← hW]; simp
  have c3 : W.cell? ⟨w.heap.size, 3, none⟩ = some (encB x0) := by rw [← hW]; simp
  have c4 : W.cell? ⟨w.heap.size, 4, none⟩ = some (encB x1) := by rw [← hW]; simp
  have c5 : W.cell? ⟨w.heap.size, 5, none⟩ = some (encB x2) := by rw [← hW]; simp
  have c6 : W.cell? ⟨w.heap.size, 6, none⟩ = some (encB x3) := by rw [← hW]; simp
  have c7 : W.cell? ⟨w.heap.size, 7, none⟩ = some (encB x4) := by rw [← hW]; simp
  have c8 : W.cell? ⟨w.heap.size, 8, none⟩ = some (encB x5) := by rw [← hW]; simp
  have c9 : W.cell? ⟨w.heap.size, 9, none⟩ = some (encB x6) := by rw [← hW]; simp
  have c10 : W.cell? ⟨w.heap.size, 10, none⟩ = some (encB x7) := by rw [← hW]; simp
  have hxW : Ext w W := by rw [← hW]; exact Ext.alloc _ _
  have hbF : ∀ o, W.frozen? ⟨w.heap.size, o, none⟩ = false := fun o => by rw [← hW]; simp
  have HBF := Lib.hid hbF
  clear hW hbF
  go_wp2_with fail
  go_at_call 9
  refine (encode_any _ _ _ _ _ _ _ _ _ _ _ _ _).mono ?_
  rintro e w1 ⟨v1, rfl, ho1, hx1⟩
  have HS1 := Lib.hid (OwnB.slice ho1)
  have hc1 := Ext.cells hx1
  have hlt1 := Nat.lt_of_lt_of_le hz (Ext.size hx1)
  clear ho1
  go_wp2_with fail
  go_at_call 10
  refine (rencode_any _ _ _ _ _ _ _ _ _ _ _ _ _).mono ?_
  rintro e w2 ⟨v2, rfl, ho2, hb2⟩
  have HS2 := Lib.hid (OwnB.slice ho2)
  clear ho2
  go_wp2_with fail
  go_at_call 11
  refine (awake_any _).mono ?_
  rintro e w3 ⟨rfl, hb3⟩
  have hcv1 := run_str (P := Try.prog) Try.underlying27 Try.underlying5 Try.underlying9 w3 _ _ ((HS1.out.ext hb2).ext hb3)
  have hcv2 := run_str (P := Try.prog) Try.underlying27 Try.underlying5 Try.underlying9 w3 _ _ (HS2.out.ext hb3)
  go_wp2_with fail
  go_ret
  exact ⟨rfl, hxW.trans (Ext.trans (Ext.trans hx1 hb2) hb3)⟩

set_option maxHeartbeats 800000 in
theorem entryDecode_walk (v : Value) (l : List (BitVec 8)) (w : World) (hl : l.length ≤ maxLen) (h : SliceAt encB w v l) :
    Calls Try.prog 4 #[v] w fun e w' => e = .returned (.bool true) ∧ Below w.heap.size w w' := by
  obtain ⟨k, b, u, x0, x1, x2, x3, x4, x5, x6, x7, t, n, hd⟩ := decV_ok l
  have HD := Lib.hid hd
  have HS := Lib.hid h
  have HL := Lib.hid hl
  clear hd h hl
  go_enter Try.func4, Try.ntmps4
  go_wp2_with fail
  go_at_call 12
  refine (decode_any _ l _ HL.out HS.out).mono ?_
  rintro e w1 ⟨rfl, hb1⟩
  rw [HD.out]
  unfold okE
  go_wp2_with fail
  go_at_call 13
  refine (rdecode_any _ l _ HL.out ((HS.out.ext hb1).ext (Ext.alloc _ _))).mono ?_
  rintro e w2 ⟨rfl, hb2⟩
  rw [HD.out]
  unfold okE
  have hc2 := Ext.cells hb2
  go_wp2_with fail
  go_at_call 11
  refine (awake_any _).mono ?_
  rintro e w3 ⟨rfl, hb3⟩
  have hc3 := Ext.cells hb3
  have hs2 : w1.heap.size < w2.heap.size := by have := Ext.size hb2; simp at this; omega
  have hs3 : w2.heap.size < w3.heap.size := by have := Ext.size hb3; simp at this; omega
  have hs4 : w1.heap.size < w3.heap.size := by omega
  go_wp2_with fail
  go_ret
  refine ⟨rfl, Ext.trans (Ext.trans hb1 ?_) hb3⟩
  refine Ext.trans ?_ (Ext.alloc _ _)
  exact Ext.trans (Ext.alloc _ _) hb2
end Go.Proofs.Ytbjafmjeilabiaa
