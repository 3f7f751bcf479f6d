/-
  Chapter 15 (entry): Encode, in package entry and in its reference.
-/
import Derived.Test.YtbjafmjeilabiaaEnA
namespace Go.Proofs.Ytbjafmjeilabiaa
open Go.RowKit
set_option linter.unusedVariables false

theorem put_int (base : Nat) (v : Value) (l : List (BitVec 8)) (m n : Int) (w : World) (hm : 0 ≤ m ∧ m ≤ 18446744073709551615) (hl : l.length ≤ 1000000) (hn : 0 ≤ n ∧ n ≤ 8) (hb : base ≤ w.heap.size) (h : OwnB w base v l) :
    Calls Try.prog 17 #[v, .int .u64 m, .int .i64 n] w fun e w' => ∃ v', e = .returned v' ∧ OwnB w' base v' (l ++ le n.toNat (BitVec.ofInt 64 m)) ∧ Below base w w' := by
  have := put_any base v l (BitVec.ofInt 64 m) n w hl hn hb h
  unfold encU at this
  rw [un_ofInt m hm] at this
  exact this
theorem rput_int (v : Value) (l : List (BitVec 8)) (m n : Int) (w : World) (hm : 0 ≤ m ∧ m ≤ 18446744073709551615) (hl : l.length ≤ 1000000) (hn : 0 ≤ n ∧ n ≤ 8) (h : SliceAt encB w v l) :
    Calls Try.prog 19 #[v, .int .u64 m, .int .i64 n] w fun e w' => ∃ v', e = .returned v' ∧ OwnB w' w.heap.size v' (l ++ le n.toNat (BitVec.ofInt 64 m)) ∧ Below w.heap.size w w' := by
  have := rput_any v l (BitVec.ofInt 64 m) n w hl hn h
  unfold encU at this
  rw [un_ofInt m hm] at this
  exact this

/-- the bytes before the sum, and all of them -/
def pln (k b : Int) (v : BitVec 64) (d : List (BitVec 8)) (t : BitVec 64) : List (BitVec 8) := le 1 (BitVec.ofInt 64 k) ++ le 4 (BitVec.ofInt 64 b) ++ le 8 v ++ d ++ le 8 t
def seal8 (l : List (BitVec 8)) : List (BitVec 8) := l ++ le 8 (Crc.sum l)
theorem vld_bounds {k b : Int} {v : BitVec 64} {d : List (BitVec 8)} (h : vld k b v d = true) : (1 ≤ k ∧ k ≤ 2) ∧ (0 ≤ b ∧ b < 65536) ∧ 1 ≤ un v := by
  unfold vld at h
  simp only [Bool.and_eq_true, Bool.or_eq_true, decide_eq_true_eq] at h
  omega
theorem SliceAt.cells8 {W : World} {B o : Nat} {x0 x1 x2 x3 x4 x5 x6 x7 : BitVec 8} (hB : B < W.heap.size) (c0 : W.cell? ⟨B, o, none⟩ = some (encB x0)) (c1 : W.cell? ⟨B, o + 1, none⟩ = some (encB x1)) (c2 : W.cell? ⟨B, o + 2, none⟩ = some (encB x2)) (c3 : W.cell? ⟨B, o + 3, none⟩ = some (encB x3))
    (c4 : W.cell? ⟨B, o + 4, none⟩ = some (encB x4)) (c5 : W.cell? ⟨B, o + 5, none⟩ = some (encB x5)) (c6 : W.cell? ⟨B, o + 6, none⟩ = some (encB x6)) (c7 : W.cell? ⟨B, o + 7, none⟩ = some (encB x7)) :
    SliceAt encB W (.slice (some ⟨B, o, none⟩) 8 8) [x0, x1, x2, x3, x4, x5, x6, x7] := by
  refine ⟨_, 8, rfl, Nat.le_refl _, .inr ⟨B, o, rfl, hB, fun i hi => ?_⟩⟩
  have hi : i < 8 := hi
  match i, hi with
  | 0, _ => exact c0
  | 1, _ => exact c1
  | 2, _ => exact c2
  | 3, _ => exact c3
  | 4, _ => exact c4
  | 5, _ => exact c5
  | 6, _ => exact c6
  | 7, _ => exact c7

theorem owns_mono {w : World} {b b' : Nat} {v : Value} {l : List (BitVec 8)} (h : OwnB w b v l) (hb : b' ≤ b) : OwnB w b' v l :=
  ⟨h.1, h.2.imp id (fun ⟨g, cap, cur, hv, hg, r⟩ => ⟨g, cap, cur, hv, Nat.le_trans hb hg, r⟩)⟩
theorem encode_no (k b : Int) (v : BitVec 64) (x0 x1 x2 x3 x4 x5 x6 x7 : BitVec 8) (t : BitVec 64) (w : World) (h : vld k b v [x0, x1, x2, x3, x4, x5, x6, x7] = false) :
    Calls Try.prog 9 #[.agg #[encI k, encI b, encU v, encB x0, encB x1, encB x2, encB x3, encB x4, encB x5, encB x6, encB x7], encU t] w fun e w' => e = .returned (.tuple #[.slice none 0 0, .int .i64 1]) ∧ Below w.heap.size w w' := by
  have HV := Lib.hid h
  clear h
  go_enter Try.func9, Try.ntmps9
  go_wp2_with fail
  have hz : w.heap.size < (w.alloc (.cells #[encI k, encI b, encU v, encB x0, encB x1, encB x2, encB x3, encB x4, encB x5, encB x6, encB x7] 26)).heap.size := by simp
  generalize hW : w.alloc (.cells #[encI k, encI b, encU v, encB x0, encB x1, encB x2, encB x3, encB x4, encB x5, encB x6, encB x7] 26) = W at *
  have c0 : W.cell? ⟨w.heap.size, 0, none⟩ = some (encI k) := by rw [← hW]; simp
  have c1 : W.cell? ⟨w.heap.size, 1, none⟩ = some (encI b) := by rw [← hW]; simp
  have c2 : W.cell? ⟨w.heap.size, 2, none⟩ = some (encU v) := by rw [← hW]; simp
  have c3 : W.cell? ⟨w.heap.size, 3, none⟩ = some (encB x0) := by rw [← hW]; simp
  have c4 : W.cell? ⟨w.heap.size, 4, none⟩ = some (encB x1) := by rw [← hW]; simp
  have c5 : W.cell? ⟨w.heap.size, 5, none⟩ = some (encB x2) := by rw [← hW]; simp
  have c6 : W.cell? ⟨w.heap.size, 6, none⟩ = some (encB x3) := by rw [← hW]; simp
  have c7 : W.cell? ⟨w.heap.size, 7, none⟩ = some (encB x4) := by rw [← hW]; simp
  have c8 : W.cell? ⟨w.heap.size, 8, none⟩ = some (encB x5) := by rw [← hW]; simp
  have c9 : W.cell? ⟨w.heap.size, 9, none⟩ = some (encB x6) := by rw [← hW]; simp
  have c10 : W.cell? ⟨w.heap.size, 10, none⟩ = some (encB x7) := by rw [← hW]; simp
  have hxW : Ext w W := by rw [← hW]; exact Ext.alloc _ _
  have hbF : ∀ o, W.frozen? ⟨w.heap.size, o, none⟩ = false := fun o => by rw [← hW]; simp
  have HBF := Lib.hid hbF
  clear hW hbF
  go_wp2_with (go_at_call 16; refine (valid_any _ _ _ _ _ _ _ _ _ _ _ _).mono ?_; rintro e w1 ⟨rfl, hb1⟩; rw [HV.out])
  go_ret2
  exact ⟨rfl, hxW.trans hb1⟩

set_option maxHeartbeats 800000 in
theorem encode_yes (k b : Int) (v : BitVec 64) (x0 x1 x2 x3 x4 x5 x6 x7 : BitVec 8) (t : BitVec 64) (w : World) (h : vld k b v [x0, x1, x2, x3, x4, x5, x6, x7] = true) :
    Calls Try.prog 9 #[.agg #[encI k, encI b, encU v, encB x0, encB x1, encB x2, encB x3, encB x4, encB x5, encB x6, encB x7], encU t] w fun e w' => ∃ v', e = .returned (.tuple #[v', .int .i64 0]) ∧ OwnB w' w.heap.size v' (seal8 (pln k b v [x0, x1, x2, x3, x4, x5, x6, x7] t)) ∧ Below w.heap.size w w' := by
  obtain ⟨i0, hi, hz0, hz1, hz2⟩ := info_parts infoB
  obtain ⟨⟨hk1, hk2⟩, ⟨hb1, hb2⟩, hv⟩ := vld_bounds h
  have hvb := un_bound v
  have htb := un_bound t
  have HV := Lib.hid h
  clear h
  go_enter Try.func9, Try.ntmps9
  go_wp2_with fail
  have hz : w.heap.size < (w.alloc (.cells #[encI k, encI b, encU v, encB x0, encB x1, encB x2, encB x3, encB x4, encB x5, encB x6, encB x7] 26)).heap.size := by simp
  generalize hW : w.alloc (.cells #[encI k, encI b, encU v, encB x0, encB x1, encB x2, encB x3, encB x4, encB x5, encB x6, encB x7] 26) = W at *
  have c0 : W.cell? ⟨w.heap.size, 0, none⟩ = some (encI k) := by rw [← hW]; simp
  have c1 : W.cell? ⟨w.heap.size, 1, none⟩ = some (encI b) := by rw [← hW]; simp
  have c2 : W.cell? ⟨w.heap.size, 2, none⟩ = some (encU v) := by rw [← hW]; simp
  have c3 : W.cell? ⟨w.heap.size, 3, none⟩ = some (encB x0) := by rw [← hW]; simp
  have c4 : W.cell? ⟨w.heap.size, 4, none⟩ = some (encB x1) := by rw [← hW]; simp
  have c5 : W.cell? ⟨w.heap.size, 5, none⟩ = some (encB x2) := by rw [← hW]; simp
  have c6 : W.cell? ⟨w.heap.size, 6, none⟩ = some (encB x3) := by rw [← hW]; simp
  have c7 : W.cell? ⟨w.heap.size, 7, none⟩ = some (encB x4) := by rw [← hW]; simp
  have c8 : W.cell? ⟨w.heap.size, 8, none⟩ = some (encB x5) := by rw [← hW]; simp
  have c9 : W.cell? ⟨w.heap.size, 9, none⟩ = some (encB x6) := by rw [← hW]; simp
  have c10 : W.cell? ⟨w.heap.size, 10, none⟩ = some (encB x7) := by rw [← hW]; simp
  have hxW : Ext w W := by rw [← hW]; exact Ext.alloc _ _
  have hbF : ∀ o, W.frozen? ⟨w.heap.size, o, none⟩ = false := fun o => by rw [← hW]; simp
  have HBF := Lib.hid hbF
  clear hW hbF
  have HD := Lib.hid (SliceAt.cells8 (o := 3) hz c3 c4 c5 c6 c7 c8 c9 c10)
  go_wp2_with fail
  go_at_call 16
  refine (valid_any _ _ _ _ _ _ _ _ _ _ _ _).mono ?_
  rintro e w1 ⟨rfl, hx1⟩
  rw [HV.out]
  have hc1 := Ext.cells hx1
  have hs1 := Ext.size hx1
  go_wp2_with fail
  go_at_call 17
  refine (put_int W.heap.size _ _ _ _ _ ⟨by omega, by omega⟩ (by simp) (by omega) hs1 (OwnB.nil _ _)).mono ?_
  rintro e w2 ⟨v2, rfl, ho2, hb2⟩
  have hx2 : Ext W w2 := by first | exact Below.trans hx1 hb2 | exact Ext.trans hx1 hb2
  have hc2 := hx2.cells
  have hs2 := hx2.size
  have hq2 := Below.size hb2
  have hlt2 := Nat.lt_of_lt_of_le hz hs2
  have HO2 := Lib.hid ho2
  clear ho2 hb2
  go_wp2_with fail
  go_at_call 17
  refine (put_int W.heap.size _ _ _ _ _ ⟨by omega, by omega⟩ (by simp [le_length]) (by omega) hs2 HO2.out).mono ?_
  rintro e w3 ⟨v3, rfl, ho3, hb3⟩
  have hx3 : Ext W w3 := by first | exact Below.trans hx2 hb3 | exact Ext.trans hx2 hb3
  have hc3 := hx3.cells
  have hs3 := hx3.size
  have hq3 := Below.size hb3
  have hlt3 := Nat.lt_of_lt_of_le hz hs3
  have HO3 := Lib.hid ho3
  clear ho3 hb3
  go_wp2_with fail
  go_at_call 17
  refine (put_int W.heap.size _ _ _ _ _ ⟨by omega, by omega⟩ (by simp [le_length]) (by omega) hs3 HO3.out).mono ?_
  rintro e w4 ⟨v4, rfl, ho4, hb4⟩
  have hx4 : Ext W w4 := by first | exact Below.trans hx3 hb4 | exact Ext.trans hx3 hb4
  have hc4 := hx4.cells
  have hs4 := hx4.size
  have hq4 := Below.size hb4
  have hlt4 := Nat.lt_of_lt_of_le hz hs4
  have HO4 := Lib.hid ho4
  clear ho4 hb4
  go_wp2_with (at_builtin; go_must (refine wpList_append_slice (enc := encB) (fun _ => rfl) rfl _ _ _ rfl W.heap.size 5 i0 (.int .u8 0) 1 Try.underlying27 hi hz0 hz1 hz2 rfl _ _ _ rfl HO4.out _ _ rfl (HD.out.ext hx4) (by unfold maxLen; simp [le_length]) (by simp [le_length]) (by omega) ?_; intro v5 w5 ho5 hg5); have hx5 : Ext W w5 := Below.grown hx4 hg5 hs4 (fun k hk => by have := (World.ownsRow.lt HO4.out k hk).1; omega); have HO5 := Lib.hid (OwnB.mk ho5); have hc5 := hx5.cells; have hs5 := hx5.size; have hlt5 := Nat.lt_of_lt_of_le hz hs5; clear ho5 hg5)
  go_at_call 17
  refine (put_int W.heap.size _ _ _ _ _ ⟨by omega, by omega⟩ (by simp [le_length]) (by omega) hs5 HO5.out).mono ?_
  rintro e w6 ⟨v6, rfl, ho6, hb6⟩
  have hx6 : Ext W w6 := by first | exact Below.trans hx5 hb6 | exact Ext.trans hx5 hb6
  have hc6 := hx6.cells
  have hs6 := hx6.size
  have hq6 := Below.size hb6
  have hlt6 := Nat.lt_of_lt_of_le hz hs6
  have HO6 := Lib.hid ho6
  clear ho6 hb6
  have hHL : ∀ l : List (BitVec 8), OwnB w6 W.heap.size v6 l → l.length ≤ 1000 → Calls Try.prog 18 #[v6] w6 fun e w' => e = .returned (encU (Crc.sum l)) ∧ w6 = w' := fun l hl h => sum_any _ l _ (by unfold maxLen; omega) (OwnB.slice hl)
  have HHL := Lib.hid (hHL _ HO6.out (by simp [le_length]))
  clear hHL
  go_wp2_with fail
  go_at_call 18
  refine HHL.out.mono ?_
  rintro e w7 ⟨rfl, rfl⟩
  go_wp2_with fail
  go_at_call 17
  refine (put_any W.heap.size _ _ _ _ _ (by simp [le_length]) (by omega) hs6 HO6.out).mono ?_
  rintro e w7 ⟨v7, rfl, ho7, hb7⟩
  have hx7 : Ext W w7 := by first | exact Below.trans hx6 hb7 | exact Ext.trans hx6 hb7
  have hc7 := hx7.cells
  have hs7 := hx7.size
  have hq7 := Below.size hb7
  have hlt7 := Nat.lt_of_lt_of_le hz hs7
  have HO7 := Lib.hid ho7
  clear ho7 hb7
  go_wp2_with fail
  go_ret2
  refine ⟨_, rfl, ?_, hxW.trans hx7⟩
  have h2 := owns_mono HO7.out hxW.size
  simp only [List.nil_append, ofInt_un] at h2
  exact h2
end Go.Proofs.Ytbjafmjeilabiaa
