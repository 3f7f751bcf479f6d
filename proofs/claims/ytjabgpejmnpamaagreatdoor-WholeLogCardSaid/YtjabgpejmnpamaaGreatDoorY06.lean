/-
  Part 6 of the proof.
-/
import Derived.Test.YtjabgpejmnpamaaGreatDoorY04
set_option linter.unusedVariables false
namespace Go.Proofs.YtjabgpejmnpamaaGreatDoor
set_option maxRecDepth 100000
open Go.RowKit
attribute [local go_sem] wrap8_un or_un wrap_ub
theorem deinfoB : (Tryz.prog.info? 5).map (fun i => (i.zero, i.size, i.bytes)) = some (some (.int .u8 0), 1, 1) := by kernel_rfl
abbrev deOwnB (w : World) (base : Nat) (v : Value) (l : List (BitVec 8)) : Prop := w.ownsRow base 5 1 v l.length (l.map encB)
theorem deOwnB.slice {w : World} {base : Nat} {v : Value} {l : List (BitVec 8)} (h : deOwnB w base v l) : SliceAt encB w v l := SliceAt.of_owns h
theorem deOwnB.nil (w : World) (base : Nat) : deOwnB w base (.slice none 0 0) [] := World.ownsRow_nil _ _ _ _
theorem deOwnB.mk {w : World} {base : Nat} {v : Value} {l lx : List (BitVec 8)} (h : w.ownsRow base 5 1 v (l.length + lx.length) (l.map encB ++ lx.map encB)) : deOwnB w base v (l ++ lx) := by
  show World.ownsRow _ _ _ _ _ _ _
  rw [List.length_append, List.map_append]
  exact h
theorem OwnB.mk {w : World} {base : Nat} {v : Value} {l lx : List (BitVec 8)} (h : w.ownsRow base 5 1 v (l.length + lx.length) (l.map encB ++ lx.map encB)) : deOwnB w base v (l ++ lx) := by
  show World.ownsRow _ _ _ _ _ _ _
  rw [List.length_append, List.map_append]
  exact h
set_option maxHeartbeats 400000 in
theorem put_any (base : Nat) (v : Value) (l : List (BitVec 8)) (x : BitVec 64) (n : Int) (w : World) (hl : l.length ≤ 1000000) (hn : 0 ≤ n ∧ n ≤ 8) (hb : base ≤ w.heap.size) (h : deOwnB w base v l) :
    Calls Tryz.prog 220 #[v, encU x, .int .i64 n] w fun e w' => ∃ v', e = .returned v' ∧ deOwnB w' base v' (l ++ le n.toNat x) ∧ Below base w w' := by
  obtain ⟨i0, hi, hz0, hz1, hz2⟩ := info_parts deinfoB
  have HA := Lib.hid h
  clear h
  obtain ⟨n, rfl⟩ := Int.eq_ofNat_of_zero_le hn.1
  have hn8 : n ≤ 8 := by omega
  rw [Int.toNat_natCast]
  go_enter Tryz.func220, Tryz.ntmps220
  go_wp2
  go_loopw [0, 9] (fun vo i wr => ∃ (k : Nat) (pre : List (BitVec 8)), k ≤ n ∧ i = .int .i64 k ∧ le n x = pre ++ le (n - k) (x >>> (8 * k)) ∧ pre.length = k ∧ deOwnB wr base vo (l ++ pre) ∧ Below base w wr) (fun _ i _ => n - (intOf i).toNat)
  case atStart => exact ⟨0, [], Nat.zero_le _, rfl, rfl, rfl, by rw [List.append_nil]; exact HA.out, Below.refl _ _⟩
  case round =>
    obtain ⟨k, pre, hk, rfl, hle, hpl, hown, hx⟩ := hrel
    have HO := Lib.hid hown
    have HU := Lib.hid hle
    have HP := Lib.hid hpl
    have hll : (l ++ pre).length ≤ 1000008 := by rw [List.length_append]; omega
    have hsz := hx.size
    clear hown hle hpl
    by_cases hlt : k < n
    · have hsh := shr_un x (8 * k)
      go_wp2_with (at_builtin; refine wpList_append_slice (enc := encB) (fun _ => rfl) rfl (.tmp 12) (.tmp 18) 47 rfl base 5 i0 (.int .u8 0) 1 Tryz.underlying47 hi hz0 hz1 hz2 rfl _ _ _ rfl (World.ownsRow.alloc HO.out _) _ [(x >>> (8 * k)).setWidth 8] rfl (SliceAt.lit wr [(x >>> (8 * k)).setWidth 8] _ _ _ rfl) (by unfold maxLen; simp only [List.length_singleton]; omega) (by simp only [List.length_singleton]; omega) (by simp; omega) ?_; intro v2 w2 hown2 hgrow2; have hx2 : Below base w w2 := (hx.alloc (by omega) _).grown hgrow2 (by simp; omega) (fun k hk => (World.ownsRow.lt HO.out k hk).1); have HO2 := Lib.hid hown2; clear hown2 hgrow2)
      go_roundw
      case rel =>
        refine ⟨k + 1, pre ++ [(x >>> (8 * k)).setWidth 8], by omega, by go_num, by rw [HU.out, le_step x hlt]; simp, by simp [HP.out], ?_, hx2⟩
        rw [← List.append_assoc]
        exact deOwnB.mk HO2.out
      case measure => simp [intOf]; omega
    · have HK : Hid (n - k = 0) := by show _ = _; omega
      go_wp2
      go_ret
      refine ⟨_, rfl, ?_, hx⟩
      rw [HU.out, HK.out, le, List.append_nil]
      exact HO.out
theorem deshl_un (x : BitVec 64) (k : Nat) : IntKind.u64.wrap (un x * (2 : Int) ^ k) = un (x <<< k) := by
  have : ∀ y : Int, IntKind.u64.wrap y = y % 18446744073709551616 := fun y => by simp only [IntKind.wrap, IntKind.bits, IntKind.signed]; simp
  rw [this]; unfold un
  rw [BitVec.toNat_shiftLeft, Nat.shiftLeft_eq]; simp
set_option maxHeartbeats 400000 in
theorem get_any (v : Value) (l : List (BitVec 8)) (w : World) (hl : l.length ≤ 8) (h : SliceAt encB w v l) :
    Calls Tryz.prog 185 #[v] w fun e w' => e = .returned (encU (unle l)) ∧ w = w' := by
  obtain ⟨ad, cap, rfl, _, ha⟩ := h
  go_enter Tryz.func185, Tryz.ntmps185
  go_wp2
  go_loop [3, 7] (fun v i => ∃ (k : Nat) (y : BitVec 64), k ≤ l.length ∧ i = .int .i64 k ∧ v = encU y ∧ unle l = y ||| unle (l.drop k) <<< (8 * k)) (fun _ i => l.length - (intOf i).toNat)
  case atStart => exact ⟨0, 0#64, Nat.zero_le _, rfl, rfl, by simp⟩
  case round =>
    obtain ⟨k, y, hk, rfl, rfl, he⟩ := hrel
    by_cases hlt : k < l.length
    · rw [List.drop_eq_getElem_cons hlt, unle_step, ← BitVec.or_assoc] at he
      have HE := Lib.hid he
      clear he
      rcases ha with ⟨ha, _⟩ | ⟨b, o, rfl, hb, ha⟩
      · subst ha; simp at hlt
      have hc := ha k hlt
      generalize l[k] = c at *
      have hsh := deshl_un (Crc.reg c) (8 * k)
      clear ha
      go_wp2
      go_round
      case rel => exact ⟨k + 1, _, by omega, by go_num, rfl, HE.out⟩
      case measure => simp [intOf]; omega
    · have HE : Hid (unle l = y) := by
        rw [List.drop_eq_nil_of_le (by omega), unle] at he; show unle l = y; simpa using he
      clear he
      go_wp2
      go_ret
      exact ⟨by rw [HE.out]; rfl, rfl⟩
theorem get_as (x : BitVec 64) (v : Value) (l : List (BitVec 8)) (w : World) (hx : unle l = x) (hl : l.length ≤ 8) (h : SliceAt encB w v l) :
    Calls Tryz.prog 185 #[v] w fun e w' => e = .returned (encU x) ∧ w = w' := by subst hx; exact get_any v l w hl h
theorem sum_as (x : BitVec 64) (v : Value) (l : List (BitVec 8)) (w : World) (hx : Crc.sum l = x) (hl : l.length ≤ maxLen) (h : SliceAt encB w v l) :
    Calls Tryz.prog 45 #[v] w fun e w' => e = .returned (encU x) ∧ w = w' := by subst hx; exact sum_any v l w hl h
open Go.RowKit
theorem size8 : ∀ w, (sizeOf 5).run Tryz.prog w = .ok 1 w := by intro w; kernel_rfl
def dezero8 : List (BitVec 8) := [0#8, 0#8, 0#8, 0#8, 0#8, 0#8, 0#8, 0#8]
theorem eq_block (d : Nat) (x0 x1 x2 x3 x4 x5 x6 x7 y0 y1 y2 y3 y4 y5 y6 y7 : BitVec 8) (w : World) : (Op.equalIn (d + 2) 76 (.agg #[encB x0, encB x1, encB x2, encB x3, encB x4, encB x5, encB x6, encB x7]) (.agg #[encB y0, encB y1, encB y2, encB y3, encB y4, encB y5, encB y6, encB y7])).run Tryz.prog w = .ok (eqB [x0, x1, x2, x3, x4, x5, x6, x7] [y0, y1, y2, y3, y4, y5, y6, y7]) w :=
  run_equalIn_block w d Tryz.underlying76 Tryz.underlying5 size8 [x0, x1, x2, x3, x4, x5, x6, x7] [y0, y1, y2, y3, y4, y5, y6, y7] rfl rfl
theorem eq_zero (d : Nat) (x0 x1 x2 x3 x4 x5 x6 x7 : BitVec 8) (w : World) : (Op.equalIn (d + 2) 76 (.agg #[encB x0, encB x1, encB x2, encB x3, encB x4, encB x5, encB x6, encB x7]) (.agg #[.int .u8 0, .int .u8 0, .int .u8 0, .int .u8 0, .int .u8 0, .int .u8 0, .int .u8 0, .int .u8 0])).run Tryz.prog w = .ok (eqB [x0, x1, x2, x3, x4, x5, x6, x7] dezero8) w :=
  eq_block d x0 x1 x2 x3 x4 x5 x6 x7 0#8 0#8 0#8 0#8 0#8 0#8 0#8 0#8 w
attribute [local go_sem] eq_block eq_zero
def vld (k b : Int) (v : BitVec 64) (d : List (BitVec 8)) : Bool := decide (0 ≤ b) && decide (b < 65536) && decide (1 ≤ un v) && (decide (k = 1) || (decide (k = 2) && eqB d dezero8))
theorem vld_no {k b : Int} {v : BitVec 64} {d : List (BitVec 8)} (h : b < 0 ∨ 65536 ≤ b ∨ un v < 1) : false = vld k b v d := by
  unfold vld
  rcases h with h | h | h
  · rw [show decide (0 ≤ b) = false by simp; omega]; simp
  · rw [show decide (b < 65536) = false by simp; omega]; simp
  · rw [show decide (1 ≤ un v) = false by simp; omega]; simp
theorem vld_two {b : Int} {v : BitVec 64} {d : List (BitVec 8)} (h1 : 0 ≤ b) (h2 : b < 65536) (h3 : 1 ≤ un v) : eqB d dezero8 = vld 2 b v d := by
  simp [vld, h1, h2, h3]
theorem vld_one {b : Int} {v : BitVec 64} {d : List (BitVec 8)} (h1 : 0 ≤ b) (h2 : b < 65536) (h3 : 1 ≤ un v) : true = vld 1 b v d := by
  simp [vld, h1, h2, h3]
theorem vld_other {b : Int} {v : BitVec 64} {d : List (BitVec 8)} {k : Int} (hk1 : k ≠ 1) (hk2 : k ≠ 2) : false = vld k b v d := by
  simp [vld, hk1, hk2]
theorem devalid_any (k b : Int) (v : BitVec 64) (x0 x1 x2 x3 x4 x5 x6 x7 : BitVec 8) (w : World) :
    Calls Tryz.prog 186 #[.agg #[encI k, encI b, encU v, encB x0, encB x1, encB x2, encB x3, encB x4, encB x5, encB x6, encB x7]] w fun e w' => e = .returned (.bool (vld k b v [x0, x1, x2, x3, x4, x5, x6, x7])) ∧ Below w.heap.size w w' := by
  by_cases hbv : b < 0 ∨ 65536 ≤ b ∨ un v < 1
  · go_enter Tryz.func186, Tryz.ntmps186
    go_wp2
    all_goals first | (exfalso; omega) | (go_ret; exact ⟨ret_bool (vld_no hbv), Ext.alloc _ _⟩)
  · have h1 : 0 ≤ b := by omega
    have h2 : b < 65536 := by omega
    have h3 : 1 ≤ un v := by omega
    clear hbv
    rcases (show k = 1 ∨ k = 2 ∨ k ≠ 1 ∧ k ≠ 2 by omega) with rfl | rfl | ⟨hk1, hk2⟩
    · go_enter Tryz.func186, Tryz.ntmps186
      go_wp2
      go_ret
      exact ⟨ret_bool (vld_one h1 h2 h3), Ext.alloc _ _⟩
    · go_enter Tryz.func186, Tryz.ntmps186
      go_wp2
      go_ret
      exact ⟨ret_bool (vld_two h1 h2 h3), Ext.alloc _ _⟩
    · have HK := Lib.hid (vld_other (b := b) (v := v) (d := [x0, x1, x2, x3, x4, x5, x6, x7]) hk1 hk2)
      have hq1 : (k == 1) = false := by simpa using hk1
      have hq2 : (k == 2) = false := by simpa using hk2
      clear hk1 hk2
      go_enter Tryz.func186, Tryz.ntmps186
      go_wp2
      go_ret
      exact ⟨ret_bool HK.out, Ext.alloc _ _⟩
open Go.RowKit
theorem put_int (base : Nat) (v : Value) (l : List (BitVec 8)) (m n : Int) (w : World) (hm : 0 ≤ m ∧ m ≤ 18446744073709551615) (hl : l.length ≤ 1000000) (hn : 0 ≤ n ∧ n ≤ 8) (hb : base ≤ w.heap.size) (h : deOwnB w base v l) :
    Calls Tryz.prog 220 #[v, .int .u64 m, .int .i64 n] w fun e w' => ∃ v', e = .returned v' ∧ deOwnB w' base v' (l ++ le n.toNat (BitVec.ofInt 64 m)) ∧ Below base w w' := by
  have := put_any base v l (BitVec.ofInt 64 m) n w hl hn hb h
  unfold encU at this
  rw [un_ofInt m hm] at this
  exact this
def pln (k b : Int) (v : BitVec 64) (d : List (BitVec 8)) (t : BitVec 64) : List (BitVec 8) := le 1 (BitVec.ofInt 64 k) ++ le 4 (BitVec.ofInt 64 b) ++ le 8 v ++ d ++ le 8 t
def seal8 (l : List (BitVec 8)) : List (BitVec 8) := l ++ le 8 (Crc.sum l)
theorem vld_bounds {k b : Int} {v : BitVec 64} {d : List (BitVec 8)} (h : vld k b v d = true) : (1 ≤ k ∧ k ≤ 2) ∧ (0 ≤ b ∧ b < 65536) ∧ 1 ≤ un v := by
  unfold vld at h
  simp only [Bool.and_eq_true, Bool.or_eq_true, decide_eq_true_eq] at h
  omega
theorem SliceAt.cells8 {W : World} {B o : Nat} {x0 x1 x2 x3 x4 x5 x6 x7 : BitVec 8} (hB : B < W.heap.size) (c0 : W.cell? ⟨B, o, none⟩ = some (encB x0)) (c1 : W.cell? ⟨B, o + 1, none⟩ = some (encB x1)) (c2 : W.cell? ⟨B, o + 2, none⟩ = some (encB x2)) (c3 : W.cell? ⟨B, o + 3, none⟩ = some (encB x3))
    (c4 : W.cell? ⟨B, o + 4, none⟩ = some (encB x4)) (c5 : W.cell? ⟨B, o + 5, none⟩ = some (encB x5)) (c6 : W.cell? ⟨B, o + 6, none⟩ = some (encB x6)) (c7 : W.cell? ⟨B, o + 7, none⟩ = some (encB x7)) :
    SliceAt encB W (.slice (some ⟨B, o, none⟩) 8 8) [x0, x1, x2, x3, x4, x5, x6, x7] := by
  refine ⟨_, 8, rfl, Nat.le_refl _, .inr ⟨B, o, rfl, hB, fun i hi => ?_⟩⟩
  have hi : i < 8 := hi
  match i, hi with
  | 0, _ => exact c0
  | 1, _ => exact c1
  | 2, _ => exact c2
  | 3, _ => exact c3
  | 4, _ => exact c4
  | 5, _ => exact c5
  | 6, _ => exact c6
  | 7, _ => exact c7
theorem deowns_mono {w : World} {b b' : Nat} {v : Value} {l : List (BitVec 8)} (h : deOwnB w b v l) (hb : b' ≤ b) : deOwnB w b' v l :=
  ⟨h.1, h.2.imp id (fun ⟨g, cap, cur, hv, hg, r⟩ => ⟨g, cap, cur, hv, Nat.le_trans hb hg, r⟩)⟩
set_option maxHeartbeats 800000 in
theorem encode_yes (k b : Int) (v : BitVec 64) (x0 x1 x2 x3 x4 x5 x6 x7 : BitVec 8) (t : BitVec 64) (w : World) (h : vld k b v [x0, x1, x2, x3, x4, x5, x6, x7] = true) :
    Calls Tryz.prog 179 #[.agg #[encI k, encI b, encU v, encB x0, encB x1, encB x2, encB x3, encB x4, encB x5, encB x6, encB x7], encU t] w fun e w' => ∃ v', e = .returned (.tuple #[v', .int .i64 0]) ∧ deOwnB w' w.heap.size v' (seal8 (pln k b v [x0, x1, x2, x3, x4, x5, x6, x7] t)) ∧ Below w.heap.size w w' := by
  obtain ⟨i0, hi, hz0, hz1, hz2⟩ := info_parts deinfoB
  obtain ⟨⟨hk1, hk2⟩, ⟨hb1, hb2⟩, hv⟩ := vld_bounds h
  have hvb := un_bound v
  have htb := un_bound t
  have HV := Lib.hid h
  clear h
  go_enter Tryz.func179, Tryz.ntmps179
  go_wp2_with fail
  have hz : w.heap.size < (w.alloc (.cells #[encI k, encI b, encU v, encB x0, encB x1, encB x2, encB x3, encB x4, encB x5, encB x6, encB x7] 151)).heap.size := by simp
  generalize hW : w.alloc (.cells #[encI k, encI b, encU v, encB x0, encB x1, encB x2, encB x3, encB x4, encB x5, encB x6, encB x7] 151) = W at *
  have c0 : W.cell? ⟨w.heap.size, 0, none⟩ = some (encI k) := by rw [← hW]; simp
  have c1 : W.cell? ⟨w.heap.size, 1, none⟩ = some (encI b) := by rw [← hW]; simp
  have c2 : W.cell? ⟨w.heap.size, 2, none⟩ = some (encU v) := by rw [← hW]; simp
  have c3 : W.cell? ⟨w.heap.size, 3, none⟩ = some (encB x0) := by rw [← hW]; simp
  have c4 : W.cell? ⟨w.heap.size, 4, none⟩ = some (encB x1) := by rw [← hW]; simp
  have c5 : W.cell? ⟨w.heap.size, 5, none⟩ = some (encB x2) := by rw [← hW]; simp
  have c6 : W.cell? ⟨w.heap.size, 6, none⟩ = some (encB x3) := by rw [← hW]; simp
  have c7 : W.cell? ⟨w.heap.size, 7, none⟩ = some (encB x4) := by rw [← hW]; simp
  have c8 : W.cell? ⟨w.heap.size, 8, none⟩ = some (encB x5) := by rw [← hW]; simp
  have c9 : W.cell? ⟨w.heap.size, 9, none⟩ = some (encB x6) := by rw [← hW]; simp
  have c10 : W.cell? ⟨w.heap.size, 10, none⟩ = some (encB x7) := by rw [← hW]; simp
  have hxW : Ext w W := by rw [← hW]; exact Ext.alloc _ _
  have hbF : ∀ o, W.frozen? ⟨w.heap.size, o, none⟩ = false := fun o => by rw [← hW]; simp
  have HBF := Lib.hid hbF
  clear hW hbF
  have HD := Lib.hid (SliceAt.cells8 (o := 3) hz c3 c4 c5 c6 c7 c8 c9 c10)
  go_wp2_with fail
  go_at_call 186
  refine (devalid_any _ _ _ _ _ _ _ _ _ _ _ _).mono ?_
  rintro e w1 ⟨rfl, hx1⟩
  rw [HV.out]
  have hc1 := Ext.cells hx1
  have hs1 := Ext.size hx1
  go_wp2_with fail
  go_at_call 220
  refine (put_int W.heap.size _ _ _ _ _ ⟨by omega, by omega⟩ (by simp) (by omega) hs1 (deOwnB.nil _ _)).mono ?_
  rintro e w2 ⟨v2, rfl, ho2, hb2⟩
  have hx2 : Ext W w2 := by first | exact Below.trans hx1 hb2 | exact Ext.trans hx1 hb2
  have hc2 := hx2.cells
  have hs2 := hx2.size
  have hq2 := Below.size hb2
  have hlt2 := Nat.lt_of_lt_of_le hz hs2
  have HO2 := Lib.hid ho2
  clear ho2 hb2
  go_wp2_with fail
  go_at_call 220
  refine (put_int W.heap.size _ _ _ _ _ ⟨by omega, by omega⟩ (by simp [le_length]) (by omega) hs2 HO2.out).mono ?_
  rintro e w3 ⟨v3, rfl, ho3, hb3⟩
  have hx3 : Ext W w3 := by first | exact Below.trans hx2 hb3 | exact Ext.trans hx2 hb3
  have hc3 := hx3.cells
  have hs3 := hx3.size
  have hq3 := Below.size hb3
  have hlt3 := Nat.lt_of_lt_of_le hz hs3
  have HO3 := Lib.hid ho3
  clear ho3 hb3
  go_wp2_with fail
  go_at_call 220
  refine (put_int W.heap.size _ _ _ _ _ ⟨by omega, by omega⟩ (by simp [le_length]) (by omega) hs3 HO3.out).mono ?_
  rintro e w4 ⟨v4, rfl, ho4, hb4⟩
  have hx4 : Ext W w4 := by first | exact Below.trans hx3 hb4 | exact Ext.trans hx3 hb4
  have hc4 := hx4.cells
  have hs4 := hx4.size
  have hq4 := Below.size hb4
  have hlt4 := Nat.lt_of_lt_of_le hz hs4
  have HO4 := Lib.hid ho4
  clear ho4 hb4
  go_wp2_with (at_builtin; go_must (refine wpList_append_slice (enc := encB) (fun _ => rfl) rfl _ _ _ rfl W.heap.size 5 i0 (.int .u8 0) 1 Tryz.underlying47 hi hz0 hz1 hz2 rfl _ _ _ rfl HO4.out _ _ rfl (HD.out.ext hx4) (by unfold maxLen; simp [le_length]) (by simp [le_length]) (by omega) ?_; intro v5 w5 ho5 hg5); have hx5 : Ext W w5 := Below.grown hx4 hg5 hs4 (fun k hk => by have := (World.ownsRow.lt HO4.out k hk).1; omega); have HO5 := Lib.hid (OwnB.mk ho5); have hc5 := hx5.cells; have hs5 := hx5.size; have hlt5 := Nat.lt_of_lt_of_le hz hs5; clear ho5 hg5)
  go_at_call 220
  refine (put_int W.heap.size _ _ _ _ _ ⟨by omega, by omega⟩ (by simp [le_length]) (by omega) hs5 HO5.out).mono ?_
  rintro e w6 ⟨v6, rfl, ho6, hb6⟩
  have hx6 : Ext W w6 := by first | exact Below.trans hx5 hb6 | exact Ext.trans hx5 hb6
  have hc6 := hx6.cells
  have hs6 := hx6.size
  have hq6 := Below.size hb6
  have hlt6 := Nat.lt_of_lt_of_le hz hs6
  have HO6 := Lib.hid ho6
  clear ho6 hb6
  have hHL : ∀ l : List (BitVec 8), deOwnB w6 W.heap.size v6 l → l.length ≤ 1000 → Calls Tryz.prog 45 #[v6] w6 fun e w' => e = .returned (encU (Crc.sum l)) ∧ w6 = w' := fun l hl h => sum_any _ l _ (by unfold maxLen; omega) (deOwnB.slice hl)
  have HHL := Lib.hid (hHL _ HO6.out (by simp [le_length]))
  clear hHL
  go_wp2_with fail
  go_at_call 45
  refine HHL.out.mono ?_
  rintro e w7 ⟨rfl, rfl⟩
  go_wp2_with fail
  go_at_call 220
  refine (put_any W.heap.size _ _ _ _ _ (by simp [le_length]) (by omega) hs6 HO6.out).mono ?_
  rintro e w7 ⟨v7, rfl, ho7, hb7⟩
  have hx7 : Ext W w7 := by first | exact Below.trans hx6 hb7 | exact Ext.trans hx6 hb7
  have hc7 := hx7.cells
  have hs7 := hx7.size
  have hq7 := Below.size hb7
  have hlt7 := Nat.lt_of_lt_of_le hz hs7
  have HO7 := Lib.hid ho7
  clear ho7 hb7
  go_wp2_with fail
  go_ret2
  refine ⟨_, rfl, ?_, hxW.trans hx7⟩
  have h2 := deowns_mono HO7.out hxW.size
  simp only [List.nil_append, ofInt_un] at h2
  exact h2
open Go.RowKit
open Go.RowKit
def badE (n : Int) : Value := .tuple #[.agg #[.int .i64 0, .int .i64 0, .int .u64 0, .int .u8 0, .int .u8 0, .int .u8 0, .int .u8 0, .int .u8 0, .int .u8 0, .int .u8 0, .int .u8 0], .int .u64 0, .int .i64 n]
def d0 (l : List (BitVec 8)) : BitVec 8 := l.getD 0 0#8
def dBn (l : List (BitVec 8)) : BitVec 64 := unle ((l.take 5).drop 1)
def dC (l : List (BitVec 8)) : BitVec 64 := Crc.sum (l.take 29)
def dK (l : List (BitVec 8)) : Int := ub (d0 l)
def dB (l : List (BitVec 8)) : Int := un (dBn l)
def dV (l : List (BitVec 8)) : BitVec 64 := unle ((l.take 13).drop 5)
def dX (l : List (BitVec 8)) (i : Nat) : BitVec 8 := l.getD (13 + i) 0#8
def dD (l : List (BitVec 8)) : List (BitVec 8) := [dX l 0, dX l 1, dX l 2, dX l 3, dX l 4, dX l 5, dX l 6, dX l 7]
def dT (l : List (BitVec 8)) : BitVec 64 := unle ((l.take 29).drop 21)
def dS (l : List (BitVec 8)) : BitVec 64 := unle ((l.take 37).drop 29)
theorem SliceAt.desub {α : Type} {enc : α → Value} {w : World} {b off n cap : Nat} {l : List α} (h : SliceAt enc w (.slice (some ⟨b, off, none⟩) n cap) l) (i j n' cap' : Nat) (hij : i ≤ j) (hj : j ≤ n) (hn : n' = j - i) (hc : n' ≤ cap') :
    SliceAt enc w (.slice (some ⟨b, off + i, none⟩) n' cap') ((l.take j).drop i) := by
  obtain ⟨ad, cap0, hv, hca, h⟩ := h
  injection hv with h1 h2 h3
  have hl : ((l.take j).drop i).length = n' := by rw [List.length_drop, List.length_take, Nat.min_eq_left (by omega)]; omega
  refine ⟨_, cap', by rw [hl], by omega, ?_⟩
  rcases h with ⟨h4, _⟩ | ⟨b', off', h4, h5, h6⟩
  · left; exact ⟨by rw [h4]; simp, fun h => by cases h⟩
  · right
    rw [← h1] at h4; cases h4
    refine ⟨b, off + i, rfl, h5, fun k hk => ?_⟩
    rw [hl] at hk
    rw [Nat.add_assoc, h6 (i + k) (by omega), List.getElem_drop, List.getElem_take]
theorem SliceAt.desome_of {α : Type} {enc : α → Value} {w : World} {v : Value} {l : List α} (h : SliceAt enc w v l) (hl : 0 < l.length) :
    ∃ b off cap, v = .slice (some ⟨b, off, none⟩) l.length cap ∧ l.length ≤ cap ∧ b < w.heap.size ∧ ∀ i (h : i < l.length), w.cell? ⟨b, off + i, none⟩ = some (enc l[i]) := by
  obtain ⟨ad, cap, rfl, hca, h⟩ := h
  rcases h with ⟨h1, _⟩ | ⟨b, off, rfl, h2, h3⟩
  · subst h1; simp at hl
  · exact ⟨b, off, cap, rfl, hca, h2, h3⟩
set_option maxHeartbeats 800000 in
theorem decode_sum (v : Value) (l : List (BitVec 8)) (w : World) (h : SliceAt encB w v l) (hl : l.length = 37) (hne : dS l ≠ dC l) :
    Calls Tryz.prog 121 #[v] w fun e w' => e = .returned (badE 6) ∧ Below w.heap.size w w' := by
  have HS := Lib.hid h
  obtain ⟨b, off, cap, rfl, hca, hb, _⟩ := h.desome_of (by omega)
  have hq : (un (dS l) != un (dC l)) = true := by rw [bne_iff_ne]; exact fun e => hne (un_inj e)
  have hc37 : (37 : Int) ≤ (cap : Int) := by omega
  rw [hl] at HS
  rw [hl]
  have HL := Lib.hid hl
  clear hne hl hca h
  go_enter Tryz.func121, Tryz.ntmps121
  go_wp2
  have hxA := (Ext.alloc w (.cells #[.int .i64 0, .int .i64 0, .int .u64 0, .int .u8 0, .int .u8 0, .int .u8 0, .int .u8 0, .int .u8 0, .int .u8 0, .int .u8 0, .int .u8 0] 151))
  have HS1 := Lib.hid (HS.out.ext (hxA.trans (Ext.drew _)))
  clear hxA
  refine wp_region_ext [(0, true), (1, true), (3, true), (4, true), (2, false), (5, false), (6, true)] (by kernel_rfl) (by kernel_rfl) ?_
  iterate 4 ((first
   | refine ext_move rfl rfl (by rfl) (by rfl) ?_
   | refine ext_assign rfl rfl (by rfl) (by rfl) ?_
   | refine ext_pick_t rfl rfl (by rfl) (by rfl) (by rfl) ?_
   | refine ext_pick_f rfl rfl (by rfl) (by rfl) (by rfl) ?_
   | (apply ext_take rfl (by rfl)
      · intro w' hS
        have hSc := hS.cells
        (try simp only [World.size_drew, World.cell?_drew] at hSc)
        go_simp
        (try simp (disch := omega) only [↓IntWalk.iteOmega])
        try rfl)
   | refine ext_pass rfl (by rfl) ?_); simp only [Act.put, setZa, setZ0, setZ1])
  (refine ext_do rfl (by rfl) (fun K hK => ?_)
   go_simp
   go_at_call 185
   refine (get_as (dS l) _ _ _ rfl (by simp; omega) (HS1.out.desub 29 37 8 _ (by omega) (by omega) (by omega) (by omega))).mono ?_
   rintro e w' ⟨rfl, rfl⟩
   refine hK _ _ (by first | (with_reducible exact Ext.refl _) | (with_reducible exact Ext.drew _)) ?_
   clear hK K
   (try simp only [Act.put, setZa, setZ0, setZ1]))
  (refine ext_do rfl (by rfl) (fun K hK => ?_)
   go_simp
   go_at_call 45
   refine (sum_as (dC l) _ _ _ rfl (by unfold maxLen; simp; omega) (HS1.out.desub 0 29 29 _ (by omega) (by omega) (by omega) (by omega))).mono ?_
   rintro e w' ⟨rfl, rfl⟩
   refine hK _ _ (by first | (with_reducible exact Ext.refl _) | (with_reducible exact Ext.drew _)) ?_
   clear hK K
   (try simp only [Act.put, setZa, setZ0, setZ1]))
  iterate 1 ((first
   | refine ext_move rfl rfl (by rfl) (by rfl) ?_
   | refine ext_assign rfl rfl (by rfl) (by rfl) ?_
   | refine ext_pick_t rfl rfl (by rfl) (by rfl) (by rfl) ?_
   | refine ext_pick_f rfl rfl (by rfl) (by rfl) (by rfl) ?_
   | (apply ext_take rfl (by rfl)
      · intro w' hS
        have hSc := hS.cells
        (try simp only [World.size_drew, World.cell?_drew] at hSc)
        go_simp
        (try simp (disch := omega) only [i64_id, u64_id, ↓IntWalk.iteOmega, Int.tdiv_eq_ediv_of_nonneg, Int.tmod_eq_emod_of_nonneg])
        try rfl)
   | refine ext_pass rfl (by rfl) ?_); simp only [Act.put, setZa, setZ0, setZ1])
  refine ext_nil ?_
  go_wp2
  refine bodyPost_ret (v := badE 6) ?_ rfl ⟨rfl, ?_⟩
  · unfold badE; simp [results, Tryz.results121, go_sem]
  · exact (Ext.alloc _ _).trans (Ext.drew _)
set_option maxHeartbeats 800000 in
theorem decode_bad (v : Value) (l : List (BitVec 8)) (w : World) (h : SliceAt encB w v l) (hl : l.length = 37) (hs : dS l = dC l) (hv : vld (dK l) (dB l) (dV l) (dD l) = false) :
    Calls Tryz.prog 121 #[v] w fun e w' => e = .returned (badE 5) ∧ Below w.heap.size w w' := by
  have HS := Lib.hid h
  obtain ⟨b, off, cap, rfl, hca, hb, hcell⟩ := h.desome_of (by omega)
  have hq : (un (dS l) != un (dC l)) = false := by rw [bne_eq_false_iff_eq]; exact congrArg un hs
  have hc37 : (37 : Int) ≤ (cap : Int) := by omega
  have cx : ∀ i (hi : i < 37), w.cell? ⟨b, off + i, none⟩ = some (encB (l.getD i 0#8)) := fun i hi => by
    rw [hcell i (by omega)]; simp [List.getD, show i < l.length by omega]
  have k0 : w.cell? ⟨b, off, none⟩ = some (encB (d0 l)) := cx 0 (by omega)
  have k1 : w.cell? ⟨b, off + 13, none⟩ = some (encB (dX l 0)) := cx 13 (by omega)
  have k2 : w.cell? ⟨b, off + 14, none⟩ = some (encB (dX l 1)) := cx 14 (by omega)
  have k3 : w.cell? ⟨b, off + 15, none⟩ = some (encB (dX l 2)) := cx 15 (by omega)
  have k4 : w.cell? ⟨b, off + 16, none⟩ = some (encB (dX l 3)) := cx 16 (by omega)
  have k5 : w.cell? ⟨b, off + 17, none⟩ = some (encB (dX l 4)) := cx 17 (by omega)
  have k6 : w.cell? ⟨b, off + 18, none⟩ = some (encB (dX l 5)) := cx 18 (by omega)
  have k7 : w.cell? ⟨b, off + 19, none⟩ = some (encB (dX l 6)) := cx 19 (by omega)
  have k8 : w.cell? ⟨b, off + 20, none⟩ = some (encB (dX l 7)) := cx 20 (by omega)
  have hbd := un_bound (dBn l)
  have hlt5 := unle_lt ((l.take 5).drop 1) 4 (by simp; omega) (by omega)
  have hbd2 : un (dBn l) ≤ 9223372036854775807 := by unfold un dBn; omega
  have hub := ub_bound (d0 l)
  rw [hl] at HS
  rw [hl]
  have HL := Lib.hid hl
  have HV := Lib.hid hv
  clear hs hl hca h hcell cx hlt5 hv
  go_enter Tryz.func121, Tryz.ntmps121
  go_wp2
  have hxA := (Ext.alloc w (.cells #[.int .i64 0, .int .i64 0, .int .u64 0, .int .u8 0, .int .u8 0, .int .u8 0, .int .u8 0, .int .u8 0, .int .u8 0, .int .u8 0, .int .u8 0] 151))
  have HS1 := Lib.hid (HS.out.ext (hxA.trans (Ext.drew _)))
  clear hxA
  refine wp_region_ext [(0, true), (1, true), (3, true), (4, true), (2, false), (5, false), (6, true)] (by kernel_rfl) (by kernel_rfl) ?_
  iterate 4 ((first
   | refine ext_move rfl rfl (by rfl) (by rfl) ?_
   | refine ext_assign rfl rfl (by rfl) (by rfl) ?_
   | refine ext_pick_t rfl rfl (by rfl) (by rfl) (by rfl) ?_
   | refine ext_pick_f rfl rfl (by rfl) (by rfl) (by rfl) ?_
   | (apply ext_take rfl (by rfl)
      · intro w' hS
        have hSc := hS.cells
        (try simp only [World.size_drew, World.cell?_drew] at hSc)
        go_simp
        (try simp (disch := omega) only [↓IntWalk.iteOmega])
        try rfl)
   | refine ext_pass rfl (by rfl) ?_); simp only [Act.put, setZa, setZ0, setZ1])
  (refine ext_do rfl (by rfl) (fun K hK => ?_)
   go_simp
   go_at_call 185
   refine (get_as (dS l) _ _ _ rfl (by simp; omega) (HS1.out.desub 29 37 8 _ (by omega) (by omega) (by omega) (by omega))).mono ?_
   rintro e w' ⟨rfl, rfl⟩
   refine hK _ _ (by first | (with_reducible exact Ext.refl _) | (with_reducible exact Ext.drew _)) ?_
   clear hK K
   (try simp only [Act.put, setZa, setZ0, setZ1]))
  (refine ext_do rfl (by rfl) (fun K hK => ?_)
   go_simp
   go_at_call 45
   refine (sum_as (dC l) _ _ _ rfl (by unfold maxLen; simp; omega) (HS1.out.desub 0 29 29 _ (by omega) (by omega) (by omega) (by omega))).mono ?_
   rintro e w' ⟨rfl, rfl⟩
   refine hK _ _ (by first | (with_reducible exact Ext.refl _) | (with_reducible exact Ext.drew _)) ?_
   clear hK K
   (try simp only [Act.put, setZa, setZ0, setZ1]))
  iterate 1 ((first
   | refine ext_move rfl rfl (by rfl) (by rfl) ?_
   | refine ext_assign rfl rfl (by rfl) (by rfl) ?_
   | refine ext_pick_t rfl rfl (by rfl) (by rfl) (by rfl) ?_
   | refine ext_pick_f rfl rfl (by rfl) (by rfl) (by rfl) ?_
   | (apply ext_take rfl (by rfl)
      · intro w' hS
        have hSc := hS.cells
        (try simp only [World.size_drew, World.cell?_drew] at hSc)
        go_simp
        (try simp (disch := omega) only [i64_id, u64_id, ↓IntWalk.iteOmega, Int.tdiv_eq_ediv_of_nonneg, Int.tmod_eq_emod_of_nonneg])
        try rfl)
   | refine ext_pass rfl (by rfl) ?_); simp only [Act.put, setZa, setZ0, setZ1])
  refine ext_nil ?_
  go_wp2
  have HS2 := Lib.hid (HS1.out.ext (Ext.drew _))
  refine wp_region_ext [(0, true), (1, true), (2, true), (3, true), (4, true), (5, true), (8, true), (9, true), (11, true), (12, true), (13, true), (14, true), (6, false), (7, true), (10, false), (15, true), (16, false)] (by kernel_rfl) (by kernel_rfl) ?_
  iterate 12 ((first
   | refine ext_move rfl rfl (by rfl) (by rfl) ?_
   | refine ext_assign rfl rfl (by rfl) (by rfl) ?_
   | refine ext_pick_t rfl rfl (by rfl) (by rfl) (by rfl) ?_
   | refine ext_pick_f rfl rfl (by rfl) (by rfl) (by rfl) ?_
   | (apply ext_take rfl (by rfl)
      · intro w' hS
        have hSc := hS.cells
        (try simp only [World.size_drew, World.cell?_drew] at hSc)
        go_simp
        (try simp (disch := omega) only [i64_id, ↓IntWalk.iteOmega])
        try rfl)
   | refine ext_pass rfl (by rfl) ?_); simp only [Act.put, setZa, setZ0, setZ1])
  (refine ext_do rfl (by rfl) (fun K hK => ?_)
   go_simp
   go_at_call 185
   refine (get_as (dBn l) _ _ _ rfl (by simp; omega) (HS2.out.desub 1 5 4 _ (by omega) (by omega) (by omega) (by omega))).mono ?_
   rintro e w' ⟨rfl, rfl⟩
   refine hK _ _ (by first | (with_reducible exact Ext.refl _) | (with_reducible exact Ext.drew _)) ?_
   clear hK K
   (try simp only [Act.put, setZa, setZ0, setZ1]))
  iterate 1 ((first
   | refine ext_move rfl rfl (by rfl) (by rfl) ?_
   | refine ext_assign rfl rfl (by rfl) (by rfl) ?_
   | refine ext_pick_t rfl rfl (by rfl) (by rfl) (by rfl) ?_
   | refine ext_pick_f rfl rfl (by rfl) (by rfl) (by rfl) ?_
   | (apply ext_take rfl (by rfl)
      · intro w' hS
        have hSc := hS.cells
        (try simp only [World.size_drew, World.cell?_drew] at hSc)
        go_simp
        (try simp (disch := omega) only [i64_id])
        try rfl)
   | refine ext_pass rfl (by rfl) ?_); simp only [Act.put, setZa, setZ0, setZ1])
  (refine ext_do rfl (by rfl) (fun K hK => ?_)
   go_simp
   go_at_call 185
   refine (get_as (dV l) _ _ _ rfl (by simp; omega) (HS2.out.desub 5 13 8 _ (by omega) (by omega) (by omega) (by omega))).mono ?_
   rintro e w' ⟨rfl, rfl⟩
   refine hK _ _ (by first | (with_reducible exact Ext.refl _) | (with_reducible exact Ext.drew _)) ?_
   clear hK K
   (try simp only [Act.put, setZa, setZ0, setZ1]))
  iterate 1 ((first
   | refine ext_move rfl rfl (by rfl) (by rfl) ?_
   | refine ext_assign rfl rfl (by rfl) (by rfl) ?_
   | refine ext_pick_t rfl rfl (by rfl) (by rfl) (by rfl) ?_
   | refine ext_pick_f rfl rfl (by rfl) (by rfl) (by rfl) ?_
   | (apply ext_take rfl (by rfl)
      · intro w' hS
        have hSc := hS.cells
        (try simp only [World.size_drew, World.cell?_drew] at hSc)
        go_simp
        (try simp (disch := omega) only [i64_id, u64_id, ↓IntWalk.iteOmega, Int.tdiv_eq_ediv_of_nonneg, Int.tmod_eq_emod_of_nonneg])
        try rfl)
   | refine ext_pass rfl (by rfl) ?_); simp only [Act.put, setZa, setZ0, setZ1])
  (refine ext_last rfl (by rfl) (by kernel_rfl) (fun K hK => ?_)
   go_simp
   refine hK _ _ ?_
   clear hK K
   (try simp only [Act.put, setZa, setZ0, setZ1]))
  go_wp2_with fail
  go_at_call 186
  refine (devalid_any _ _ _ _ _ _ _ _ _ _ _ _).mono ?_
  rintro e w1 ⟨rfl, hx1⟩
  rw [show vld (ub (d0 l)) (un (dBn l)) (dV l) [dX l 0, dX l 1, dX l 2, dX l 3, dX l 4, dX l 5, dX l 6, dX l 7] = false from HV.out]
  have hc1 := Ext.cells hx1
  have hf1 := Ext.frozens hx1
  have hs1 := Ext.size hx1
  have hlt1 : w.heap.size < w1.heap.size := by have := hs1; simp at this; omega
  have hxw1 : Ext w w1 := by refine Ext.trans ?_ hx1; (repeat (first | (with_reducible exact Ext.alloc _ _) | (with_reducible exact Ext.refl _) | (with_reducible refine Ext.trans ?_ (Ext.drew _)) | (with_reducible refine Ext.trans ?_ (Ext.alloc _ _))))
  go_wp2
  refine bodyPost_ret (v := badE 5) ?_ rfl ⟨rfl, ?_⟩
  · unfold badE
    simp only [results, Tryz.results121]
    go_simp
  · refine below_of_ext ?_
    repeat (with_reducible refine Ext.setOwn ?_ (Nat.le_refl _))
    exact hxw1
set_option maxHeartbeats 800000 in
theorem decode_yes (v : Value) (l : List (BitVec 8)) (w : World) (h : SliceAt encB w v l) (hl : l.length = 37) (hs : dS l = dC l) (hv : vld (dK l) (dB l) (dV l) (dD l) = true) :
    Calls Tryz.prog 121 #[v] w fun e w' => e = .returned (.tuple #[.agg #[encI (dK l), encI (dB l), encU (dV l), encB (dX l 0), encB (dX l 1), encB (dX l 2), encB (dX l 3), encB (dX l 4), encB (dX l 5), encB (dX l 6), encB (dX l 7)], encU (dT l), .int .i64 0]) ∧ Below w.heap.size w w' := by
  have HS := Lib.hid h
  obtain ⟨b, off, cap, rfl, hca, hb, hcell⟩ := h.desome_of (by omega)
  have hq : (un (dS l) != un (dC l)) = false := by rw [bne_eq_false_iff_eq]; exact congrArg un hs
  have hc37 : (37 : Int) ≤ (cap : Int) := by omega
  have cx : ∀ i (hi : i < 37), w.cell? ⟨b, off + i, none⟩ = some (encB (l.getD i 0#8)) := fun i hi => by
    rw [hcell i (by omega)]; simp [List.getD, show i < l.length by omega]
  have k0 : w.cell? ⟨b, off, none⟩ = some (encB (d0 l)) := cx 0 (by omega)
  have k1 : w.cell? ⟨b, off + 13, none⟩ = some (encB (dX l 0)) := cx 13 (by omega)
  have k2 : w.cell? ⟨b, off + 14, none⟩ = some (encB (dX l 1)) := cx 14 (by omega)
  have k3 : w.cell? ⟨b, off + 15, none⟩ = some (encB (dX l 2)) := cx 15 (by omega)
  have k4 : w.cell? ⟨b, off + 16, none⟩ = some (encB (dX l 3)) := cx 16 (by omega)
  have k5 : w.cell? ⟨b, off + 17, none⟩ = some (encB (dX l 4)) := cx 17 (by omega)
  have k6 : w.cell? ⟨b, off + 18, none⟩ = some (encB (dX l 5)) := cx 18 (by omega)
  have k7 : w.cell? ⟨b, off + 19, none⟩ = some (encB (dX l 6)) := cx 19 (by omega)
  have k8 : w.cell? ⟨b, off + 20, none⟩ = some (encB (dX l 7)) := cx 20 (by omega)
  have hbd := un_bound (dBn l)
  have hlt5 := unle_lt ((l.take 5).drop 1) 4 (by simp; omega) (by omega)
  have hbd2 : un (dBn l) ≤ 9223372036854775807 := by unfold un dBn; omega
  have hub := ub_bound (d0 l)
  rw [hl] at HS
  rw [hl]
  have HL := Lib.hid hl
  have HV := Lib.hid hv
  clear hs hl hca h hcell cx hlt5 hv
  go_enter Tryz.func121, Tryz.ntmps121
  go_wp2
  have hxA := (Ext.alloc w (.cells #[.int .i64 0, .int .i64 0, .int .u64 0, .int .u8 0, .int .u8 0, .int .u8 0, .int .u8 0, .int .u8 0, .int .u8 0, .int .u8 0, .int .u8 0] 151))
  have HS1 := Lib.hid (HS.out.ext (hxA.trans (Ext.drew _)))
  clear hxA
  refine wp_region_ext [(0, true), (1, true), (3, true), (4, true), (2, false), (5, false), (6, true)] (by kernel_rfl) (by kernel_rfl) ?_
  iterate 4 ((first
   | refine ext_move rfl rfl (by rfl) (by rfl) ?_
   | refine ext_assign rfl rfl (by rfl) (by rfl) ?_
   | refine ext_pick_t rfl rfl (by rfl) (by rfl) (by rfl) ?_
   | refine ext_pick_f rfl rfl (by rfl) (by rfl) (by rfl) ?_
   | (apply ext_take rfl (by rfl)
      · intro w' hS
        have hSc := hS.cells
        (try simp only [World.size_drew, World.cell?_drew] at hSc)
        go_simp
        (try simp (disch := omega) only [↓IntWalk.iteOmega])
        try rfl)
   | refine ext_pass rfl (by rfl) ?_); simp only [Act.put, setZa, setZ0, setZ1])
  (refine ext_do rfl (by rfl) (fun K hK => ?_)
   go_simp
   go_at_call 185
   refine (get_as (dS l) _ _ _ rfl (by simp; omega) (HS1.out.desub 29 37 8 _ (by omega) (by omega) (by omega) (by omega))).mono ?_
   rintro e w' ⟨rfl, rfl⟩
   refine hK _ _ (by first | (with_reducible exact Ext.refl _) | (with_reducible exact Ext.drew _)) ?_
   clear hK K
   (try simp only [Act.put, setZa, setZ0, setZ1]))
  (refine ext_do rfl (by rfl) (fun K hK => ?_)
   go_simp
   go_at_call 45
   refine (sum_as (dC l) _ _ _ rfl (by unfold maxLen; simp; omega) (HS1.out.desub 0 29 29 _ (by omega) (by omega) (by omega) (by omega))).mono ?_
   rintro e w' ⟨rfl, rfl⟩
   refine hK _ _ (by first | (with_reducible exact Ext.refl _) | (with_reducible exact Ext.drew _)) ?_
   clear hK K
   (try simp only [Act.put, setZa, setZ0, setZ1]))
  iterate 1 ((first
   | refine ext_move rfl rfl (by rfl) (by rfl) ?_
   | refine ext_assign rfl rfl (by rfl) (by rfl) ?_
   | refine ext_pick_t rfl rfl (by rfl) (by rfl) (by rfl) ?_
   | refine ext_pick_f rfl rfl (by rfl) (by rfl) (by rfl) ?_
   | (apply ext_take rfl (by rfl)
      · intro w' hS
        have hSc := hS.cells
        (try simp only [World.size_drew, World.cell?_drew] at hSc)
        go_simp
        (try simp (disch := omega) only [i64_id, u64_id, ↓IntWalk.iteOmega, Int.tdiv_eq_ediv_of_nonneg, Int.tmod_eq_emod_of_nonneg])
        try rfl)
   | refine ext_pass rfl (by rfl) ?_); simp only [Act.put, setZa, setZ0, setZ1])
  refine ext_nil ?_
  go_wp2
  have HS2 := Lib.hid (HS1.out.ext (Ext.drew _))
  refine wp_region_ext [(0, true), (1, true), (2, true), (3, true), (4, true), (5, true), (8, true), (9, true), (11, true), (12, true), (13, true), (14, true), (6, false), (7, true), (10, false), (15, true), (16, false)] (by kernel_rfl) (by kernel_rfl) ?_
  iterate 12 ((first
   | refine ext_move rfl rfl (by rfl) (by rfl) ?_
   | refine ext_assign rfl rfl (by rfl) (by rfl) ?_
   | refine ext_pick_t rfl rfl (by rfl) (by rfl) (by rfl) ?_
   | refine ext_pick_f rfl rfl (by rfl) (by rfl) (by rfl) ?_
   | (apply ext_take rfl (by rfl)
      · intro w' hS
        have hSc := hS.cells
        (try simp only [World.size_drew, World.cell?_drew] at hSc)
        go_simp
        (try simp (disch := omega) only [i64_id, ↓IntWalk.iteOmega])
        try rfl)
   | refine ext_pass rfl (by rfl) ?_); simp only [Act.put, setZa, setZ0, setZ1])
  (refine ext_do rfl (by rfl) (fun K hK => ?_)
   go_simp
   go_at_call 185
   refine (get_as (dBn l) _ _ _ rfl (by simp; omega) (HS2.out.desub 1 5 4 _ (by omega) (by omega) (by omega) (by omega))).mono ?_
   rintro e w' ⟨rfl, rfl⟩
   refine hK _ _ (by first | (with_reducible exact Ext.refl _) | (with_reducible exact Ext.drew _)) ?_
   clear hK K
   (try simp only [Act.put, setZa, setZ0, setZ1]))
  iterate 1 ((first
   | refine ext_move rfl rfl (by rfl) (by rfl) ?_
   | refine ext_assign rfl rfl (by rfl) (by rfl) ?_
   | refine ext_pick_t rfl rfl (by rfl) (by rfl) (by rfl) ?_
   | refine ext_pick_f rfl rfl (by rfl) (by rfl) (by rfl) ?_
   | (apply ext_take rfl (by rfl)
      · intro w' hS
        have hSc := hS.cells
        (try simp only [World.size_drew, World.cell?_drew] at hSc)
        go_simp
        (try simp (disch := omega) only [i64_id])
        try rfl)
   | refine ext_pass rfl (by rfl) ?_); simp only [Act.put, setZa, setZ0, setZ1])
  (refine ext_do rfl (by rfl) (fun K hK => ?_)
   go_simp
   go_at_call 185
   refine (get_as (dV l) _ _ _ rfl (by simp; omega) (HS2.out.desub 5 13 8 _ (by omega) (by omega) (by omega) (by omega))).mono ?_
   rintro e w' ⟨rfl, rfl⟩
   refine hK _ _ (by first | (with_reducible exact Ext.refl _) | (with_reducible exact Ext.drew _)) ?_
   clear hK K
   (try simp only [Act.put, setZa, setZ0, setZ1]))
  iterate 1 ((first
   | refine ext_move rfl rfl (by rfl) (by rfl) ?_
   | refine ext_assign rfl rfl (by rfl) (by rfl) ?_
   | refine ext_pick_t rfl rfl (by rfl) (by rfl) (by rfl) ?_
   | refine ext_pick_f rfl rfl (by rfl) (by rfl) (by rfl) ?_
   | (apply ext_take rfl (by rfl)
      · intro w' hS
        have hSc := hS.cells
        (try simp only [World.size_drew, World.cell?_drew] at hSc)
        go_simp
        (try simp (disch := omega) only [i64_id, u64_id, ↓IntWalk.iteOmega, Int.tdiv_eq_ediv_of_nonneg, Int.tmod_eq_emod_of_nonneg])
        try rfl)
   | refine ext_pass rfl (by rfl) ?_); simp only [Act.put, setZa, setZ0, setZ1])
  (refine ext_last rfl (by rfl) (by kernel_rfl) (fun K hK => ?_)
   go_simp
   refine hK _ _ ?_
   clear hK K
   (try simp only [Act.put, setZa, setZ0, setZ1]))
  go_wp2_with fail
  go_at_call 186
  refine (devalid_any _ _ _ _ _ _ _ _ _ _ _ _).mono ?_
  rintro e w1 ⟨rfl, hx1⟩
  rw [show vld (ub (d0 l)) (un (dBn l)) (dV l) [dX l 0, dX l 1, dX l 2, dX l 3, dX l 4, dX l 5, dX l 6, dX l 7] = true from HV.out]
  have hc1 := Ext.cells hx1
  have hf1 := Ext.frozens hx1
  have hs1 := Ext.size hx1
  have hlt1 : w.heap.size < w1.heap.size := by have := hs1; simp at this; omega
  have hxw1 : Ext w w1 := by refine Ext.trans ?_ hx1; (repeat (first | (with_reducible exact Ext.alloc _ _) | (with_reducible exact Ext.refl _) | (with_reducible refine Ext.trans ?_ (Ext.drew _)) | (with_reducible refine Ext.trans ?_ (Ext.alloc _ _))))
  have HS3 := Lib.hid (HS.out.ext hxw1)
  go_wp2
  refine wp_region_ext [(0, true), (1, true), (2, true), (3, false), (4, false), (5, true), (6, true)] (by kernel_rfl) (by kernel_rfl) ?_
  iterate 3 ((first
   | refine ext_move rfl rfl (by rfl) (by rfl) ?_
   | refine ext_assign rfl rfl (by rfl) (by rfl) ?_
   | refine ext_pick_t rfl rfl (by rfl) (by rfl) (by rfl) ?_
   | refine ext_pick_f rfl rfl (by rfl) (by rfl) (by rfl) ?_
   | (apply ext_take rfl (by rfl)
      · intro w' hS
        have hSc := hS.cells
        (try simp only [World.size_drew, World.cell?_drew] at hSc)
        go_simp
        (try simp (disch := omega) only [↓IntWalk.iteOmega])
        try rfl)
   | refine ext_pass rfl (by rfl) ?_); simp only [Act.put, setZa, setZ0, setZ1])
  (refine ext_do rfl (by rfl) (fun K hK => ?_)
   go_simp
   go_at_call 185
   refine (get_as (dT l) _ _ _ rfl (by simp; omega) ((HS3.out.ext (Ext.drew _)).desub 21 29 8 _ (by omega) (by omega) (by omega) (by omega))).mono ?_
   rintro e w' ⟨rfl, rfl⟩
   refine hK _ _ (by first | (with_reducible exact Ext.refl _) | (with_reducible exact Ext.drew _)) ?_
   clear hK K
   (try simp only [Act.put, setZa, setZ0, setZ1]))
  (refine ext_store rfl (by rfl) (by kernel_rfl) (fun K hK => ?_)
   go_simp
   refine hK _ _ ?_
   clear hK K
   (try simp only [Act.put, setZa, setZ0, setZ1]))
  iterate 2 ((first
   | refine ext_move rfl rfl (by rfl) (by rfl) ?_
   | refine ext_assign rfl rfl (by rfl) (by rfl) ?_
   | refine ext_pick_t rfl rfl (by rfl) (by rfl) (by rfl) ?_
   | refine ext_pick_f rfl rfl (by rfl) (by rfl) (by rfl) ?_
   | (apply ext_take rfl (by rfl)
      · intro w' hS
        have hSc := hS.cells
        (try simp only [World.size_drew, World.cell?_drew] at hSc)
        go_simp
        (try simp (disch := omega) only [i64_id, u64_id, ↓IntWalk.iteOmega, Int.tdiv_eq_ediv_of_nonneg, Int.tmod_eq_emod_of_nonneg])
        try rfl)
   | refine ext_pass rfl (by rfl) ?_); simp only [Act.put, setZa, setZ0, setZ1])
  refine ext_nil ?_
  go_wp2
  refine bodyPost_ret (v := .tuple #[.agg #[encI (dK l), encI (dB l), encU (dV l), encB (dX l 0), encB (dX l 1), encB (dX l 2), encB (dX l 3), encB (dX l 4), encB (dX l 5), encB (dX l 6), encB (dX l 7)], encU (dT l), .int .i64 0]) ?_ rfl ⟨rfl, ?_⟩
  · simp only [results, Tryz.results121, dK, dB]
    go_simp
  · refine below_of_ext ?_
    refine Ext.trans ?_ (Ext.drew _)
    repeat (with_reducible refine Ext.setOwn ?_ (Nat.le_refl _))
    exact hxw1
end Go.Proofs.YtjabgpejmnpamaaGreatDoor
