/-
  Chapter 15 (entry): the walks of EntrySealed, EntryChanged.
-/
import Derived.Test.YtbjafmjeilabiaaEnH
namespace Go.Proofs.Ytbjafmjeilabiaa
open Go.RowKit
set_option linter.unusedVariables false
attribute [local go_sem] eq_block eq_zero eqB_self

theorem seg_append {α : Type} (l : List α) (i j k : Nat) (h1 : i ≤ j) (h2 : j ≤ k) (h3 : k ≤ l.length) : (l.take j).drop i ++ (l.take k).drop j = (l.take k).drop i := by
  have e : l.take k = l.take j ++ (l.take k).drop j := by
    conv => lhs; rw [← List.take_append_drop j (l.take k)]
    rw [List.take_take, Nat.min_eq_left h2]
  conv => rhs; rw [e]
  rw [List.drop_append_of_le_length (by rw [List.length_take, Nat.min_eq_left (by omega)]; exact h1)]
theorem seg_len {α : Type} (l : List α) (i j : Nat) (h : j ≤ l.length) : ((l.take j).drop i).length = j - i := by
  rw [List.length_drop, List.length_take, Nat.min_eq_left h]
theorem le_one (c : BitVec 8) : le 1 (BitVec.ofInt 64 (ub c)) = [c] := by
  simp only [le, ofInt_ub]
  congr 1
  apply BitVec.eq_of_toNat_eq
  rw [BitVec.toNat_setWidth, BitVec.toNat_setWidth]
  have := c.isLt
  omega
theorem seg8 (l : List (BitVec 8)) (h : 21 ≤ l.length) : dD l = (l.take 21).drop 13 := by
  refine List.ext_getElem (by rw [seg_len _ _ _ h]; rfl) fun i h1 h2 => ?_
  have hi : i < 8 := h1
  have key : ∀ j (hj : j < 8), dX l j = l[13 + j]'(by omega) := fun j hj => by
    unfold dX; rw [List.getD_eq_getElem?_getD, List.getElem?_eq_getElem (by omega)]; rfl
  rw [List.getElem_drop, List.getElem_take]
  rcases (show i = 0 ∨ i = 1 ∨ i = 2 ∨ i = 3 ∨ i = 4 ∨ i = 5 ∨ i = 6 ∨ i = 7 by omega) with rfl | rfl | rfl | rfl | rfl | rfl | rfl | rfl
  all_goals exact key _ (by omega)
/-- the bytes before the sum are those of what is read from them -/
theorem repack (l : List (BitVec 8)) (h : 29 ≤ l.length) : pln (dK l) (dB l) (dV l) (dD l) (dT l) = l.take 29 := by
  have e0 : le 1 (BitVec.ofInt 64 (dK l)) = (l.take 1).drop 0 := by
    unfold dK
    rw [le_one]
    unfold d0
    cases l with
    | nil => simp at h
    | cons c r => simp
  have e1 : le 4 (BitVec.ofInt 64 (dB l)) = (l.take 5).drop 1 := by
    unfold dB dBn
    rw [ofInt_un]
    have := le_unle ((l.take 5).drop 1) (by rw [seg_len _ _ _ (by omega)]; omega)
    rw [seg_len _ _ _ (by omega)] at this
    exact this
  have e2 : le 8 (dV l) = (l.take 13).drop 5 := by
    unfold dV
    have := le_unle ((l.take 13).drop 5) (by rw [seg_len _ _ _ (by omega)]; omega)
    rw [seg_len _ _ _ (by omega)] at this
    exact this
  have e3 : le 8 (dT l) = (l.take 29).drop 21 := by
    unfold dT
    have := le_unle ((l.take 29).drop 21) (by rw [seg_len _ _ _ (by omega)]; omega)
    rw [seg_len _ _ _ (by omega)] at this
    exact this
  unfold pln
  rw [e0, e1, e2, seg8 l (by omega), e3, seg_append _ _ _ _ (by omega) (by omega) (by omega), seg_append _ _ _ _ (by omega) (by omega) (by omega), seg_append _ _ _ _ (by omega) (by omega) (by omega), seg_append _ _ _ _ (by omega) (by omega) (by omega)]
  rfl
theorem decV_sealed (r : List (BitVec 8)) (h : r.length = 29) :
    (decV (seal8 r) = badE 5) ∨ ∃ k b v x0 x1 x2 x3 x4 x5 x6 x7 t, decV (seal8 r) = okE k b v x0 x1 x2 x3 x4 x5 x6 x7 t 0 ∧ vld k b v [x0, x1, x2, x3, x4, x5, x6, x7] = true ∧ pln k b v [x0, x1, x2, x3, x4, x5, x6, x7] t = r := by
  have hl : (seal8 r).length = 37 := by rw [seal8_len, h]
  have hp := repack (seal8 r) (by omega)
  have ht : (seal8 r).take 29 = r := by unfold seal8; rw [List.take_left' h]
  rw [ht] at hp
  unfold decV
  rw [if_neg (by omega), if_neg (by rw [seal8_dS r h, seal8_dC r h]; exact fun e => e rfl)]
  split
  · rename_i hv
    exact .inr ⟨_, _, _, _, _, _, _, _, _, _, _, _, rfl, hv, hp⟩
  · exact .inl rfl

set_option maxHeartbeats 800000 in
theorem entrySealed_walk (r : List (BitVec 8)) (hr : r.length = 29) (w : World) :
    Calls Try.prog 5 #[.agg (r.map encB).toArray] w fun e w' => e = .returned (.bool true) ∧ Below w.heap.size w w' := by
  have HX := Lib.hid (SliceAt.lit (enc := encB) w r 36 (0, 0) _ rfl)
  rw [hr] at HX
  have HSE := Lib.hid (decV_sealed r hr)
  have HL : Hid ((seal8 r).length = 37) := by show _ = _; rw [seal8_len, hr]
  have HR := Lib.hid hr
  clear hr
  go_enter Try.func5, Try.ntmps5
  go_wp2_with fail
  have hxW : Ext w (w.alloc (.cells (r.map encB).toArray 36)) := Ext.alloc _ _
  generalize w.alloc (.cells (r.map encB).toArray 36) = W at *
  go_at_call 14
  refine (seal_any _ r _ (by rw [HR.out]; decide) HX.out).mono ?_
  rintro e w1 ⟨v1, rfl, ho1, hb1⟩
  have HS1 := Lib.hid (OwnB.slice ho1)
  clear ho1
  go_wp2_with fail
  go_at_call 12
  refine (decode_any _ (seal8 r) _ (by rw [HL.out]; decide) HS1.out).mono ?_
  rintro e w2 ⟨rfl, hb2⟩
  rcases HSE.out with hd | ⟨k, b, v, x0, x1, x2, x3, x4, x5, x6, x7, t, hd, hv, hp⟩
  · have HD := Lib.hid hd
    clear hd
    rw [HD.out, bad_ok]
    unfold okE
    go_wp2_with fail
    go_at_call 13
    refine (rdecode_any _ (seal8 r) _ (by rw [HL.out]; decide) ((HS1.out.ext hb2).ext (Ext.alloc _ _))).mono ?_
    rintro e w3 ⟨rfl, hb3⟩
    rw [HD.out, bad_ok]
    unfold okE
    have hc3 := Ext.cells hb3
    have hs3 : w2.heap.size < w3.heap.size := by have := Ext.size hb3; simp at this; omega
    go_wp2_with fail
    go_at_call 11
    refine (awake_any _).mono ?_
    rintro e w4 ⟨rfl, hb4⟩
    have hc4 := Ext.cells hb4
    have hs4 : w3.heap.size < w4.heap.size := by have := Ext.size hb4; simp at this; omega
    have hs5 : w2.heap.size < w4.heap.size := by omega
    go_wp2_with fail
    go_ret
    exact ⟨rfl, hxW.trans ((Ext.trans (Ext.trans (Ext.trans hb1 hb2) (Ext.alloc _ _)) hb3).trans (Ext.trans (Ext.alloc _ _) hb4))⟩
  · have HD := Lib.hid hd
    have HE := Lib.hid (fun w => encode_yes k b v x0 x1 x2 x3 x4 x5 x6 x7 t w hv)
    rw [hp] at HE
    clear hd hv hp
    rw [HD.out]
    unfold okE
    go_wp2_with fail
    go_at_call 13
    refine (rdecode_any _ (seal8 r) _ (by rw [HL.out]; decide) ((HS1.out.ext hb2).ext (Ext.alloc _ _))).mono ?_
    rintro e w3 ⟨rfl, hb3⟩
    rw [HD.out]
    unfold okE
    have hc3 := Ext.cells hb3
    have hs3 : w2.heap.size < w3.heap.size := by have := Ext.size hb3; simp at this; omega
    go_wp2_with fail
    go_at_call 11
    refine (awake_any _).mono ?_
    rintro e w4 ⟨rfl, hb4⟩
    have hc4 := Ext.cells hb4
    have hs4 : w3.heap.size < w4.heap.size := by have := Ext.size hb4; simp at this; omega
    have hs5 : w2.heap.size < w4.heap.size := by omega
    go_wp2_with fail
    go_at_call 9
    refine (HE.out _).mono ?_
    rintro e w5 ⟨v5, rfl, ho5, hb5⟩
    have hx5 : Ext w1 w5 := ((Ext.trans (Ext.trans hb2 (Ext.alloc _ _)) hb3).trans (Ext.trans (Ext.alloc _ _) hb4)).trans hb5
    have hcv1 := run_str (P := Try.prog) Try.underlying27 Try.underlying5 Try.underlying9 w5 _ _ (OwnB.slice ho5)
    have hcv2 := run_str (P := Try.prog) Try.underlying27 Try.underlying5 Try.underlying9 w5 _ _ (HS1.out.ext hx5)
    clear ho5
    go_wp2_with fail
    go_ret
    exact ⟨rfl, hxW.trans (Ext.trans hb1 hx5)⟩

/-! ### a byte is changed -/
theorem foldB_inj {x y : BitVec 64} {l : List (BitVec 8)} (h : Crc.foldB x l = Crc.foldB y l) : x = y := by
  have h1 := Crc.foldB_xor 0#64 x l
  have h2 := Crc.foldB_xor 0#64 y l
  rw [BitVec.zero_xor] at h1 h2
  rw [h1, h2] at h
  exact Crc.stepN_inj (BitVec.xor_right_inj _ |>.1 h)
theorem sum_byte {a r : List (BitVec 8)} {c d : BitVec 8} (h : Crc.sum (a ++ c :: r) = Crc.sum (a ++ d :: r)) : c = d := by
  unfold Crc.sum Crc.update at h
  rw [Crc.foldB_append, Crc.foldB_append] at h
  have h1 : Crc.foldB (Crc.foldB (~~~0#64) a) (c :: r) = Crc.foldB (Crc.foldB (~~~0#64) a) (d :: r) := by
    have := congrArg (fun x : BitVec 64 => ~~~x) h
    simpa using this
  generalize Crc.foldB (~~~0#64) a = x at h1
  have h2 : Crc.foldB (Crc.stepN 8 (x ^^^ Crc.reg c)) r = Crc.foldB (Crc.stepN 8 (x ^^^ Crc.reg d)) r := h1
  have h3 := Crc.stepN_inj (foldB_inj h2)
  have h4 : Crc.reg c = Crc.reg d := BitVec.xor_right_inj _ |>.1 h3
  have h5 : (Crc.reg c).toNat = (Crc.reg d).toNat := by rw [h4]
  unfold Crc.reg at h5
  rw [BitVec.toNat_setWidth, BitVec.toNat_setWidth] at h5
  apply BitVec.eq_of_toNat_eq
  have := c.isLt
  have := d.isLt
  omega
theorem set_split {α : Type} (l : List α) (i : Nat) (h : i < l.length) (c : α) : l.set i c = l.take i ++ c :: l.drop (i + 1) := by
  rw [List.set_eq_take_append_cons_drop, if_pos h]
theorem changed (p : List (BitVec 8)) (hp : p.length = 29) (i : Nat) (hi : i < 37) (c : BitVec 8) (hc : c ≠ (seal8 p).getD i 0#8) :
    decV ((seal8 p).set i c) = badE 6 := by
  have hl : (seal8 p).length = 37 := by rw [seal8_len, hp]
  unfold decV
  rw [if_neg (by rw [List.length_set, hl]; decide), if_pos]
  unfold dS dC
  rw [List.take_of_length_le (by rw [List.length_set]; omega)]
  by_cases h : i < 29
  · have e1 : ((seal8 p).set i c).take 29 = p.set i c := by
      unfold seal8
      rw [List.set_append_left _ _ (by omega), List.take_left' (by simpa using hp)]
    have e2 : ((seal8 p).set i c).drop 29 = le 8 (Crc.sum p) := by
      unfold seal8
      rw [List.set_append_left _ _ (by omega), List.drop_left' (by simpa using hp)]
    rw [e1, e2, unle_le]
    intro e
    apply hc
    have e3 : (seal8 p).getD i 0#8 = p[i]'(by omega) := by
      unfold seal8
      rw [List.getD_eq_getElem?_getD, List.getElem?_append_left (by omega), List.getElem?_eq_getElem (by omega)]; rfl
    rw [e3]
    rw [set_split p i (by omega)] at e
    have e4 : p = p.take i ++ p[i]'(by omega) :: p.drop (i + 1) := by
      rw [← List.drop_eq_getElem_cons, List.take_append_drop]
    conv at e => lhs; rw [e4]
    exact (sum_byte e).symm
  · have e1 : ((seal8 p).set i c).take 29 = p := by
      unfold seal8
      rw [List.set_append_right _ _ (by omega), List.take_left' hp]
    have e2 : ((seal8 p).set i c).drop 29 = (le 8 (Crc.sum p)).set (i - 29) c := by
      unfold seal8
      rw [List.set_append_right _ _ (by omega), List.drop_left' hp, hp]
    rw [e1, e2]
    intro e
    apply hc
    have e3 := congrArg (le 8) e
    have e5 := le_unle ((le 8 (Crc.sum p)).set (i - 29) c) (by simp [le_length])
    rw [List.length_set, le_length] at e5
    rw [e5] at e3
    have e6 : (seal8 p).getD i 0#8 = (le 8 (Crc.sum p)).getD (i - 29) 0#8 := by
      unfold seal8
      rw [List.getD_eq_getElem?_getD, List.getElem?_append_right (by omega), hp, ← List.getD_eq_getElem?_getD]
    rw [e6, ← e3, List.getD_eq_getElem?_getD, List.getElem?_set_self (by rw [le_length]; omega)]
    rfl

theorem add_ub (x y : BitVec 8) : IntKind.u8.wrap (ub x + ub y) = ub (x + y) := by
  unfold ub
  simp only [IntKind.wrap, IntKind.bits, IntKind.signed]
  simp [BitVec.toNat_add]
theorem eq_zero_ub (x : BitVec 8) : (ub x == 0) = decide (x = 0#8) := by
  rw [Bool.eq_iff_iff]; simp only [beq_iff_eq, decide_eq_true_eq]
  exact ⟨fun h => ub_inj h, fun h => by rw [h]; rfl⟩
theorem OwnB.ext {w w' : World} {b : Nat} {v : Value} {l : List (BitVec 8)} (h : OwnB w b v l) (e : Ext w w') : OwnB w' b v l :=
  ⟨h.1, h.2.imp id (fun ⟨g, cap, cur, hv, hg, hh, r⟩ => ⟨g, cap, cur, hv, hg, (e.block g (Array.getElem?_eq_some_iff.1 hh).1).trans hh, r⟩)⟩
attribute [local go_sem] add_ub

set_option maxHeartbeats 800000 in
theorem entryChanged_walk (k b : Int) (v : BitVec 64) (x0 x1 x2 x3 x4 x5 x6 x7 : BitVec 8) (t : BitVec 64) (n o : BitVec 8) (w : World) :
    Calls Try.prog 7 #[.agg #[encI k, encI b, encU v, encB x0, encB x1, encB x2, encB x3, encB x4, encB x5, encB x6, encB x7], encU t, .agg #[encB n, encB o]] w fun e w' => e = .returned (.bool true) ∧ Below w.heap.size w w' := by
  by_cases hv : vld k b v [x0, x1, x2, x3, x4, x5, x6, x7] = true
  · by_cases ho0 : o = 0#8
    · subst ho0
      have HE := Lib.hid (fun w => rencode_any k b v x0 x1 x2 x3 x4 x5 x6 x7 t w)
      unfold encN encL at HE
      simp only [hv, if_true] at HE
      have hne : (ub 0#8 == 0) = true := rfl
      clear hv
      go_enter Try.func7, Try.ntmps7
      go_wp2_with fail
      have hz : w.heap.size + 1 < ((w.alloc (.cells #[encI k, encI b, encU v, encB x0, encB x1, encB x2, encB x3, encB x4, encB x5, encB x6, encB x7] 26)).alloc (.cells #[encB n, encB 0#8] 40)).heap.size := by simp
      have hxW : Ext w ((w.alloc (.cells #[encI k, encI b, encU v, encB x0, encB x1, encB x2, encB x3, encB x4, encB x5, encB x6, encB x7] 26)).alloc (.cells #[encB n, encB 0#8] 40)) := Ext.trans (Ext.alloc _ _) (Ext.alloc _ _)
      generalize hW : (w.alloc (.cells #[encI k, encI b, encU v, encB x0, encB x1, encB x2, encB x3, encB x4, encB x5, encB x6, encB x7] 26)).alloc (.cells #[encB n, encB 0#8] 40) = W at *
      have c0 : W.cell? ⟨w.heap.size + 1, 0, none⟩ = some (encB n) := by rw [← hW]; simp
      have c1 : W.cell? ⟨w.heap.size + 1, 1, none⟩ = some (encB 0#8) := by rw [← hW]; simp
      clear hW
      refine (HE.out _).mono ?_
      rintro e w1 ⟨v1, rfl, ho1, hx1⟩
      have hc1 := Ext.cells hx1
      have hs1 := Ext.size hx1
      clear ho1
      go_wp2_with fail
      go_at_call 11
      refine (awake_any _).mono ?_
      rintro e w2 ⟨rfl, hb2⟩
      have hx2 : Ext W w2 := Ext.trans hx1 hb2
      have hc2 := hx2.cells
      have hlt2 := Nat.lt_of_lt_of_le hz hx2.size
      go_wp2_with fail
      go_at_call 11
      refine (awake_any _).mono ?_
      rintro e w3 ⟨rfl, hb3⟩
      go_wp2_with fail
      go_ret
      exact ⟨rfl, hxW.trans (hx2.trans hb3)⟩
    · have HE := Lib.hid (fun w => rencode_any k b v x0 x1 x2 x3 x4 x5 x6 x7 t w)
      unfold encN encL at HE
      simp only [hv, if_true] at HE
      have hch := changed (pln k b v [x0, x1, x2, x3, x4, x5, x6, x7] t) (pln_len _ _ _ _ _ rfl)
      have hl := seal8_len (pln k b v [x0, x1, x2, x3, x4, x5, x6, x7] t)
      rw [pln_len _ _ _ _ _ rfl] at hl
      generalize seal8 (pln k b v [x0, x1, x2, x3, x4, x5, x6, x7] t) = L at *
      have HL := Lib.hid hl
      have hnb := ub_bound n
      have hob := ub_bound o
      generalize hm : ub n % 37 = m
      have hm1 : 0 ≤ m := by omega
      have hm2 : m < 37 := by omega
      obtain ⟨m, rfl⟩ := Int.eq_ofNat_of_zero_le hm1
      have hadd : L.getD m 0#8 + o ≠ L.getD m 0#8 := fun e => ho0 (by
        have := congrArg (fun z => z - L.getD m 0#8) e
        simpa [BitVec.add_sub_cancel, BitVec.add_comm] using this)
      have hLm : L[m]? = some (L.getD m 0#8) := by rw [List.getElem?_eq_getElem (by omega), List.getD_eq_getElem?_getD, List.getElem?_eq_getElem (by omega)]; rfl
      have HLM := Lib.hid hLm
      have HCH := Lib.hid (hch m (by omega) (L.getD m 0#8 + o) hadd)
      clear hch hadd
      generalize L.getD m 0#8 = c at *
      have hne : (ub o == 0) = false := by rw [eq_zero_ub]; simpa using ho0
      clear hl hv ho0 hLm
      go_enter Try.func7, Try.ntmps7
      go_wp2_with fail
      have hz : w.heap.size + 1 < ((w.alloc (.cells #[encI k, encI b, encU v, encB x0, encB x1, encB x2, encB x3, encB x4, encB x5, encB x6, encB x7] 26)).alloc (.cells #[encB n, encB o] 40)).heap.size := by simp
      have hxW : Ext w ((w.alloc (.cells #[encI k, encI b, encU v, encB x0, encB x1, encB x2, encB x3, encB x4, encB x5, encB x6, encB x7] 26)).alloc (.cells #[encB n, encB o] 40)) := Ext.trans (Ext.alloc _ _) (Ext.alloc _ _)
      generalize hW : (w.alloc (.cells #[encI k, encI b, encU v, encB x0, encB x1, encB x2, encB x3, encB x4, encB x5, encB x6, encB x7] 26)).alloc (.cells #[encB n, encB o] 40) = W at *
      have c0 : W.cell? ⟨w.heap.size + 1, 0, none⟩ = some (encB n) := by rw [← hW]; simp
      have c1 : W.cell? ⟨w.heap.size + 1, 1, none⟩ = some (encB o) := by rw [← hW]; simp
      clear hW
      refine (HE.out _).mono ?_
      rintro e w1 ⟨v1, rfl, ho1, hx1⟩
      have hc1 := Ext.cells hx1
      have hs1 := Ext.size hx1
      have hsh : ∃ g cap, v1 = .slice (some ⟨g, 0, none⟩) 37 cap ∧ W.heap.size ≤ g ∧ g < w1.heap.size ∧ 37 ≤ cap := by
        have hl := HL.out
        rcases ho1.2 with ⟨_, h0⟩ | ⟨g, cap, cur, hv, hg, hh, hc, _⟩
        · omega
        · exact ⟨g, cap, by rw [hv, hl], hg, (Array.getElem?_eq_some_iff.1 hh).1, by omega⟩
      obtain ⟨g, cap, rfl, hg1, hg2, hcap⟩ := hsh
      have HO1 := Lib.hid ho1
      clear ho1
      go_wp2_with fail
      go_at_call 11
      refine (awake_any _).mono ?_
      rintro e w2 ⟨rfl, hb2⟩
      have hx2 : Ext W w2 := Ext.trans hx1 hb2
      have hc2 := hx2.cells
      have hlt2 := Nat.lt_of_lt_of_le hz hx2.size
      have ho2 := OwnB.ext HO1.out hb2
      unfold OwnB at ho2
      have hll := HL.out
      rw [hll] at ho2
      have hcg : w2.cell? ⟨g, m, none⟩ = some (encB c) := by rw [ho2.cellAt m (by omega), List.getElem?_map, HLM.out]; rfl
      have hfg : w2.frozen? ⟨g, m, none⟩ = false := ho2.frozenAt m
      have hg3 : g < w2.heap.size := by have := Ext.size hb2; omega
      have HO3 := Lib.hid (ho2.stored m (encB (c + o))).1
      clear ho2 hll
      go_wp2_with fail
      refine wp_region_ext [(0, true), (1, true), (2, true), (3, true), (4, true), (5, true), (6, true), (7, true), (8, true), (9, true), (10, true), (11, true), (12, true), (13, false)] (by kernel_rfl) (by kernel_rfl) ?_
      iterate 13 (first
       | (refine ext_move rfl rfl (by rfl) (by rfl) ?_; simp only [Act.put, List.setIfInBounds_toArray, List.set_cons_zero, List.set_cons_succ])
       | (refine ext_assign rfl rfl (by rfl) (by rfl) ?_; simp only [Act.put, List.setIfInBounds_toArray, List.set_cons_zero, List.set_cons_succ])
       | (refine ext_pick_t rfl rfl (by rfl) (by rfl) (by rfl) ?_; simp only [Act.put, List.setIfInBounds_toArray, List.set_cons_zero, List.set_cons_succ])
       | (refine ext_pick_f rfl rfl (by rfl) (by rfl) (by rfl) ?_; simp only [Act.put, List.setIfInBounds_toArray, List.set_cons_zero, List.set_cons_succ])
       | (apply ext_take rfl (by rfl)
          · intro w' hS
            have hSc := hS.cells
            (try simp only [World.size_drew, World.cell?_drew] at hSc)
            go_simp
            (try simp (disch := omega) only [i64_id, u64_id, ↓IntWalk.iteOmega, Int.tdiv_eq_ediv_of_nonneg, Int.tmod_eq_emod_of_nonneg])
            try rfl
          simp only [Act.put, List.setIfInBounds_toArray, List.set_cons_zero, List.set_cons_succ])
       | (refine ext_pass rfl (by rfl) ?_; simp only [Act.put, List.setIfInBounds_toArray, List.set_cons_zero, List.set_cons_succ]))
      (refine ext_last rfl (by rfl) (by kernel_rfl) (fun K hK => ?_)
       go_simp
       refine hK _ _ ?_
       clear hK K
       (try simp only [Act.put, List.setIfInBounds_toArray, List.set_cons_zero, List.set_cons_succ]))
      go_wp2_with fail
      have hms : (L.map encB).set m (encB (c + o)) = (L.set m (c + o)).map encB := by rw [List.map_set]
      have ho3 := HO3.out
      rw [hms] at ho3
      have HS3 := Lib.hid ((SliceAt.of_owns ho3).ext (Ext.drew _))
      have hlen : Hid ((L.set m (c + o)).length = 37) := by show _ = _; rw [List.length_set]; exact HL.out
      clear hms ho3
      go_at_call 12
      refine (decode_any _ (L.set m (c + o)) _ (by rw [hlen.out]; decide) HS3.out).mono ?_
      rintro e w3 ⟨rfl, hb3⟩
      rw [HCH.out]
      unfold badE
      have hx3 : Ext w (w2.setCell ⟨g, m, none⟩ (encB (c + o))) := Ext.setOwn (hxW.trans hx2) (by have := hxW.size; omega)
      go_wp2_with fail
      go_ret
      exact ⟨rfl, ((hx3.trans (Ext.drew _)).trans hb3).trans (Ext.alloc _ _)⟩
  · have HE := Lib.hid (fun w => rencode_no k b v x0 x1 x2 x3 x4 x5 x6 x7 t w (by simpa using hv))
    clear hv
    go_enter Try.func7, Try.ntmps7
    go_wp2_with fail
    have hxW : Ext w ((w.alloc (.cells #[encI k, encI b, encU v, encB x0, encB x1, encB x2, encB x3, encB x4, encB x5, encB x6, encB x7] 26)).alloc (.cells #[encB n, encB o] 40)) := Ext.trans (Ext.alloc _ _) (Ext.alloc _ _)
    generalize (w.alloc (.cells #[encI k, encI b, encU v, encB x0, encB x1, encB x2, encB x3, encB x4, encB x5, encB x6, encB x7] 26)).alloc (.cells #[encB n, encB o] 40) = W at *
    refine (HE.out _).mono ?_
    rintro e w1 ⟨rfl, hx1⟩
    go_wp2_with fail
    go_at_call 11
    refine (awake_any _).mono ?_
    rintro e w2 ⟨rfl, hb2⟩
    go_wp2_with fail
    go_at_call 11
    refine (awake_any _).mono ?_
    rintro e w3 ⟨rfl, hb3⟩
    go_wp2_with fail
    go_ret
    exact ⟨rfl, hxW.trans ((Ext.trans hx1 hb2).trans hb3)⟩
end Go.Proofs.Ytbjafmjeilabiaa
