/-
  Chapter 26 (sumtree): the sum of a run, the root, in the package and in its reference.
-/
import Derived.Test.YtdhlikjdcnfkpaaPutR
import Derived.Test.YtdhlikjdcnfkpaaBox
import Derived.Test.YtdhlikjdcnfkpaaCut
import Derived.Test.YtdhlikjdcnfkpaaStP
namespace Go.Proofs.Ytdhlikjdcnfkpaa
open Go.RowKit
set_option linter.unusedVariables false
attribute [local go_sem] wrap8_un or_un wrap_ub

theorem infoU : (Try.prog.info? 34).map (fun i => (i.zero, i.size, i.bytes)) = some (some (.int .u64 0), 1, 8) := by kernel_rfl
theorem ofB {w : World} {base : Nat} {v : Value} {l : List (BitVec 8)} (h : OwnB w base v l) : OwnG encB 5 w base v l := h

set_option maxHeartbeats 400000 in
theorem number_any (base : Nat) (v : Value) (l : List (BitVec 8)) (x : BitVec 64) (w : World) (hl : l.length ≤ 1000000) (hb : base ≤ w.heap.size) (h : OwnB w base v l) :
    Calls Try.prog 40 #[v, encU x] w fun e w' => ∃ v', e = .returned v' ∧ OwnB w' base v' (l ++ le 8 x) ∧ Below base w w' := by
  obtain ⟨i0, hi, hz0, hz1, hz2⟩ := info_parts infoB
  have HA := Lib.hid h
  clear h
  go_enter Try.func40, Try.ntmps40
  go_wp2_with fail
  go_loopw [0, 6] (fun vo i wr => ∃ (k : Nat) (pre : List (BitVec 8)), k ≤ 8 ∧ i = .int .i64 k ∧ le 8 x = pre ++ le (8 - k) (x >>> (8 * k)) ∧ pre.length = k ∧ OwnB wr base vo (l ++ pre) ∧ Below base w wr) (fun _ i _ => 8 - (intOf i).toNat)
  case atStart => exact ⟨0, [], Nat.zero_le _, rfl, rfl, rfl, by rw [List.append_nil]; exact HA.out, Below.refl _ _⟩
  case round =>
    obtain ⟨k, pre, hk, rfl, hle, hpl, hown, hx⟩ := hrel
    have HO := Lib.hid hown
    have HU := Lib.hid hle
    have HP := Lib.hid hpl
    have hll : (l ++ pre).length ≤ 1000008 := by rw [List.length_append]; omega
    have hsz := hx.size
    clear hown hle hpl
    by_cases hlt : k < 8
    · have hsh := shr_un x (8 * k)
      go_wp2_with (at_builtin; refine Classical.byContradiction (fun hN => ?_))
      refine hN ?_
      clear hN
      refine wpList_append_slice (enc := encB) (fun _ => rfl) rfl _ _ 72 rfl base 5 i0 (.int .u8 0) 1 Try.underlying72 hi hz0 hz1 hz2 rfl _ _ _ rfl (World.ownsRow.alloc HO.out _) _ [(x >>> (8 * k)).setWidth 8] rfl (SliceAt.lit wr [(x >>> (8 * k)).setWidth 8] _ _ _ rfl) (by unfold maxLen; simp only [List.length_singleton]; omega) (by simp only [List.length_singleton]; omega) (by simp; omega) ?_
      intro v2 w2 hown2 hgrow2
      have hx2 : Below base w w2 := (hx.alloc (by omega) _).grown hgrow2 (by simp; omega) (fun k hk => (World.ownsRow.lt HO.out k hk).1)
      have HO2 := Lib.hid hown2
      clear hown2 hgrow2
      go_wp2
      go_roundw
      case rel =>
        refine ⟨k + 1, pre ++ [(x >>> (8 * k)).setWidth 8], by omega, by go_num, by rw [HU.out, le_step x hlt]; simp, by simp [HP.out], ?_, hx2⟩
        rw [← List.append_assoc]
        exact OwnB.mk HO2.out
      case measure => simp [intOf]; omega
    · have HK : Hid (8 - k = 0) := by show _ = _; omega
      go_wp2_with fail
      go_ret
      refine ⟨_, rfl, ?_, hx⟩
      rw [HU.out, HK.out, le, List.append_nil]
      exact HO.out

set_option maxHeartbeats 400000 in
theorem run_any (v : Value) (l : List (BitVec 64)) (w : World) (hl : l.length ≤ 100000) (h : SliceAt encU w v l) :
    Calls Try.prog 31 #[v] w fun e w' => e = .returned (encU (runL l)) ∧ Below w.heap.size w w' := by
  obtain ⟨ad, cap, rfl⟩ := h.shape
  have HS := Lib.hid h
  have hw8 := wrap8_nat l.length
  clear h
  go_enter Try.func31, Try.ntmps31
  go_wp2_with fail
  go_loopw [3, 12] (fun vo i wr => ∃ (k : Nat), k ≤ l.length ∧ i = .int .i64 k ∧ Hid (OwnB wr w.heap.size vo (BitVec.ofNat 8 l.length :: bytesL (l.take k))) ∧ Below w.heap.size w wr) (fun _ i _ => l.length - (intOf i).toNat)
  case atStart => exact ⟨0, Nat.zero_le _, rfl, OwnG.lit (enc := encB) w [BitVec.ofNat 8 l.length] 5 w.heap.size (Nat.le_refl _) (by unfold maxLen; simp) _ rfl, Ext.alloc _ _⟩
  case round =>
    obtain ⟨k, hk, rfl, HO, hx⟩ := hrel
    have HX : Hid (Ext w wr) := hx
    by_cases hlt : k < l.length
    · have hin : (k : Int) < (l.length : Int) := by omega
      obtain ⟨b, off, rfl, hb, hc⟩ := (HS.out.ext hx).get k hlt
      have HT : Hid (bytesL (l.take (k + 1)) = bytesL (l.take k) ++ le 8 l[k]) := by
        show _ = _
        rw [List.take_add_one, List.getElem?_eq_getElem hlt, bytesL_app]
        simp only [Option.toList_some, bytesL_one]
      have hlen : (BitVec.ofNat 8 l.length :: bytesL (l.take k)).length ≤ 1000000 := by rw [List.length_cons, bytesL_len, List.length_take]; omega
      generalize l[k] = x at *
      have hsx := hx.size
      clear hx
      go_wp2_with fail
      go_at_call 40
      refine (number_any w.heap.size _ _ x _ hlen hsx HO.out).mono ?_
      rintro e w2 ⟨v2, rfl, ho2, hb2⟩
      have HO2 : Hid (OwnB w2 w.heap.size v2 (BitVec.ofNat 8 l.length :: bytesL (l.take (k + 1)))) := by rw [HT.out]; exact ho2
      have hx2 : Below w.heap.size w w2 := Below.trans HX.out hb2
      clear ho2 hb2
      go_wp2
      go_roundw
      case rel => exact ⟨k + 1, by omega, by go_num, HO2, hx2⟩
      case measure => simp [intOf]; omega
    · have hkl : k = l.length := by omega
      subst hkl
      have hin : ¬ ((l.length : Int) < (l.length : Int)) := by omega
      rw [List.take_length] at HO
      have hlen : (BitVec.ofNat 8 l.length :: bytesL l).length ≤ maxLen := by rw [List.length_cons, bytesL_len]; unfold maxLen; omega
      go_wp2_with fail
      go_at_call 41
      refine (sum_as (runL l) _ _ _ rfl hlen (OwnB.slice HO.out)).mono ?_
      rintro e w2 ⟨rfl, rfl⟩
      go_wp2_with fail
      go_ret
      exact ⟨rfl, hx⟩

set_option maxHeartbeats 400000 in
theorem rrun_any (v : Value) (l : List (BitVec 64)) (w : World) (hl : l.length ≤ 100000) (h : SliceAt encU w v l) :
    Calls Try.prog 33 #[v] w fun e w' => e = .returned (encU (runL l)) ∧ Below w.heap.size w w' := by
  obtain ⟨ad, cap, rfl⟩ := h.shape
  have HS := Lib.hid h
  have hw8 := wrap8_nat l.length
  clear h
  go_enter Try.func33, Try.ntmps33
  go_wp2_with fail
  go_loopw [3, 4] (fun vo i wr => ∃ (k : Nat), k ≤ l.length ∧ i = .int .i64 k ∧ Hid (OwnB wr w.heap.size vo (BitVec.ofNat 8 l.length :: bytesL (l.take k))) ∧ Below w.heap.size w wr) (fun _ i _ => l.length - (intOf i).toNat)
  case atStart => exact ⟨0, Nat.zero_le _, rfl, OwnG.lit (enc := encB) w [BitVec.ofNat 8 l.length] 5 w.heap.size (Nat.le_refl _) (by unfold maxLen; simp) _ rfl, Ext.alloc _ _⟩
  case round =>
    obtain ⟨k, hk, rfl, HO, hx⟩ := hrel
    have HX : Hid (Ext w wr) := hx
    by_cases hlt : k < l.length
    · have hin : (k : Int) < (l.length : Int) := by omega
      obtain ⟨b, off, rfl, hb, hc⟩ := (HS.out.ext hx).get k hlt
      have HT : Hid (bytesL (l.take (k + 1)) = bytesL (l.take k) ++ le 8 l[k]) := by
        show _ = _
        rw [List.take_add_one, List.getElem?_eq_getElem hlt, bytesL_app]
        simp only [Option.toList_some, bytesL_one]
      have hlen : (BitVec.ofNat 8 l.length :: bytesL (l.take k)).length ≤ 1000000 := by rw [List.length_cons, bytesL_len, List.length_take]; omega
      generalize l[k] = x at *
      have hsx := hx.size
      clear hx
      go_wp2_with fail
      go_at_call 42
      refine (rput_any _ _ x 8 _ hlen (by omega) (OwnB.slice HO.out)).mono ?_
      rintro e w2 ⟨v2, rfl, ho2, hb2⟩
      have HO2 : Hid (OwnB w2 w.heap.size v2 (BitVec.ofNat 8 l.length :: bytesL (l.take (k + 1)))) := by rw [HT.out]; exact owns_mono ho2 hsx
      have hx2 : Below w.heap.size w w2 := Ext.trans HX.out hb2
      clear ho2 hb2
      go_wp2
      go_roundw
      case rel => exact ⟨k + 1, by omega, by go_num, HO2, hx2⟩
      case measure => simp [intOf]; omega
    · have hkl : k = l.length := by omega
      subst hkl
      have hin : ¬ ((l.length : Int) < (l.length : Int)) := by omega
      rw [List.take_length] at HO
      have hlen : (BitVec.ofNat 8 l.length :: bytesL l).length ≤ maxLen := by rw [List.length_cons, bytesL_len]; unfold maxLen; omega
      go_wp2_with fail
      go_at_call 43
      refine (rsum_as (runL l) _ _ _ rfl hlen (OwnB.slice HO.out)).mono ?_
      rintro e w2 ⟨rfl, rfl⟩
      go_wp2_with fail
      go_ret
      exact ⟨rfl, hx⟩

set_option maxHeartbeats 400000 in
theorem root_any (n : Nat) (x : BitVec 64) (w : World) (hn : n ≤ 9223372036854775807) :
    Calls Try.prog 32 #[.int .i64 n, encU x] w fun e w' => e = .returned (encU (topL n x)) ∧ Below w.heap.size w w' := by
  have hwn : IntKind.u64.wrap (n : Int) = un (BitVec.ofNat 64 n) := by unfold un; simp only [IntKind.wrap, IntKind.bits, IntKind.signed]; simp
  go_enter Try.func32, Try.ntmps32
  go_wp2_with fail
  go_at_call 40
  refine (number_any w.heap.size _ [] (BitVec.ofNat 64 n) _ (by simp) (Nat.le_refl _) (OwnB.nil _ _)).mono ?_
  rintro e w1 ⟨v1, rfl, ho1, hb1⟩
  have HO1 := Lib.hid ho1
  have HX1 : Hid (Ext w w1) := hb1
  clear ho1 hb1
  go_wp2_with fail
  go_at_call 40
  refine (number_any w.heap.size _ ([] ++ le 8 (BitVec.ofNat 64 n)) x _ (by simp [le_length]) HX1.out.size HO1.out).mono ?_
  rintro e w2 ⟨v2, rfl, ho2, hb2⟩
  have HO2 := Lib.hid ho2
  have HX2 : Hid (Ext w w2) := Below.trans HX1.out hb2
  clear ho2 hb2
  go_wp2_with fail
  go_at_call 41
  refine (sum_as (topL n x) _ ([] ++ le 8 (BitVec.ofNat 64 n) ++ le 8 x) _ rfl (by unfold maxLen; simp [le_length]) (OwnB.slice HO2.out)).mono ?_
  rintro e w3 ⟨rfl, rfl⟩
  go_wp2_with fail
  go_ret
  exact ⟨rfl, HX2.out⟩

set_option maxHeartbeats 400000 in
theorem rtop_any (n : Nat) (x : BitVec 64) (w : World) (hn : n ≤ 9223372036854775807) :
    Calls Try.prog 34 #[.int .i64 n, encU x] w fun e w' => e = .returned (encU (topL n x)) ∧ Below w.heap.size w w' := by
  have hwn : IntKind.u64.wrap (n : Int) = un (BitVec.ofNat 64 n) := by unfold un; simp only [IntKind.wrap, IntKind.bits, IntKind.signed]; simp
  go_enter Try.func34, Try.ntmps34
  go_wp2_with fail
  go_at_call 42
  refine (rput_any _ [] (BitVec.ofNat 64 n) 8 _ (by simp) (by omega) SliceAt.nil).mono ?_
  rintro e w1 ⟨v1, rfl, ho1, hb1⟩
  have HO1 := Lib.hid ho1
  have HX1 : Hid (Ext w w1) := hb1
  clear ho1 hb1
  go_wp2_with fail
  go_at_call 42
  refine (rput_any _ ([] ++ le (8 : Int).toNat (BitVec.ofNat 64 n)) x 8 _ (by simp [le_length]) (by omega) (OwnB.slice HO1.out)).mono ?_
  rintro e w2 ⟨v2, rfl, ho2, hb2⟩
  have HO2 := Lib.hid ho2
  have HX2 : Hid (Ext w w2) := HX1.out.trans hb2
  clear ho2 hb2
  go_wp2_with fail
  go_at_call 43
  refine (rsum_as (topL n x) _ ([] ++ le (8 : Int).toNat (BitVec.ofNat 64 n) ++ le (8 : Int).toNat x) _ rfl (by unfold maxLen; simp [le_length]) (OwnB.slice HO2.out)).mono ?_
  rintro e w3 ⟨rfl, rfl⟩
  go_wp2_with fail
  go_ret
  exact ⟨rfl, HX2.out⟩
end Go.Proofs.Ytdhlikjdcnfkpaa
