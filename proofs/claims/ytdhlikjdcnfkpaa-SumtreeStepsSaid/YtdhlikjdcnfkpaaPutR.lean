/-
  Numbers as bytes, walked: Put of the reference of package entry; new rows of bytes.
-/
import Derived.Test.YtdhlikjdcnfkpaaC8A
import Derived.Test.YtdhlikjdcnfkpaaLe
namespace Go.Proofs.Ytdhlikjdcnfkpaa
open Go.RowKit
set_option linter.unusedVariables false
attribute [local go_sem] wrap8_un or_un wrap_ub

theorem infoB : (Try.prog.info? 5).map (fun i => (i.zero, i.size, i.bytes)) = some (some (.int .u8 0), 1, 1) := by kernel_rfl
/-- a new row of bytes -/
abbrev OwnB (w : World) (base : Nat) (v : Value) (l : List (BitVec 8)) : Prop := w.ownsRow base 5 1 v l.length (l.map encB)
theorem OwnB.slice {w : World} {base : Nat} {v : Value} {l : List (BitVec 8)} (h : OwnB w base v l) : SliceAt encB w v l := SliceAt.of_owns h
theorem OwnB.nil (w : World) (base : Nat) : OwnB w base (.slice none 0 0) [] := World.ownsRow_nil _ _ _ _
theorem OwnB.mk {w : World} {base : Nat} {v : Value} {l lx : List (BitVec 8)} (h : w.ownsRow base 5 1 v (l.length + lx.length) (l.map encB ++ lx.map encB)) : OwnB w base v (l ++ lx) := by
  show World.ownsRow _ _ _ _ _ _ _
  rw [List.length_append, List.map_append]
  exact h

theorem owns_mono {w : World} {b b' : Nat} {v : Value} {l : List (BitVec 8)} (h : OwnB w b v l) (hb : b' ≤ b) : OwnB w b' v l :=
  ⟨h.1, h.2.imp id (fun ⟨g, cap, cur, hv, hg, r⟩ => ⟨g, cap, cur, hv, Nat.le_trans hb hg, r⟩)⟩
theorem owns_ext {w w' : World} {b n : Nat} {t : TypeId} {v : Value} {xs : List Value} (h : w.ownsRow b t 1 v n xs) (e : Ext w w') : w'.ownsRow b t 1 v n xs :=
  ⟨h.1, h.2.imp id (fun ⟨g, cap, cur, hv, hg, hh, r⟩ => ⟨g, cap, cur, hv, hg, (e.block g (Array.getElem?_eq_some_iff.1 hh).1).trans hh, r⟩)⟩
set_option maxHeartbeats 400000 in
theorem rput_any (v : Value) (l : List (BitVec 8)) (x : BitVec 64) (n : Int) (w : World) (hl : l.length ≤ 1000000) (hn : 0 ≤ n ∧ n ≤ 8) (h : SliceAt encB w v l) :
    Calls Try.prog 42 #[v, encU x, .int .i64 n] w fun e w' => ∃ v', e = .returned v' ∧ OwnB w' w.heap.size v' (l ++ le n.toNat x) ∧ Below w.heap.size w w' := by
  obtain ⟨i0, hi, hz0, hz1, hz2⟩ := info_parts infoB
  have HA := Lib.hid h
  clear h
  obtain ⟨n, rfl⟩ := Int.eq_ofNat_of_zero_le hn.1
  have hn8 : n ≤ 8 := by omega
  rw [Int.toNat_natCast]
  go_enter Try.func42, Try.ntmps42
  go_wp2_with (at_builtin; refine wpList_append_slice (enc := encB) (fun _ => rfl) rfl (.tmp 8) (.tmp 9) 72 rfl w.heap.size 5 i0 (.int .u8 0) 1 Try.underlying72 hi hz0 hz1 hz2 rfl _ 0 [] rfl (World.ownsRow_lit w #[] 0 (Nat.le_refl _) (by decide) rfl) _ l rfl (HA.out.ext (Ext.alloc _ _)) (by unfold maxLen; omega) (by omega) (by simp) ?_; intro v1 w1 hown1 hgrow1; simp only [Nat.zero_add, List.nil_append] at hown1; have hb1 : Ext w w1 := ((Below.refl _ _).alloc (Nat.le_refl _) _).grown hgrow1 (by simp) (fun k hk => (by cases hk; exact Nat.le_refl _)); have HO1 := Lib.hid hown1; clear hown1 hgrow1)
  go_loopw [0, 7] (fun vo i wr => ∃ (k : Nat) (pre : List (BitVec 8)), k ≤ n ∧ i = .int .i64 k ∧ le n x = pre ++ le (n - k) (x >>> (8 * k)) ∧ pre.length = k ∧ OwnB wr w.heap.size vo (l ++ pre) ∧ Below w.heap.size w wr) (fun _ i _ => n - (intOf i).toNat)
  case atStart => exact ⟨0, [], Nat.zero_le _, rfl, rfl, rfl, by rw [List.append_nil]; exact HO1.out, hb1⟩
  case round =>
    obtain ⟨k, pre, hk, rfl, hle, hpl, hown, hx⟩ := hrel
    have HO := Lib.hid hown
    have HU := Lib.hid hle
    have HP := Lib.hid hpl
    have hll : (l ++ pre).length ≤ 1000008 := by rw [List.length_append]; omega
    have hsz := hx.size
    clear hown hle hpl
    by_cases hlt : k < n
    · have hsh := shr_un x (8 * k)
      go_wp2_with (at_builtin; refine wpList_append_slice (enc := encB) (fun _ => rfl) rfl (.tmp 16) (.tmp 23) 72 rfl w.heap.size 5 i0 (.int .u8 0) 1 Try.underlying72 hi hz0 hz1 hz2 rfl _ _ _ rfl (World.ownsRow.alloc HO.out _) _ [(x >>> (8 * k)).setWidth 8] rfl (SliceAt.lit wr [(x >>> (8 * k)).setWidth 8] _ _ _ rfl) (by unfold maxLen; simp only [List.length_singleton]; omega) (by simp only [List.length_singleton]; omega) (by simp; omega) ?_; intro v2 w2 hown2 hgrow2; have hx2 : Below w.heap.size w w2 := (hx.alloc (by omega) _).grown hgrow2 (by simp; omega) (fun k hk => (World.ownsRow.lt HO.out k hk).1); have HO2 := Lib.hid hown2; clear hown2 hgrow2)
      go_roundw
      case rel =>
        refine ⟨k + 1, pre ++ [(x >>> (8 * k)).setWidth 8], by omega, by go_num, by rw [HU.out, le_step x hlt]; simp, by simp [HP.out], ?_, hx2⟩
        rw [← List.append_assoc]
        exact OwnB.mk HO2.out
      case measure => simp [intOf]; omega
    · have HK : Hid (n - k = 0) := by show _ = _; omega
      go_wp2
      go_ret
      refine ⟨_, rfl, ?_, hx⟩
      rw [HU.out, HK.out, le, List.append_nil]
      exact HO.out

theorem rput_int (v : Value) (l : List (BitVec 8)) (m n : Int) (w : World) (hm : 0 ≤ m ∧ m ≤ 18446744073709551615) (hl : l.length ≤ 1000000) (hn : 0 ≤ n ∧ n ≤ 8) (h : SliceAt encB w v l) :
    Calls Try.prog 42 #[v, .int .u64 m, .int .i64 n] w fun e w' => ∃ v', e = .returned v' ∧ OwnB w' w.heap.size v' (l ++ le n.toNat (BitVec.ofInt 64 m)) ∧ Below w.heap.size w w' := by
  have := rput_any v l (BitVec.ofInt 64 m) n w hl hn h
  unfold encU at this
  rw [un_ofInt m hm] at this
  exact this

theorem sum_as (x : BitVec 64) (v : Value) (l : List (BitVec 8)) (w : World) (hx : Crc.sum l = x) (hl : l.length ≤ maxLen) (h : SliceAt encB w v l) :
    Calls Try.prog 41 #[v] w fun e w' => e = .returned (encU x) ∧ w = w' := by subst hx; exact sum_any v l w hl h
theorem rsum_as (x : BitVec 64) (v : Value) (l : List (BitVec 8)) (w : World) (hx : Crc.sum l = x) (hl : l.length ≤ maxLen) (h : SliceAt encB w v l) :
    Calls Try.prog 43 #[v] w fun e w' => e = .returned (encU x) ∧ w = w' := by subst hx; exact rsum_any v l w hl h
end Go.Proofs.Ytdhlikjdcnfkpaa
