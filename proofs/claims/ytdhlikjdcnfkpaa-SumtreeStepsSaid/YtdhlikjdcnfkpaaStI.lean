/-
  Chapter 26 (sumtree): the laws' helpers same and Uints, awake; what a law's arguments are.
-/
import Derived.Test.YtdhlikjdcnfkpaaStH
import Derived.Test.YtdhlikjdcnfkpaaLawKit
namespace Go.Proofs.Ytdhlikjdcnfkpaa
open Go.ChangeShapes Go.WideShapes Go.ChangeAt Go.RowKit
set_option linter.unusedVariables false

theorem own : ownKnob Try.prog.godebug = none := by kernel_rfl
theorem laid : laidOutB Try.prog = true := by kernel_rfl
theorem opI64 : Opens Try.prog 3 Pat.i64 := Opens.i64 Try.underlying3 (by kernel_rfl)
theorem opU64 : Opens Try.prog 34 Pat.u64 := Opens.u64 Try.underlying34 (by kernel_rfl)
theorem opList : Opens Try.prog 22 (Pat.slice Pat.u64) := Opens.slice opU64 Try.underlying22 (by kernel_rfl) (by kernel_rfl)
section
variable {H : Type} {enc : TypeId × Value → H} {w : World} {r : Reach} {b0 : Nat} {v : Value} {d : DataW H} {ps : List MemPlace}
theorem open_i64 (hval : Value.okWide Try.prog w r b0 3 v) (h : DataW.Trod enc Try.prog w 0 (fun _ => true) true 3 v d ps) : ∃ n : Int, v = .int .i64 n ∧ I64 n := by
  obtain ⟨x, hx⟩ := opI64.cell (by kernel_rfl) hval h
  exact ⟨x, holds_i64 hx⟩
theorem open_u64 (hval : Value.okWide Try.prog w r b0 34 v) (h : DataW.Trod enc Try.prog w 0 (fun _ => true) true 34 v d ps) : ∃ x, v = encU x := by
  obtain ⟨x, hx⟩ := opU64.cell (by kernel_rfl) hval h
  exact ⟨x, holds_u64 hx⟩
theorem open_list (hval : Value.okWide Try.prog w r b0 22 v) (h : DataW.Trod enc Try.prog w 0 (fun _ => true) true 22 v d ps) :
    ∃ l : List (BitVec 64), SliceAt encU w v l ∧ l.length ≤ maxLen := by
  obtain ⟨l, hl⟩ := opList.cell (by kernel_rfl) hval h
  obtain ⟨h1, h2⟩ := holds_slice hl
  exact ⟨l, h1.at.1, h2⟩
end

theorem check_true {l : List (BitVec 64)} {i : Nat} (h : i < l.length) (hl : l.length ≤ 1048576) : checkB (rootL l) l.length i (l.getD i 0#64) (pathL l i) = true := by
  unfold checkB
  rw [if_pos ⟨by omega, by omega, by omega, by omega⟩]
  have := chk_path h (hgt l.length) 0 (by omega)
  rw [Nat.pow_zero, Nat.div_one] at this
  simp only [Int.toNat_natCast]
  rw [show chk l.length i (l.getD i 0#64) (pathL l i) = _ from this]
  simp [rootL]

/-- same, where it holds -/
theorem same_true (v : Value) (l : List (BitVec 64)) (P : Nat → Nat → Nat) (w : World) (hl : l.length ≤ 100000) (ht : TreeAt w l P) (h : SliceAt encU w v l) :
    Calls Try.prog 19 #[treeV l.length P, v] w fun e w' => e = .returned (.bool true) ∧ Below w.heap.size w w' := by
  obtain ⟨ad, cap, rfl⟩ := h.shape
  have HS := Lib.hid h
  have HT := Lib.hid ht
  have HXA : Hid (Ext w (w.alloc (.cells #[.int .i64 l.length, .int .i64 (hgt l.length), topP l.length P] 29))) := Ext.alloc _ _
  have HBA : Hid (BoxAt (w.alloc (.cells #[.int .i64 l.length, .int .i64 (hgt l.length), topP l.length P] 29)) w.heap.size #[.int .i64 l.length, .int .i64 (hgt l.length), topP l.length P] 29) := BoxAt.new _ _ _
  obtain ⟨n, hn⟩ : ∃ n, l.length = n := ⟨_, rfl⟩
  have HN := Lib.hid hn
  obtain ⟨rt, hrt⟩ : ∃ x, rootL l = x := ⟨_, rfl⟩
  have HR := Lib.hid hrt
  clear h ht hrt
  unfold treeV
  rw [hn] at HXA HBA HS hl ⊢
  clear hn
  go_enter Try.func19, Try.ntmps19
  go_wp2_with fail
  generalize w.alloc (.cells #[.int .i64 n, .int .i64 (hgt n), topP n P] 29) = wa at *
  go_at_call 25
  refine (len_any n P _).mono ?_
  rintro e w1 ⟨rfl, hb1⟩
  have HX1 : Hid (Ext w w1) := HXA.out.trans hb1
  have HB1 := Lib.hid (HBA.out.ext hb1)
  have hc0 := HB1.out.cell 0 (v := .int .i64 n) rfl
  have hc1 := HB1.out.cell 1 (v := .int .i64 (hgt n)) rfl
  have hc2 := HB1.out.cell 2 (v := topP n P) rfl
  have hbl := HB1.out.lt
  clear hb1
  go_wp2_with fail
  go_at_call 18
  rw [← HN.out]
  refine (root_tree l P _ (by rw [HN.out]; exact hl) (HT.out.ext HX1.out)).mono ?_
  rw [HR.out, HN.out]
  rintro e w2 ⟨rfl, hb2⟩
  have HX2 : Hid (Ext w w2) := HX1.out.trans hb2
  have HB2 := Lib.hid (HB1.out.ext hb2)
  clear hb2 hc0 hc1 hc2 hbl
  go_wp2_with fail
  go_at_call 35
  refine (rroot_any _ l _ (by rw [HN.out]; exact hl) (HS.out.ext HX2.out)).mono ?_
  rw [HR.out]
  rintro e w3 ⟨rfl, hb3⟩
  have HX3 : Hid (Ext w w3) := HX2.out.trans hb3
  have HB3 := Lib.hid (HB2.out.ext hb3)
  have hee : (un rt == un rt) = true := by simp
  have hne : (un rt != un rt) = false := by simp
  clear hb3
  go_wp2_with fail
  go_loopw [5] (fun x wr => ∃ j : Int, -1 ≤ j ∧ j ≤ n + 1 ∧ x = .int .i64 j ∧ Hid (Ext w wr) ∧ Hid (BoxAt wr w.heap.size #[.int .i64 n, .int .i64 (hgt n), topP n P] 29)) (fun x _ => ((n : Int) + 2 - intOf x).toNat)
  case atStart => exact ⟨-1, by omega, by omega, rfl, HX3, HB3⟩
  case round =>
    obtain ⟨j, hj1, hj2, rfl, HX, HB⟩ := hrel
    have hc0 := HB.out.cell 0 (v := .int .i64 n) rfl
    have hc1 := HB.out.cell 1 (v := .int .i64 (hgt n)) rfl
    have hc2 := HB.out.cell 2 (v := topP n P) rfl
    have hbl := HB.out.lt
    by_cases hjn : j ≤ n
    · have hdn : decide (j ≤ (n : Int)) = true := decide_eq_true hjn
      have hLF := leaf_any l P j wr (by rw [HN.out]; exact hl) (HT.out.ext HX.out)
      rw [HN.out] at hLF
      by_cases hin : 0 ≤ j ∧ j < n
      · rw [if_pos hin] at hLF
        obtain ⟨k, rfl⟩ := Int.eq_ofNat_of_zero_le hin.1
        have hk : k < l.length := by rw [HN.out]; omega
        have hkn : k < n := by omega
        have hkb : (k : Int) < (n : Int) := by omega
        rw [Int.toNat_natCast, getD_in hk] at hLF
        obtain ⟨b, off, rfl, hb, hc⟩ := (HS.out.ext HX.out).get k hk
        obtain ⟨x, hx⟩ : ∃ x, l[k] = x := ⟨_, rfl⟩
        rw [hx] at hLF hc
        have HLF := Lib.hid hLF
        have hd1 : decide ((k : Int) < 0) = false := by rw [decide_eq_false_iff_not]; omega
        have hd2 : ((k : Int) == (n : Int)) = false := by rw [beq_eq_false_iff_ne]; omega
        have hd3 : (k == n) = false := by rw [beq_eq_false_iff_ne]; omega
        have hxx : (un x == un x) = true := by simp
        have hxn : (un x != un x) = false := by simp
        clear hLF hx hin hjn
        go_wp2_with fail
        go_at_call 36
        refine HLF.out.mono ?_
        rintro e w5 ⟨rfl, hb5⟩
        have HX5 : Hid (Ext w w5) := HX.out.trans hb5
        have HB5 := Lib.hid (HB.out.ext hb5)
        have hc5 := (Ext.cell hb5 b _ hb).trans hc
        have hb5' := Nat.lt_of_lt_of_le hb (Ext.size hb5)
        clear hb5
        go_wp2
        go_roundw
        case rel => exact ⟨(k : Int) + 1, by omega, by omega, rfl, HX5, HB5⟩
        case measure => simp [intOf]; omega
      · rw [if_neg hin] at hLF
        have HLF := Lib.hid hLF
        have hor : j = -1 ∨ j = n := by omega
        clear hLF hin
        rcases hor with rfl | rfl
        · go_wp2_with fail
          go_at_call 36
          refine HLF.out.mono ?_
          rintro e w5 ⟨rfl, hb5⟩
          have HX5 : Hid (Ext w w5) := HX.out.trans hb5
          have HB5 := Lib.hid (HB.out.ext hb5)
          clear hb5
          go_wp2
          go_roundw
          case rel => exact ⟨0, by omega, by omega, rfl, HX5, HB5⟩
          case measure => simp [intOf]; omega
        · have hd1 : decide ((n : Int) < 0) = false := by rw [decide_eq_false_iff_not]; omega
          have hd2 : ((n : Int) == (n : Int)) = true := by simp
          go_wp2_with fail
          go_at_call 36
          refine HLF.out.mono ?_
          rintro e w5 ⟨rfl, hb5⟩
          have HX5 : Hid (Ext w w5) := HX.out.trans hb5
          have HB5 := Lib.hid (HB.out.ext hb5)
          clear hb5
          go_wp2
          go_roundw
          case rel => exact ⟨(n : Int) + 1, by omega, by omega, rfl, HX5, HB5⟩
          case measure => simp [intOf]; omega
    · have hdn : decide (j ≤ (n : Int)) = false := decide_eq_false hjn
      clear hjn
      go_wp2_with fail
      go_ret
      exact ⟨rfl, HX.out⟩
end Go.Proofs.Ytdhlikjdcnfkpaa
