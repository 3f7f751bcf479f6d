/-
  Chapter 29 (replica): Gather of the reference.
-/
import Derived.Test.YtknpdoepjihceaaRpK
namespace Go.Proofs.Ytknpdoepjihceaa
open Go.RowKit
set_option linter.unusedVariables false

/-- the first k chunks -/
def gatK (cs : List (List (List (BitVec 8)))) (gen m : BitVec 64) : Nat → Option (List (BitVec 8))
  | 0 => some []
  | k + 1 => match gatK cs gen m k with
    | none => none
    | some o => match firstL cs gen m k with
      | none => none
      | some l => some (o ++ cP l)
/-- what Gather puts together -/
def gatL (cs : List (List (List (BitVec 8)))) (gen : BitVec 64) : Option (List (BitVec 8)) :=
  match cntL cs gen with
  | none => none
  | some m => gatK cs gen m m.toNat
/-- what Gather returns -/
def GatEnd (W : World) (o : Option (List (BitVec 8))) (e : Ending) (w' : World) : Prop :=
  ∃ v, e = .returned (.tuple #[v, .int .i64 (if o.isSome then 0 else 12)]) ∧ OwnG encB 5 w' W.heap.size v (o.getD []) ∧ Below W.heap.size W w'
theorem gatK_some {cs : List (List (List (BitVec 8)))} {gen m : BitVec 64} {k : Nat} {o l : List (BitVec 8)} (h : gatK cs gen m k = some o) (h2 : firstL cs gen m k = some l) : gatK cs gen m (k + 1) = some (o ++ cP l) := by rw [gatK, h]; simp only [h2]
theorem gatK_no {cs : List (List (List (BitVec 8)))} {gen m : BitVec 64} {k : Nat} (h2 : firstL cs gen m k = none) : ∀ n, k < n → gatK cs gen m n = none := by
  intro n
  induction n with
  | zero => intro h; omega
  | succ n ih =>
    intro h
    rw [gatK]
    rcases Nat.lt_or_eq_of_le (Nat.le_of_lt_succ h) with h' | h'
    · rw [ih h']
    · subst h'; rw [h2]; cases gatK cs gen m k <;> rfl
theorem firstL_fit {cs : List (List (List (BitVec 8)))} {gen m : BitVec 64} {i : Nat} {l : List (BitVec 8)} (h : firstL cs gen m i = some l) : fitB gen m i l = true := List.find?_some h
theorem firstL_lt {cs : List (List (List (BitVec 8)))} {gen m : BitVec 64} {i : Nat} {l : List (BitVec 8)} (h : firstL cs gen m i = some l) : i < longL cs := by
  rcases Nat.lt_or_ge i (longL cs) with h' | h'
  · exact h'
  · rw [firstL_far h'] at h; cases h
theorem fit_us {gen m : BitVec 64} {i : Nat} {l : List (BitVec 8)} (h : fitB gen m i l = true) : usB l gen i = true := by
  unfold fitB at h; rw [Bool.and_eq_true] at h; exact h.1
theorem us_c {gen : BitVec 64} {i : Nat} {l : List (BitVec 8)} (h : usB l gen i = true) : (cP l).length ≤ 32 := by
  unfold usB okP at h
  simp only [Bool.and_eq_true, decide_eq_true_eq] at h
  rw [cP_eq h.1.1.1.1.1.1, List.length_take]; omega
theorem us_m {gen : BitVec 64} {i : Nat} {l : List (BitVec 8)} (h : usB l gen i = true) : 0 < (mP l).toNat := by
  unfold usB at h
  simp only [Bool.and_eq_true, decide_eq_true_eq] at h
  omega
theorem cntL_pos {cs : List (List (List (BitVec 8)))} {gen m : BitVec 64} (h : cntL cs gen = some m) : 0 < m.toNat ∧ m.toNat < 4294967296 := by
  unfold cntL at h
  obtain ⟨i, _, hi⟩ := List.exists_of_findSome?_eq_some h
  cases hf : firstL cs gen 0#64 i with
  | none => rw [hf] at hi; cases hi
  | some l =>
    rw [hf] at hi
    injection hi with hi
    subst hi
    exact ⟨us_m (fit_us (firstL_fit hf)), mP_lt l⟩

set_option maxHeartbeats 2000000 in
theorem rgather_any (vs : Value) (cs : List (List (List (BitVec 8)))) (gen : BitVec 64) (w : World) (hcs : cs.length ≤ 100000) (hcl : ∀ c ∈ cs, c.length ≤ 100000) (hl : ∀ c ∈ cs, ∀ l ∈ c, l.length ≤ 100000) (h : SliceR (Pat.slice (Pat.slice Pat.u8)) w vs cs) :
    Calls Try.prog 14 #[vs, encU gen] w (GatEnd w (gatL cs gen)) := by
  obtain ⟨i0, hi, hi0, hi1, hi2⟩ := info_parts infoB
  obtain ⟨ad, cap, rfl⟩ := h.shape
  have HS := Lib.hid h
  clear h
  go_enter Try.func14, Try.ntmps14
  go_wp2_with fail
  go_at_call 19
  refine (rnumber_any _ cs gen w _ (Ext.refl _) hcs hcl hl HS.out).mono ?_
  rintro e w1 ⟨rfl, hb1⟩
  cases hcn : cntL cs gen with
  | none =>
    have HE : Hid (gatL cs gen = none) := by show _ = _; unfold gatL; rw [hcn]
    have HX1 := Lib.hid hb1
    clear hcn hb1
    go_wp2_with fail
    go_ret2
    rw [HE.out]
    exact ⟨_, rfl, OwnG.nil, HX1.out⟩
  | some M =>
    obtain ⟨hM0, hM1⟩ := cntL_pos hcn
    have HE : Hid (gatL cs gen = gatK cs gen M M.toNat) := by show _ = _; unfold gatL; rw [hcn]
    obtain ⟨m, hm⟩ : ∃ m, M.toNat = m := ⟨_, rfl⟩
    have hMm : BitVec.ofNat 64 m = M := by rw [← hm]; apply BitVec.eq_of_toNat_eq; rw [BitVec.toNat_ofNat]; have := M.isLt; omega
    have HMM := Lib.hid hMm
    have hsome : ((some M).map BitVec.toNat).getD 0 = m := hm
    have HX1 : Hid (Ext w w1) := hb1
    have hlon : longL cs ≤ 100000 := longK_le hcl cs.length (Nat.le_refl _)
    have HLON := Lib.hid hlon
    have HCL := Lib.hid hcl
    have HLL := Lib.hid hl
    rw [hsome]
    rw [hm] at hM0 hM1 HE
    clear hcn hb1 hMm hsome hm hlon hcl hl
    go_wp2_with fail
    have HXA : Hid (Ext w1 (w1.alloc (.cells #[] 5))) := Ext.alloc _ _
    have HOA : Hid (OwnG encB 5 (w1.alloc (.cells #[] 5)) w.heap.size (.slice (some ⟨w1.heap.size, 0, none⟩) 0 0) []) := OwnG.lit (enc := encB) w1 [] 5 w.heap.size HX1.out.size (Nat.zero_le _) #[] rfl
    generalize w1.alloc (.cells #[] 5) = wA at *
    go_loopw [9, 8] (fun x vo wr => ∃ k o, k ≤ m ∧ x = .int .i64 k ∧ Hid (gatK cs gen M k = some o) ∧ OwnG encB 5 wr w.heap.size vo o ∧ Below w.heap.size w wr ∧ k ≤ longL cs ∧ o.length ≤ 32 * k) (fun x _ _ => m - (intOf x).toNat)
    case atStart => exact ⟨0, [], by omega, rfl, Lib.hid rfl, HOA.out, HX1.out.trans HXA.out, Nat.zero_le _, Nat.le_refl _⟩
    case round =>
      obtain ⟨k, o, hk, rfl, HG, ho, hx, hkl, hol⟩ := hrel
      have HO := Lib.hid ho
      have HX : Hid (Ext w wr) := hx
      have hk5 : k ≤ 100000 := Nat.le_trans hkl HLON.out
      obtain ⟨av, cv, rfl⟩ := ho.shape
      clear ho hx
      by_cases hlt : k < m
      · go_wp2_with fail
        go_at_call 20
        refine (rchunk_any _ cs k m gen w _ HX.out hM0 hM1 hk5 hcs HCL.out HLL.out HS.out).mono ?_
        rintro e w2 ⟨vc, rfl, hvc, hb2⟩
        rw [HMM.out] at hvc ⊢
        have HX2 : Hid (Ext wr w2) := hb2
        have HO2 := Lib.hid (HO.out.ext hb2)
        cases hf : firstL cs gen M k with
        | none =>
          have HN : Hid (gatK cs gen M m = none) := gatK_no hf m hlt
          clear hf hvc hb2
          go_wp2_with fail
          go_ret2
          rw [HE.out, HN.out]
          exact ⟨_, rfl, OwnG.nil, HX.out.trans HX2.out⟩
        | some l =>
          have HC := Lib.hid (hvc l hf)
          have HN := Lib.hid (gatK_some HG.out hf)
          have hc32 := us_c (fit_us (firstL_fit hf))
          have hkl2 := firstL_lt hf
          have HSC : Hid (SliceAt encB w2 vc (cP l)) := HC.out.ext (HX.out.trans HX2.out)
          generalize cP l = cl at *
          clear hf hvc hb2
          go_wp2_with (at_builtin; refine Classical.byContradiction (fun hN => ?_))
          refine hN ?_
          clear hN
          refine wpList_append_slice (enc := encB) (fun _ => rfl) rfl _ _ 22 rfl w.heap.size 5 i0 (.int .u8 0) 1 Try.underlying22 hi hi0 hi1 hi2 rfl _ _ _ rfl HO2.out _ cl rfl HSC.out (by unfold maxLen; omega) (by omega) (HX.out.trans HX2.out).size ?_
          intro v2 w3 ho3 hg3
          have HX3 : Hid (Below w.heap.size w w3) := (HX.out.trans HX2.out).grown hg3 (HX.out.trans HX2.out).size (fun q hq => (HO2.out.lt q hq).1)
          have HO3 := Lib.hid (OwnG.app ho3)
          clear ho3 hg3
          go_wp2
          go_roundw
          case rel => exact ⟨k + 1, o ++ cl, by omega, by go_num, HN, HO3.out, HX3.out, by omega, by rw [List.length_append]; omega⟩
          case measure => show m - (intOf (.int .i64 ((k : Int) + 1))).toNat < m - (intOf (.int .i64 (k : Int))).toNat; unfold intOf; simp only; omega
      · have hkm : k = m := by omega
        subst hkm
        go_wp2_with fail
        go_ret2
        rw [HE.out, HG.out]
        exact ⟨_, rfl, HO.out, HX.out⟩
end Go.Proofs.Ytknpdoepjihceaa
