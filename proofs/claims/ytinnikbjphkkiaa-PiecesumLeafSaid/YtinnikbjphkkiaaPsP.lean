/-
  Chapter 25 (piecesum): awake, and openers of arguments.
-/
import Derived.Test.YtinnikbjphkkiaaPsO
namespace Go.Proofs.Ytinnikbjphkkiaa
open Go.RowKit
set_option linter.unusedVariables false

theorem zvers_get (n i : Nat) : (zvers n).getD i 0#64 = 0#64 := by
  unfold zvers; rw [List.getD_eq_getElem?_getD, List.getElem?_replicate]; split <;> rfl
theorem zsums_get (g : Int) (n i : Nat) (h : i < n) : (zsums g n).getD i 0#64 = psum g i 0#64 zero8 := by
  rw [getD_in (by rw [zsums_len]; exact h)]
  unfold zsums
  simp [zero8]
theorem setL_len (n : Nat) (l : List (BitVec 64)) (k : Nat) (x : BitVec 64) (h : n ≤ l.length) : (setL n l k x).length = n := by
  unfold setL; rw [List.length_set, List.length_take]; omega
theorem setL_same (n : Nat) (l : List (BitVec 64)) (k : Nat) (x : BitVec 64) (h : n ≤ l.length) (hk : k < n) : (setL n l k x).getD k 0#64 = x := by
  rw [getD_in (by rw [setL_len _ _ _ _ h]; exact hk)]
  unfold setL; simp
theorem setL_other (n : Nat) (l : List (BitVec 64)) (k i : Nat) (x : BitVec 64) (h : n ≤ l.length) (hi : i < n) (hne : k ≠ i) : (setL n l k x).getD i 0#64 = l.getD i 0#64 := by
  rw [getD_in (by rw [setL_len _ _ _ _ h]; exact hi), getD_in (show i < l.length by omega)]
  unfold setL; rw [List.getElem_set_ne hne, List.getElem_take]
theorem goodB_at {lv ls : List (BitVec 64)} {g : Int} {k : Nat} {v : BitVec 64} {d : List (BitVec 8)} (hk : k < min lv.length ls.length) : goodB lv ls g k v d = (decide (lv.getD k 0#64 = v) && decide (ls.getD k 0#64 = psum g k v d)) := by
  unfold goodB
  rw [Int.toNat_natCast, show decide ((0 : Int) ≤ (k : Int)) = true by simp, show decide ((k : Int) < (min lv.length ls.length : Nat)) = true by rw [decide_eq_true_eq]; omega]
  simp
theorem bad_example : badB (setL 5 (zvers 5) 1 7#64) (setL 5 (zsums 2 5) 1 (psum 2 1 7#64 zero8)) 2 [] [] [] = [false, true, false, false, false] := by
  have h1 : (setL 5 (zvers 5) 1 7#64).length = 5 := setL_len _ _ _ _ (by rw [zvers_len]; omega)
  have h2 : (setL 5 (zsums 2 5) 1 (psum 2 1 7#64 zero8)).length = 5 := setL_len _ _ _ _ (by rw [zsums_len]; omega)
  have hm : min (setL 5 (zvers 5) 1 7#64).length (setL 5 (zsums 2 5) 1 (psum 2 1 7#64 zero8)).length = 5 := by rw [h1, h2]; rfl
  have hg : ∀ i : Nat, i < 5 → i ≠ 1 → goodB (setL 5 (zvers 5) 1 7#64) (setL 5 (zsums 2 5) 1 (psum 2 1 7#64 zero8)) 2 i 0#64 zero8 = true := by
    intro i hi hne
    rw [goodB_at (by rw [hm]; exact hi), setL_other _ _ _ _ _ (by rw [zvers_len]; omega) hi (Ne.symm hne), setL_other _ _ _ _ _ (by rw [zsums_len]; omega) hi (Ne.symm hne), zvers_get, zsums_get _ _ _ hi]
    simp
  have hb : goodB (setL 5 (zvers 5) 1 7#64) (setL 5 (zsums 2 5) 1 (psum 2 1 7#64 zero8)) 2 (1 : Nat) 0#64 zero8 = false := by
    rw [goodB_at (by rw [hm]; omega), setL_same _ _ _ _ (by rw [zvers_len]; omega) (by omega)]
    simp
  have hv : ∀ k, verB [] [] k = 0#64 := fun k => by simp [verB, thereB]
  have hd : ∀ k, blkB [] [] k = zero8 := fun k => by simp [blkB, thereB]
  unfold badB
  rw [hm]
  unfold badK
  rw [show List.range 5 = [0, 1, 2, 3, 4] from rfl]
  simp only [List.map_cons, List.map_nil, hv, hd, hg 0 (by omega) (by omega), hg 2 (by omega) (by omega), hg 3 (by omega) (by omega), hg 4 (by omega) (by omega), hb]
  rfl
theorem SliceR.nil {α : Type} {p : Pat α} {w : World} : SliceR p w (.slice none 0 0) ([] : List α) := ⟨none, 0, rfl, Nat.le_refl _, .inl ⟨rfl, fun _ => rfl⟩⟩

theorem awake_any (w : World) : Calls Try.prog 10 #[] w fun e w' => e = .returned (.bool true) ∧ Below w.heap.size w w' := by
  have HE := Lib.hid bad_example
  go_enter Try.func10, Try.ntmps10
  go_wp2_with fail
  go_at_call 14
  refine (zero_any 2 5 _ (by omega) (by omega)).mono ?_
  rintro e w1 ⟨v1, v2, rfl, ho1, ho2, hb1⟩
  have h1 : SliceAt encU w1 v1 (zvers 5) := OwnU.slice ho1
  have h2 : SliceAt encU w1 v2 (zsums 2 5) := OwnU.slice ho2
  have H1 := Lib.hid h1
  have H2 := Lib.hid h2
  have hl1 : Hid ((zvers 5).length = 5) := zvers_len 5
  have hl2 : Hid ((zsums 2 5).length = 5) := zsums_len 2 5
  have HMM : Hid (min (zvers 5).length (zsums 2 5).length = 5) := by show _ = _; rw [hl1.out, hl2.out]; rfl
  clear ho1 ho2 h1 h2
  go_wp2_with fail
  go_at_call 20
  refine (pset_ok v1 v2 (zvers 5) (zsums 2 5) 2 1 7#64 0#8 0#8 0#8 0#8 0#8 0#8 0#8 0#8 w1 (by rw [hl1.out]; omega) (by rw [hl2.out]; omega) (by omega) (by rw [HMM.out]; omega) H1.out H2.out).mono ?_
  rintro e w2 h
  unfold SetEnd at h
  obtain ⟨v3, v4, rfl, ho3, ho4, hap, hb2⟩ := h
  rw [HMM.out] at ho3 ho4
  have h3 := OwnU.slice ho3
  have h4 := OwnU.slice ho4
  have H3 := Lib.hid h3
  have H4 := Lib.hid h4
  have hl3 : Hid ((setL 5 (zvers 5) 1 7#64).length = 5) := setL_len _ _ _ _ (by rw [hl1.out]; omega)
  have hl4 : Hid ((setL 5 (zsums 2 5) 1 (psum 2 1 7#64 zero8)).length = 5) := setL_len _ _ _ _ (by rw [hl2.out]; omega)
  have HE2 : Hid (badB (setL 5 (zvers 5) 1 7#64) (setL 5 (zsums 2 5) 1 (psum 2 1 7#64 [0#8, 0#8, 0#8, 0#8, 0#8, 0#8, 0#8, 0#8])) 2 [] [] [] = [false, true, false, false, false]) := HE.out
  change Hid ((setL 5 (zsums 2 5) 1 (psum 2 1 7#64 [0#8, 0#8, 0#8, 0#8, 0#8, 0#8, 0#8, 0#8])).length = 5) at hl4
  clear HE
  generalize setL 5 (zvers 5) 1 7#64 = L3 at *
  generalize setL 5 (zsums 2 5) 1 (psum 2 1 7#64 [0#8, 0#8, 0#8, 0#8, 0#8, 0#8, 0#8, 0#8]) = L4 at *
  obtain ⟨a3, c3, e3, _⟩ := h3
  obtain ⟨a4, c4, e4, _⟩ := h4
  rw [hl3.out] at e3
  rw [hl4.out] at e4
  subst e3 e4
  clear ho3 ho4 hap
  go_wp2_with fail
  go_at_call 18
  refine (pbad_any _ _ _ _ _ L3 L4 2 [] [] [] _ (by rw [hl3.out]; omega) (by rw [hl4.out]; omega) (by simp) (by simp) (by simp) (by omega) (H3.out.ext (Ext.alloc _ _)) (H4.out.ext (Ext.alloc _ _)) SliceAt.nil SliceR.nil SliceAt.nil).mono ?_
  rintro e w3 ⟨v5, rfl, ho5, hb3⟩
  rw [HE2.out] at ho5
  have H5 := Lib.hid (OwnT.slice ho5)
  clear ho5
  go_wp2_with fail
  go_at_call 17
  refine (bools_any _ _ [false, true, false, false, false] [false, true, false, false, false] _ (by simp) (by simp) (H5.out.ext (Ext.alloc _ _)) (SliceAt.lit (enc := Value.bool) _ [false, true, false, false, false] _ (0, 0) _ rfl)).mono ?_
  rintro e w4 ⟨rfl, hb4⟩
  rw [eqL_self]
  go_wp2_with fail
  go_ret
  exact ⟨rfl, Ext.trans (Ext.trans (Ext.trans (Ext.trans (Ext.trans hb1 hb2) (Ext.alloc _ _)) hb3) (Ext.alloc _ _)) hb4⟩
end Go.Proofs.Ytinnikbjphkkiaa
