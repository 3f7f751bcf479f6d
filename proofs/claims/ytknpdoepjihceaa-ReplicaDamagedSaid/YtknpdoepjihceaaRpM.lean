/-
  Chapter 29 (replica): Gather.
-/
import Derived.Test.YtknpdoepjihceaaRpL
namespace Go.Proofs.Ytknpdoepjihceaa
open Go.RowKit
set_option linter.unusedVariables false

set_option maxRecDepth 100000 in
set_option maxHeartbeats 4000000 in
theorem gather_any (vs : Value) (cs : List (List (List (BitVec 8)))) (gen : BitVec 64) (w : World) (hcs : cs.length ≤ 100000) (hcl : ∀ c ∈ cs, c.length ≤ 100000) (hl : ∀ c ∈ cs, ∀ l ∈ c, l.length ≤ 100000) (h : SliceR (Pat.slice (Pat.slice Pat.u8)) w vs cs) :
    Calls Try.prog 13 #[vs, encU gen] w (GatEnd w (gatL cs gen)) := by
  obtain ⟨i0, hi_, hi0, hi1, hi2⟩ := info_parts infoB
  obtain ⟨ad, cap, rfl⟩ := h.shape
  have HS := Lib.hid h
  have HCL := Lib.hid hcl
  have HLL := Lib.hid hl
  clear h hcl hl
  go_enter Try.func13, Try.ntmps13
  go_wp2_with fail
  go_loopw [18, 6] (fun x y wr => ∃ k : Nat, k ≤ cs.length ∧ x = .int .i64 k ∧ y = .int .i64 (longK cs k : Nat) ∧ w = wr) (fun x _ _ => cs.length - (intOf x).toNat)
  case atStart => exact ⟨0, by omega, rfl, rfl, rfl⟩
  case round =>
    obtain ⟨k, hk, rfl, rfl, rfl⟩ := hrel
    by_cases hlt : k < cs.length
    · obtain ⟨b, off, v, rfl, hb, hc, hv, hm⟩ := HS.out.elem k hlt
      obtain ⟨av, cv, rfl⟩ := hv.shape
      have hcl := HCL.out _ (List.getElem_mem hlt)
      have hin : (k : Int) < (cs.length : Int) := by omega
      have hls := longK_succ cs k hlt
      have HLS := Lib.hid hls
      have hlk := longK_le HCL.out k hk
      obtain ⟨L, hL⟩ : ∃ L, longK cs k = L := ⟨_, rfl⟩
      clear hv hls hm
      rw [hL] at hlk ⊢
      obtain ⟨n2, hn2⟩ : ∃ n, cs[k].length = n := ⟨_, rfl⟩
      rw [hn2] at hc hcl
      have HLS2 : Hid (longK cs (k + 1) = max L n2) := by show _ = _; rw [HLS.out, hL, hn2]
      have hMax := fun (w : World) (ts : Array TypeId) (t : TypeId) => run_max2 (P := Try.prog) w ts t (L : Int) (n2 : Int)
      rw [show max (L : Int) (n2 : Int) = ((max L n2 : Nat) : Int) by omega] at hMax
      generalize max L n2 = M at *
      clear HLS hL hn2
      go_wp2_with fail
      go_roundw
      case rel => exact ⟨k + 1, by omega, by go_num, by rw [HLS2.out], by first | rfl | trivial⟩
      case measure => show cs.length - (intOf (.int .i64 ((k : Int) + 1))).toNat < cs.length - (intOf (.int .i64 (k : Int))).toNat; unfold intOf; simp only; omega
    · have hkm : k = cs.length := by omega
      subst hkm
      have hlk : longL cs ≤ 100000 := longK_le HCL.out cs.length (Nat.le_refl _)
      obtain ⟨L, hL⟩ : ∃ L, longL cs = L := ⟨_, rfl⟩
      rw [show longK cs cs.length = L from hL]
      rw [hL] at hlk
      have HL := Lib.hid hL
      clear hL
      go_wp2_with fail
      go_loopw [28] (fun x wr => ∃ i : Nat, i ≤ L ∧ x = .int .i64 i ∧ Hid (∀ j, j < i → firstL cs gen 0#64 j = none) ∧ Ext w wr) (fun x _ => L - (intOf x).toNat)
      case atStart => exact ⟨0, by omega, rfl, Lib.hid fun _ h => absurd h (by omega), Ext.refl _⟩
      case round =>
        obtain ⟨i, hi, rfl, HO, hx⟩ := hrel
        have HX := Lib.hid hx
        clear hx
        by_cases hiL : i < L
        · have hi5 : i ≤ 100000 := by omega
          go_wp2_with fail
          go_at_call 18
          refine (first_any _ cs i gen 0#64 w _ HX.out hi5 hcs HCL.out HLL.out HS.out).mono ?_
          rintro e w1 ⟨vq, rfl, hs1, hb1⟩
          have HX1 : Hid (Ext w w1) := HX.out.trans hb1
          cases hf : firstL cs gen 0#64 i with
          | none =>
            have HF := Lib.hid hf
            rw [hf] at hs1
            obtain ⟨aq, cq, hvq⟩ := hs1.shape
            subst hvq
            clear hf hs1 hb1
            go_wp2_with fail
            go_roundw
            case rel => exact ⟨i + 1, by omega, by go_num, Lib.hid fun j hj => (by rcases Nat.lt_or_eq_of_le (Nat.le_of_lt_succ hj) with h' | h'; exact HO.out j h'; subst h'; exact HF.out), HX1.out.trans (Ext.alloc _ _)⟩
            case measure => show L - (intOf (.int .i64 ((i : Int) + 1))).toNat < L - (intOf (.int .i64 (i : Int))).toNat; unfold intOf; simp only; omega
          | some l =>
            have hcn : cntL cs gen = some (mP l) := cntL_some (by rw [HL.out]; exact hiL) HO.out hf
            obtain ⟨hM0, hM1⟩ := cntL_pos hcn
            rw [hf] at hs1
            simp only [Option.getD_some] at hs1 ⊢
            have HE : Hid (gatL cs gen = gatK cs gen (mP l) (mP l).toNat) := by show _ = _; unfold gatL; rw [hcn]
            obtain ⟨aq, cq, hvq⟩ := hs1.shape
            subst hvq
            generalize (cP l).length = n1 at *
            generalize gP l = g1 at *
            generalize iP l = i1 at *
            generalize mP l = M at *
            obtain ⟨m, hm⟩ : ∃ m, M.toNat = m := ⟨_, rfl⟩
            rw [hm] at hM0 hM1 HE
            have hum : un M = (m : Int) := by rw [← hm]; rfl
            have HUM := Lib.hid hum
            have hz1 : decide ((0 : Int) < un M) = true := by rw [hum, decide_eq_true_eq]; omega
            clear hf hcn hb1 hs1 hm hum
            go_wp2_with fail
            have HXA : Hid (Ext w1 (w1.alloc (.cells #[.int .u64 (un g1), .int .u64 (un i1), .int .u64 (un M), .slice aq n1 cq] 44))) := Ext.alloc _ _
            have HBA : Hid (BoxAt (w1.alloc (.cells #[.int .u64 (un g1), .int .u64 (un i1), .int .u64 (un M), .slice aq n1 cq] 44)) w1.heap.size #[.int .u64 (un g1), .int .u64 (un i1), .int .u64 (un M), .slice aq n1 cq] 44) := BoxAt.new _ _ _
            generalize w1.alloc (.cells #[.int .u64 (un g1), .int .u64 (un i1), .int .u64 (un M), .slice aq n1 cq] 44) = wA at *
            have hq1 := HX1.out.size
            generalize w1.heap.size = q at *
            go_loopw [42, 12] (fun x vo wr => ∃ k o, k ≤ m ∧ x = .int .u64 (k : Nat) ∧ Hid (gatK cs gen M k = some o) ∧ OwnG encB 5 wr w.heap.size vo o ∧ Below w.heap.size w wr ∧ BoxAt wr q #[.int .u64 (un g1), .int .u64 (un i1), .int .u64 (un M), .slice aq n1 cq] 44 ∧ k ≤ longL cs ∧ o.length ≤ 32 * k) (fun x _ _ => m - (intOf x).toNat)
            case atStart => exact ⟨0, [], by omega, rfl, Lib.hid rfl, OwnG.nil, HX1.out.trans HXA.out, HBA.out, Nat.zero_le _, Nat.le_refl _⟩
            case round =>
              clear hk hlt
              obtain ⟨k, o, hk, rfl, HG, ho, hx, hbx, hkl, hol⟩ := hrel
              have HOo := Lib.hid ho
              have HXr : Hid (Ext w wr) := hx
              have HBX := Lib.hid hbx
              have hk5 : k ≤ 100000 := by rw [HL.out] at hkl; omega
              obtain ⟨av, cv, rfl⟩ := ho.shape
              have hc2 := hbx.cell 2 rfl
              have hql := hbx.lt
              clear ho hx hbx
              by_cases hlt : k < m
              · have hd : decide ((k : Int) < un M) = true := by rw [HUM.out, decide_eq_true_eq]; omega
                go_wp2_with fail
                go_at_call 18
                refine (first_any _ cs k gen M w _ HXr.out hk5 hcs HCL.out HLL.out HS.out).mono ?_
                rintro e w2 ⟨vc, rfl, hs2, hb2⟩
                have HX2 : Hid (Ext wr w2) := hb2
                cases hf : firstL cs gen M k with
                | none =>
                  have HN : Hid (gatK cs gen M m = none) := gatK_no hf m hlt
                  rw [hf] at hs2
                  obtain ⟨a2, c2, hv2⟩ := hs2.shape
                  subst hv2
                  clear hf hs2 hb2
                  go_wp2_with fail
                  go_ret2
                  rw [HE.out, HN.out]
                  exact ⟨_, rfl, OwnG.nil, (HXr.out.trans HX2.out).trans (Ext.alloc _ _)⟩
                | some l2 =>
                  have HN := Lib.hid (gatK_some HG.out hf)
                  have hc32 := us_c (fit_us (firstL_fit hf))
                  have hkl2 := firstL_lt hf
                  rw [hf] at hs2
                  simp only [Option.getD_some] at hs2 ⊢
                  obtain ⟨a2, c2, hv2⟩ := hs2.shape
                  subst hv2
                  have HSC : Hid (SliceAt encB w2 (.slice a2 (cP l2).length c2) (cP l2)) := hs2.ext (HXr.out.trans HX2.out)
                  generalize cP l2 = cl at *
                  generalize gP l2 = g2 at *
                  generalize iP l2 = i2 at *
                  generalize mP l2 = m2 at *
                  clear hf hs2 hb2
                  have hq2 : q < w2.heap.size := Nat.lt_of_lt_of_le hql HX2.out.size
                  go_wp2_with (at_builtin; refine Classical.byContradiction (fun hN => ?_))
                  refine hN ?_
                  clear hN
                  have hXB : Ext w2 (w2.alloc (.cells #[.int .u64 (un g2), .int .u64 (un i2), .int .u64 (un m2), .slice a2 cl.length c2] 44)) := Ext.alloc _ _
                  refine wpList_append_slice (enc := encB) (fun _ => rfl) rfl _ _ 22 rfl w.heap.size 5 i0 (.int .u8 0) 1 Try.underlying22 hi_ hi0 hi1 hi2 rfl _ _ _ rfl (HOo.out.ext (HX2.out.trans hXB)) _ cl rfl (HSC.out.ext hXB) (by unfold maxLen; omega) (by omega) ((HXr.out.trans HX2.out).trans hXB).size ?_
                  intro v2 w3 ho3 hg3
                  have HX3 : Hid (Below w.heap.size w w3) := ((HXr.out.trans HX2.out).trans hXB).grown hg3 ((HXr.out.trans HX2.out).trans hXB).size (fun q hq => (HOo.out.lt q hq).1)
                  have HB3 : Hid (BoxAt w3 q #[.int .u64 (un g1), .int .u64 (un i1), .int .u64 (un M), .slice aq n1 cq] 44) := (HBX.out.ext (HX2.out.trans hXB)).grown hg3 (fun hh => HOo.out.not_box HBX.out (by decide) hh.symm)
                  have HO3 := Lib.hid (OwnG.app ho3)
                  clear ho3 hg3
                  go_wp2
                  refine ⟨?_, ?measure⟩
                  apply Exists.intro
                  repeat apply Exists.intro
                  refine ⟨?rel, rfl⟩
                  case rel => exact ⟨k + 1, o ++ cl, by omega, by go_num, HN, HO3.out, HX3.out, HB3.out, by omega, by rw [List.length_append]; omega⟩
                  case measure => show m - (intOf (.int .u64 ((k : Int) + 1))).toNat < m - (intOf (.int .u64 (k : Int))).toNat; unfold intOf; simp only; omega
              · have hkm : k = m := by omega
                subst hkm
                have hd : decide ((k : Int) < un M) = false := by rw [HUM.out, decide_eq_false_iff_not]; omega
                go_wp2_with fail
                go_ret2
                rw [HE.out, HG.out]
                exact ⟨_, rfl, HOo.out, HXr.out⟩
        · have hii : i = L := by omega
          subst hii
          have HE : Hid (gatL cs gen = none) := by show _ = _; unfold gatL; rw [cntL_none fun j hj => HO.out j (by rw [← HL.out]; exact hj)]
          go_wp2_with fail
          go_ret2
          rw [HE.out]
          exact ⟨_, rfl, OwnG.nil, HX.out⟩
end Go.Proofs.Ytknpdoepjihceaa
