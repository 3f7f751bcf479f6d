/-
  Chapter 29 (replica): first.
-/
import Derived.Test.YtknpdoepjihceaaRpF
namespace Go.Proofs.Ytknpdoepjihceaa
open Go.RowKit
set_option linter.unusedVariables false

/-- a sector is the one that is looked for -/
def fitB (gen m : BitVec 64) (i : Nat) (l : List (BitVec 8)) : Bool := usB l gen i && (decide (m = 0#64) || decide (mP l = m))
def firstL (cs : List (List (List (BitVec 8)))) (gen m : BitVec 64) (i : Nat) : Option (List (BitVec 8)) := (cs.map (fun c => c.getD i [])).find? (fitB gen m i)
/-- what first returns -/
def FirstEnd (w0 W : World) (o : Option (List (BitVec 8))) (e : Ending) (w' : World) : Prop :=
  ∃ vc, e = .returned (.tuple #[.agg #[encU (gP (o.getD [])), encU (iP (o.getD [])), encU (mP (o.getD [])), vc], .bool o.isSome]) ∧ SliceAt encB w0 vc (cP (o.getD [])) ∧ Below W.heap.size W w'
theorem firstL_none {cs : List (List (List (BitVec 8)))} {gen m : BitVec 64} {i : Nat} (h : ∀ j (hj : j < cs.length), fitB gen m i (cs[j].getD i []) = false) : firstL cs gen m i = none := by
  unfold firstL
  rw [List.find?_eq_none]
  intro l hl
  obtain ⟨c, hc, rfl⟩ := List.mem_map.1 hl
  obtain ⟨j, hj, rfl⟩ := List.mem_iff_getElem.1 hc
  rw [h j hj]; simp
theorem firstL_some {cs : List (List (List (BitVec 8)))} {gen m : BitVec 64} {i k : Nat} (hk : k < cs.length) (h : ∀ j (hj : j < k), fitB gen m i ((cs[j]'(by omega)).getD i []) = false) (ht : fitB gen m i (cs[k].getD i []) = true) : firstL cs gen m i = some (cs[k].getD i []) := by
  unfold firstL
  rw [List.find?_eq_some_iff_getElem]
  refine ⟨ht, k, by simpa using hk, by simp, fun j hj => ?_⟩
  rw [List.getElem_map, h j hj]; rfl

abbrev patBBB : Pat (List (List (List (BitVec 8)))) := Pat.slice (Pat.slice (Pat.slice Pat.u8))
set_option maxHeartbeats 2000000 in
theorem first_any (vs : Value) (cs : List (List (List (BitVec 8)))) (i : Nat) (gen m : BitVec 64) (w0 w : World) (hx0 : Ext w0 w) (hi : i ≤ 100000) (hcs : cs.length ≤ 100000) (hcl : ∀ c ∈ cs, c.length ≤ 100000) (hl : ∀ c ∈ cs, ∀ l ∈ c, l.length ≤ 100000) (h : SliceR (Pat.slice (Pat.slice Pat.u8)) w0 vs cs) :
    Calls Try.prog 18 #[vs, .int .i64 i, encU gen, encU m] w (FirstEnd w0 w (firstL cs gen m i)) := by
  obtain ⟨ad, cap, rfl⟩ := h.shape
  have HS := Lib.hid h
  have HCL := Lib.hid hcl
  have HLL := Lib.hid hl
  clear h hcl hl
  have hxz := Ext.alloc w (.cells #[.int .u64 0, .int .u64 0, .int .u64 0, .slice none 0 0] 44)
  have hbz := BoxAt.new w #[.int .u64 0, .int .u64 0, .int .u64 0, .slice none 0 0] 44
  go_enter Try.func18, Try.ntmps18
  go_wp2_with fail
  generalize w.alloc (.cells #[.int .u64 0, .int .u64 0, .int .u64 0, .slice none 0 0] 44) = W at *
  have HXW := Lib.hid hxz
  have HBW := Lib.hid hbz
  clear hxz hbz
  go_loopw [16] (fun x wr => ∃ k : Nat, k ≤ cs.length ∧ x = .int .i64 k ∧ Hid (∀ j (hj : j < cs.length), j < k → fitB gen m i (cs[j].getD i []) = false) ∧ Ext W wr) (fun x _ => cs.length - (intOf x).toNat)
  case atStart => exact ⟨0, by omega, rfl, Lib.hid fun _ _ h => absurd h (by omega), Ext.refl _⟩
  case round =>
    obtain ⟨k, hk, rfl, HR, hx⟩ := hrel
    have HX := Lib.hid hx
    clear hx
    have hbr := HBW.out.ext HX.out
    have hk0 := hbr.cell 0 rfl
    have hk1 := hbr.cell 1 rfl
    have hk2 := hbr.cell 2 rfl
    have hk3 := hbr.cell 3 rfl
    have hff := hbr.free
    have hz := hbr.lt
    clear hbr
    by_cases hlt : k < cs.length
    · obtain ⟨b, off, v, rfl, hb0, hc0, hv, hm⟩ := HS.out.elem k hlt
      have hc := ((hx0.trans (HXW.out.trans HX.out)).cell b (off + k) hb0).trans hc0
      have hb := Nat.lt_of_lt_of_le hb0 (hx0.trans (HXW.out.trans HX.out)).size
      obtain ⟨av, cv, rfl⟩ := hv.shape
      have HV := Lib.hid hv
      have hcl := HCL.out _ (List.getElem_mem hlt)
      have hll := HLL.out _ (List.getElem_mem hlt)
      have HF : Hid (fitB gen m i (cs[k].getD i []) = fitB gen m i (cs[k].getD i [])) := rfl
      have hin : (k : Int) < (cs.length : Int) := by omega
      go_wp2_with fail
      go_at_call 24
      refine (usable_any _ _ i gen w0 _ (hx0.trans (HXW.out.trans HX.out)) hi hcl hll HV.out).mono ?_
      rintro e w1 ⟨vq, rfl, hs1, hb1⟩
      obtain ⟨g1, hg1⟩ : ∃ x, gP (cs[k].getD i []) = x := ⟨_, rfl⟩
      obtain ⟨i1, hi1⟩ : ∃ x, iP (cs[k].getD i []) = x := ⟨_, rfl⟩
      obtain ⟨m1, hm1⟩ : ∃ x, mP (cs[k].getD i []) = x := ⟨_, rfl⟩
      obtain ⟨cl, hcp⟩ : ∃ x, cP (cs[k].getD i []) = x := ⟨_, rfl⟩
      obtain ⟨ok, hok⟩ : ∃ x, usB (cs[k].getD i []) gen i = x := ⟨_, rfl⟩
      have hfit : fitB gen m i (cs[k].getD i []) = (ok && (decide (m = 0#64) || decide (m1 = m))) := by unfold fitB; rw [hok, hm1]
      rw [hg1, hi1, hm1, hok]
      rw [hcp] at hs1
      obtain ⟨aq, cq, rfl⟩ := hs1.shape
      have HS1 := Lib.hid hs1
      have HG := Lib.hid hg1
      have HI := Lib.hid hi1
      have HM := Lib.hid hm1
      have HCP := Lib.hid hcp
      have HFT := Lib.hid hfit
      have HX1 : Hid (Ext W w1) := HX.out.trans hb1
      have HY1 : Hid (Ext wr w1) := hb1
      clear hs1 hg1 hi1 hm1 hcp hfit hb1 hok HF hk0 hk1 hk2 hk3 hff hz hc hcl hll
      have hbr := HBW.out.ext HX1.out
      have hk0 := hbr.cell 0 rfl
      have hk1 := hbr.cell 1 rfl
      have hk2 := hbr.cell 2 rfl
      have hk3 := hbr.cell 3 rfl
      have hff := hbr.free
      have hz := hbr.lt
      clear hbr
      cases ok with
      | false =>
        have HE : Hid (fitB gen m i (cs[k].getD i []) = false) := by show _ = _; rw [HFT.out]; rfl
        go_wp2_with fail
        go_roundw
        case rel => exact ⟨k + 1, by omega, by go_num, Lib.hid fun j hj hjk => (by rcases Nat.lt_or_eq_of_le (Nat.le_of_lt_succ hjk) with h' | h'; exact HR.out j hj h'; subst h'; exact HE.out), HX1.out.trans (Ext.alloc _ _)⟩
        case measure => show cs.length - (intOf (.int .i64 ((k : Int) + 1))).toNat < cs.length - (intOf (.int .i64 (k : Int))).toNat; unfold intOf; simp only; omega
      | true =>
        by_cases hA : m = 0#64
        · have ha : (un m == 0) = true := by rw [beq_iff_eq, hA]; rfl
          have HE : Hid (fitB gen m i (cs[k].getD i []) = true) := by show _ = _; rw [HFT.out, decide_eq_true hA]; rfl
          clear hA
          go_wp2_with fail
          have HF1 := Lib.hid (firstL_some hlt (fun j hj => HR.out j (by omega) hj) HE.out)
          refine bodyPost_ret (v := .tuple #[.agg #[encU g1, encU i1, encU m1, .slice aq cl.length cq], .bool true]) ?_ rfl ?_
          · simp only [results, Try.results18]
            go_simp
          · unfold FirstEnd
            rw [HF1.out]
            show ∃ vc, _ = Ending.returned (.tuple #[.agg #[encU (gP (cs[k].getD i [])), encU (iP (cs[k].getD i [])), encU (mP (cs[k].getD i [])), vc], .bool true]) ∧ SliceAt encB w0 vc (cP (cs[k].getD i [])) ∧ _
            rw [HG.out, HI.out, HM.out, HCP.out]
            have hq := bel_set (bel_set (bel_set (bel_set (Ext.below (HXW.out.trans HX1.out)) (Nat.le_refl _) 0 (.int .u64 (un g1))) (Nat.le_refl _) 1 (.int .u64 (un i1))) (Nat.le_refl _) 2 (.int .u64 (un m1))) (Nat.le_refl _) 3 (.slice aq cl.length cq)
            exact ⟨_, rfl, HS1.out, hq.alloc hq.size _⟩
        · have ha : (un m == 0) = false := by
            rw [beq_eq_false_iff_ne]; intro hh; apply hA; apply BitVec.eq_of_toNat_eq
            have : ((m.toNat : Nat) : Int) = 0 := hh
            rw [show (0#64).toNat = 0 from rfl]; omega
          by_cases hB : m1 = m
          · have hb' : (un m1 == un m) = true := by rw [beq_iff_eq, hB]
            have HE : Hid (fitB gen m i (cs[k].getD i []) = true) := by show _ = _; rw [HFT.out, decide_eq_true hB]; simp
            clear hA hB
            go_wp2_with fail
            have HF1 := Lib.hid (firstL_some hlt (fun j hj => HR.out j (by omega) hj) HE.out)
            refine bodyPost_ret (v := .tuple #[.agg #[encU g1, encU i1, encU m1, .slice aq cl.length cq], .bool true]) ?_ rfl ?_
            · simp only [results, Try.results18]
              go_simp
            · unfold FirstEnd
              rw [HF1.out]
              show ∃ vc, _ = Ending.returned (.tuple #[.agg #[encU (gP (cs[k].getD i [])), encU (iP (cs[k].getD i [])), encU (mP (cs[k].getD i [])), vc], .bool true]) ∧ SliceAt encB w0 vc (cP (cs[k].getD i [])) ∧ _
              rw [HG.out, HI.out, HM.out, HCP.out]
              have hq := bel_set (bel_set (bel_set (bel_set (Ext.below (HXW.out.trans HX1.out)) (Nat.le_refl _) 0 (.int .u64 (un g1))) (Nat.le_refl _) 1 (.int .u64 (un i1))) (Nat.le_refl _) 2 (.int .u64 (un m1))) (Nat.le_refl _) 3 (.slice aq cl.length cq)
              exact ⟨_, rfl, HS1.out, hq.alloc hq.size _⟩
          · have hb' : (un m1 == un m) = false := by
              rw [beq_eq_false_iff_ne]; intro hh; apply hB; apply BitVec.eq_of_toNat_eq
              have : ((m1.toNat : Nat) : Int) = (m.toNat : Int) := hh
              omega
            have HE : Hid (fitB gen m i (cs[k].getD i []) = false) := by show _ = _; rw [HFT.out, decide_eq_false hA, decide_eq_false hB]; rfl
            clear hA hB
            go_wp2_with fail
            go_roundw
            case rel => exact ⟨k + 1, by omega, by go_num, Lib.hid fun j hj hjk => (by rcases Nat.lt_or_eq_of_le (Nat.le_of_lt_succ hjk) with h' | h'; exact HR.out j hj h'; subst h'; exact HE.out), HX1.out.trans (Ext.alloc _ _)⟩
            case measure => show cs.length - (intOf (.int .i64 ((k : Int) + 1))).toNat < cs.length - (intOf (.int .i64 (k : Int))).toNat; unfold intOf; simp only; omega
    · have hkm : k = cs.length := by omega
      subst hkm
      have HE := Lib.hid (firstL_none fun j hj => HR.out j hj hj)
      go_wp2_with fail
      refine bodyPost_ret (v := .tuple #[.agg #[.int .u64 0, .int .u64 0, .int .u64 0, .slice none 0 0], .bool false]) ?_ rfl ?_
      · simp only [results, Try.results18]
        go_simp
      · rw [HE.out]
        exact ⟨_, rfl, SliceAt.nil, bel_set (bel_set (bel_set (bel_set (Ext.below (HXW.out.trans HX.out)) (Nat.le_refl _) 0 _) (Nat.le_refl _) 1 _) (Nat.le_refl _) 2 _) (Nat.le_refl _) 3 _⟩
end Go.Proofs.Ytknpdoepjihceaa
