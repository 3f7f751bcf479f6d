/-
  Chapter 29 (replica): chunk of the reference.
-/
import Derived.Test.YtknpdoepjihceaaRpI
namespace Go.Proofs.Ytknpdoepjihceaa
open Go.RowKit
set_option linter.unusedVariables false

/-- what chunk of the reference returns -/
def RChunkEnd (w0 W : World) (o : Option (List (BitVec 8))) (e : Ending) (w' : World) : Prop :=
  ∃ vc, e = .returned (.tuple #[vc, .bool o.isSome]) ∧ (∀ l, o = some l → SliceAt encB w0 vc (cP l)) ∧ Below W.heap.size W w'
theorem fitB_m {gen : BitVec 64} {m i : Nat} (l : List (BitVec 8)) (hm : 0 < m) (hm2 : m < 4294967296) : fitB gen (BitVec.ofNat 64 m) i l = (usB l gen i && decide ((mP l).toNat = m)) := by
  have h : (BitVec.ofNat 64 m).toNat = m := by rw [BitVec.toNat_ofNat]; omega
  unfold fitB
  have h1 : decide (BitVec.ofNat 64 m = 0#64) = false := by rw [decide_eq_false_iff_not]; intro hh; have := congrArg BitVec.toNat hh; rw [h] at this; simp at this; omega
  have h2 : decide (mP l = BitVec.ofNat 64 m) = decide ((mP l).toNat = m) := by
    apply decide_eq_decide.2
    constructor
    · intro hh; rw [hh, h]
    · intro hh; apply BitVec.eq_of_toNat_eq; rw [hh, h]
  rw [h1, h2, Bool.false_or]
theorem fitB_nil (gen m : BitVec 64) (i : Nat) : fitB gen m i [] = false := by unfold fitB; rw [usB_nil]; rfl

set_option maxHeartbeats 2000000 in
theorem rchunk_any (vs : Value) (cs : List (List (List (BitVec 8)))) (i m : Nat) (gen : BitVec 64) (w0 w : World) (hx0 : Ext w0 w) (hm0 : 0 < m) (hm1 : m < 4294967296) (hi : i ≤ 100000) (hcs : cs.length ≤ 100000) (hcl : ∀ c ∈ cs, c.length ≤ 100000) (hl : ∀ c ∈ cs, ∀ l ∈ c, l.length ≤ 100000) (h : SliceR (Pat.slice (Pat.slice Pat.u8)) w0 vs cs) :
    Calls Try.prog 20 #[vs, encU gen, .int .i64 i, .int .i64 m] w (RChunkEnd w0 w (firstL cs gen (BitVec.ofNat 64 m) i)) := by
  obtain ⟨ad, cap, rfl⟩ := h.shape
  have HS := Lib.hid h
  have HCL := Lib.hid hcl
  have HLL := Lib.hid hl
  clear h hcl hl
  go_enter Try.func20, Try.ntmps20
  go_wp2_with fail
  go_loopw [10] (fun x wr => ∃ k : Nat, k ≤ cs.length ∧ x = .int .i64 k ∧ Hid (∀ j (hj : j < cs.length), j < k → fitB gen (BitVec.ofNat 64 m) i (cs[j].getD i []) = false) ∧ Ext w wr) (fun x _ => cs.length - (intOf x).toNat)
  case atStart => exact ⟨0, by omega, rfl, Lib.hid fun _ _ h => absurd h (by omega), Ext.refl _⟩
  case round =>
    obtain ⟨k, hk, rfl, HR, hx⟩ := hrel
    have HX := Lib.hid hx
    clear hx
    by_cases hlt : k < cs.length
    · obtain ⟨b, off, v, rfl, hb0, hc0, hv, hm⟩ := HS.out.elem k hlt
      have hc := ((hx0.trans HX.out).cell b (off + k) hb0).trans hc0
      have hb := Nat.lt_of_lt_of_le hb0 (hx0.trans HX.out).size
      obtain ⟨av, cv, rfl⟩ := hv.shape
      have hcl := HCL.out _ (List.getElem_mem hlt)
      have hin : (k : Int) < (cs.length : Int) := by omega
      clear hc0
      by_cases hic : i < cs[k].length
      · obtain ⟨b2, off2, v2, rfl, hb20, hc20, hv2, hm2⟩ := hv.elem i hic
        have hc2 := ((hx0.trans HX.out).cell b2 (off2 + i) hb20).trans hc20
        have hb2 := Nat.lt_of_lt_of_le hb20 (hx0.trans HX.out).size
        have hll := HLL.out _ (List.getElem_mem hlt) _ (List.getElem_mem hic)
        have HV2 := Lib.hid hv2.at.1
        have hgd : cs[k].getD i [] = cs[k][i] := by rw [List.getD_eq_getElem?_getD, List.getElem?_eq_getElem hic]; rfl
        obtain ⟨l, hl⟩ : ∃ l, cs[k][i] = l := ⟨_, rfl⟩
        have hfit := fitB_m (gen := gen) (i := i) l hm0 hm1
        rw [← hl, ← hgd] at hfit
        rw [hl] at HV2 hll hgd
        rw [hgd] at hfit
        have HGD := Lib.hid hgd
        have HFT := Lib.hid hfit
        obtain ⟨a3, c3, rfl⟩ := HV2.out.shape
        have hge : decide (((cs[k].length : Nat) : Int) ≤ (i : Int)) = false := by rw [decide_eq_false_iff_not]; omega
        clear hc20 hgd hfit hv hv2 hm2 hl
        generalize cs[k].length = n2 at *
        have hin2 : (i : Int) < (n2 : Int) := by omega
        go_wp2_with fail
        go_at_call 25
        refine (ruse_any _ l gen i _ hll hi (HV2.out.ext (hx0.trans HX.out))).mono ?_
        rintro e w1 ⟨mv, vq, rfl, hq, hb1⟩
        have HX1 : Hid (Ext w w1) := HX.out.trans hb1
        obtain ⟨ok, hok⟩ : ∃ x, usB l gen i = x := ⟨_, rfl⟩
        rw [hok] at hq
        have HFT2 : Hid (fitB gen (BitVec.ofNat 64 m) i l = (ok && decide ((mP l).toNat = m))) := by show _ = _; rw [HFT.out, hok]
        rw [hok]
        have HQ := Lib.hid hq
        clear hq hok hb1
        cases ok with
        | false =>
          have HE : Hid (fitB gen (BitVec.ofNat 64 m) i (cs[k].getD i []) = false) := by show _ = _; rw [HGD.out, HFT2.out]; rfl
          go_wp2_with fail
          go_roundw
          case rel => exact ⟨k + 1, by omega, by go_num, Lib.hid fun j hj hjk => (by rcases Nat.lt_or_eq_of_le (Nat.le_of_lt_succ hjk) with h' | h'; exact HR.out j hj h'; subst h'; exact HE.out), HX1.out⟩
          case measure => show cs.length - (intOf (.int .i64 ((k : Int) + 1))).toNat < cs.length - (intOf (.int .i64 (k : Int))).toNat; unfold intOf; simp only; omega
        | true =>
          have hmv := (HQ.out rfl).1
          have HQ2 := Lib.hid ((HQ.out rfl).2 _ HV2.out)
          clear HQ
          obtain ⟨m1, hm1'⟩ : ∃ x, (mP l).toNat = x := ⟨_, rfl⟩
          rw [hm1'] at HFT2 hmv
          subst hmv
          by_cases hA : m1 = m
          · have ha : ((m1 : Int) == (m : Int)) = true := by rw [beq_iff_eq, hA]
            have ha2 : (m1 == m) = true := by rw [beq_iff_eq, hA]
            have HE : Hid (fitB gen (BitVec.ofNat 64 m) i (cs[k].getD i []) = true) := by show _ = _; rw [HGD.out, HFT2.out, decide_eq_true hA]; rfl
            clear hm1' hA
            go_wp2_with fail
            go_ret2
            rw [firstL_some hlt (fun j hj => HR.out j (by omega) hj) HE.out, HGD.out]
            exact ⟨_, rfl, fun l' h' => (by injection h' with h'; subst h'; exact HQ2.out), HX1.out⟩
          · have ha : ((m1 : Int) == (m : Int)) = false := by rw [beq_eq_false_iff_ne]; omega
            have ha2 : (m1 == m) = false := by rw [beq_eq_false_iff_ne]; exact hA
            have HE : Hid (fitB gen (BitVec.ofNat 64 m) i (cs[k].getD i []) = false) := by show _ = _; rw [HGD.out, HFT2.out, decide_eq_false hA]; rfl
            clear hm1' hA
            go_wp2_with fail
            go_roundw
            case rel => exact ⟨k + 1, by omega, by go_num, Lib.hid fun j hj hjk => (by rcases Nat.lt_or_eq_of_le (Nat.le_of_lt_succ hjk) with h' | h'; exact HR.out j hj h'; subst h'; exact HE.out), HX1.out⟩
            case measure => show cs.length - (intOf (.int .i64 ((k : Int) + 1))).toNat < cs.length - (intOf (.int .i64 (k : Int))).toNat; unfold intOf; simp only; omega
      · have HE : Hid (fitB gen (BitVec.ofNat 64 m) i (cs[k].getD i []) = false) := by
          show _ = _
          rw [show cs[k].getD i [] = [] by rw [List.getD_eq_getElem?_getD, List.getElem?_eq_none (by omega)]; rfl, fitB_nil]
        have hge : decide (((cs[k].length : Nat) : Int) ≤ (i : Int)) = true := by rw [decide_eq_true_eq]; omega
        generalize cs[k].length = n2 at *
        clear hv
        go_wp2_with fail
        go_roundw
        case rel => exact ⟨k + 1, by omega, by go_num, Lib.hid fun j hj hjk => (by rcases Nat.lt_or_eq_of_le (Nat.le_of_lt_succ hjk) with h' | h'; exact HR.out j hj h'; subst h'; exact HE.out), HX.out⟩
        case measure => show cs.length - (intOf (.int .i64 ((k : Int) + 1))).toNat < cs.length - (intOf (.int .i64 (k : Int))).toNat; unfold intOf; simp only; omega
    · have hkm : k = cs.length := by omega
      subst hkm
      have HE := Lib.hid (firstL_none fun j hj => HR.out j hj hj)
      go_wp2_with fail
      go_ret2
      rw [HE.out]
      exact ⟨_, rfl, fun _ h => (by cases h), HX.out⟩
end Go.Proofs.Ytknpdoepjihceaa
