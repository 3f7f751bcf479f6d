/-
  Chapter 29 (replica): number of the reference.
-/
import Derived.Test.YtknpdoepjihceaaRpJ
namespace Go.Proofs.Ytknpdoepjihceaa
open Go.RowKit
set_option linter.unusedVariables false

/-- the greatest length of the first k copies -/
def longK {α : Type} (cs : List (List α)) (k : Nat) : Nat := (cs.take k).foldl (fun a c => max a c.length) 0
def longL {α : Type} (cs : List (List α)) : Nat := longK cs cs.length
theorem longK_succ {α : Type} (cs : List (List α)) (k : Nat) (hk : k < cs.length) : longK cs (k + 1) = max (longK cs k) cs[k].length := by
  unfold longK
  rw [List.take_succ_eq_append_getElem hk, List.foldl_append]; rfl
theorem longK_le {α : Type} {cs : List (List α)} {B : Nat} (h : ∀ c ∈ cs, c.length ≤ B) : ∀ k, k ≤ cs.length → longK cs k ≤ B := by
  intro k
  induction k with
  | zero => intro _; exact Nat.zero_le _
  | succ k ih => intro hk; rw [longK_succ cs k hk]; exact Nat.max_le.2 ⟨ih (by omega), h _ (List.getElem_mem hk)⟩
theorem longK_ge {α : Type} {cs : List (List α)} : ∀ k, k ≤ cs.length → ∀ j (hj : j < cs.length), j < k → cs[j].length ≤ longK cs k := by
  intro k
  induction k with
  | zero => intro _ j _ h; omega
  | succ k ih =>
    intro hk j hj hjk
    rw [longK_succ cs k hk]
    rcases Nat.lt_or_eq_of_le (Nat.le_of_lt_succ hjk) with h | h
    · exact Nat.le_trans (ih (by omega) j hj h) (Nat.le_max_left _ _)
    · subst h; exact Nat.le_max_right _ _
/-- beyond the longest copy there is nothing -/
theorem firstL_far {cs : List (List (List (BitVec 8)))} {gen m : BitVec 64} {i : Nat} (h : longL cs ≤ i) : firstL cs gen m i = none := by
  apply firstL_none
  intro j hj
  have := longK_ge (cs := cs) cs.length (Nat.le_refl _) j hj hj
  have h2 : cs[j].length ≤ i := Nat.le_trans this h
  rw [show cs[j].getD i [] = [] by rw [List.getD_eq_getElem?_getD, List.getElem?_eq_none h2]; rfl, fitB_nil]
theorem fitB_0 {gen : BitVec 64} {i : Nat} (l : List (BitVec 8)) : fitB gen 0#64 i l = usB l gen i := by unfold fitB; simp
/-- the number of chunks -/
def cntL (cs : List (List (List (BitVec 8)))) (gen : BitVec 64) : Option (BitVec 64) := (List.range (longL cs)).findSome? (fun i => (firstL cs gen 0#64 i).map mP)
theorem cntL_none {cs : List (List (List (BitVec 8)))} {gen : BitVec 64} (h : ∀ i, i < longL cs → firstL cs gen 0#64 i = none) : cntL cs gen = none := by
  unfold cntL
  rw [List.findSome?_eq_none_iff]
  intro i hi
  rw [h i (List.mem_range.1 hi)]; rfl
theorem cntL_some {cs : List (List (List (BitVec 8)))} {gen : BitVec 64} {i : Nat} {l : List (BitVec 8)} (hi : i < longL cs) (h : ∀ j, j < i → firstL cs gen 0#64 j = none) (hs : firstL cs gen 0#64 i = some l) : cntL cs gen = some (mP l) := by
  unfold cntL
  rw [show List.range (longL cs) = List.range i ++ (i :: (List.range' (i + 1) (longL cs - (i + 1)))) by
    rw [List.range_eq_range', List.range_eq_range', ← List.range'_succ]
    have e := List.range'_append (s := 0) (m := i) (n := longL cs - (i + 1) + 1) (step := 1)
    simp only [Nat.zero_add, Nat.one_mul] at e
    rw [e]; congr 1; omega]
  rw [List.findSome?_append, List.findSome?_eq_none_iff.2 (fun j hj => by rw [h j (List.mem_range.1 hj)]; rfl), List.findSome?_cons, hs]; rfl
def RNumEnd (W : World) (o : Option (BitVec 64)) (e : Ending) (w' : World) : Prop :=
  e = .returned (.tuple #[.int .i64 (((o.map BitVec.toNat).getD 0 : Nat) : Int), .bool o.isSome]) ∧ Below W.heap.size W w'

set_option maxHeartbeats 2000000 in
theorem rnumber_any (vs : Value) (cs : List (List (List (BitVec 8)))) (gen : BitVec 64) (w0 w : World) (hx0 : Ext w0 w) (hcs : cs.length ≤ 100000) (hcl : ∀ c ∈ cs, c.length ≤ 100000) (hl : ∀ c ∈ cs, ∀ l ∈ c, l.length ≤ 100000) (h : SliceR (Pat.slice (Pat.slice Pat.u8)) w0 vs cs) :
    Calls Try.prog 19 #[vs, encU gen] w (RNumEnd w (cntL cs gen)) := by
  obtain ⟨ad, cap, rfl⟩ := h.shape
  have HS := Lib.hid h
  have HCL := Lib.hid hcl
  have HLL := Lib.hid hl
  clear h hcl hl
  go_enter Try.func19, Try.ntmps19
  go_wp2_with fail
  go_loopw [7, 6] (fun x y wr => ∃ k : Nat, k ≤ cs.length ∧ x = .int .i64 k ∧ y = .int .i64 (longK cs k : Nat) ∧ w = wr) (fun x _ _ => cs.length - (intOf x).toNat)
  case atStart => exact ⟨0, by omega, rfl, rfl, rfl⟩
  case round =>
    obtain ⟨k, hk, rfl, rfl, rfl⟩ := hrel
    by_cases hlt : k < cs.length
    · obtain ⟨b, off, v, rfl, hb0, hc0, hv, hm⟩ := HS.out.elem k hlt
      have hc := (hx0.cell b (off + k) hb0).trans hc0
      have hb := Nat.lt_of_lt_of_le hb0 hx0.size
      obtain ⟨av, cv, rfl⟩ := hv.shape
      have hcl := HCL.out _ (List.getElem_mem hlt)
      have hin : (k : Int) < (cs.length : Int) := by omega
      have hls := longK_succ cs k hlt
      have HLS := Lib.hid hls
      have hlk := longK_le HCL.out k hk
      obtain ⟨L, hL⟩ : ∃ L, longK cs k = L := ⟨_, rfl⟩
      clear hc0 hv hls hm
      rw [hL] at hlk ⊢
      obtain ⟨n2, hn2⟩ : ∃ n, cs[k].length = n := ⟨_, rfl⟩
      rw [hn2] at hc hcl
      have HLS2 : Hid (longK cs (k + 1) = max L n2) := by show _ = _; rw [HLS.out, hL, hn2]
      have hMax := fun (w : World) (ts : Array TypeId) (t : TypeId) => run_max2 (P := Try.prog) w ts t (L : Int) (n2 : Int)
      rw [show max (L : Int) (n2 : Int) = ((max L n2 : Nat) : Int) by omega] at hMax
      generalize max L n2 = M at *
      clear HLS hL hn2
      go_wp2_with fail
      go_roundw
      case rel => exact ⟨k + 1, by omega, by go_num, by rw [HLS2.out], by first | rfl | trivial⟩
      case measure => show cs.length - (intOf (.int .i64 ((k : Int) + 1))).toNat < cs.length - (intOf (.int .i64 (k : Int))).toNat; unfold intOf; simp only; omega
    · have hkm : k = cs.length := by omega
      subst hkm
      have hlk : longL cs ≤ 100000 := longK_le HCL.out cs.length (Nat.le_refl _)
      obtain ⟨L, hL⟩ : ∃ L, longL cs = L := ⟨_, rfl⟩
      rw [show longK cs cs.length = L from hL]
      rw [hL] at hlk
      have HL := Lib.hid hL
      clear hL
      go_wp2_with fail
      go_loopw [8] (fun x wr => ∃ i : Nat, i ≤ L ∧ x = .int .i64 i ∧ Hid (∀ j, j < i → firstL cs gen 0#64 j = none) ∧ Ext w wr) (fun x _ => L - (intOf x).toNat)
      case atStart => exact ⟨0, by omega, rfl, Lib.hid fun _ h => absurd h (by omega), Ext.refl _⟩
      case round =>
        obtain ⟨i, hi, rfl, HO, hx⟩ := hrel
        by_cases hiL : i < L
        · have hi5 : i ≤ 100000 := by omega
          go_wp2_with fail
          go_loopw [9] (fun x wr => ∃ k : Nat, k ≤ cs.length ∧ x = .int .i64 k ∧ Hid (∀ j (hj : j < cs.length), j < k → fitB gen 0#64 i (cs[j].getD i []) = false) ∧ Ext w wr) (fun x _ => cs.length - (intOf x).toNat)
          case atStart => exact ⟨0, by omega, rfl, Lib.hid fun _ _ h => absurd h (by omega), hx⟩
          case round =>
            clear hx hk hlt
            obtain ⟨k, hk, rfl, HR, hx⟩ := hrel
            have HX := Lib.hid hx
            clear hx
            by_cases hlt : k < cs.length
            · obtain ⟨b, off, v, rfl, hb0, hc0, hv, hm⟩ := HS.out.elem k hlt
              have hc := ((hx0.trans HX.out).cell b (off + k) hb0).trans hc0
              have hb := Nat.lt_of_lt_of_le hb0 (hx0.trans HX.out).size
              obtain ⟨av, cv, rfl⟩ := hv.shape
              have hcl := HCL.out _ (List.getElem_mem hlt)
              have hin : (k : Int) < (cs.length : Int) := by omega
              clear hc0
              by_cases hic : i < cs[k].length
              · obtain ⟨b2, off2, v2, rfl, hb20, hc20, hv2, hm2⟩ := hv.elem i hic
                have hc2 := ((hx0.trans HX.out).cell b2 (off2 + i) hb20).trans hc20
                have hb2 := Nat.lt_of_lt_of_le hb20 (hx0.trans HX.out).size
                have hll := HLL.out _ (List.getElem_mem hlt) _ (List.getElem_mem hic)
                have HV2 := Lib.hid hv2.at.1
                have hgd : cs[k].getD i [] = cs[k][i] := by rw [List.getD_eq_getElem?_getD, List.getElem?_eq_getElem hic]; rfl
                obtain ⟨l, hl⟩ : ∃ l, cs[k][i] = l := ⟨_, rfl⟩
                rw [hl] at HV2 hll hgd
                have HGD := Lib.hid hgd
                obtain ⟨a3, c3, rfl⟩ := HV2.out.shape
                have hge : decide (((cs[k].length : Nat) : Int) ≤ (i : Int)) = false := by rw [decide_eq_false_iff_not]; omega
                clear hc20 hgd hv hv2 hm2 hl
                generalize cs[k].length = n2 at *
                have hin2 : (i : Int) < (n2 : Int) := by omega
                go_wp2_with fail
                go_at_call 25
                refine (ruse_any _ l gen i _ hll hi5 (HV2.out.ext (hx0.trans HX.out))).mono ?_
                rintro e w1 ⟨mv, vq, rfl, hq, hb1⟩
                have HX1 : Hid (Ext w w1) := HX.out.trans hb1
                obtain ⟨ok, hok⟩ : ∃ x, usB l gen i = x := ⟨_, rfl⟩
                rw [hok] at hq
                have HFT2 : Hid (fitB gen 0#64 i (cs[k].getD i []) = ok) := by show _ = _; rw [HGD.out, fitB_0, hok]
                rw [hok]
                have HQ := Lib.hid hq
                clear hq hok hb1
                cases ok with
                | false =>
                  have HE : Hid (fitB gen 0#64 i (cs[k].getD i []) = false) := by show _ = _; rw [HFT2.out]
                  go_wp2_with fail
                  go_roundw
                  case rel => exact ⟨k + 1, by omega, by go_num, Lib.hid fun j hj hjk => (by rcases Nat.lt_or_eq_of_le (Nat.le_of_lt_succ hjk) with h' | h'; exact HR.out j hj h'; subst h'; exact HE.out), HX1.out⟩
                  case measure => show cs.length - (intOf (.int .i64 ((k : Int) + 1))).toNat < cs.length - (intOf (.int .i64 (k : Int))).toNat; unfold intOf; simp only; omega
                | true =>
                  have hmv := (HQ.out rfl).1
                  clear HQ
                  obtain ⟨m1, hm1'⟩ : ∃ x, (mP l).toNat = x := ⟨_, rfl⟩
                  have HM1 := Lib.hid hm1'
                  rw [hm1'] at hmv
                  subst hmv
                  clear hm1'
                  go_wp2_with fail
                  go_ret2
                  rw [cntL_some (by rw [HL.out]; exact hiL) HO.out (firstL_some hlt (fun j hj => HR.out j (by omega) hj) HFT2.out), HGD.out]
                  exact ⟨by rw [← HM1.out]; rfl, HX1.out⟩
              · have HE : Hid (fitB gen 0#64 i (cs[k].getD i []) = false) := by
                  show _ = _
                  rw [show cs[k].getD i [] = [] by rw [List.getD_eq_getElem?_getD, List.getElem?_eq_none (by omega)]; rfl, fitB_nil]
                have hge : decide (((cs[k].length : Nat) : Int) ≤ (i : Int)) = true := by rw [decide_eq_true_eq]; omega
                generalize cs[k].length = n2 at *
                clear hv
                go_wp2_with fail
                go_roundw
                case rel => exact ⟨k + 1, by omega, by go_num, Lib.hid fun j hj hjk => (by rcases Nat.lt_or_eq_of_le (Nat.le_of_lt_succ hjk) with h' | h'; exact HR.out j hj h'; subst h'; exact HE.out), HX.out⟩
                case measure => show cs.length - (intOf (.int .i64 ((k : Int) + 1))).toNat < cs.length - (intOf (.int .i64 (k : Int))).toNat; unfold intOf; simp only; omega
            · have hkm : k = cs.length := by omega
              subst hkm
              have HE := Lib.hid (firstL_none fun j hj => HR.out j hj hj)
              go_wp2_with fail
              go_roundw
              case rel => exact ⟨i + 1, by omega, by go_num, Lib.hid fun j hj => (by rcases Nat.lt_or_eq_of_le (Nat.le_of_lt_succ hj) with h' | h'; exact HO.out j h'; subst h'; exact HE.out), HX.out⟩
              case measure => show L - (intOf (.int .i64 ((i : Int) + 1))).toNat < L - (intOf (.int .i64 (i : Int))).toNat; unfold intOf; simp only; omega
        · have hii : i = L := by omega
          subst hii
          have HE := Lib.hid (cntL_none fun j hj => HO.out j (by rw [← HL.out]; exact hj))
          have HX := Lib.hid hx
          clear hx
          go_wp2_with fail
          go_ret2
          rw [HE.out]
          exact ⟨rfl, HX.out⟩
end Go.Proofs.Ytknpdoepjihceaa
