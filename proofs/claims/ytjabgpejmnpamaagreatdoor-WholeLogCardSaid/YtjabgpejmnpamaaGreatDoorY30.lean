/-
  Part 30 of the proof.
-/
import Derived.Test.YtjabgpejmnpamaaGreatDoorY17
set_option linter.unusedVariables false
namespace Go.Proofs.YtjabgpejmnpamaaGreatDoor
open Go.RowKit
def fitB (gen m : BitVec 64) (i : Nat) (l : List (BitVec 8)) : Bool := usB l gen i && (decide (m = 0#64) || decide (mP l = m))
def firstL (cs : List (List (List (BitVec 8)))) (gen m : BitVec 64) (i : Nat) : Option (List (BitVec 8)) := (cs.map (fun c => c.getD i [])).find? (fitB gen m i)
def FirstEnd (w0 W : World) (o : Option (List (BitVec 8))) (e : Ending) (w' : World) : Prop :=
  ∃ vc, e = .returned (.tuple #[.agg #[encU (gP (o.getD [])), encU (iP (o.getD [])), encU (mP (o.getD [])), vc], .bool o.isSome]) ∧ SliceAt encB w0 vc (cP (o.getD [])) ∧ Below W.heap.size W w'
theorem firstL_none {cs : List (List (List (BitVec 8)))} {gen m : BitVec 64} {i : Nat} (h : ∀ j (hj : j < cs.length), fitB gen m i (cs[j].getD i []) = false) : firstL cs gen m i = none := by
  unfold firstL
  rw [List.find?_eq_none]
  intro l hl
  obtain ⟨c, hc, rfl⟩ := List.mem_map.1 hl
  obtain ⟨j, hj, rfl⟩ := List.mem_iff_getElem.1 hc
  rw [h j hj]; simp
theorem firstL_some {cs : List (List (List (BitVec 8)))} {gen m : BitVec 64} {i k : Nat} (hk : k < cs.length) (h : ∀ j (hj : j < k), fitB gen m i ((cs[j]'(by omega)).getD i []) = false) (ht : fitB gen m i (cs[k].getD i []) = true) : firstL cs gen m i = some (cs[k].getD i []) := by
  unfold firstL
  rw [List.find?_eq_some_iff_getElem]
  refine ⟨ht, k, by simpa using hk, by simp, fun j hj => ?_⟩
  rw [List.getElem_map, h j hj]; rfl
set_option maxHeartbeats 2000000 in
theorem first_any (vs : Value) (cs : List (List (List (BitVec 8)))) (i : Nat) (gen m : BitVec 64) (w0 w : World) (hx0 : Ext w0 w) (hi : i ≤ 100000) (hcs : cs.length ≤ 100000) (hcl : ∀ c ∈ cs, c.length ≤ 100000) (hl : ∀ c ∈ cs, ∀ l ∈ c, l.length ≤ 100000) (h : SliceR (Pat.slice (Pat.slice Pat.u8)) w0 vs cs) :
    Calls Tryz.prog 47 #[vs, .int .i64 i, encU gen, encU m] w (FirstEnd w0 w (firstL cs gen m i)) := by
  obtain ⟨ad, cap, rfl⟩ := h.shape
  have HS := Lib.hid h
  have HCL := Lib.hid hcl
  have HLL := Lib.hid hl
  clear h hcl hl
  have hxz := Ext.alloc w (.cells #[.int .u64 0, .int .u64 0, .int .u64 0, .slice none 0 0] 106)
  have hbz := BoxAt.new w #[.int .u64 0, .int .u64 0, .int .u64 0, .slice none 0 0] 106
  go_enter Tryz.func47, Tryz.ntmps47
  go_wp2_with fail
  generalize w.alloc (.cells #[.int .u64 0, .int .u64 0, .int .u64 0, .slice none 0 0] 106) = W at *
  have HXW := Lib.hid hxz
  have HBW := Lib.hid hbz
  clear hxz hbz
  go_loopw [16] (fun x wr => ∃ k : Nat, k ≤ cs.length ∧ x = .int .i64 k ∧ Hid (∀ j (hj : j < cs.length), j < k → fitB gen m i (cs[j].getD i []) = false) ∧ Ext W wr) (fun x _ => cs.length - (intOf x).toNat)
  case atStart => exact ⟨0, by omega, rfl, Lib.hid fun _ _ h => absurd h (by omega), Ext.refl _⟩
  case round =>
    obtain ⟨k, hk, rfl, HR, hx⟩ := hrel
    have HX := Lib.hid hx
    clear hx
    have hbr := HBW.out.ext HX.out
    have hk0 := hbr.cell 0 rfl
    have hk1 := hbr.cell 1 rfl
    have hk2 := hbr.cell 2 rfl
    have hk3 := hbr.cell 3 rfl
    have hff := hbr.free
    have hz := hbr.lt
    clear hbr
    by_cases hlt : k < cs.length
    · obtain ⟨b, off, v, rfl, hb0, hc0, hv, hm⟩ := HS.out.elem k hlt
      have hc := ((hx0.trans (HXW.out.trans HX.out)).cell b (off + k) hb0).trans hc0
      have hb := Nat.lt_of_lt_of_le hb0 (hx0.trans (HXW.out.trans HX.out)).size
      obtain ⟨av, cv, rfl⟩ := hv.shape
      have HV := Lib.hid hv
      have hcl := HCL.out _ (List.getElem_mem hlt)
      have hll := HLL.out _ (List.getElem_mem hlt)
      have HF : Hid (fitB gen m i (cs[k].getD i []) = fitB gen m i (cs[k].getD i [])) := rfl
      have hin : (k : Int) < (cs.length : Int) := by omega
      go_wp2_with fail
      go_at_call 92
      refine (usable_any _ _ i gen w0 _ (hx0.trans (HXW.out.trans HX.out)) hi hcl hll HV.out).mono ?_
      rintro e w1 ⟨vq, rfl, hs1, hb1⟩
      obtain ⟨g1, hg1⟩ : ∃ x, gP (cs[k].getD i []) = x := ⟨_, rfl⟩
      obtain ⟨i1, hi1⟩ : ∃ x, iP (cs[k].getD i []) = x := ⟨_, rfl⟩
      obtain ⟨m1, hm1⟩ : ∃ x, mP (cs[k].getD i []) = x := ⟨_, rfl⟩
      obtain ⟨cl, hcp⟩ : ∃ x, cP (cs[k].getD i []) = x := ⟨_, rfl⟩
      obtain ⟨ok, hok⟩ : ∃ x, usB (cs[k].getD i []) gen i = x := ⟨_, rfl⟩
      have hfit : fitB gen m i (cs[k].getD i []) = (ok && (decide (m = 0#64) || decide (m1 = m))) := by unfold fitB; rw [hok, hm1]
      rw [hg1, hi1, hm1, hok]
      rw [hcp] at hs1
      obtain ⟨aq, cq, rfl⟩ := hs1.shape
      have HS1 := Lib.hid hs1
      have HG := Lib.hid hg1
      have HI := Lib.hid hi1
      have HM := Lib.hid hm1
      have HCP := Lib.hid hcp
      have HFT := Lib.hid hfit
      have HX1 : Hid (Ext W w1) := HX.out.trans hb1
      have HY1 : Hid (Ext wr w1) := hb1
      clear hs1 hg1 hi1 hm1 hcp hfit hb1 hok HF hk0 hk1 hk2 hk3 hff hz hc hcl hll
      have hbr := HBW.out.ext HX1.out
      have hk0 := hbr.cell 0 rfl
      have hk1 := hbr.cell 1 rfl
      have hk2 := hbr.cell 2 rfl
      have hk3 := hbr.cell 3 rfl
      have hff := hbr.free
      have hz := hbr.lt
      clear hbr
      cases ok with
      | false =>
        have HE : Hid (fitB gen m i (cs[k].getD i []) = false) := by show _ = _; rw [HFT.out]; rfl
        go_wp2_with fail
        go_roundw
        case rel => exact ⟨k + 1, by omega, by go_num, Lib.hid fun j hj hjk => (by rcases Nat.lt_or_eq_of_le (Nat.le_of_lt_succ hjk) with h' | h'; exact HR.out j hj h'; subst h'; exact HE.out), HX1.out.trans (Ext.alloc _ _)⟩
        case measure => show cs.length - (intOf (.int .i64 ((k : Int) + 1))).toNat < cs.length - (intOf (.int .i64 (k : Int))).toNat; unfold intOf; simp only; omega
      | true =>
        by_cases hA : m = 0#64
        · have ha : (un m == 0) = true := by rw [beq_iff_eq, hA]; rfl
          have HE : Hid (fitB gen m i (cs[k].getD i []) = true) := by show _ = _; rw [HFT.out, decide_eq_true hA]; rfl
          clear hA
          go_wp2_with fail
          have HF1 := Lib.hid (firstL_some hlt (fun j hj => HR.out j (by omega) hj) HE.out)
          refine bodyPost_ret (v := .tuple #[.agg #[encU g1, encU i1, encU m1, .slice aq cl.length cq], .bool true]) ?_ rfl ?_
          · simp only [results, Tryz.results47]
            go_simp
          · unfold FirstEnd
            rw [HF1.out]
            show ∃ vc, _ = Ending.returned (.tuple #[.agg #[encU (gP (cs[k].getD i [])), encU (iP (cs[k].getD i [])), encU (mP (cs[k].getD i [])), vc], .bool true]) ∧ SliceAt encB w0 vc (cP (cs[k].getD i [])) ∧ _
            rw [HG.out, HI.out, HM.out, HCP.out]
            have hq := bel_set (bel_set (bel_set (bel_set (Ext.below (HXW.out.trans HX1.out)) (Nat.le_refl _) 0 (.int .u64 (un g1))) (Nat.le_refl _) 1 (.int .u64 (un i1))) (Nat.le_refl _) 2 (.int .u64 (un m1))) (Nat.le_refl _) 3 (.slice aq cl.length cq)
            exact ⟨_, rfl, HS1.out, hq.alloc hq.size _⟩
        · have ha : (un m == 0) = false := by
            rw [beq_eq_false_iff_ne]; intro hh; apply hA; apply BitVec.eq_of_toNat_eq
            have : ((m.toNat : Nat) : Int) = 0 := hh
            rw [show (0#64).toNat = 0 from rfl]; omega
          by_cases hB : m1 = m
          · have hb' : (un m1 == un m) = true := by rw [beq_iff_eq, hB]
            have HE : Hid (fitB gen m i (cs[k].getD i []) = true) := by show _ = _; rw [HFT.out, decide_eq_true hB]; simp
            clear hA hB
            go_wp2_with fail
            have HF1 := Lib.hid (firstL_some hlt (fun j hj => HR.out j (by omega) hj) HE.out)
            refine bodyPost_ret (v := .tuple #[.agg #[encU g1, encU i1, encU m1, .slice aq cl.length cq], .bool true]) ?_ rfl ?_
            · simp only [results, Tryz.results47]
              go_simp
            · unfold FirstEnd
              rw [HF1.out]
              show ∃ vc, _ = Ending.returned (.tuple #[.agg #[encU (gP (cs[k].getD i [])), encU (iP (cs[k].getD i [])), encU (mP (cs[k].getD i [])), vc], .bool true]) ∧ SliceAt encB w0 vc (cP (cs[k].getD i [])) ∧ _
              rw [HG.out, HI.out, HM.out, HCP.out]
              have hq := bel_set (bel_set (bel_set (bel_set (Ext.below (HXW.out.trans HX1.out)) (Nat.le_refl _) 0 (.int .u64 (un g1))) (Nat.le_refl _) 1 (.int .u64 (un i1))) (Nat.le_refl _) 2 (.int .u64 (un m1))) (Nat.le_refl _) 3 (.slice aq cl.length cq)
              exact ⟨_, rfl, HS1.out, hq.alloc hq.size _⟩
          · have hb' : (un m1 == un m) = false := by
              rw [beq_eq_false_iff_ne]; intro hh; apply hB; apply BitVec.eq_of_toNat_eq
              have : ((m1.toNat : Nat) : Int) = (m.toNat : Int) := hh
              omega
            have HE : Hid (fitB gen m i (cs[k].getD i []) = false) := by show _ = _; rw [HFT.out, decide_eq_false hA, decide_eq_false hB]; rfl
            clear hA hB
            go_wp2_with fail
            go_roundw
            case rel => exact ⟨k + 1, by omega, by go_num, Lib.hid fun j hj hjk => (by rcases Nat.lt_or_eq_of_le (Nat.le_of_lt_succ hjk) with h' | h'; exact HR.out j hj h'; subst h'; exact HE.out), HX1.out.trans (Ext.alloc _ _)⟩
            case measure => show cs.length - (intOf (.int .i64 ((k : Int) + 1))).toNat < cs.length - (intOf (.int .i64 (k : Int))).toNat; unfold intOf; simp only; omega
    · have hkm : k = cs.length := by omega
      subst hkm
      have HE := Lib.hid (firstL_none fun j hj => HR.out j hj hj)
      go_wp2_with fail
      refine bodyPost_ret (v := .tuple #[.agg #[.int .u64 0, .int .u64 0, .int .u64 0, .slice none 0 0], .bool false]) ?_ rfl ?_
      · simp only [results, Tryz.results47]
        go_simp
      · rw [HE.out]
        exact ⟨_, rfl, SliceAt.nil, bel_set (bel_set (bel_set (bel_set (Ext.below (HXW.out.trans HX.out)) (Nat.le_refl _) 0 _) (Nat.le_refl _) 1 _) (Nat.le_refl _) 2 _) (Nat.le_refl _) 3 _⟩
end Go.Proofs.YtjabgpejmnpamaaGreatDoor

namespace Go.Proofs.YtjabgpejmnpamaaGreatDoor
open Go.RowKit
theorem split_b {b : List (BitVec 8)} {e : Nat} (he : b.length = e + 8) (h17 : 17 ≤ e) : b.take e = b.take 8 ++ (b.drop 8).take 4 ++ (b.drop 12).take 4 ++ [b.getD 16 0#8] ++ (b.drop 17).take (e - 17) := by
  have h1 : (b.drop 16).take 1 = [b.getD 16 0#8] := by
    rw [List.drop_eq_getElem_cons (by omega : 16 < b.length), List.getD_eq_getElem?_getD, List.getElem?_eq_getElem (by omega : 16 < b.length)]; rfl
  have h2 : b.take e = b.take (8 + 4 + 4 + 1 + (e - 17)) := by congr 1; omega
  rw [h2, List.take_add, List.take_add, List.take_add, List.take_add, h1]
theorem gP_eq {b : List (BitVec 8)} (h : 25 ≤ b.length) : gP b = unle (b.take 8) := if_neg (by omega)
theorem iP_eq {b : List (BitVec 8)} (h : 25 ≤ b.length) : iP b = unle ((b.drop 8).take 4) := if_neg (by omega)
theorem mP_eq {b : List (BitVec 8)} (h : 25 ≤ b.length) : mP b = unle ((b.drop 12).take 4) := if_neg (by omega)
theorem cP_eq {b : List (BitVec 8)} (h : 25 ≤ b.length) : cP b = (b.drop 17).take (b.length - 25) := if_neg (by omega)
theorem mP_lt (b : List (BitVec 8)) : (mP b).toNat < 4294967296 := by
  unfold mP
  split
  · decide
  · exact unle_lt _ 4 (by rw [List.length_take]; omega) (by omega)
theorem us_ref {b : List (BitVec 8)} {gen : BitVec 64} {i : Nat} (h25 : 25 ≤ b.length) (h57 : b.length ≤ 57) (hi : i < 4294967296) :
    usB b gen i = (decide (i < (mP b).toNat) && decide (rpsectorL gen (BitVec.ofNat 64 i) (mP b) (cP b) = b)) := by
  obtain ⟨e, he⟩ : ∃ e, b.length = e + 8 := ⟨b.length - 8, by omega⟩
  have hi2 : (BitVec.ofNat 64 i).toNat = i := by rw [BitVec.toNat_ofNat]; omega
  have hc : cP b = (b.drop 17).take (e - 17) := by rw [cP_eq h25, he]; rfl
  have hcl : (cP b).length = e - 17 := by rw [hc, List.length_take, List.length_drop]; omega
  have l8 : (b.take 8).length = 8 := by rw [List.length_take]; omega
  have l4 : ((b.drop 8).take 4).length = 4 := by rw [List.length_take, List.length_drop]; omega
  have m4 : ((b.drop 12).take 4).length = 4 := by rw [List.length_take, List.length_drop]; omega
  have d8 : (b.drop e).length = 8 := by rw [List.length_drop]; omega
  have hm : le 4 (mP b) = (b.drop 12).take 4 := by rw [mP_eq h25]; have := le_unle _ (by omega : ((b.drop 12).take 4).length ≤ 8); rwa [m4] at this
  have hbe : b = b.take e ++ b.drop e := (List.take_append_drop e b).symm
  have key : rpsectorL gen (BitVec.ofNat 64 i) (mP b) (cP b) = b ↔ (gP b = gen ∧ iP b = BitVec.ofNat 64 i ∧ (b.getD 16 0#8).toNat = e - 17 ∧ unle (b.drop e) = Crc.sum (b.take e)) := by
    have hbody : rpbodyL gen (BitVec.ofNat 64 i) (mP b) (cP b) = b.take e ↔ (gP b = gen ∧ iP b = BitVec.ofNat 64 i ∧ (b.getD 16 0#8).toNat = e - 17) := by
      rw [split_b he (by omega), rpbodyL, hcl, hm, hc]
      constructor
      · intro h
        obtain ⟨h, _⟩ := List.append_inj h (by simp [le_length, l8, l4, m4])
        obtain ⟨h, h4⟩ := List.append_inj h (by simp [le_length, l8, l4, m4])
        obtain ⟨h, _⟩ := List.append_inj h (by simp [le_length, l8, l4])
        obtain ⟨h1, h2⟩ := List.append_inj h (by simp [le_length, l8])
        refine ⟨by rw [gP_eq h25, ← h1, unle_le], by rw [iP_eq h25, ← h2, unle_low 4 _ (by omega) (by rw [hi2]; omega)], ?_⟩
        injection h4 with h4 _
        rw [← h4, BitVec.toNat_ofNat]; omega
      · rintro ⟨h1, h2, h3⟩
        have e1 : le 8 gen = b.take 8 := by rw [← h1, gP_eq h25]; have := le_unle _ (by omega : (b.take 8).length ≤ 8); rwa [l8] at this
        have e2 : le 4 (BitVec.ofNat 64 i) = (b.drop 8).take 4 := by rw [← h2, iP_eq h25]; have := le_unle _ (by omega : ((b.drop 8).take 4).length ≤ 8); rwa [l4] at this
        have e3 : BitVec.ofNat 8 (e - 17) = b.getD 16 0#8 := by apply BitVec.eq_of_toNat_eq; rw [h3, BitVec.toNat_ofNat]; omega
        rw [e1, e2, e3]
    unfold rpsectorL rpseal8
    constructor
    · intro h
      have hl : (rpbodyL gen (BitVec.ofNat 64 i) (mP b) (cP b)).length = (b.take e).length := by rw [bodyL_len, hcl, List.length_take]; omega
      obtain ⟨h1, h2⟩ := List.append_inj (h.trans hbe) hl
      obtain ⟨a1, a2, a3⟩ := hbody.1 h1
      refine ⟨a1, a2, a3, ?_⟩
      rw [← h2, unle_le, h1]
    · rintro ⟨h1, h2, h3, h4⟩
      rw [hbody.2 ⟨h1, h2, h3⟩, ← h4]
      have := le_unle _ (by omega : (b.drop e).length ≤ 8)
      rw [d8] at this
      rw [this, List.take_append_drop]
  have e1 : (decide (25 ≤ b.length)) = true := decide_eq_true h25
  have e2 : (decide (b.length - 25 ≤ 32)) = true := decide_eq_true (by omega)
  unfold usB okP
  rw [e1, e2, show b.length - 8 = e by omega, show b.length - 25 = e - 17 by omega]
  rw [Bool.eq_iff_iff]
  simp only [Bool.true_and, Bool.and_true, Bool.and_eq_true, decide_eq_true_eq, key]
  constructor
  · rintro ⟨⟨⟨⟨h1, h2⟩, h3⟩, h4⟩, h5⟩
    exact ⟨by rw [h4, hi2] at h5; exact h5, h3, h4, h1, h2⟩
  · rintro ⟨h5, h3, h4, h1, h2⟩
    exact ⟨⟨⟨⟨h1, h2⟩, h3⟩, h4⟩, by rw [h4, hi2]; exact h5⟩
end Go.Proofs.YtjabgpejmnpamaaGreatDoor

namespace Go.Proofs.YtjabgpejmnpamaaGreatDoor
open Go.RowKit
theorem fitB_nil (gen m : BitVec 64) (i : Nat) : fitB gen m i [] = false := by unfold fitB; rw [usB_nil]; rfl
end Go.Proofs.YtjabgpejmnpamaaGreatDoor

namespace Go.Proofs.YtjabgpejmnpamaaGreatDoor
open Go.RowKit
def longK {α : Type} (cs : List (List α)) (k : Nat) : Nat := (cs.take k).foldl (fun a c => max a c.length) 0
def longL {α : Type} (cs : List (List α)) : Nat := longK cs cs.length
theorem longK_succ {α : Type} (cs : List (List α)) (k : Nat) (hk : k < cs.length) : longK cs (k + 1) = max (longK cs k) cs[k].length := by
  unfold longK
  rw [List.take_succ_eq_append_getElem hk, List.foldl_append]; rfl
theorem longK_le {α : Type} {cs : List (List α)} {B : Nat} (h : ∀ c ∈ cs, c.length ≤ B) : ∀ k, k ≤ cs.length → longK cs k ≤ B := by
  intro k
  induction k with
  | zero => intro _; exact Nat.zero_le _
  | succ k ih => intro hk; rw [longK_succ cs k hk]; exact Nat.max_le.2 ⟨ih (by omega), h _ (List.getElem_mem hk)⟩
theorem longK_ge {α : Type} {cs : List (List α)} : ∀ k, k ≤ cs.length → ∀ j (hj : j < cs.length), j < k → cs[j].length ≤ longK cs k := by
  intro k
  induction k with
  | zero => intro _ j _ h; omega
  | succ k ih =>
    intro hk j hj hjk
    rw [longK_succ cs k hk]
    rcases Nat.lt_or_eq_of_le (Nat.le_of_lt_succ hjk) with h | h
    · exact Nat.le_trans (ih (by omega) j hj h) (Nat.le_max_left _ _)
    · subst h; exact Nat.le_max_right _ _
theorem firstL_far {cs : List (List (List (BitVec 8)))} {gen m : BitVec 64} {i : Nat} (h : longL cs ≤ i) : firstL cs gen m i = none := by
  apply firstL_none
  intro j hj
  have := longK_ge (cs := cs) cs.length (Nat.le_refl _) j hj hj
  have h2 : cs[j].length ≤ i := Nat.le_trans this h
  rw [show cs[j].getD i [] = [] by rw [List.getD_eq_getElem?_getD, List.getElem?_eq_none h2]; rfl, fitB_nil]
def cntL (cs : List (List (List (BitVec 8)))) (gen : BitVec 64) : Option (BitVec 64) := (List.range (longL cs)).findSome? (fun i => (firstL cs gen 0#64 i).map mP)
theorem cntL_none {cs : List (List (List (BitVec 8)))} {gen : BitVec 64} (h : ∀ i, i < longL cs → firstL cs gen 0#64 i = none) : cntL cs gen = none := by
  unfold cntL
  rw [List.findSome?_eq_none_iff]
  intro i hi
  rw [h i (List.mem_range.1 hi)]; rfl
theorem cntL_some {cs : List (List (List (BitVec 8)))} {gen : BitVec 64} {i : Nat} {l : List (BitVec 8)} (hi : i < longL cs) (h : ∀ j, j < i → firstL cs gen 0#64 j = none) (hs : firstL cs gen 0#64 i = some l) : cntL cs gen = some (mP l) := by
  unfold cntL
  rw [show List.range (longL cs) = List.range i ++ (i :: (List.range' (i + 1) (longL cs - (i + 1)))) by
    rw [List.range_eq_range', List.range_eq_range', ← List.range'_succ]
    have e := List.range'_append (s := 0) (m := i) (n := longL cs - (i + 1) + 1) (step := 1)
    simp only [Nat.zero_add, Nat.one_mul] at e
    rw [e]; congr 1; omega]
  rw [List.findSome?_append, List.findSome?_eq_none_iff.2 (fun j hj => by rw [h j (List.mem_range.1 hj)]; rfl), List.findSome?_cons, hs]; rfl
end Go.Proofs.YtjabgpejmnpamaaGreatDoor

namespace Go.Proofs.YtjabgpejmnpamaaGreatDoor
open Go.RowKit
def gatK (cs : List (List (List (BitVec 8)))) (gen m : BitVec 64) : Nat → Option (List (BitVec 8))
  | 0 => some []
  | k + 1 => match gatK cs gen m k with
    | none => none
    | some o => match firstL cs gen m k with
      | none => none
      | some l => some (o ++ cP l)
def gatL (cs : List (List (List (BitVec 8)))) (gen : BitVec 64) : Option (List (BitVec 8)) :=
  match cntL cs gen with
  | none => none
  | some m => gatK cs gen m m.toNat
def GatEnd (W : World) (o : Option (List (BitVec 8))) (e : Ending) (w' : World) : Prop :=
  ∃ v, e = .returned (.tuple #[v, .int .i64 (if o.isSome then 0 else 12)]) ∧ OwnG encB 5 w' W.heap.size v (o.getD []) ∧ Below W.heap.size W w'
theorem gatK_some {cs : List (List (List (BitVec 8)))} {gen m : BitVec 64} {k : Nat} {o l : List (BitVec 8)} (h : gatK cs gen m k = some o) (h2 : firstL cs gen m k = some l) : gatK cs gen m (k + 1) = some (o ++ cP l) := by rw [gatK, h]; simp only [h2]
theorem gatK_no {cs : List (List (List (BitVec 8)))} {gen m : BitVec 64} {k : Nat} (h2 : firstL cs gen m k = none) : ∀ n, k < n → gatK cs gen m n = none := by
  intro n
  induction n with
  | zero => intro h; omega
  | succ n ih =>
    intro h
    rw [gatK]
    rcases Nat.lt_or_eq_of_le (Nat.le_of_lt_succ h) with h' | h'
    · rw [ih h']
    · subst h'; rw [h2]; cases gatK cs gen m k <;> rfl
theorem firstL_fit {cs : List (List (List (BitVec 8)))} {gen m : BitVec 64} {i : Nat} {l : List (BitVec 8)} (h : firstL cs gen m i = some l) : fitB gen m i l = true := List.find?_some h
theorem firstL_lt {cs : List (List (List (BitVec 8)))} {gen m : BitVec 64} {i : Nat} {l : List (BitVec 8)} (h : firstL cs gen m i = some l) : i < longL cs := by
  rcases Nat.lt_or_ge i (longL cs) with h' | h'
  · exact h'
  · rw [firstL_far h'] at h; cases h
theorem fit_us {gen m : BitVec 64} {i : Nat} {l : List (BitVec 8)} (h : fitB gen m i l = true) : usB l gen i = true := by
  unfold fitB at h; rw [Bool.and_eq_true] at h; exact h.1
theorem us_c {gen : BitVec 64} {i : Nat} {l : List (BitVec 8)} (h : usB l gen i = true) : (cP l).length ≤ 32 := by
  unfold usB okP at h
  simp only [Bool.and_eq_true, decide_eq_true_eq] at h
  rw [cP_eq h.1.1.1.1.1.1, List.length_take]; omega
theorem us_m {gen : BitVec 64} {i : Nat} {l : List (BitVec 8)} (h : usB l gen i = true) : 0 < (mP l).toNat := by
  unfold usB at h
  simp only [Bool.and_eq_true, decide_eq_true_eq] at h
  omega
theorem cntL_pos {cs : List (List (List (BitVec 8)))} {gen m : BitVec 64} (h : cntL cs gen = some m) : 0 < m.toNat ∧ m.toNat < 4294967296 := by
  unfold cntL at h
  obtain ⟨i, _, hi⟩ := List.exists_of_findSome?_eq_some h
  cases hf : firstL cs gen 0#64 i with
  | none => rw [hf] at hi; cases hi
  | some l =>
    rw [hf] at hi
    injection hi with hi
    subst hi
    exact ⟨us_m (fit_us (firstL_fit hf)), mP_lt l⟩
end Go.Proofs.YtjabgpejmnpamaaGreatDoor

namespace Go.Proofs.YtjabgpejmnpamaaGreatDoor
open Go.RowKit
set_option maxRecDepth 100000 in
set_option maxHeartbeats 4000000 in
theorem gather_any (vs : Value) (cs : List (List (List (BitVec 8)))) (gen : BitVec 64) (w : World) (hcs : cs.length ≤ 100000) (hcl : ∀ c ∈ cs, c.length ≤ 100000) (hl : ∀ c ∈ cs, ∀ l ∈ c, l.length ≤ 100000) (h : SliceR (Pat.slice (Pat.slice Pat.u8)) w vs cs) :
    Calls Tryz.prog 17 #[vs, encU gen] w (GatEnd w (gatL cs gen)) := by
  obtain ⟨i0, hi_, hi0, hi1, hi2⟩ := info_parts rpinfoB
  obtain ⟨ad, cap, rfl⟩ := h.shape
  have HS := Lib.hid h
  have HCL := Lib.hid hcl
  have HLL := Lib.hid hl
  clear h hcl hl
  go_enter Tryz.func17, Tryz.ntmps17
  go_wp2_with fail
  go_loopw [18, 6] (fun x y wr => ∃ k : Nat, k ≤ cs.length ∧ x = .int .i64 k ∧ y = .int .i64 (longK cs k : Nat) ∧ w = wr) (fun x _ _ => cs.length - (intOf x).toNat)
  case atStart => exact ⟨0, by omega, rfl, rfl, rfl⟩
  case round =>
    obtain ⟨k, hk, rfl, rfl, rfl⟩ := hrel
    by_cases hlt : k < cs.length
    · obtain ⟨b, off, v, rfl, hb, hc, hv, hm⟩ := HS.out.elem k hlt
      obtain ⟨av, cv, rfl⟩ := hv.shape
      have hcl := HCL.out _ (List.getElem_mem hlt)
      have hin : (k : Int) < (cs.length : Int) := by omega
      have hls := longK_succ cs k hlt
      have HLS := Lib.hid hls
      have hlk := longK_le HCL.out k hk
      obtain ⟨L, hL⟩ : ∃ L, longK cs k = L := ⟨_, rfl⟩
      clear hv hls hm
      rw [hL] at hlk ⊢
      obtain ⟨n2, hn2⟩ : ∃ n, cs[k].length = n := ⟨_, rfl⟩
      rw [hn2] at hc hcl
      have HLS2 : Hid (longK cs (k + 1) = max L n2) := by show _ = _; rw [HLS.out, hL, hn2]
      have hMax := fun (w : World) (ts : Array TypeId) (t : TypeId) => run_max2 (P := Tryz.prog) w ts t (L : Int) (n2 : Int)
      rw [show max (L : Int) (n2 : Int) = ((max L n2 : Nat) : Int) by omega] at hMax
      generalize max L n2 = M at *
      clear HLS hL hn2
      go_wp2_with fail
      go_roundw
      case rel => exact ⟨k + 1, by omega, by go_num, by rw [HLS2.out], by first | rfl | trivial⟩
      case measure => show cs.length - (intOf (.int .i64 ((k : Int) + 1))).toNat < cs.length - (intOf (.int .i64 (k : Int))).toNat; unfold intOf; simp only; omega
    · have hkm : k = cs.length := by omega
      subst hkm
      have hlk : longL cs ≤ 100000 := longK_le HCL.out cs.length (Nat.le_refl _)
      obtain ⟨L, hL⟩ : ∃ L, longL cs = L := ⟨_, rfl⟩
      rw [show longK cs cs.length = L from hL]
      rw [hL] at hlk
      have HL := Lib.hid hL
      clear hL
      go_wp2_with fail
      go_loopw [28] (fun x wr => ∃ i : Nat, i ≤ L ∧ x = .int .i64 i ∧ Hid (∀ j, j < i → firstL cs gen 0#64 j = none) ∧ Ext w wr) (fun x _ => L - (intOf x).toNat)
      case atStart => exact ⟨0, by omega, rfl, Lib.hid fun _ h => absurd h (by omega), Ext.refl _⟩
      case round =>
        obtain ⟨i, hi, rfl, HO, hx⟩ := hrel
        have HX := Lib.hid hx
        clear hx
        by_cases hiL : i < L
        · have hi5 : i ≤ 100000 := by omega
          go_wp2_with fail
          go_at_call 47
          refine (first_any _ cs i gen 0#64 w _ HX.out hi5 hcs HCL.out HLL.out HS.out).mono ?_
          rintro e w1 ⟨vq, rfl, hs1, hb1⟩
          have HX1 : Hid (Ext w w1) := HX.out.trans hb1
          cases hf : firstL cs gen 0#64 i with
          | none =>
            have HF := Lib.hid hf
            rw [hf] at hs1
            obtain ⟨aq, cq, hvq⟩ := hs1.shape
            subst hvq
            clear hf hs1 hb1
            go_wp2_with fail
            go_roundw
            case rel => exact ⟨i + 1, by omega, by go_num, Lib.hid fun j hj => (by rcases Nat.lt_or_eq_of_le (Nat.le_of_lt_succ hj) with h' | h'; exact HO.out j h'; subst h'; exact HF.out), HX1.out.trans (Ext.alloc _ _)⟩
            case measure => show L - (intOf (.int .i64 ((i : Int) + 1))).toNat < L - (intOf (.int .i64 (i : Int))).toNat; unfold intOf; simp only; omega
          | some l =>
            have hcn : cntL cs gen = some (mP l) := cntL_some (by rw [HL.out]; exact hiL) HO.out hf
            obtain ⟨hM0, hM1⟩ := cntL_pos hcn
            rw [hf] at hs1
            simp only [Option.getD_some] at hs1 ⊢
            have HE : Hid (gatL cs gen = gatK cs gen (mP l) (mP l).toNat) := by show _ = _; unfold gatL; rw [hcn]
            obtain ⟨aq, cq, hvq⟩ := hs1.shape
            subst hvq
            generalize (cP l).length = n1 at *
            generalize gP l = g1 at *
            generalize iP l = i1 at *
            generalize mP l = M at *
            obtain ⟨m, hm⟩ : ∃ m, M.toNat = m := ⟨_, rfl⟩
            rw [hm] at hM0 hM1 HE
            have hum : un M = (m : Int) := by rw [← hm]; rfl
            have HUM := Lib.hid hum
            have hz1 : decide ((0 : Int) < un M) = true := by rw [hum, decide_eq_true_eq]; omega
            clear hf hcn hb1 hs1 hm hum
            go_wp2_with fail
            have HXA : Hid (Ext w1 (w1.alloc (.cells #[.int .u64 (un g1), .int .u64 (un i1), .int .u64 (un M), .slice aq n1 cq] 106))) := Ext.alloc _ _
            have HBA : Hid (BoxAt (w1.alloc (.cells #[.int .u64 (un g1), .int .u64 (un i1), .int .u64 (un M), .slice aq n1 cq] 106)) w1.heap.size #[.int .u64 (un g1), .int .u64 (un i1), .int .u64 (un M), .slice aq n1 cq] 106) := BoxAt.new _ _ _
            generalize w1.alloc (.cells #[.int .u64 (un g1), .int .u64 (un i1), .int .u64 (un M), .slice aq n1 cq] 106) = wA at *
            have hq1 := HX1.out.size
            generalize w1.heap.size = q at *
            go_loopw [42, 12] (fun x vo wr => ∃ k o, k ≤ m ∧ x = .int .u64 (k : Nat) ∧ Hid (gatK cs gen M k = some o) ∧ OwnG encB 5 wr w.heap.size vo o ∧ Below w.heap.size w wr ∧ BoxAt wr q #[.int .u64 (un g1), .int .u64 (un i1), .int .u64 (un M), .slice aq n1 cq] 106 ∧ k ≤ longL cs ∧ o.length ≤ 32 * k) (fun x _ _ => m - (intOf x).toNat)
            case atStart => exact ⟨0, [], by omega, rfl, Lib.hid rfl, OwnG.nil, HX1.out.trans HXA.out, HBA.out, Nat.zero_le _, Nat.le_refl _⟩
            case round =>
              clear hk hlt
              obtain ⟨k, o, hk, rfl, HG, ho, hx, hbx, hkl, hol⟩ := hrel
              have HOo := Lib.hid ho
              have HXr : Hid (Ext w wr) := hx
              have HBX := Lib.hid hbx
              have hk5 : k ≤ 100000 := by rw [HL.out] at hkl; omega
              obtain ⟨av, cv, rfl⟩ := ho.shape
              have hc2 := hbx.cell 2 rfl
              have hql := hbx.lt
              clear ho hx hbx
              by_cases hlt : k < m
              · have hd : decide ((k : Int) < un M) = true := by rw [HUM.out, decide_eq_true_eq]; omega
                go_wp2_with fail
                go_at_call 47
                refine (first_any _ cs k gen M w _ HXr.out hk5 hcs HCL.out HLL.out HS.out).mono ?_
                rintro e w2 ⟨vc, rfl, hs2, hb2⟩
                have HX2 : Hid (Ext wr w2) := hb2
                cases hf : firstL cs gen M k with
                | none =>
                  have HN : Hid (gatK cs gen M m = none) := gatK_no hf m hlt
                  rw [hf] at hs2
                  obtain ⟨a2, c2, hv2⟩ := hs2.shape
                  subst hv2
                  clear hf hs2 hb2
                  go_wp2_with fail
                  go_ret2
                  rw [HE.out, HN.out]
                  exact ⟨_, rfl, OwnG.nil, (HXr.out.trans HX2.out).trans (Ext.alloc _ _)⟩
                | some l2 =>
                  have HN := Lib.hid (gatK_some HG.out hf)
                  have hc32 := us_c (fit_us (firstL_fit hf))
                  have hkl2 := firstL_lt hf
                  rw [hf] at hs2
                  simp only [Option.getD_some] at hs2 ⊢
                  obtain ⟨a2, c2, hv2⟩ := hs2.shape
                  subst hv2
                  have HSC : Hid (SliceAt encB w2 (.slice a2 (cP l2).length c2) (cP l2)) := hs2.ext (HXr.out.trans HX2.out)
                  generalize cP l2 = cl at *
                  generalize gP l2 = g2 at *
                  generalize iP l2 = i2 at *
                  generalize mP l2 = m2 at *
                  clear hf hs2 hb2
                  have hq2 : q < w2.heap.size := Nat.lt_of_lt_of_le hql HX2.out.size
                  go_wp2_with (at_builtin; refine Classical.byContradiction (fun hN => ?_))
                  refine hN ?_
                  clear hN
                  have hXB : Ext w2 (w2.alloc (.cells #[.int .u64 (un g2), .int .u64 (un i2), .int .u64 (un m2), .slice a2 cl.length c2] 106)) := Ext.alloc _ _
                  refine wpList_append_slice (enc := encB) (fun _ => rfl) rfl _ _ 47 rfl w.heap.size 5 i0 (.int .u8 0) 1 Tryz.underlying47 hi_ hi0 hi1 hi2 rfl _ _ _ rfl (HOo.out.ext (HX2.out.trans hXB)) _ cl rfl (HSC.out.ext hXB) (by unfold maxLen; omega) (by omega) ((HXr.out.trans HX2.out).trans hXB).size ?_
                  intro v2 w3 ho3 hg3
                  have HX3 : Hid (Below w.heap.size w w3) := ((HXr.out.trans HX2.out).trans hXB).grown hg3 ((HXr.out.trans HX2.out).trans hXB).size (fun q hq => (HOo.out.lt q hq).1)
                  have HB3 : Hid (BoxAt w3 q #[.int .u64 (un g1), .int .u64 (un i1), .int .u64 (un M), .slice aq n1 cq] 106) := (HBX.out.ext (HX2.out.trans hXB)).grown hg3 (fun hh => HOo.out.not_box HBX.out (by decide) hh.symm)
                  have HO3 := Lib.hid (OwnG.app ho3)
                  clear ho3 hg3
                  go_wp2
                  refine ⟨?_, ?measure⟩
                  apply Exists.intro
                  repeat apply Exists.intro
                  refine ⟨?rel, rfl⟩
                  case rel => exact ⟨k + 1, o ++ cl, by omega, by go_num, HN, HO3.out, HX3.out, HB3.out, by omega, by rw [List.length_append]; omega⟩
                  case measure => show m - (intOf (.int .u64 ((k : Int) + 1))).toNat < m - (intOf (.int .u64 (k : Int))).toNat; unfold intOf; simp only; omega
              · have hkm : k = m := by omega
                subst hkm
                have hd : decide ((k : Int) < un M) = false := by rw [HUM.out, decide_eq_false_iff_not]; omega
                go_wp2_with fail
                go_ret2
                rw [HE.out, HG.out]
                exact ⟨_, rfl, HOo.out, HXr.out⟩
        · have hii : i = L := by omega
          subst hii
          have HE : Hid (gatL cs gen = none) := by show _ = _; unfold gatL; rw [cntL_none fun j hj => HO.out j (by rw [← HL.out]; exact hj)]
          go_wp2_with fail
          go_ret2
          rw [HE.out]
          exact ⟨_, rfl, OwnG.nil, HX.out⟩
end Go.Proofs.YtjabgpejmnpamaaGreatDoor

namespace Go.Proofs.YtjabgpejmnpamaaGreatDoor
open Go.RowKit
theorem sec_us (gen : BitVec 64) (i m : Nat) (c : List (BitVec 8)) (hi : i < m) (hm : m < 4294967296) (hc : c.length ≤ 32) :
    usB (rpsectorL gen (BitVec.ofNat 64 i) (BitVec.ofNat 64 m) c) gen i = true ∧ mP (rpsectorL gen (BitVec.ofNat 64 i) (BitVec.ofNat 64 m) c) = BitVec.ofNat 64 m ∧ cP (rpsectorL gen (BitVec.ofNat 64 i) (BitVec.ofNat 64 m) c) = c := by
  obtain ⟨b, hb⟩ : ∃ b, rpsectorL gen (BitVec.ofNat 64 i) (BitVec.ofNat 64 m) c = b := ⟨_, rfl⟩
  have hlen : b.length = 25 + c.length := by rw [← hb, sectorL_len]
  have hm2 : (BitVec.ofNat 64 m).toNat = m := by rw [BitVec.toNat_ofNat]; omega
  obtain ⟨t, ht⟩ : ∃ t, le 8 (Crc.sum (rpbodyL gen (BitVec.ofNat 64 i) (BitVec.ofNat 64 m) c)) = t := ⟨_, rfl⟩
  have hs : b = (le 8 gen ++ le 4 (BitVec.ofNat 64 i)) ++ (le 4 (BitVec.ofNat 64 m) ++ ([BitVec.ofNat 8 c.length] ++ (c ++ t))) := by
    rw [← hb, ← ht]; unfold rpsectorL rpseal8; generalize le 8 (Crc.sum (rpbodyL gen (BitVec.ofNat 64 i) (BitVec.ofNat 64 m) c)) = t; unfold rpbodyL; simp only [List.append_assoc]
  have d12 : b.drop 12 = le 4 (BitVec.ofNat 64 m) ++ ([BitVec.ofNat 8 c.length] ++ (c ++ t)) := by rw [hs]; exact List.drop_left' (by simp [le_length])
  have hmP : mP b = BitVec.ofNat 64 m := by
    rw [mP_eq (by omega), d12, List.take_left' (by simp [le_length])]
    exact unle_low 4 _ (by omega) (by rw [hm2]; omega)
  have d17 : b.drop 17 = c ++ t := by
    rw [show b.drop 17 = (b.drop 12).drop 5 by rw [List.drop_drop], d12, ← List.append_assoc]
    exact List.drop_left' (by simp [le_length])
  have hcP : cP b = c := by
    rw [cP_eq (by omega), d17, hlen, show 25 + c.length - 25 = c.length by omega]
    exact List.take_left' rfl
  rw [hb]
  refine ⟨?_, hmP, hcP⟩
  rw [us_ref (by omega) (by omega) (by omega), hmP, hcP, hm2, hb]
  simp [hi]
def secL (gen : BitVec 64) (l : List (BitVec 8)) (i : Nat) : List (BitVec 8) := rpsectorL gen (BitVec.ofNat 64 i) (BitVec.ofNat 64 (numL l.length)) (chunkL l i)
theorem numL_ge (n : Nat) : 1 ≤ numL n ∧ n ≤ 32 * numL n := by unfold numL; omega
theorem numL_lt {n : Nat} (h : n ≤ 1048576) : numL n ≤ 32768 := by unfold numL; omega
theorem secL_us {gen : BitVec 64} {l : List (BitVec 8)} {i : Nat} (hl : l.length ≤ 1048576) (hi : i < numL l.length) : usB (secL gen l i) gen i = true ∧ mP (secL gen l i) = BitVec.ofNat 64 (numL l.length) ∧ cP (secL gen l i) = chunkL l i :=
  sec_us gen i _ _ hi (by have := numL_lt hl; omega) (chunkL_len l i)
theorem fit_of {gen m : BitVec 64} {i : Nat} {b : List (BitVec 8)} (h : usB b gen i = true) (hm : m = 0#64 ∨ mP b = m) : fitB gen m i b = true := by
  unfold fitB
  rw [h, Bool.true_and, Bool.or_eq_true]
  exact hm.imp decide_eq_true decide_eq_true
theorem firstL_sec {cs : List (List (List (BitVec 8)))} {gen : BitVec 64} {l : List (BitVec 8)} (hl : l.length ≤ 1048576)
    (A : ∀ c ∈ cs, ∀ i, usB (c.getD i []) gen i = true → i < numL l.length ∧ c.getD i [] = secL gen l i) {i : Nat} (hi : i < numL l.length) (B : ∃ c ∈ cs, c.getD i [] = secL gen l i) {m : BitVec 64} (hm : m = 0#64 ∨ m = BitVec.ofNat 64 (numL l.length)) :
    firstL cs gen m i = some (secL gen l i) := by
  obtain ⟨c, hc, hce⟩ := B
  obtain ⟨h1, h2, h3⟩ := secL_us (gen := gen) hl hi
  cases hf : firstL cs gen m i with
  | none =>
    unfold firstL at hf
    rw [List.find?_eq_none] at hf
    exact absurd (fit_of h1 (hm.imp id fun e => by rw [h2, e])) (hf _ (List.mem_map.2 ⟨c, hc, hce⟩))
  | some x =>
    have hx := List.mem_of_find?_eq_some hf
    obtain ⟨c', hc', rfl⟩ := List.mem_map.1 hx
    rw [(A c' hc' i (fit_us (firstL_fit hf))).2]
theorem restore {cs : List (List (List (BitVec 8)))} {gen : BitVec 64} {l : List (BitVec 8)} (hl : l.length ≤ 1048576)
    (A : ∀ c ∈ cs, ∀ i, usB (c.getD i []) gen i = true → i < numL l.length ∧ c.getD i [] = secL gen l i)
    (B : ∀ i, i < numL l.length → ∃ c ∈ cs, c.getD i [] = secL gen l i) : gatL cs gen = some l := by
  have hn := numL_ge l.length
  have hn2 := numL_lt hl
  have hm2 : (BitVec.ofNat 64 (numL l.length)).toNat = numL l.length := by rw [BitVec.toNat_ofNat]; omega
  have h0 := firstL_sec hl A (by omega) (B 0 (by omega)) (m := 0#64) (.inl rfl)
  have hc : cntL cs gen = some (BitVec.ofNat 64 (numL l.length)) := by
    rw [cntL_some (firstL_lt h0) (fun j hj => by omega) h0, (secL_us hl (by omega)).2.1]
  have hk : ∀ k, k ≤ numL l.length → gatK cs gen (BitVec.ofNat 64 (numL l.length)) k = some (l.take (32 * k)) := by
    intro k
    induction k with
    | zero => intro _; rfl
    | succ k ih =>
      intro hk
      rw [gatK_some (ih (by omega)) (firstL_sec hl A (by omega) (B k (by omega)) (.inr rfl)), (secL_us hl (by omega)).2.2]
      rw [show 32 * (k + 1) = 32 * k + 32 by omega, List.take_add]; rfl
  unfold gatL
  rw [hc]
  show gatK cs gen _ _ = _
  rw [hm2, hk _ (Nat.le_refl _), List.take_of_length_le hn.2]
end Go.Proofs.YtjabgpejmnpamaaGreatDoor
