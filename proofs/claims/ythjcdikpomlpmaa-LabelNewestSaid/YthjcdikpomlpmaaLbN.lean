/-
  Chapter 30 (label): numbers, sealed, and Sealed of the reference.
-/
import Derived.Test.YthjcdikpomlpmaaLbL
import Derived.Test.YthjcdikpomlpmaaLbS
import Derived.Test.YthjcdikpomlpmaaLkG
import Derived.Test.YthjcdikpomlpmaaC8A
namespace Go.Proofs.Ythjcdikpomlpmaa
open Go.RowKit
set_option linter.unusedVariables false
attribute [local go_sem] wrap8_un

abbrev encM (n : Nat) : Value := .int .u64 n
theorem numsL_next {ns : List Nat} {i : Nat} (h : i < ns.length) : Lb.numsL (ns.take (i + 1)) = Lb.numsL (ns.take i) ++ uv ns[i] := by
  unfold Lb.numsL
  rw [List.take_succ_eq_append_getElem h, List.flatMap_append]
  simp
theorem numsL_len (ns : List Nat) (hn : ∀ n, n ∈ ns → n < 18446744073709551616) : (Lb.numsL ns).length ≤ 10 * ns.length := by
  induction ns with
  | nil => simp [Lb.numsL]
  | cons a t ih =>
    have h1 := (uv_len a (hn a (by simp))).2
    have h2 := ih fun n h => hn n (by simp [h])
    unfold Lb.numsL at h2 ⊢
    rw [List.flatMap_cons, List.length_append, List.length_cons]
    omega
set_option maxRecDepth 100000 in
set_option maxHeartbeats 1000000 in
theorem numbers_any (v vn : Value) (l : List (BitVec 8)) (ns : List Nat) (w : World) (hl : l.length ≤ 10000) (hnl : ns.length ≤ 1000) (hn : ∀ n, n ∈ ns → n < 18446744073709551616) (h : SliceAt encB w v l) (hv : SliceAt encM w vn ns) :
    Calls Try.prog 32 #[v, vn] w fun e w' => ∃ v', e = .returned v' ∧ SliceAt encB w' v' (l ++ Lb.numsL ns) ∧ Ext w w' := by
  obtain ⟨an, cn, rfl⟩ := hv.shape
  obtain ⟨m, hm⟩ : ∃ m, ns.length = m := ⟨_, rfl⟩
  have HM := Lib.hid hm
  have HV := Lib.hid hv
  have HN := Lib.hid hn
  have HS : Hid (SliceAt encB w v (l ++ Lb.numsL (ns.take 0))) := by
    show SliceAt _ _ _ _
    simpa [Lb.numsL] using h
  have HX : Hid (Ext w w) := Ext.refl _
  rw [hm] at HV hnl ⊢
  clear h hv hn hm
  go_enter Try.func32, Try.ntmps32
  go_wp2_with fail
  go_loopw [0, 9] (fun vo it wr => ∃ i : Nat, i ≤ m ∧ it = .int .i64 i ∧ Hid (SliceAt encB wr vo (l ++ Lb.numsL (ns.take i))) ∧ Hid (Ext w wr)) (fun _ it _ => m - (intOf it).toNat)
  case atStart => exact ⟨0, Nat.zero_le _, rfl, HS, HX⟩
  case round =>
    obtain ⟨i, hi, rfl, HSr, HXr⟩ := hrel
    by_cases hlt : i < m
    · have hin : (i : Int) < (m : Int) := by omega
      have hil : i < ns.length := by rw [HM.out]; exact hlt
      obtain ⟨b, off, rfl, hb, hc⟩ := (HV.out.ext HXr.out).get i hil
      have hlen := numsL_len (ns.take i) (fun n hn => HN.out n (List.mem_of_mem_take hn))
      rw [List.length_take] at hlen
      have hyl : (l ++ Lb.numsL (ns.take i)).length ≤ 50000 := by rw [List.length_append]; omega
      have HNX := Lib.hid (numsL_next hil)
      have hnb := HN.out _ (List.getElem_mem hil)
      obtain ⟨y, hy⟩ : ∃ y, l ++ Lb.numsL (ns.take i) = y := ⟨_, rfl⟩
      have HY := Lib.hid hy
      rw [hy] at HSr hyl
      generalize ns[i] = x at *
      clear hlen hy
      go_wp2_with fail
      go_at_call 54
      refine (appendUint_any _ y x _ hyl hnb HSr.out).mono ?_
      rintro e w2 ⟨v2, rfl, ho2, hx2⟩
      have HS2 : Hid (SliceAt encB w2 v2 (l ++ Lb.numsL (ns.take (i + 1)))) := by
        show SliceAt _ _ _ _
        rw [HNX.out, ← List.append_assoc, HY.out]; exact OwnB.slice ho2
      have HX2 : Hid (Ext w w2) := HXr.out.trans hx2
      clear ho2 hx2
      go_wp2_with fail
      go_roundw
      case rel => exact ⟨i + 1, by omega, by go_num, HS2, HX2⟩
      case measure => simp [intOf]; omega
    · have hin : m = i := by omega
      subst hin
      have hin2 : ¬ ((m : Int) < (m : Int)) := by omega
      rw [show ns.take m = ns by rw [← HM.out, List.take_length]] at HSr
      go_wp2_with fail
      go_ret
      exact ⟨_, rfl, HSr.out, HXr.out⟩
theorem seal_shift (x : BitVec 64) (j : Nat) : IntKind.u8.wrap (un x / (2 : Int) ^ j) = ub ((x >>> j).setWidth 8) := by rw [shr_un]; exact wrap8_un _
/-- the sum's bytes stand behind the list -/
theorem own_snoc {w : World} {base : Nat} {v : Value} {l : List (BitVec 8)} {x : BitVec 8} (h : w.ownsRow base 5 1 v (l.length + 1) (l.map encB ++ [encB x])) : OwnB w base v (l ++ [x]) := by
  show World.ownsRow _ _ _ _ _ _ _
  rw [List.length_append, List.map_append]; exact h
def SealEnd (w : World) (B : Nat) (l : List (BitVec 8)) (e : Ending) (w' : World) : Prop := ∃ v', e = .returned v' ∧ OwnB w' B v' l ∧ Below B w w'
set_option maxRecDepth 100000 in
set_option maxHeartbeats 1000000 in
theorem sealed_any (v : Value) (l : List (BitVec 8)) (B : Nat) (w : World) (hl : l.length ≤ 40000) (hB : B ≤ w.heap.size) (h : OwnB w B v l) :
    Calls Try.prog 33 #[v] w (SealEnd w B (Lb.sealL l)) := by
  obtain ⟨i0, hi, hz0, hz1, hz2⟩ := info_parts infoB
  have HSL := Lib.hid (OwnB.slice h)
  have HSM := Lib.hid (sum_any v l w (by unfold maxLen; omega) (OwnB.slice h))
  have HE : Hid (Lb.sealL l = l ++ Lb.be8 (Crc.sum l) 8) := rfl
  rw [HE.out]
  generalize Crc.sum l = s at *
  have HO0 : Hid (OwnB w B v (l ++ Lb.be8 s 0)) := by
    have : l ++ Lb.be8 s 0 = l := by simp [Lb.be8]
    rw [this]; exact h
  have HX0 : Hid (Below B w w) := Below.refl _ _
  clear h
  go_enter Try.func33, Try.ntmps33
  go_wp2_with fail
  go_at_call 55
  refine HSM.out.mono ?_
  rintro e w' ⟨rfl, rfl⟩
  go_wp2_with fail
  go_loopw [0, 4] (fun vo it wr => ∃ k : Nat, k ≤ 8 ∧ (∃ z : Int, it = .int .i64 z ∧ z = 56 - 8 * (k : Int)) ∧ Hid (OwnB wr B vo (l ++ Lb.be8 s k)) ∧ Hid (Below B w wr)) (fun _ it _ => (intOf it + 8).toNat)
  case atStart => exact ⟨0, by decide, ⟨_, rfl, rfl⟩, HO0, HX0⟩
  case round =>
    obtain ⟨k, hk, ⟨z, rfl, hz⟩, HO, HX⟩ := hrel
    by_cases hlt : k < 8
    · obtain ⟨j, hj⟩ : ∃ j : Nat, 56 - 8 * k = j := ⟨_, rfl⟩
      have hz2 : z = (j : Int) := by omega
      have HJ := Lib.hid hj
      have HZJ : Hid ((j : Int) = 56 - 8 * (k : Int)) := by show _ = _; omega
      subst hz2
      have HNX := Lib.hid (Lb.be8_next s k)
      rw [hj] at HNX
      have hsh := seal_shift s j
      have hlen : (l ++ Lb.be8 s k).length ≤ 41000 := by rw [List.length_append, Lb.be8_len]; omega
      have hBw : B ≤ wr.heap.size := Nat.le_trans hB (Below.size HX.out)
      have hj0 : (0 : Int) ≤ (j : Int) := by omega
      have hjs : j ≤ 56 := by omega
      obtain ⟨y, hy⟩ : ∃ y, l ++ Lb.be8 s k = y := ⟨_, rfl⟩
      have HYE := Lib.hid hy
      rw [hy] at HO hlen
      clear hz hj hy
      go_wp2_with (at_builtin; refine Classical.byContradiction (fun hN => ?_))
      refine hN ?_
      clear hN
      have e1 : Ext wr (wr.alloc (.cells #[encB ((s >>> j).setWidth 8)] 5)) := Ext.alloc _ _
      have hown : OwnG encB 5 (wr.alloc (.cells #[encB ((s >>> j).setWidth 8)] 5)) B u0 y := OwnG.ext (enc := encB) HO.out e1
      have hx1 : Below B w (wr.alloc (.cells #[encB ((s >>> j).setWidth 8)] 5)) := Below.alloc HX.out hBw _
      have hs1 : B ≤ (wr.alloc (.cells #[encB ((s >>> j).setWidth 8)] 5)).heap.size := by simp; omega
      refine wpList_append_one rfl _ _ _ rfl B 5 i0 (.int .u8 0) 1 Try.underlying35 hi hz0 hz1 hz2 rfl _ _ _ rfl hown _ (encB ((s >>> j).setWidth 8)) rfl rfl (cell_new1 _ _ _) (by unfold maxLen; omega) (by omega) hs1 ?_
      intro v6 w6 ho6 hg6 _
      have HX6 : Hid (Below B w w6) := Below.grown hx1 hg6 hs1 (fun q hq => (hown.lt q hq).1)
      have HO6 : Hid (OwnB w6 B v6 (l ++ Lb.be8 s (k + 1))) := by
        show World.ownsRow _ _ _ _ _ _ _
        rw [HNX.out, ← List.append_assoc, HYE.out]; exact own_snoc ho6
      clear ho6 hg6 hown e1 hx1 hs1
      go_wp2
      go_roundw
      case rel => exact ⟨k + 1, by omega, ⟨_, rfl, by have := HZJ.out; omega⟩, HO6, HX6⟩
      case measure => have := HZJ.out; first | (simp [intOf]; done) | (simp [intOf]; omega)
    · have hz2 : z = -8 := by omega
      clear hz
      subst hz2
      have hk8 : k = 8 := by omega
      subst hk8
      go_wp2_with fail
      go_ret
      exact ⟨_, rfl, HO.out, HX.out⟩
set_option maxRecDepth 100000 in
set_option maxHeartbeats 1000000 in
theorem rsealed_any (v : Value) (l : List (BitVec 8)) (w : World) (hl : l.length ≤ 40000) (h : SliceAt encB w v l) :
    Calls Try.prog 48 #[v] w (SealEnd w w.heap.size (Lb.sealL l)) := by
  obtain ⟨i0, hi, hz0, hz1, hz2⟩ := info_parts infoB
  have HSL := Lib.hid h
  have HSM := Lib.hid (rsum_any v l w (by unfold maxLen; omega) h)
  have HE : Hid (Lb.sealL l = l ++ Lb.be8 (Crc.sum l) 8) := rfl
  rw [HE.out]
  generalize Crc.sum l = s at *
  obtain ⟨ad, cap, rfl⟩ := h.shape
  clear h
  go_enter Try.func48, Try.ntmps48
  go_wp2_with fail
  go_at_call 67
  refine HSM.out.mono ?_
  rintro e w' ⟨rfl, rfl⟩
  go_wp2_with (at_builtin; refine Classical.byContradiction (fun hN => ?_))
  refine hN ?_
  clear hN
  have hlit : OwnG encB 5 (w.alloc (.cells #[] 5)) w.heap.size (.slice (some ⟨w.heap.size, 0, none⟩) 0 0) [] := OwnG.lit (enc := encB) w [] 5 w.heap.size (Nat.le_refl _) (Nat.zero_le _) #[] rfl
  have hxa : Ext w (w.alloc (.cells #[] 5)) := Ext.alloc _ _
  refine wpList_append_slice (enc := encB) (fun _ => rfl) rfl _ _ 35 rfl w.heap.size 5 i0 (.int .u8 0) 1 Try.underlying35 hi hz0 hz1 hz2 rfl _ _ _ rfl hlit _ l rfl (HSL.out.ext hxa) (by unfold maxLen; simp only [List.length_nil]; omega) (by simp only [List.length_nil]; omega) hxa.size ?_
  intro v2 w2 ho2 hg2
  have hx2 : Ext w w2 := hxa.grown hg2 hxa.size (fun q hq => (hlit.lt q hq).1)
  have ho3 := OwnG.app (l := []) ho2
  rw [List.nil_append] at ho3
  have HO0 : Hid (OwnB w2 w.heap.size v2 (l ++ Lb.be8 s 0)) := by
    have : l ++ Lb.be8 s 0 = l := by simp [Lb.be8]
    rw [this]; exact ho3
  have HX0 : Hid (Ext w w2) := hx2
  obtain ⟨a2, c2, rfl⟩ := ho3.shape
  clear hlit hxa hg2 ho2 ho3 hx2
  go_wp2_with fail
  go_loopw [4, 5] (fun vo it wr => ∃ k : Nat, k ≤ 8 ∧ (∃ z : Int, it = .int .i64 z ∧ z = 7 - (k : Int)) ∧ Hid (OwnB wr w.heap.size vo (l ++ Lb.be8 s k)) ∧ Hid (Ext w wr)) (fun _ it _ => (intOf it + 1).toNat)
  case atStart => exact ⟨0, by decide, ⟨_, rfl, rfl⟩, HO0, HX0⟩
  case round =>
    obtain ⟨k, hk, ⟨z, rfl, hz⟩, HO, HX⟩ := hrel
    by_cases hlt : k < 8
    · obtain ⟨j, hj⟩ : ∃ j : Nat, 7 - k = j := ⟨_, rfl⟩
      have hz2 : z = (j : Int) := by omega
      have hk56 : 56 - 8 * k = 8 * j := by omega
      have HZJ : Hid ((j : Int) = 7 - (k : Int)) := by show _ = _; omega
      subst hz2
      have HNX := Lib.hid (Lb.be8_next s k)
      rw [hk56] at HNX
      have hsh := seal_shift s (8 * j)
      have hlen : (l ++ Lb.be8 s k).length ≤ 41000 := by rw [List.length_append, Lb.be8_len]; omega
      have hBw : w.heap.size ≤ wr.heap.size := HX.out.size
      have hj0 : (0 : Int) ≤ (j : Int) := by omega
      have hjs : j ≤ 7 := by omega
      obtain ⟨y, hy⟩ : ∃ y, l ++ Lb.be8 s k = y := ⟨_, rfl⟩
      have HYE := Lib.hid hy
      rw [hy] at HO hlen
      clear hz hj hy hk56
      go_wp2_with (at_builtin; refine Classical.byContradiction (fun hN => ?_))
      refine hN ?_
      clear hN
      have e1 : Ext wr (wr.alloc (.cells #[encB ((s >>> (8 * j)).setWidth 8)] 5)) := Ext.alloc _ _
      have hown : OwnG encB 5 (wr.alloc (.cells #[encB ((s >>> (8 * j)).setWidth 8)] 5)) w.heap.size u4 y := OwnG.ext (enc := encB) HO.out e1
      have hx1 : Ext w (wr.alloc (.cells #[encB ((s >>> (8 * j)).setWidth 8)] 5)) := HX.out.trans e1
      refine wpList_append_one rfl _ _ _ rfl w.heap.size 5 i0 (.int .u8 0) 1 Try.underlying35 hi hz0 hz1 hz2 rfl _ _ _ rfl hown _ (encB ((s >>> (8 * j)).setWidth 8)) rfl rfl (cell_new1 _ _ _) (by unfold maxLen; omega) (by omega) hx1.size ?_
      intro v6 w6 ho6 hg6 _
      have HX6 : Hid (Ext w w6) := hx1.grown hg6 hx1.size (fun q hq => (hown.lt q hq).1)
      have HO6 : Hid (OwnB w6 w.heap.size v6 (l ++ Lb.be8 s (k + 1))) := by
        show World.ownsRow _ _ _ _ _ _ _
        rw [HNX.out, ← List.append_assoc, HYE.out]; exact own_snoc ho6
      clear ho6 hg6 hown e1 hx1
      go_wp2
      go_roundw
      case rel => exact ⟨k + 1, by omega, ⟨_, rfl, by have := HZJ.out; omega⟩, HO6, HX6⟩
      case measure => have := HZJ.out; first | (simp [intOf]; done) | (simp [intOf]; omega)
    · have hz2 : z = -1 := by omega
      clear hz
      subst hz2
      have hk8 : k = 8 := by omega
      subst hk8
      go_wp2_with fail
      go_ret
      exact ⟨_, rfl, HO.out, HX.out⟩
end Go.Proofs.Ythjcdikpomlpmaa
