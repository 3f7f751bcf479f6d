/-
  Part 33 of the proof.
-/
import Derived.Test.YtjabgpejmnpamaaGreatDoorY29
set_option linter.unusedVariables false
namespace Go.Proofs.YtjabgpejmnpamaaGreatDoor
open Go.RowKit
set_option maxRecDepth 100000 in
set_option maxHeartbeats 1000000 in
theorem recclo_any (v1 v2 : Value) (x y : List (BitVec 8)) (w : World) (hlx : x.length ≤ 100000) (hly : y.length ≤ 100000) (hx : SliceAt encB w v1 x) (hy : SliceAt encB w v2 y) :
    Calls Tryz.prog 91 #[v1, v2] w (BoolEnd w (eqBB x y)) := by
  have HX := Lib.hid hx
  have HY := Lib.hid hy
  clear hx hy
  go_enter Tryz.func91, Tryz.ntmps91
  go_wp2_with fail
  go_at_call 80
  refine (eqslB_any _ _ x y _ hlx hly HX.out HY.out).mono ?_
  rintro e w1 ⟨rfl, hx1⟩
  have HX1 := Lib.hid hx1
  clear hx1
  go_wp2_with fail
  go_ret
  exact ⟨rfl, HX1.out⟩
set_option maxRecDepth 100000 in
set_option maxHeartbeats 1000000 in
theorem receqfun_any (v1 v2 : Value) (x y : List (List (BitVec 8))) (w : World) (hlx : x.length ≤ 1000) (hly : y.length ≤ 1000) (hbx : ∀ l, l ∈ x → l.length ≤ 1000) (hby : ∀ l, l ∈ y → l.length ≤ 1000) (hx : RowsB w v1 x) (hy : RowsB w v2 y) :
    Calls Tryz.prog 78 #[v1, v2, .func (.func 91) #[] #[]] w (BoolEnd w (eqRR x y)) := by
  obtain ⟨ad1, cap1, rfl, _⟩ := hx.shape
  obtain ⟨ad2, cap2, rfl, _⟩ := hy.shape
  have HX := Lib.hid hx
  have HY := Lib.hid hy
  have HBX := Lib.hid hbx
  have HBY := Lib.hid hby
  obtain ⟨n, hn⟩ : ∃ n, x.length = n := ⟨_, rfl⟩
  obtain ⟨m, hm⟩ : ∃ m, y.length = m := ⟨_, rfl⟩
  have HN := Lib.hid hn
  have HM := Lib.hid hm
  rw [hn] at HX hlx ⊢
  rw [hm] at HY hly ⊢
  clear hx hy hn hm hbx hby
  by_cases hnm : n = m
  · subst hnm
    have hq1 : ((n : Int) == n) = true := by simp
    have hq2 : ((n : Int) != n) = false := by simp
    have HX0 : Hid (Ext w w) := Ext.refl _
    go_enter Tryz.func78, Tryz.ntmps78
    go_wp2_with fail
    go_loopw [17] (fun iv wr => ∃ i : Nat, i ≤ n ∧ iv = .int .i64 i ∧ Hid (x.take i = y.take i) ∧ Hid (Ext w wr)) (fun iv _ => n - (intOf iv).toNat)
    case atStart => exact ⟨0, Nat.zero_le _, rfl, by show _ = _; simp, HX0⟩
    case round =>
      obtain ⟨i, hi, rfl, HT, HXr⟩ := hrel
      by_cases hlt : i < n
      · have hin : (i : Int) < (n : Int) := by omega
        have hi0 : (0 : Int) ≤ (i : Int) := by omega
        have hix : i < x.length := by rw [HN.out]; exact hlt
        have hiy : i < y.length := by rw [HM.out]; exact hlt
        obtain ⟨b1, off1, rfl, hb1, a1, k1, hc1, hs1⟩ := (HX.out.ext HXr.out).get i hix
        obtain ⟨b2, off2, rfl, hb2, a2, k2, hc2, hs2⟩ := (HY.out.ext HXr.out).get i hiy
        have HNE : Hid (eqBB x[i] y[i] = false → eqRR x y = false) := fun h => eqRR_at hix hiy h
        have HEQ : Hid (eqBB x[i] y[i] = true → x.take (i + 1) = y.take (i + 1)) := fun h => takeR_next hix hiy HT.out h
        have hl1 := HBX.out _ (List.getElem_mem hix)
        have hl2 := HBY.out _ (List.getElem_mem hiy)
        have HS1 := Lib.hid hs1
        have HS2 := Lib.hid hs2
        generalize x[i] = p at *
        generalize y[i] = q at *
        clear hs1 hs2
        go_wp2_with fail
        go_at_call 91
        refine (recclo_any _ _ p q _ (by omega) (by omega) HS1.out HS2.out).mono ?_
        rintro e w2 ⟨rfl, hx2⟩
        have HX2 : Hid (Ext w w2) := HXr.out.trans hx2
        clear hx2
        cases hpq : eqBB p q with
        | true =>
          have HE := Lib.hid (HEQ.out hpq)
          clear hpq
          go_wp2_with fail
          go_roundw
          case rel => exact ⟨i + 1, by omega, by go_num, HE, HX2⟩
          case measure => simp [intOf]; omega
        | false =>
          have HF := Lib.hid (HNE.out hpq)
          clear hpq
          go_wp2_with fail
          go_ret
          exact ⟨by rw [HF.out]; rfl, HX2.out⟩
      · have hin : i = n := by omega
        subst hin
        have hin2 : ¬ ((i : Int) < (i : Int)) := by omega
        go_wp2_with fail
        go_ret
        exact ⟨by rw [eqRR_all (HN.out.trans HM.out.symm) (by rw [HN.out]; exact HT.out)]; rfl, HXr.out⟩
  · have hb1 : ((n : Int) == m) = false := by rw [beq_eq_false_iff_ne]; omega
    have hb2 : ((n : Int) != m) = true := by rw [bne, hb1]; rfl
    rw [eqRR_len (by rw [HN.out, HM.out]; exact hnm)]
    go_enter Tryz.func78, Tryz.ntmps78
    go_wp2_with fail
    go_ret
    exact ⟨rfl, Ext.refl _⟩
theorem run_eq_head (g s i n : Nat) (w : World) : (Op.equalIn 10000 183 (headV g s i n) (headV g s i n)).run Tryz.prog w = .ok true w := by
  go_simp
theorem run_eq_pw (x : Lg.PW) (w : World) : (Op.equalIn 10000 94 (.agg (pwA x)) (.agg (pwA x))).run Tryz.prog w = .ok true w := by
  have h := run_equalIn_block (P := Tryz.prog) w 9997 Tryz.underlying76 Tryz.underlying5 (fun w => by kernel_rfl) [bt x.d 0, bt x.d 1, bt x.d 2, bt x.d 3, bt x.d 4, bt x.d 5, bt x.d 6, bt x.d 7] [bt x.d 0, bt x.d 1, bt x.d 2, bt x.d 3, bt x.d 4, bt x.d 5, bt x.d 6, bt x.d 7] rfl rfl
  rw [eqB_self] at h
  simp only [List.map_cons, List.map_nil] at h
  go_simp
theorem run_eq_mv (x : Lg.Mv) (w : World) : (Op.equalIn 10000 98 (.agg (mvA x)) (.agg (mvA x))).run Tryz.prog w = .ok true w := by
  go_simp
end Go.Proofs.YtjabgpejmnpamaaGreatDoor
