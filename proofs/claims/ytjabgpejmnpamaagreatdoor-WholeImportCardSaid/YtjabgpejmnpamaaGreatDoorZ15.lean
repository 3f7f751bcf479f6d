/-
  Part 15 of the proof: Chapter 30 (label): lists of sectors are decoded. Chapter 30 (label): Newest of both; the walk of LabelNewest. WholeImport: the plain law of what is read back from a disk. Chapter 31 (election): the plain law of the turned list: the same cont Chapter 31 (election): own rows of labels. Chapter 31 (election): slices of labels appended to a row of one's own WholeImport: labels appended to an own row of labels, while another bl
-/
import Derived.Test.YtjabgpejmnpamaaGreatDoorZ14
import Derived.Test.YtjabgpejmnpamaaGreatDoorZ12
import Derived.Test.YtjabgpejmnpamaaGreatDoorZ02
import Derived.Test.YtjabgpejmnpamaaGreatDoorZ10
import Derived.Test.YtjabgpejmnpamaaGreatDoorZ13
import Derived.Test.YtjabgpejmnpamaaGreatDoorZ11
import Derived.Maps.AppendAt
import Derived.Test.YtjabgpejmnpamaaGreatDoorZ01
set_option linter.unusedVariables false
namespace Go.Proofs.YtjabgpejmnpamaaGreatDoor
open Go.ChangeShapes Go.WideShapes Go.ChangeAt Go.RowKit
theorem stC_le {m : Int} (h : 0 ≤ m) (s : Lb.St) : (Lb.stC m s).1 ≤ m := by
  unfold Lb.stC rdC
  cases h2 : rd s.1 s.2 with
  | none => exact h
  | some p =>
    obtain ⟨x, r⟩ := p
    simp only
    split <;> rename_i h3
    · split at h3
      · rename_i h4
        simp only [Option.some.injEq, Prod.mk.injEq] at h3
        simp only
        rw [← h3.1]; exact h4.2
      · cases h3
    · exact h
structure Parts (pt : List (BitVec 8) → Option (List (BitVec 8) × Int)) (most : Int) : Prop where
  len : ∀ b d n, pt b = some (d, n) → d.length ≤ b.length
  lo : ∀ b d n, pt b = some (d, n) → 1 ≤ n
  hi : ∀ b d n, pt b = some (d, n) → n ≤ most
theorem part_parts : Parts Lb.partT 6 := by
  have key : ∀ b d n, Lb.partT b = some (d, n) → d.length ≤ b.length ∧ 1 ≤ n ∧ n ≤ 6 := by
    intro b d n h
    unfold Lb.partT at h
    split at h
    · simp only at h
      split at h
      · rename_i h2
        simp only [Option.some.injEq, Prod.mk.injEq] at h
        obtain ⟨h3, h4⟩ := h
        refine ⟨?_, by rw [← h4]; exact h2.2, by rw [← h4]; exact stC_le (by decide) _⟩
        rw [← h3]
        refine Nat.le_trans (stB_len _).2 (Nat.le_trans (stC_len _ _) (Nat.le_trans (stU_len _) (Nat.le_trans (stU_len _) (Nat.le_trans (stU_len _) ?_))))
        simp only [List.length_drop, List.length_take]; omega
      · cases h
    · cases h
  exact ⟨fun b d n h => (key b d n h).1, fun b d n h => (key b d n h).2.1, fun b d n h => (key b d n h).2.2⟩
section
variable {pt : List (BitVec 8) → Option (List (BitVec 8) × Int)} {ps : List (BitVec 8) → Lb.LX × Bool} {S : List (List (BitVec 8))}
theorem joinT_none {i : Nat} (h : (S[i]?).bind pt = none) : ∀ k, i < k → Lb.joinT pt S k = none
  | 0, h' => absurd h' (by omega)
  | k + 1, h' => by
    rw [Lb.joinT]
    by_cases e : i = k
    · subst e
      rw [h]
      cases Lb.joinT pt S i <;> rfl
    · rw [joinT_none h k (by omega)]
def First (pt : List (BitVec 8) → Option (List (BitVec 8) × Int)) (S : List (List (BitVec 8))) (i : Nat) (pn : Int) : Prop := (i = 0 ∧ pn = 1) ∨ (0 < i ∧ ∃ d, (S[0]?).bind pt = some (d, pn))
theorem dec_stop {i : Nat} {pn : Int} (hf : First pt S i pn) (hi : (i : Int) < pn) (h : (S[i]?).bind pt = none) : Lb.decG pt ps S = none := by
  unfold Lb.decG
  rcases hf with ⟨rfl, _⟩ | ⟨h0, d, hd⟩
  · rw [h]
  · rw [hd]
    simp only
    rw [joinT_none h pn.toNat (by omega)]
theorem first_next {i : Nat} {pn n : Int} {d : List (BitVec 8)} (hf : First pt S i pn) (h : (S[i]?).bind pt = some (d, n)) : First pt S (i + 1) (if i = 0 then n else pn) := by
  rcases hf with ⟨rfl, _⟩ | ⟨h0, d', hd⟩
  · exact .inr ⟨by omega, d, by rw [if_pos rfl]; exact h⟩
  · exact .inr ⟨by omega, d', by rw [if_neg (by omega)]; exact hd⟩
theorem join_next {i : Nat} {n : Int} {d all : List (BitVec 8)} (hj : Lb.joinT pt S i = some all) (h : (S[i]?).bind pt = some (d, n)) : Lb.joinT pt S (i + 1) = some (all ++ d) := by
  rw [Lb.joinT, hj, h]
theorem dec_end {i : Nat} {pn : Int} {all : List (BitVec 8)} (hf : First pt S i pn) (h0 : 0 < i) (hi : (i : Int) = pn) (hj : Lb.joinT pt S i = some all) :
    Lb.decG pt ps S = if (ps all).2 = true ∧ Lb.encL (ps all).1.1 (ps all).1.2 = S.take i then some (ps all).1 else none := by
  unfold Lb.decG
  rcases hf with ⟨h1, _⟩ | ⟨_, d, hd⟩
  · omega
  · rw [hd]
    simp only
    rw [show pn.toNat = i by omega, hj]
end
def lz : Lab := ⟨0#64, 0, 0#64, 0#64, Lb.cfgOf [], 0, 0#64, 0#64⟩
def labD (o : Option Lb.LX) : Lb.LX := o.getD (lz, [])
def errD (o : Option Lb.LX) : Nat := if o.isSome then 0 else 5
def DecEnd (w : World) (o : Option Lb.LX) (e : Ending) (w' : World) : Prop := ∃ dv, e = .returned (.tuple #[labV (labD o).1 dv, .int .i64 (errD o : Nat)]) ∧ OwnG Value.bool 4 w' 0 dv (labD o).2 ∧ Ext w w'
def eqRR (x y : List (List (BitVec 8))) : Bool := decide (x = y)
theorem eqRR_len {x y : List (List (BitVec 8))} (h : x.length ≠ y.length) : eqRR x y = false := by unfold eqRR; rw [decide_eq_false_iff_not]; intro e; exact h (by rw [e])
theorem eqRR_at {x y : List (List (BitVec 8))} {i : Nat} (hx : i < x.length) (hy : i < y.length) (h : eqBB x[i] y[i] = false) : eqRR x y = false := by
  unfold eqRR; rw [decide_eq_false_iff_not]; intro e; subst e
  unfold eqBB at h
  simp at h
theorem eqRR_all {x y : List (List (BitVec 8))} (h : x.length = y.length) (ha : x.take x.length = y.take x.length) : eqRR x y = true := by
  unfold eqRR; rw [decide_eq_true_eq]
  rwa [List.take_length, h, List.take_length] at ha
theorem takeR_next {x y : List (List (BitVec 8))} {i : Nat} (hx : i < x.length) (hy : i < y.length) (h : x.take i = y.take i) (he : eqBB x[i] y[i] = true) : x.take (i + 1) = y.take (i + 1) := by
  rw [List.take_succ_eq_append_getElem hx, List.take_succ_eq_append_getElem hy, h, of_decide_eq_true he]
theorem RowsB.take {w : World} {ad : Option Addr} {n cap : Nat} {S : List (List (BitVec 8))} (h : RowsB w (.slice ad n cap) S) (k : Nat) (hk : k ≤ n) : RowsB w (.slice ad k cap) (S.take k) := by
  obtain ⟨vs, h1, h2, h3⟩ := h
  have hn : n = vs.length := by obtain ⟨a, c, e⟩ := h1.shape; injection e
  refine ⟨vs.take k, h1.take k hk, by rw [List.length_take, List.length_take, h2], fun i a b => ?_⟩
  rw [List.length_take] at a b
  rw [List.getElem_take, List.getElem_take]
  exact h3 i (by omega) (by omega)
set_option maxRecDepth 100000 in
set_option maxHeartbeats 1000000 in
theorem clo_any (v1 v2 : Value) (x y : List (BitVec 8)) (w : World) (hlx : x.length ≤ 100000) (hly : y.length ≤ 100000) (hx : SliceAt encB w v1 x) (hy : SliceAt encB w v2 y) :
    Calls Tryz.prog 79 #[v1, v2] w (BoolEnd w (eqBB x y)) := by
  have HX := Lib.hid hx
  have HY := Lib.hid hy
  clear hx hy
  go_enter Tryz.func79, Tryz.ntmps79
  go_wp2_with fail
  go_at_call 80
  refine (eqslB_any _ _ x y _ hlx hly HX.out HY.out).mono ?_
  rintro e w1 ⟨rfl, hx1⟩
  have HX1 := Lib.hid hx1
  clear hx1
  go_wp2_with fail
  go_ret
  exact ⟨rfl, HX1.out⟩
set_option maxRecDepth 100000 in
set_option maxHeartbeats 1000000 in
theorem eqfun_any (v1 v2 : Value) (x y : List (List (BitVec 8))) (w : World) (hlx : x.length ≤ 1000) (hly : y.length ≤ 1000) (hbx : ∀ l, l ∈ x → l.length ≤ 1000) (hby : ∀ l, l ∈ y → l.length ≤ 1000) (hx : RowsB w v1 x) (hy : RowsB w v2 y) :
    Calls Tryz.prog 78 #[v1, v2, .func (.func 79) #[] #[]] w (BoolEnd w (eqRR x y)) := by
  obtain ⟨ad1, cap1, rfl, _⟩ := hx.shape
  obtain ⟨ad2, cap2, rfl, _⟩ := hy.shape
  have HX := Lib.hid hx
  have HY := Lib.hid hy
  have HBX := Lib.hid hbx
  have HBY := Lib.hid hby
  obtain ⟨n, hn⟩ : ∃ n, x.length = n := ⟨_, rfl⟩
  obtain ⟨m, hm⟩ : ∃ m, y.length = m := ⟨_, rfl⟩
  have HN := Lib.hid hn
  have HM := Lib.hid hm
  rw [hn] at HX hlx ⊢
  rw [hm] at HY hly ⊢
  clear hx hy hn hm hbx hby
  by_cases hnm : n = m
  · subst hnm
    have hq1 : ((n : Int) == n) = true := by simp
    have hq2 : ((n : Int) != n) = false := by simp
    have HX0 : Hid (Ext w w) := Ext.refl _
    go_enter Tryz.func78, Tryz.ntmps78
    go_wp2_with fail
    go_loopw [17] (fun iv wr => ∃ i : Nat, i ≤ n ∧ iv = .int .i64 i ∧ Hid (x.take i = y.take i) ∧ Hid (Ext w wr)) (fun iv _ => n - (intOf iv).toNat)
    case atStart => exact ⟨0, Nat.zero_le _, rfl, by show _ = _; simp, HX0⟩
    case round =>
      obtain ⟨i, hi, rfl, HT, HXr⟩ := hrel
      by_cases hlt : i < n
      · have hin : (i : Int) < (n : Int) := by omega
        have hi0 : (0 : Int) ≤ (i : Int) := by omega
        have hix : i < x.length := by rw [HN.out]; exact hlt
        have hiy : i < y.length := by rw [HM.out]; exact hlt
        obtain ⟨b1, off1, rfl, hb1, a1, k1, hc1, hs1⟩ := (HX.out.ext HXr.out).get i hix
        obtain ⟨b2, off2, rfl, hb2, a2, k2, hc2, hs2⟩ := (HY.out.ext HXr.out).get i hiy
        have HNE : Hid (eqBB x[i] y[i] = false → eqRR x y = false) := fun h => eqRR_at hix hiy h
        have HEQ : Hid (eqBB x[i] y[i] = true → x.take (i + 1) = y.take (i + 1)) := fun h => takeR_next hix hiy HT.out h
        have hl1 := HBX.out _ (List.getElem_mem hix)
        have hl2 := HBY.out _ (List.getElem_mem hiy)
        have HS1 := Lib.hid hs1
        have HS2 := Lib.hid hs2
        generalize x[i] = p at *
        generalize y[i] = q at *
        clear hs1 hs2
        go_wp2_with fail
        go_at_call 79
        refine (clo_any _ _ p q _ (by omega) (by omega) HS1.out HS2.out).mono ?_
        rintro e w2 ⟨rfl, hx2⟩
        have HX2 : Hid (Ext w w2) := HXr.out.trans hx2
        clear hx2
        cases hpq : eqBB p q with
        | true =>
          have HE := Lib.hid (HEQ.out hpq)
          clear hpq
          go_wp2_with fail
          go_roundw
          case rel => exact ⟨i + 1, by omega, by go_num, HE, HX2⟩
          case measure => simp [intOf]; omega
        | false =>
          have HF := Lib.hid (HNE.out hpq)
          clear hpq
          go_wp2_with fail
          go_ret
          exact ⟨by rw [HF.out]; rfl, HX2.out⟩
      · have hin : i = n := by omega
        subst hin
        have hin2 : ¬ ((i : Int) < (i : Int)) := by omega
        go_wp2_with fail
        go_ret
        exact ⟨by rw [eqRR_all (HN.out.trans HM.out.symm) (by rw [HN.out]; exact HT.out)]; rfl, HXr.out⟩
  · have hb1 : ((n : Int) == m) = false := by rw [beq_eq_false_iff_ne]; omega
    have hb2 : ((n : Int) != m) = true := by rw [bne, hb1]; rfl
    rw [eqRR_len (by rw [HN.out, HM.out]; exact hnm)]
    go_enter Tryz.func78, Tryz.ntmps78
    go_wp2_with fail
    go_ret
    exact ⟨rfl, Ext.refl _⟩
end Go.Proofs.YtjabgpejmnpamaaGreatDoor
namespace Go.Proofs.YtjabgpejmnpamaaGreatDoor
open Go.ChangeShapes Go.WideShapes Go.ChangeAt Go.RowKit
set_option maxRecDepth 100000 in
set_option maxHeartbeats 4000000 in
theorem lbdecode_any (v : Value) (S : List (List (BitVec 8))) (w : World) (hS : S.length ≤ 60) (hl : ∀ l, l ∈ S → l.length ≤ 200) (h : RowsB w v S) :
    Calls Tryz.prog 37 #[v] w (DecEnd w (Lb.decT S)) := by
  obtain ⟨i0, hI, hI0, hI1, hI2⟩ := info_parts infoB
  obtain ⟨ad, cap, rfl, hcap⟩ := h.shape
  have HS := Lib.hid h
  have HLL := Lib.hid hl
  have HPP := Lib.hid part_parts
  obtain ⟨n, hn⟩ : ∃ n, S.length = n := ⟨_, rfl⟩
  have HN := Lib.hid hn
  rw [hn] at HS hS hcap ⊢
  have hbr : BoxAt (w.alloc (.cells (labA ⟨0#64, 0, 0#64, 0#64, Lb.cfgOf [], 0, 0#64, 0#64⟩ (.slice none 0 0)) 29)) w.heap.size (labA ⟨0#64, 0, 0#64, 0#64, Lb.cfgOf [], 0, 0#64, 0#64⟩ (.slice none 0 0)) 29 := BoxAt.new _ _ _
  have hxW : Ext w (w.alloc (.cells (labA ⟨0#64, 0, 0#64, 0#64, Lb.cfgOf [], 0, 0#64, 0#64⟩ (.slice none 0 0)) 29)) := Ext.alloc _ _
  clear h hl hn
  go_enter Tryz.func37, Tryz.ntmps37
  go_upto_region 1 with fail
  have HBR := Lib.hid hbr
  have HXW := Lib.hid hxW
  clear hbr hxW
  go_wp2_with fail
  obtain ⟨W, hW⟩ : ∃ W, w.alloc (.cells (labA ⟨0#64, 0, 0#64, 0#64, Lb.cfgOf [], 0, 0#64, 0#64⟩ (.slice none 0 0)) 29) = W := ⟨_, rfl⟩
  rw [hW] at HBR HXW
  go_loopw [4, 5, 6] (fun vt pt it wr => ∃ (i : Nat) (all : List (BitVec 8)) (pn : Int), (i : Int) ≤ pn ∧ 1 ≤ pn ∧ pn ≤ 6 ∧ it = .int .i64 i ∧ pt = .int .i64 pn ∧ i ≤ n ∧ all.length ≤ 200 * i ∧ Hid (Lb.joinT Lb.partT S i = some all) ∧ Hid (First Lb.partT S i pn) ∧ Hid (OwnG encB 5 wr W.heap.size vt all) ∧ Hid (Ext W wr)) (fun _ _ it _ => 7 - (intOf it).toNat)
  case atStart => exact ⟨0, [], 1, by decide, by decide, by decide, rfl, rfl, Nat.zero_le _, Nat.zero_le _, Lib.hid rfl, Lib.hid (.inl ⟨rfl, rfl⟩), Lib.hid OwnG.nil, by rw [← hW]; exact Lib.hid (Ext.refl _)⟩
  case round =>
    obtain ⟨i, all, pn, hip, hp1, hp6, rfl, rfl, hin, hal, HJ, HF, HO, HX⟩ := hrel
    clear hW
    by_cases hlt : (i : Int) < pn
    · have d1 : decide ((i : Int) < pn) = true := by rw [decide_eq_true_iff]; exact hlt
      by_cases hni : i < n
      · have d2 : decide ((n : Int) ≤ (i : Int)) = false := by rw [decide_eq_false_iff_not]; omega
        have d3 : decide (n ≤ i) = false := by rw [decide_eq_false_iff_not]; omega
        have hi0 : (0 : Int) ≤ (i : Int) := by omega
        have hinI : (i : Int) < (n : Int) := by omega
        have hiS : i < S.length := by rw [HN.out]; exact hni
        obtain ⟨b1, o1, rfl, hb1, a1, k1, hc1, hs1⟩ := (HS.out.ext (HXW.out.trans HX.out)).get i hiS
        have hlS := HLL.out _ (List.getElem_mem hiS)
        have HG : Hid (S[i]? = some S[i]) := List.getElem?_eq_getElem hiS
        have HS1 := Lib.hid hs1
        generalize S[i] = q at *
        clear hs1
        go_wp2_with fail
        go_at_call 76
        refine (part_any _ q _ (by omega) HS1.out).mono ?_
        rintro e w2 ⟨v2, n2, ok, rfl, hok, hd2, hx2⟩
        have HX2 : Hid (Ext W w2) := HX.out.trans hx2
        have HO2 := Lib.hid (HO.out.ext hx2)
        cases hpt : Lb.partT q with
        | none =>
          rw [hpt] at hok
          have hok' : ok = false := hok
          subst hok'
          have HST : Hid (Lb.decT S = none) := dec_stop HF.out hlt (by rw [HG.out]; exact hpt)
          clear hpt hd2 hx2 hok
          go_wp2_with (refine wpList_store_lab3 (l := lz) (d := .slice none 0 0) _ _ rfl (by rfl) rfl rfl (HBR.out.ext HX2.out) rfl rfl ?_; intro wf hgf hbf)
          have HXF := (HXW.out.trans HX2.out).grown hgf (HXW.out.trans HX2.out).size (fun q hq => by cases hq; exact Nat.le_refl _)
          refine bodyPost_ret (results_cell_tmp1 rfl _ _ rfl (lab_result hbf)) rfl ⟨.slice none 0 0, ?_, ?_, HXF⟩
          · rw [HST.out]; rfl
          · rw [HST.out]; exact OwnG.nil
        | some dn =>
          obtain ⟨d, n3⟩ := dn
          rw [hpt] at hok
          have hok' : ok = true := hok
          subst hok'
          obtain ⟨hn3, hd3⟩ := hd2 (d, n3) hpt
          simp only at hn3 hd3
          subst hn3
          have hbd : (S[i]?).bind Lb.partT = some (d, n2) := by rw [HG.out]; exact hpt
          have HF2 := Lib.hid (first_next HF.out hbd)
          have HJ2 := Lib.hid (join_next HJ.out hbd)
          have hdl := HPP.out.len _ _ _ hpt
          have hn1 := HPP.out.lo _ _ _ hpt
          have hn6 := HPP.out.hi _ _ _ hpt
          have HD3 := Lib.hid hd3
          clear hpt hd2 hx2 hok hd3 hbd
          obtain ⟨va, ca, rfl⟩ := HO2.out.shape
          by_cases hi00 : i = 0
          · subst hi00
            rw [if_pos rfl] at HF2
            have e1 : ((0 : Nat) : Int) = 0 := rfl
            go_wp2_with (at_builtin; refine Classical.byContradiction (fun hN => ?_))
            refine hN ?_
            clear hN
            refine wpList_append_slice (enc := encB) (fun _ => rfl) rfl _ _ 47 rfl W.heap.size 5 i0 (.int .u8 0) 1 Tryz.underlying47 hI hI0 hI1 hI2 rfl _ _ _ rfl HO2.out _ d rfl HD3.out (by unfold maxLen; omega) (by omega) HX2.out.size ?_
            intro v5 w5 ho5 hg5
            have HX5 : Hid (Ext W w5) := HX2.out.grown hg5 HX2.out.size (fun q hq => (HO2.out.lt q hq).1)
            have HO5 := Lib.hid (OwnG.app (enc := encB) ho5)
            clear ho5 hg5
            go_wp2_with fail
            go_roundw
            case rel => exact ⟨1, all ++ d, n2, by omega, hn1, hn6, by go_num, rfl, by omega, by rw [List.length_append]; omega, HJ2, HF2, HO5, HX5⟩
            case measure => first | (simp [intOf]; done) | (simp [intOf]; omega)
          · rw [if_neg hi00] at HF2
            have e1 : ((i : Int) == 0) = false := by rw [beq_eq_false_iff_ne]; omega
            go_wp2_with (at_builtin; refine Classical.byContradiction (fun hN => ?_))
            refine hN ?_
            clear hN
            refine wpList_append_slice (enc := encB) (fun _ => rfl) rfl _ _ 47 rfl W.heap.size 5 i0 (.int .u8 0) 1 Tryz.underlying47 hI hI0 hI1 hI2 rfl _ _ _ rfl HO2.out _ d rfl HD3.out (by unfold maxLen; omega) (by omega) HX2.out.size ?_
            intro v5 w5 ho5 hg5
            have HX5 : Hid (Ext W w5) := HX2.out.grown hg5 HX2.out.size (fun q hq => (HO2.out.lt q hq).1)
            have HO5 := Lib.hid (OwnG.app (enc := encB) ho5)
            clear ho5 hg5
            go_wp2_with fail
            go_roundw
            case rel => exact ⟨i + 1, all ++ d, pn, by omega, hp1, hp6, by go_num, rfl, by omega, by rw [List.length_append]; omega, HJ2, HF2, HO5, HX5⟩
            case measure => simp [intOf]; omega
      · have d2 : decide ((n : Int) ≤ (i : Int)) = true := by rw [decide_eq_true_iff]; omega
        have d3 : decide (n ≤ i) = true := by rw [decide_eq_true_iff]; omega
        have HST : Hid (Lb.decT S = none) := dec_stop HF.out hlt (by rw [List.getElem?_eq_none (by rw [HN.out]; omega)]; rfl)
        go_wp2_with (refine wpList_store_lab3 (l := lz) (d := .slice none 0 0) _ _ rfl (by rfl) rfl rfl (HBR.out.ext HX.out) rfl rfl ?_; intro wf hgf hbf)
        have HXF := (HXW.out.trans HX.out).grown hgf (HXW.out.trans HX.out).size (fun q hq => by cases hq; exact Nat.le_refl _)
        refine bodyPost_ret (results_cell_tmp1 rfl _ _ rfl (lab_result hbf)) rfl ⟨.slice none 0 0, ?_, ?_, HXF⟩
        · rw [HST.out]; rfl
        · rw [HST.out]; exact OwnG.nil
    · have d1 : decide ((i : Int) < pn) = false := by rw [decide_eq_false_iff_not]; exact hlt
      have hie : pn = (i : Int) := by omega
      subst hie
      have hi0 : 0 < i := by omega
      have HE : Hid (Lb.decT S = if (Lb.parseT all).2 = true ∧ Lb.encL (Lb.parseT all).1.1 (Lb.parseT all).1.2 = S.take i then some (Lb.parseT all).1 else none) := dec_end HF.out hi0 rfl HJ.out
      have HPV := Lib.hid (fun h => Lb.parse_valid (b := all) h)
      obtain ⟨va, ca, rfl⟩ := HO.out.shape
      have HSL := Lib.hid HO.out.slice
      have hal2 : all.length ≤ 12000 := by omega
      clear HF HJ HO
      go_wp2_with fail
      go_at_call 77
      refine (parse_any _ all _ hal2 HSL.out).mono ?_
      rintro e w3 ⟨dv, rfl, hdv, hx3⟩
      generalize Lb.parseT all = R at *
      obtain ⟨⟨L, x⟩, ok⟩ := R
      simp only at hdv HE HPV ⊢
      have HX3 : Hid (Ext W w3) := HX.out.trans hx3
      obtain ⟨da, dc, rfl⟩ := hdv.shape
      have HDV := Lib.hid hdv
      clear hdv hx3 HSL
      go_upto_region 15 with (refine wpList_store_lab3 (l := L) (d := .slice da x.length dc) _ _ rfl (by rfl) rfl rfl (BoxAt.new _ _ _) rfl rfl ?_; intro w4 hg4 hb4)
      have hx4 : Ext w3 w4 := (Ext.alloc _ _).grown hg4 (Ext.alloc _ _).size (fun q hq => by cases hq; exact Nat.le_refl _)
      have HX4 : Hid (Ext W w4) := HX3.out.trans hx4
      have HB4 := Lib.hid hb4
      have HDV4 := Lib.hid (HDV.out.ext hx4)
      clear hg4 hb4 hx4 HDV
      generalize w3.heap.size = lb at *
      cases ok with
      | false =>
        have HST : Hid (Lb.decT S = none) := by show _ = _; rw [HE.out, if_neg (by simp)]
        go_wp2_with (refine wpList_store_lab3 (l := lz) (d := .slice none 0 0) _ _ rfl (by rfl) rfl rfl (HBR.out.ext HX4.out) rfl rfl ?_; intro wf hgf hbf)
        have HXF := (HXW.out.trans HX4.out).grown hgf (HXW.out.trans HX4.out).size (fun q hq => by cases hq; exact Nat.le_refl _)
        refine bodyPost_ret (results_cell_tmp1 rfl _ _ rfl (lab_result hbf)) rfl ⟨.slice none 0 0, ?_, ?_, HXF⟩
        · rw [HST.out]; rfl
        · rw [HST.out]; exact OwnG.nil
      | true =>
        have hv := HPV.out rfl
        have hF := Lb.fine_of hv
        have hxl := hF.len
        have hel := Lb.enc_len hF
        have HER : Hid (encR L x = Lb.encL L x) := by show _ = _; unfold encR; rw [if_pos hv]
        have HEB : Hid (∀ l, l ∈ Lb.encL L x → l.length ≤ 1000) := fun l hl => by
          unfold Lb.encL Lb.cutL at hl
          obtain ⟨j, hj, rfl⟩ := List.mem_map.1 hl
          have := Lb.sector_len hF (List.mem_range.1 hj)
          omega
        clear hv hF HPV
        go_wp2_with (refine wpList_loadR 29 _ rfl (by rfl) rfl (LabAt.of_box HB4.out).load ?_)
        go_at_call 7
        refine (encode_any L (.slice da x.length dc) x _ (by omega) HDV4.out.slice).mono ?_
        rintro e w5 ⟨ev, rfl, hev, hx5⟩
        rw [HER.out] at hev
        have HX5 : Hid (Ext W w5) := HX4.out.trans hx5
        have HB5 := Lib.hid (HB4.out.ext hx5)
        have HDV5 := Lib.hid (HDV4.out.ext hx5)
        have HEV := Lib.hid hev.rows
        obtain ⟨ea, ec, rfl⟩ := hev.shape
        have HTK := Lib.hid ((HS.out.ext (HXW.out.trans HX5.out)).take i hin)
        generalize Lb.encL L x = EL at *
        have hiI : (i : Int) ≤ (cap : Int) := by omega
        have hi00 : (0 : Int) ≤ (i : Int) := by omega
        clear hev hx5 HB4 HDV4
        go_wp2_with fail
        go_at_call 78
        refine (eqfun_any _ _ EL (S.take i) _ (by omega) (by rw [List.length_take, HN.out]; omega) HEB.out (fun l hl => Nat.le_trans (HLL.out l (List.mem_of_mem_take hl)) (by decide)) HEV.out HTK.out).mono ?_
        rintro e w6 ⟨rfl, hx6⟩
        have HX6 : Hid (Ext W w6) := HX5.out.trans hx6
        have HB6 := Lib.hid (HB5.out.ext hx6)
        have HDV6 := Lib.hid (HDV5.out.ext hx6)
        clear hx6 HB5 HDV5
        cases hq : eqRR EL (S.take i) with
        | false =>
          have HST : Hid (Lb.decT S = none) := by show _ = _; rw [HE.out, if_neg (fun h => by have := of_decide_eq_false hq; exact this h.2)]
          clear hq
          go_wp2_with (refine wpList_store_lab3 (l := lz) (d := .slice none 0 0) _ _ rfl (by rfl) rfl rfl (HBR.out.ext HX6.out) rfl rfl ?_; intro wf hgf hbf)
          have HXF := (HXW.out.trans HX6.out).grown hgf (HXW.out.trans HX6.out).size (fun q hq => by cases hq; exact Nat.le_refl _)
          refine bodyPost_ret (results_cell_tmp1 rfl _ _ rfl (lab_result hbf)) rfl ⟨.slice none 0 0, ?_, ?_, HXF⟩
          · rw [HST.out]; rfl
          · rw [HST.out]; exact OwnG.nil
        | true =>
          have HST : Hid (Lb.decT S = some (L, x)) := by show _ = _; rw [HE.out, if_pos ⟨by trivial, of_decide_eq_true hq⟩]
          clear hq
          go_wp2_with (first | (refine wpList_loadR 29 _ rfl (by rfl) rfl (LabAt.of_box HB6.out).load ?_) | (refine wpList_store_lab3 (l := L) (d := .slice da x.length dc) _ _ rfl (by rfl) rfl rfl (HBR.out.ext HX6.out) rfl rfl ?_; intro wf hgf hbf))
          have HXF := (HXW.out.trans HX6.out).grown hgf (HXW.out.trans HX6.out).size (fun q hq => by cases hq; exact Nat.le_refl _)
          refine bodyPost_ret (results_cell_tmp1 rfl _ _ rfl (lab_result hbf)) rfl ⟨.slice da x.length dc, ?_, ?_, HXF⟩
          · rw [HST.out]; rfl
          · rw [HST.out]
            exact HDV6.out.turnW (HBR.out.ext HX6.out) hgf
end Go.Proofs.YtjabgpejmnpamaaGreatDoor
namespace Go.Proofs.YtjabgpejmnpamaaGreatDoor
open Go.ChangeShapes Go.WideShapes Go.ChangeAt Go.RowKit
end Go.Proofs.YtjabgpejmnpamaaGreatDoor

namespace Go.Proofs.YtjabgpejmnpamaaGreatDoor
open Go.ChangeShapes Go.WideShapes Go.ChangeAt Go.RowKit
def better1 (q : Lb.LX) (o : Option Lb.LX) (i : Int) : Lb.LX := match o with
  | some p => if (un p.1.gen % 2 == i) = true ∧ un q.1.gen < un p.1.gen then p else q
  | none => q
def lz0 : Lb.LX := (lz, [])
def best2 (a b : Option Lb.LX) : Lb.LX := better1 (better1 lz0 a 0) b 1
def newT (a b : Option Lb.LX) : Option Lb.LX := if un (best2 a b).1.gen = 0 then none else some (best2 a b)
theorem err_two (o : Option Lb.LX) : (o = none ∧ errD o = 5 ∧ labD o = (lz, [])) ∨ ∃ q, o = some q ∧ errD o = 0 ∧ labD o = q := by
  cases o with
  | none => exact .inl ⟨rfl, rfl, rfl⟩
  | some q => exact .inr ⟨q, rfl, rfl, rfl⟩
def errW (o : Option Lb.LX) : Nat := if o.isSome then 0 else 9
def NewEnd (w : World) (o : Option Lb.LX) (e : Ending) (w' : World) : Prop := ∃ dv, e = .returned (.tuple #[labV (labD o).1 dv, .int .i64 (errW o : Nat)]) ∧ OwnG Value.bool 4 w' 0 dv (labD o).2 ∧ Ext w w'
theorem un_tmod (x : BitVec 64) : (un x).tmod 2 = un x % 2 := Int.tmod_eq_emod_of_nonneg (by show (0 : Int) ≤ ((x.toNat : Nat) : Int); omega)
set_option maxRecDepth 100000 in
set_option maxHeartbeats 4000000 in
theorem newest_any (v1 v2 : Value) (S U : List (List (BitVec 8))) (w : World) (hS : S.length ≤ 60) (hl : ∀ l, l ∈ S → l.length ≤ 200) (hU : U.length ≤ 60) (hk : ∀ l, l ∈ U → l.length ≤ 200) (h : RowsB w v1 S) (h' : RowsB w v2 U) :
    Calls Tryz.prog 8 #[v1, v2] w (NewEnd w (newT (Lb.decT S) (Lb.decT U))) := by
  obtain ⟨as1, cs1, rfl, _⟩ := h.shape
  obtain ⟨as2, cs2, rfl, _⟩ := h'.shape
  have HS := Lib.hid h
  have HU := Lib.hid h'
  have HLL := Lib.hid hl
  have HLK := Lib.hid hk
  have hbr : BoxAt (w.alloc (.cells (labA ⟨0#64, 0, 0#64, 0#64, Lb.cfgOf [], 0, 0#64, 0#64⟩ (.slice none 0 0)) 29)) w.heap.size (labA ⟨0#64, 0, 0#64, 0#64, Lb.cfgOf [], 0, 0#64, 0#64⟩ (.slice none 0 0)) 29 := BoxAt.new _ _ _
  have hxW : Ext w (w.alloc (.cells (labA ⟨0#64, 0, 0#64, 0#64, Lb.cfgOf [], 0, 0#64, 0#64⟩ (.slice none 0 0)) 29)) := Ext.alloc _ _
  clear h h' hl hk
  go_enter Tryz.func8, Tryz.ntmps8
  go_upto_region 1 with fail
  have HBR := Lib.hid hbr
  have HXW := Lib.hid hxW
  clear hbr hxW
  have hsz : (w.alloc (.cells (labA ⟨0#64, 0, 0#64, 0#64, Lb.cfgOf [], 0, 0#64, 0#64⟩ (.slice none 0 0)) 29)).heap.size = w.heap.size + 1 := by simp
  have HG := Lib.hid hsz
  have HB0 : Hid (BoxAt ((w.alloc (.cells (labA ⟨0#64, 0, 0#64, 0#64, Lb.cfgOf [], 0, 0#64, 0#64⟩ (.slice none 0 0)) 29)).alloc (.cells (labA lz0.1 (.slice none lz0.2.length 0)) 29)) (w.heap.size + 1) (labA lz0.1 (.slice none lz0.2.length 0)) 29) := by show BoxAt _ _ _ _; rw [← hsz]; exact BoxAt.new _ _ _
  have HX0 : Hid (Ext (w.alloc (.cells (labA ⟨0#64, 0, 0#64, 0#64, Lb.cfgOf [], 0, 0#64, 0#64⟩ (.slice none 0 0)) 29)) ((w.alloc (.cells (labA ⟨0#64, 0, 0#64, 0#64, Lb.cfgOf [], 0, 0#64, 0#64⟩ (.slice none 0 0)) 29)).alloc (.cells (labA lz0.1 (.slice none lz0.2.length 0)) 29))) := Ext.alloc _ _
  clear hsz
  go_wp2_with fail
  go_loopw [14] (fun it wr => ∃ (i : Nat) (q : Lb.LX) (da : Option Addr) (dc : Nat), i ≤ 2 ∧ it = .int .i64 i ∧ Hid ((i = 0 ∧ q = lz0) ∨ (i = 1 ∧ q = better1 lz0 (Lb.decT S) 0) ∨ (i = 2 ∧ q = best2 (Lb.decT S) (Lb.decT U))) ∧ Hid (BoxAt wr (w.heap.size + 1) (labA q.1 (.slice da q.2.length dc)) 29) ∧ Hid (OwnG Value.bool 4 wr 0 (.slice da q.2.length dc) q.2) ∧ Hid (Ext (w.alloc (.cells (labA ⟨0#64, 0, 0#64, 0#64, Lb.cfgOf [], 0, 0#64, 0#64⟩ (.slice none 0 0)) 29)) wr)) (fun it _ => 2 - (intOf it).toNat)
  case atStart => exact ⟨0, lz0, none, 0, by decide, rfl, Lib.hid (.inl ⟨rfl, rfl⟩), HB0, Lib.hid OwnG.nil, HX0⟩
  case round =>
    obtain ⟨i, ⟨q1, q2⟩, da, dc, hi, rfl, HQ, HB, HD, HX⟩ := hrel
    simp only at HB HD
    generalize hWW : w.alloc (.cells (labA ⟨0#64, 0, 0#64, 0#64, Lb.cfgOf [], 0, 0#64, 0#64⟩ (.slice none 0 0)) 29) = W at *
    clear hWW HB0 HX0
    generalize wr = wo at *
    have hi3 : i = 0 ∨ i = 1 ∨ i = 2 := by omega
    have tq := un_tmod q1.gen
    rcases hi3 with rfl | rfl | rfl
    · skip
      have HQ1 : Hid ((q1, q2) = lz0) := by
        rcases HQ.out with ⟨h1, h2⟩ | ⟨h1, h2⟩ | ⟨h1, h2⟩
        · exact h2
        · omega
        · omega
      have hix : ∀ w0 : World, (Instr.index 34 (.agg #[.slice as1 S.length cs1, .slice as2 U.length cs2]) (.int .i64 0)).run Tryz.prog w0 = .ok ((.slice as1 S.length cs1) : Value) w0 := fun _ => rfl
      go_wp2_with fail
      go_at_call 37
      refine (lbdecode_any _ S _ hS HLL.out (HS.out.ext (HXW.out.trans HX.out))).mono ?_
      rintro e w2 ⟨d2, rfl, hd2, hx2⟩
      have HEA := Lib.hid (err_two (Lb.decT S))
      generalize labD (Lb.decT S) = LA at *
      generalize errD (Lb.decT S) = EA at *
      obtain ⟨A1, A2⟩ := LA
      simp only at hd2 ⊢
      obtain ⟨ad, ac, rfl⟩ := hd2.shape
      have HD2 := Lib.hid hd2
      have HX2 : Hid (Ext W w2) := HX.out.trans hx2
      have HBQ := Lib.hid (HB.out.ext hx2)
      have HDQ := Lib.hid (HD.out.ext hx2)
      clear hd2 hx2 HB HD
      go_upto_region 6 with (refine wpList_store_lab3 (l := A1) (d := .slice ad A2.length ac) _ _ rfl (by rfl) rfl rfl (BoxAt.new _ _ _) rfl rfl ?_; intro w3 hg3 hb3)
      have hx3 : Ext w2 w3 := (Ext.alloc _ _).grown hg3 (Ext.alloc _ _).size (fun q hq => by cases hq; exact Nat.le_refl _)
      have HX3 : Hid (Ext W w3) := HX2.out.trans hx3
      have HBN := Lib.hid hb3
      have HBP := Lib.hid (HBQ.out.ext hx3)
      have HDN := Lib.hid (HD2.out.ext hx3)
      have HDP := Lib.hid (HDQ.out.ext hx3)
      have cn := hb3.cell 2 (v := encU A1.gen) rfl
      have cq := HBP.out.cell 2 (v := encU q1.gen) rfl
      have ln := hb3.lt
      have lq := HBP.out.lt
      have tn := un_tmod A1.gen
      clear hg3 hb3 hx3 HBQ HDQ HD2
      generalize w2.heap.size = gn at *
      rcases HEA.out with ⟨ha1, ha2, ha3⟩ | ⟨qa, ha1, ha2, ha3⟩
      · subst ha2
        have HN : Hid ((q1, q2) = better1 lz0 (Lb.decT S) 0) := by show _ = _; rw [← HQ1.out]; rw [ha1]; rfl
        clear ha1 ha3 HEA
        go_wp2_with fail
        go_roundw
        case rel => exact ⟨1, (q1, q2), da, dc, by decide, by go_num, Lib.hid (.inr (.inl ⟨rfl, HN.out⟩)), HBP, HDP, HX3⟩
        case measure => first | (simp [intOf]; done) | (simp [intOf]; omega)
      · subst ha2 ha3
        by_cases kp : (un A1.gen % 2 == 0) = true
        · by_cases kg : un q1.gen < un A1.gen
          · have dg : decide (un q1.gen < un A1.gen) = true := by rw [decide_eq_true_iff]; exact kg
            have HN : Hid ((A1, A2) = better1 lz0 (Lb.decT S) 0) := by show _ = _; rw [← HQ1.out]; rw [ha1]; unfold better1; simp only; rw [if_pos ⟨kp, kg⟩]
            clear ha1 HEA kg
            go_wp2_with (first | (refine wpList_loadR 29 _ rfl (by rfl) rfl (LabAt.of_box HBN.out).load ?_) | (refine wpList_store_lab3 (l := A1) (d := .slice ad A2.length ac) _ _ rfl (by rfl) rfl rfl HBP.out rfl rfl ?_; intro wf hgf hbf))
            have HXF : Hid (Ext W wf) := HX3.out.grown hgf HX3.out.size (fun q hq => by cases hq; exact Nat.le_of_eq HG.out)
            have HBF := Lib.hid hbf
            have HDF := Lib.hid (HDN.out.turnW HBP.out hgf)
            clear hgf hbf
            go_roundw
            case rel => exact ⟨1, (A1, A2), ad, ac, by decide, by go_num, Lib.hid (.inr (.inl ⟨rfl, HN.out⟩)), HBF, HDF, HXF⟩
            case measure => first | (simp [intOf]; done) | (simp [intOf]; omega)
          · have dg : decide (un q1.gen < un A1.gen) = false := by rw [decide_eq_false_iff_not]; exact kg
            have HN : Hid ((q1, q2) = better1 lz0 (Lb.decT S) 0) := by show _ = _; rw [← HQ1.out]; rw [ha1]; unfold better1; simp only; rw [if_neg (fun h => kg h.2)]
            clear ha1 HEA kg
            go_wp2_with fail
            go_roundw
            case rel => exact ⟨1, (q1, q2), da, dc, by decide, by go_num, Lib.hid (.inr (.inl ⟨rfl, HN.out⟩)), HBP, HDP, HX3⟩
            case measure => first | (simp [intOf]; done) | (simp [intOf]; omega)
        · have kp2 : (un A1.gen % 2 == 0) = false := by simpa using kp
          have HN : Hid ((q1, q2) = better1 lz0 (Lb.decT S) 0) := by show _ = _; rw [← HQ1.out]; rw [ha1]; unfold better1; simp only; rw [if_neg (fun h => kp h.1)]
          clear ha1 HEA kp
          go_wp2_with fail
          go_roundw
          case rel => exact ⟨1, (q1, q2), da, dc, by decide, by go_num, Lib.hid (.inr (.inl ⟨rfl, HN.out⟩)), HBP, HDP, HX3⟩
          case measure => first | (simp [intOf]; done) | (simp [intOf]; omega)
    · skip
      have HQ1 : Hid ((q1, q2) = better1 lz0 (Lb.decT S) 0) := by
        rcases HQ.out with ⟨h1, h2⟩ | ⟨h1, h2⟩ | ⟨h1, h2⟩
        · omega
        · exact h2
        · omega
      have hix : ∀ w0 : World, (Instr.index 34 (.agg #[.slice as1 S.length cs1, .slice as2 U.length cs2]) (.int .i64 1)).run Tryz.prog w0 = .ok ((.slice as2 U.length cs2) : Value) w0 := fun _ => rfl
      go_wp2_with fail
      go_at_call 37
      refine (lbdecode_any _ U _ hU HLK.out (HU.out.ext (HXW.out.trans HX.out))).mono ?_
      rintro e w2 ⟨d2, rfl, hd2, hx2⟩
      have HEA := Lib.hid (err_two (Lb.decT U))
      generalize labD (Lb.decT U) = LA at *
      generalize errD (Lb.decT U) = EA at *
      obtain ⟨A1, A2⟩ := LA
      simp only at hd2 ⊢
      obtain ⟨ad, ac, rfl⟩ := hd2.shape
      have HD2 := Lib.hid hd2
      have HX2 : Hid (Ext W w2) := HX.out.trans hx2
      have HBQ := Lib.hid (HB.out.ext hx2)
      have HDQ := Lib.hid (HD.out.ext hx2)
      clear hd2 hx2 HB HD
      go_upto_region 6 with (refine wpList_store_lab3 (l := A1) (d := .slice ad A2.length ac) _ _ rfl (by rfl) rfl rfl (BoxAt.new _ _ _) rfl rfl ?_; intro w3 hg3 hb3)
      have hx3 : Ext w2 w3 := (Ext.alloc _ _).grown hg3 (Ext.alloc _ _).size (fun q hq => by cases hq; exact Nat.le_refl _)
      have HX3 : Hid (Ext W w3) := HX2.out.trans hx3
      have HBN := Lib.hid hb3
      have HBP := Lib.hid (HBQ.out.ext hx3)
      have HDN := Lib.hid (HD2.out.ext hx3)
      have HDP := Lib.hid (HDQ.out.ext hx3)
      have cn := hb3.cell 2 (v := encU A1.gen) rfl
      have cq := HBP.out.cell 2 (v := encU q1.gen) rfl
      have ln := hb3.lt
      have lq := HBP.out.lt
      have tn := un_tmod A1.gen
      clear hg3 hb3 hx3 HBQ HDQ HD2
      generalize w2.heap.size = gn at *
      rcases HEA.out with ⟨ha1, ha2, ha3⟩ | ⟨qa, ha1, ha2, ha3⟩
      · subst ha2
        have HN : Hid ((q1, q2) = best2 (Lb.decT S) (Lb.decT U)) := by show _ = _; unfold best2; rw [← HQ1.out]; rw [ha1]; rfl
        clear ha1 ha3 HEA
        go_wp2_with fail
        go_roundw
        case rel => exact ⟨2, (q1, q2), da, dc, by decide, by go_num, Lib.hid (.inr (.inr ⟨rfl, HN.out⟩)), HBP, HDP, HX3⟩
        case measure => first | (simp [intOf]; done) | (simp [intOf]; omega)
      · subst ha2 ha3
        by_cases kp : (un A1.gen % 2 == 1) = true
        · by_cases kg : un q1.gen < un A1.gen
          · have dg : decide (un q1.gen < un A1.gen) = true := by rw [decide_eq_true_iff]; exact kg
            have HN : Hid ((A1, A2) = best2 (Lb.decT S) (Lb.decT U)) := by show _ = _; unfold best2; rw [← HQ1.out]; rw [ha1]; unfold better1; simp only; rw [if_pos ⟨kp, kg⟩]
            clear ha1 HEA kg
            go_wp2_with (first | (refine wpList_loadR 29 _ rfl (by rfl) rfl (LabAt.of_box HBN.out).load ?_) | (refine wpList_store_lab3 (l := A1) (d := .slice ad A2.length ac) _ _ rfl (by rfl) rfl rfl HBP.out rfl rfl ?_; intro wf hgf hbf))
            have HXF : Hid (Ext W wf) := HX3.out.grown hgf HX3.out.size (fun q hq => by cases hq; exact Nat.le_of_eq HG.out)
            have HBF := Lib.hid hbf
            have HDF := Lib.hid (HDN.out.turnW HBP.out hgf)
            clear hgf hbf
            go_roundw
            case rel => exact ⟨2, (A1, A2), ad, ac, by decide, by go_num, Lib.hid (.inr (.inr ⟨rfl, HN.out⟩)), HBF, HDF, HXF⟩
            case measure => first | (simp [intOf]; done) | (simp [intOf]; omega)
          · have dg : decide (un q1.gen < un A1.gen) = false := by rw [decide_eq_false_iff_not]; exact kg
            have HN : Hid ((q1, q2) = best2 (Lb.decT S) (Lb.decT U)) := by show _ = _; unfold best2; rw [← HQ1.out]; rw [ha1]; unfold better1; simp only; rw [if_neg (fun h => kg h.2)]
            clear ha1 HEA kg
            go_wp2_with fail
            go_roundw
            case rel => exact ⟨2, (q1, q2), da, dc, by decide, by go_num, Lib.hid (.inr (.inr ⟨rfl, HN.out⟩)), HBP, HDP, HX3⟩
            case measure => first | (simp [intOf]; done) | (simp [intOf]; omega)
        · have kp2 : (un A1.gen % 2 == 1) = false := by simpa using kp
          have HN : Hid ((q1, q2) = best2 (Lb.decT S) (Lb.decT U)) := by show _ = _; unfold best2; rw [← HQ1.out]; rw [ha1]; unfold better1; simp only; rw [if_neg (fun h => kp h.1)]
          clear ha1 HEA kp
          go_wp2_with fail
          go_roundw
          case rel => exact ⟨2, (q1, q2), da, dc, by decide, by go_num, Lib.hid (.inr (.inr ⟨rfl, HN.out⟩)), HBP, HDP, HX3⟩
          case measure => first | (simp [intOf]; done) | (simp [intOf]; omega)
    · skip
      have HQ2 : Hid ((q1, q2) = best2 (Lb.decT S) (Lb.decT U)) := by
        rcases HQ.out with ⟨h1, h2⟩ | ⟨h1, h2⟩ | ⟨h1, h2⟩
        · omega
        · omega
        · exact h2
      have cq := HB.out.cell 2 (v := encU q1.gen) rfl
      have lq := HB.out.lt
      by_cases hz : un q1.gen = 0
      · have hz1 : (un q1.gen == 0) = true := by rw [hz]; rfl
        have HRES : Hid (newT (Lb.decT S) (Lb.decT U) = none) := by show _ = _; unfold newT; rw [← HQ2.out, if_pos hz]
        clear hz HQ2 HQ
        go_wp2_with (first | (refine wpList_store_lab3 (l := lz) (d := .slice none 0 0) _ _ rfl (by rfl) rfl rfl (HBR.out.ext HX.out) rfl rfl ?_; intro wf hgf hbf))
        have HXF := (HXW.out.trans HX.out).grown hgf (HXW.out.trans HX.out).size (fun q hq => by cases hq; exact Nat.le_refl _)
        refine bodyPost_ret (results_cell_tmp1 rfl _ _ rfl (lab_result hbf)) rfl ⟨.slice none 0 0, ?_, ?_, HXF⟩
        · rw [HRES.out]; rfl
        · rw [HRES.out]; exact OwnG.nil
      · have hz1 : (un q1.gen == 0) = false := by rw [beq_eq_false_iff_ne]; exact hz
        have HRES : Hid (newT (Lb.decT S) (Lb.decT U) = some (q1, q2)) := by show _ = _; unfold newT; rw [← HQ2.out, if_neg hz]
        clear hz HQ2 HQ
        go_wp2_with (first | (refine wpList_loadR 29 _ rfl (by rfl) rfl (LabAt.of_box HB.out).load ?_) | (refine wpList_store_lab3 (l := q1) (d := .slice da q2.length dc) _ _ rfl (by rfl) rfl rfl (HBR.out.ext HX.out) rfl rfl ?_; intro wf hgf hbf))
        have HXF := (HXW.out.trans HX.out).grown hgf (HXW.out.trans HX.out).size (fun q hq => by cases hq; exact Nat.le_refl _)
        refine bodyPost_ret (results_cell_tmp1 rfl _ _ rfl (lab_result hbf)) rfl ⟨.slice da q2.length dc, ?_, ?_, HXF⟩
        · rw [HRES.out]; rfl
        · rw [HRES.out]; exact HD.out.turnW (HBR.out.ext HX.out) hgf
end Go.Proofs.YtjabgpejmnpamaaGreatDoor

namespace Go.Proofs.YtjabgpejmnpamaaGreatDoor
open Go.RowKit
theorem dec_backI {l : Lab} {x : List Bool} (hv : validL l x = true) : Lb.decT (Lb.encL l x) = some (l, x) := Lb.dec_iff.2 ⟨hv, List.prefix_rfl⟩
theorem enc_pos {l : Lab} {x : List Bool} (hv : validL l x = true) : 0 < (Lb.encL l x).length := by
  rcases Nat.eq_zero_or_pos (Lb.encL l x).length with h | h
  · exfalso
    have e : Lb.encL l x = [] := List.length_eq_zero_iff.1 h
    have h1 : Lb.decT (Lb.encL l x) = some (l, x) := dec_backI hv
    have h2 : Lb.decT ([] : List (List (BitVec 8))) = none := rfl
    rw [e, h2] at h1
    cases h1
  · exact h
theorem dec_takeI {l : Lab} {x : List Bool} (hv : validL l x = true) {k : Nat} (hk : k < (Lb.encL l x).length) : Lb.decT ((Lb.encL l x).take k) = none :=
  Lb.dec_lost hv hk (fun i hi => by rw [List.getElem?_take, if_pos hi]) (.inl (List.getElem?_eq_none (by rw [List.length_take]; omega)))
inductive Area (l : Lab) (d : Nat) : Bool → List (List (BitVec 8)) → Prop
  | none : Area l d false []
  | torn (k : Nat) (hk : k < (Lb.encL (oneL (nextI l) d) f5).length) : Area l d false ((Lb.encL (oneL (nextI l) d) f5).take k)
  | whole : Area l d true (Lb.encL (oneL (nextI l) d) f5)
theorem un_nextI {l : Lab} (h : l.gen.toNat + 1 < 4294967296) : un (nextI l).gen = un l.gen + 1 := by
  show (((nextI l).gen.toNat : Nat) : Int) = ((l.gen.toNat : Nat) : Int) + 1
  rw [nextI_gen h]
  simp
theorem area_new {l : Lab} {d : Nat} (hd : d < 5) {b : Bool} {T : List (List (BitVec 8))} (hw : validW l f5) (hg : l.gen.toNat + 1 < 4294967296) (ha : Area l d b T) :
    (un l.gen % 2 = 0 → newT (Lb.decT (Lb.encL (oneL l d) f5)) (Lb.decT T) = some (impL l (fun _ => b) d)) ∧
    (un l.gen % 2 = 1 → newT (Lb.decT T) (Lb.decT (Lb.encL (oneL l d) f5)) = some (impL l (fun _ => b) d)) := by
  have hv1 : validL (oneL l d) f5 = true := by rw [valid_oneW hw hd, f5_get hd]; rfl
  have hv2 : validL (oneL (nextI l) d) f5 = true := by rw [valid_oneW (nextI_valid hw hg) hd, f5_get hd]; rfl
  have hge : (1 : Int) ≤ un l.gen := by
    have := hw.2.1
    show (1 : Int) ≤ ((l.gen.toNat : Nat) : Int)
    omega
  have hun := un_nextI hg
  have e1 : un (oneL l d).gen = un l.gen := rfl
  have e2 : un (oneL (nextI l) d).gen = un l.gen + 1 := hun
  rw [dec_backI hv1]
  have hT : Lb.decT T = none ∧ b = false ∨ Lb.decT T = some (oneL (nextI l) d, f5) ∧ b = true := by
    cases ha with
    | none => exact .inl ⟨rfl, rfl⟩
    | torn k hk => exact .inl ⟨dec_takeI hv2 hk, rfl⟩
    | whole => exact .inr ⟨dec_backI hv2, rfl⟩
  have hz : un lz0.1.gen = 0 := rfl
  rcases hT with ⟨hT, rfl⟩ | ⟨hT, rfl⟩
  · rw [hT]
    constructor
    · intro hp
      unfold newT best2 better1
      simp only [hz, e1, hp]
      have h0 : (0 : Int) < un l.gen := by omega
      simp [h0, e1, impL]
      omega
    · intro hp
      unfold newT best2 better1
      simp only [hz, e1, hp]
      have h0 : (0 : Int) < un l.gen := by omega
      simp [h0, e1, impL]
      omega
  · rw [hT]
    constructor
    · intro hp
      have hp2 : (un l.gen + 1) % 2 = 1 := by omega
      have h0 : (0 : Int) < un l.gen := by omega
      have h1 : un l.gen < un l.gen + 1 := by omega
      unfold newT best2 better1
      simp only [hz, e1, e2, hp, hp2]
      simp [h0, h1, e1, e2, impL]
      omega
    · intro hp
      have hp2 : (un l.gen + 1) % 2 = 0 := by omega
      have h0 : (0 : Int) < un l.gen := by omega
      have h0' : (0 : Int) < un l.gen + 1 := by omega
      have h1 : ¬ (un l.gen + 1 < un l.gen) := by omega
      unfold newT best2 better1
      simp only [hz, e1, e2, hp, hp2]
      simp [h0', h1, e2, impL]
      omega
end Go.Proofs.YtjabgpejmnpamaaGreatDoor

namespace Go.Proofs.YtjabgpejmnpamaaGreatDoor.El
def rot (n s i : Nat) : Nat := if i + s < n then i + s else i + s - n
theorem rot_lt {n s i : Nat} (hs : s < n) (hi : i < n) : rot n s i < n := by unfold rot; split <;> omega
section turned
variable {n s : Nat} {cand cand2 : Nat → Bool} {gen gen2 : Nat → Nat} {eq eq2 : Nat → Nat → Bool} {disk disk2 : Nat → Nat} {dead dead2 : Nat → List Bool}
end turned
end Go.Proofs.YtjabgpejmnpamaaGreatDoor.El
namespace Go.Proofs.YtjabgpejmnpamaaGreatDoor
open Go.RowKit
def turnL {α : Type} (l : List α) (s : Nat) : List α := l.drop s ++ l.take s
theorem turnL_len {α : Type} {l : List α} {s : Nat} : (turnL l s).length = l.length := by unfold turnL; rw [List.length_append, List.length_drop, List.length_take]; omega
theorem turnL_get {α : Type} {l : List α} {s i : Nat} {d : α} (hs : s < l.length) (hi : i < l.length) : (turnL l s).getD i d = l.getD (El.rot l.length s i) d := by
  have hr := El.rot_lt hs hi
  rw [getD_in (by rw [turnL_len]; exact hi), getD_in hr]
  unfold turnL
  rw [List.getElem_append]
  split
  · rename_i h
    rw [List.length_drop] at h
    rw [List.getElem_drop]
    congr 1
    unfold El.rot
    rw [if_pos (by omega)]; omega
  · rename_i h
    rw [List.length_drop] at h
    rw [List.getElem_take]
    congr 1
    unfold El.rot
    rw [if_neg (by omega), List.length_drop]; omega
section
variable {ls : List LD} {rd : List Bool} {s : Nat}
theorem turn_ld {i : Nat} (hs : s < ls.length) (hi : i < ls.length) : ldN (turnL ls s) i = ldN ls (El.rot ls.length s i) := turnL_get hs hi
end
end Go.Proofs.YtjabgpejmnpamaaGreatDoor

namespace Go.Proofs.YtjabgpejmnpamaaGreatDoor
open Go.RowKit
theorem infoL : (Tryz.prog.info? 29).map (fun i => (i.zero, i.size, i.bytes)) = some (some (.agg (labA ⟨0#64, 0, 0#64, 0#64, ⟨0, 0, 0, 0, 0, 0, 0, 0, 0, 0, 0⟩, 0, 0#64, 0#64⟩ (.slice none 0 0))), 19, 168) := by kernel_rfl
theorem flat_get {α : Type} (f : α → List Value) (k : Nat) (hk : ∀ x, (f x).length = k) : ∀ (l : List α) (i : Nat) (h : i < l.length) (j : Nat), j < k → (l.flatMap f)[i * k + j]? = (f l[i])[j]?
  | [], i, h, _, _ => absurd h (by simp)
  | x :: l, 0, _, j, hj => by
    rw [List.flatMap_cons, Nat.zero_mul, Nat.zero_add, List.getElem?_append_left (by rw [hk]; exact hj)]; rfl
  | x :: l, i + 1, h, j, hj => by
    rw [List.flatMap_cons, List.getElem?_append_right (by rw [hk, Nat.succ_mul]; omega), hk]
    rw [show (i + 1) * k + j - k = i * k + j by rw [Nat.succ_mul]; omega]
    rw [flat_get f k hk l i (by simpa using h) j hj]; rfl
theorem flat_len {α : Type} (f : α → List Value) (k : Nat) (hk : ∀ x, (f x).length = k) : ∀ l : List α, (l.flatMap f).length = l.length * k
  | [] => by simp
  | x :: l => by rw [List.flatMap_cons, List.length_append, hk, flat_len f k hk l, List.length_cons, Nat.succ_mul]; omega
abbrev LP := Lab × Value
def lpCells (p : LP) : List Value := (labA p.1 p.2).toList
theorem lpCells_len (p : LP) : (lpCells p).length = 19 := rfl
def OwnLs (w : World) (B : Nat) (v : Value) (ps : List LP) : Prop := w.ownsRow B 29 19 v ps.length (ps.flatMap lpCells)
theorem OwnLs.nil {w : World} {B : Nat} : OwnLs w B (.slice none 0 0) [] := World.ownsRow_nil _ _ _ _
theorem OwnLs.ext {w w' : World} {B : Nat} {v : Value} {ps : List LP} (h : OwnLs w B v ps) (x : Ext w w') : OwnLs w' B v ps := World.ownsRow.kept h (grown_ext x none) (by cases v.ownBlock <;> simp)
theorem OwnLs.shape {w : World} {B : Nat} {v : Value} {ps : List LP} (h : OwnLs w B v ps) : ∃ a c, v = .slice a ps.length c ∧ ps.length ≤ c := by
  rcases h.2 with ⟨h1, h2⟩ | ⟨g, cap, cur, h1, _, _, h4, _⟩
  · exact ⟨none, 0, by rw [h1, h2], by rw [h2]; exact Nat.le_refl _⟩
  · exact ⟨_, _, h1, h4⟩
theorem OwnLs.lt {w : World} {B : Nat} {v : Value} {ps : List LP} (h : OwnLs w B v ps) : ∀ g, v.ownBlock = some g → B ≤ g ∧ g < w.heap.size := World.ownsRow.lt h
theorem OwnLs.labs {w : World} {B : Nat} {v : Value} {ps : List LP} {ls : List LD} (h : OwnLs w B v ps) (hl : ls.length = ps.length) (he : ∀ i (h1 : i < ls.length) (h2 : i < ps.length), ls[i].1 = ps[i].1 ∧ SliceAt Value.bool w ps[i].2 ls[i].2) : LabsAt w v ls := by
  have hx := h.2
  rcases hx with ⟨h1, h2⟩ | ⟨g, cap, cur, h1, _, h3, h4, _⟩
  · have : ls = [] := List.eq_nil_of_length_eq_zero (by rw [hl, h2])
    subst this
    exact ⟨none, 0, h1, Nat.le_refl _, .inl rfl⟩
  · refine ⟨_, cap, by rw [hl]; exact h1, by rw [hl]; exact h4, .inr ⟨g, 0, rfl, fun i hi => ?_⟩⟩
    have hi2 : i < ps.length := by rw [← hl]; exact hi
    obtain ⟨e1, e2⟩ := he i hi hi2
    refine ⟨ps[i].2, ⟨fun j u hj => ?_, (Array.getElem?_eq_some_iff.1 h3).1⟩, e2⟩
    have hj19 : j < 19 := by
      have := (List.getElem?_eq_some_iff.1 hj).1
      exact this
    have hc := World.ownsRow.cells h (g := g) (by rw [h1]; rfl) (i * 19 + j) u (by
      rw [flat_get lpCells 19 lpCells_len ps i hi2 j hj19]
      unfold lpCells
      rw [← e1]; exact hj)
    rw [Addr.add_mid] at hc
    rw [Nat.zero_add]
    rw [Nat.zero_add] at hc
    exact hc
theorem elrows_apart {w : World} {B B' : Nat} {e e' : TypeId} {s s' : Nat} {v v' : Value} {n n' : Nat} {xs xs' : List Value} (h : w.ownsRow B e s v n xs) (h' : w.ownsRow B' e' s' v' n' xs') (ne : e ≠ e') : ∀ g, v.ownBlock = some g → v'.ownBlock ≠ some g := by
  intro g hg hg'
  rcases h.2 with ⟨h1, _⟩ | ⟨q, cap, cur, h1, _, h3, _⟩
  · rw [h1] at hg; simp [Value.ownBlock] at hg
  · rcases h'.2 with ⟨k1, _⟩ | ⟨q', cap', cur', k1, _, k3, _⟩
    · rw [k1] at hg'; simp [Value.ownBlock] at hg'
    · rw [h1] at hg; rw [k1] at hg'
      simp [Value.ownBlock] at hg hg'
      rw [hg] at h3; rw [hg'] at k3
      rw [h3] at k3
      cases k3; exact ne rfl
theorem OwnLs.kept {w w' : World} {B B' : Nat} {v v' : Value} {ps : List LP} {e : TypeId} {s n : Nat} {xs : List Value} (h : OwnLs w B v ps) (h' : w.ownsRow B' e s v' n xs) (ne : 29 ≠ e) (hg : w.grownBy w' v'.ownBlock) : OwnLs w' B v ps :=
  World.ownsRow.kept h hg (by
    cases hq : v.ownBlock with
    | none => exact .inl rfl
    | some q => exact .inr fun e2 => elrows_apart h h' ne q hq e2.symm)
theorem OwnG.keptL {α : Type} {enc : α → Value} {e : TypeId} {w w' : World} {B B' : Nat} {v v' : Value} {l : List α} {ps : List LP} (h : OwnG enc e w B v l) (h' : OwnLs w B' v' ps) (ne : e ≠ 29) (hg : w.grownBy w' v'.ownBlock) : OwnG enc e w' B v l :=
  h.kept hg (by
    cases hq : v.ownBlock with
    | none => exact .inr rfl
    | some q => exact .inl fun e2 => elrows_apart h h' ne q hq e2.symm)
theorem wpList_append_lab {ops : Array Oper} {rest : List Oper} {o : Oper} {a : Act} {w : World} {Q : Exit → Act → World → Prop} (hgd : o.guard = none) (s x : Operand)
    (ho : o.op = .call { callee := .builtin .append, args := #[s, x], argTypes := #[32, 32] })
    (B : Nat) (v : Value) (ps : List LP) (hs : a.eval s = v) (hown : OwnLs w B v ps) {g : Nat} {l : Lab} {d : Value} {t : TypeId} (hx : a.eval x = .slice (some ⟨g, 0, none⟩) 1 1) (hb : BoxAt w g (labA l d) t) (hd : d.oneCell' = true)
    (hl : ps.length ≤ 1000) (hbase : B ≤ w.heap.size)
    (h : ∀ v' w', OwnLs w' B v' (ps ++ [(l, d)]) → w.grownBy w' v.ownBlock → wpList Tryz.prog ops Q rest (a.put o.dst v') w') : wpList Tryz.prog ops Q (o :: rest) a w := by
  obtain ⟨i0, hi, hz0, hz1, hz2⟩ := info_parts infoL
  refine wpList_append_own_at w hgd s x _ ho B 29 i0 _ 19 168 Tryz.underlying32 hi hz0 hz1 hz2 rfl (by decide) v ps.length _ hs hown ⟨g, 0, none⟩ 1 1 (labA l d).toList hx rfl ?_ ?_ (by unfold maxLen; omega) (by omega) hbase (fun v' w' h1 h2 _ _ => h v' w' ?_ h2)
  · intro j u hj
    rw [Addr.add_mid, Nat.zero_add]
    exact hb.cell j (by simpa using hj)
  · intro u hu
    have := labA_one (l := l) hd
    rw [Array.all_eq_true_iff_forall_mem] at this
    exact this u (by simpa using hu)
  · unfold OwnLs
    rw [List.length_append, List.flatMap_append]
    have : [(l, d)].flatMap lpCells = (labA l d).toList := by simp [lpCells]
    rw [this]; exact h1
end Go.Proofs.YtjabgpejmnpamaaGreatDoor

namespace Go.Proofs.YtjabgpejmnpamaaGreatDoor
open Go.ChangeShapes Go.WideShapes Go.ChangeAt Go.RowKit
def LabsIn (w : World) (b off : Nat) (ls : List LD) : Prop := ∀ i (h : i < ls.length), ∃ dv, LabAt w b (off + i * 19) ls[i].1 dv ∧ SliceAt Value.bool w dv ls[i].2
theorem LabsAt.inn {w : World} {ad : Option Addr} {n cap : Nat} {ls : List LD} (h : LabsAt w (.slice ad n cap) ls) (h0 : 0 < ls.length) : n ≤ cap ∧ ∃ b off, ad = some ⟨b, off, none⟩ ∧ LabsIn w b off ls := by
  obtain ⟨ad', cap', hv, hc, h⟩ := h
  injection hv with e1 e2 e3
  subst e1 e2 e3
  refine ⟨hc, ?_⟩
  rcases h with rfl | ⟨b, off, ha, hi⟩
  · simp at h0
  · exact ⟨b, off, ha, hi⟩
theorem LabsIn.drop {w : World} {b off : Nat} {ls : List LD} (h : LabsIn w b off ls) (s : Nat) : LabsIn w b (off + s * 19) (ls.drop s) := by
  intro i hi
  have hi2 : s + i < ls.length := by rw [List.length_drop] at hi; omega
  obtain ⟨dv, h1, h2⟩ := h (s + i) hi2
  refine ⟨dv, ?_, ?_⟩
  · rw [List.getElem_drop, show off + s * 19 + i * 19 = off + (s + i) * 19 by omega]; exact h1
  · rw [List.getElem_drop]; exact h2
theorem LabsIn.take {w : World} {b off : Nat} {ls : List LD} (h : LabsIn w b off ls) (s : Nat) : LabsIn w b off (ls.take s) := by
  intro i hi
  have hi2 : i < ls.length := by rw [List.length_take] at hi; omega
  obtain ⟨dv, h1, h2⟩ := h i hi2
  refine ⟨dv, ?_, ?_⟩
  · rw [List.getElem_take]; exact h1
  · rw [List.getElem_take]; exact h2
theorem LabsIn.pairs {w : World} {b off : Nat} {ls : List LD} (h : LabsIn w b off ls) : ∃ ps : List LP, ps.length = ls.length ∧ ∀ i (h1 : i < ls.length) (h2 : i < ps.length), ls[i].1 = ps[i].1 ∧ LabAt w b (off + i * 19) ps[i].1 ps[i].2 ∧ SliceAt Value.bool w ps[i].2 ls[i].2 := by
  have h' : ∀ i, ∃ dv, ∀ h : i < ls.length, LabAt w b (off + i * 19) ls[i].1 dv ∧ SliceAt Value.bool w dv ls[i].2 := by
    intro i
    by_cases hi : i < ls.length
    · obtain ⟨dv, h1⟩ := h i hi
      exact ⟨dv, fun _ => h1⟩
    · exact ⟨.slice none 0 0, fun h => absurd h hi⟩
  obtain ⟨f, hf⟩ := Classical.skolem.1 h'
  refine ⟨(List.range ls.length).map fun i => ((ldN ls i).1, f i), by simp, fun i h1 h2 => ?_⟩
  rw [List.getElem_map, List.getElem_range, ldN_in h1]
  exact ⟨rfl, hf i h1⟩
def OwnLD (W w : World) (v : Value) (ls : List LD) : Prop :=
  ∃ ps : List LP, ps.length = ls.length ∧ OwnLs w W.heap.size v ps ∧ Ext W w ∧ ∀ i (h1 : i < ls.length) (h2 : i < ps.length), ls[i].1 = ps[i].1 ∧ SliceAt Value.bool W ps[i].2 ls[i].2
theorem OwnLD.labs {W w : World} {v : Value} {ls : List LD} (h : OwnLD W w v ls) : LabsAt w v ls := by
  obtain ⟨ps, h1, h2, h3, h4⟩ := h
  exact h2.labs h1.symm fun i a b => ⟨(h4 i a b).1, (h4 i a b).2.ext h3⟩
theorem OwnLD.lt {W w : World} {v : Value} {ls : List LD} (h : OwnLD W w v ls) : ∀ g, v.ownBlock = some g → W.heap.size ≤ g ∧ g < w.heap.size := by
  obtain ⟨ps, h1, h2, h3, h4⟩ := h
  exact h2.lt
theorem OwnLD.ext {W w w' : World} {v : Value} {ls : List LD} (h : OwnLD W w v ls) (e : Ext w w') : OwnLD W w' v ls := by
  obtain ⟨ps, h1, h2, h3, h4⟩ := h
  exact ⟨ps, h1, h2.ext e, h3.trans e, h4⟩
theorem OwnLD.lit {W w : World} (e : Ext W w) : OwnLD W (w.alloc (.cells #[] 29)) (.slice (some ⟨w.heap.size, 0, none⟩) 0 0) [] :=
  ⟨[], rfl, World.ownsRow_lit w #[] 0 e.size (by decide) (by simp), e.trans (Ext.alloc _ _), fun i h1 _ => absurd h1 (by simp)⟩
theorem flat_at {α : Type} (f : α → List Value) (k : Nat) (hk0 : 0 < k) (hk : ∀ x, (f x).length = k) (l : List α) (j : Nat) (u : Value) (h : (l.flatMap f)[j]? = some u) : ∃ i r, j = i * k + r ∧ r < k ∧ ∃ hi : i < l.length, (f l[i])[r]? = some u := by
  have hj : j < l.length * k := by
    have := (List.getElem?_eq_some_iff.1 h).1
    rwa [flat_len f k hk] at this
  have hr : j % k < k := Nat.mod_lt _ hk0
  have hi : j / k < l.length := Nat.div_lt_of_lt_mul (by rw [Nat.mul_comm]; exact hj)
  have he : j = j / k * k + j % k := by rw [Nat.mul_comm]; exact (Nat.div_add_mod j k).symm
  refine ⟨j / k, j % k, he, hr, hi, ?_⟩
  rw [he, flat_get f k hk l (j / k) hi (j % k) hr] at h
  exact h
section
variable {H : Type} {enc : TypeId × Value → H} {w : World} {r : Reach} {b0 : Nat} {v : Value} {d : DataW H} {ps : List MemPlace}
end
end Go.Proofs.YtjabgpejmnpamaaGreatDoor

namespace Go.Proofs.YtjabgpejmnpamaaGreatDoor
open Go.RowKit Go.Shelf
set_option maxRecDepth 100000
set_option maxHeartbeats 800000 in
theorem wpList_append_labsG {ops : Array Oper} {rest : List Oper} {o : Oper} {a : Act} {w : World} {Q : Exit → Act → World → Prop} (hgd : o.guard = none) (s x : Operand)
    (ho : o.op = .call { callee := .builtin .append, args := #[s, x], argTypes := #[32, 32] })
    (W : World) (v : Value) (l1 l2 : List LD) (hs : a.eval s = v) (hown : OwnLD W w v l1) {b off m c : Nat} (hx : a.eval x = .slice (some ⟨b, off, none⟩) m c) (hm : l2.length = m) (hsrc : LabsIn W b off l2)
    (hl : l1.length + l2.length ≤ 1000)
    (h : ∀ v' w', OwnLD W w' v' (l1 ++ l2) → Ext W w' → (∀ g cs t, BoxAt w g cs t → v.ownBlock ≠ some g → BoxAt w' g cs t ∧ v'.ownBlock ≠ some g) → wpList Tryz.prog ops Q rest (a.put o.dst v') w') : wpList Tryz.prog ops Q (o :: rest) a w := by
  obtain ⟨i0, hi, hz0, hz1, hz2⟩ := info_parts infoL
  have hlt := hown.lt
  obtain ⟨ps, e1, e2, e3, e4⟩ := hown
  obtain ⟨qs, f1, f2⟩ := hsrc.pairs
  refine wpList_append_own_at w hgd s x _ ho W.heap.size 29 i0 _ 19 168 Tryz.underlying32 hi hz0 hz1 hz2 rfl (by decide) v ps.length _ hs e2 ⟨b, off, none⟩ m c (qs.flatMap lpCells) hx (by rw [flat_len lpCells 19 lpCells_len, f1, hm]) ?_ ?_ (by unfold maxLen; omega) (by omega) e3.size (fun v' w' h1 h2 _ h5 => ?_)
  · intro j u hj
    obtain ⟨i, r, rfl, hr, hiq, hu⟩ := flat_at lpCells 19 (by decide) lpCells_len qs j u hj
    obtain ⟨g1, g2, g3⟩ := f2 i (by omega) hiq
    rw [Addr.add_mid]
    have hc := g2.cell r (v := u) (by simpa [lpCells] using hu)
    rw [Below.cell (p := ⟨b, off + (i * 19 + r), none⟩) e3 g2.2, ← Nat.add_assoc]
    exact hc
  · intro u hu
    obtain ⟨j, hj, rfl⟩ := List.mem_iff_getElem.1 hu
    obtain ⟨i, r, rfl, hr, hiq, hu'⟩ := flat_at lpCells 19 (by decide) lpCells_len qs j _ (List.getElem?_eq_getElem hj)
    obtain ⟨g1, g2, g3⟩ := f2 i (by omega) hiq
    obtain ⟨ad, cap, hsh⟩ := g3.shape
    have := labA_one (l := qs[i].1) (d := qs[i].2) (by rw [hsh]; rfl)
    rw [Array.all_eq_true_iff_forall_mem] at this
    refine this _ ?_
    have := List.mem_of_getElem? hu'
    simpa [lpCells] using this
  · have hx2 : Ext W w' := e3.grown h2 e3.size (fun k hk => (hlt k hk).1)
    refine h v' w' ⟨ps ++ qs, by rw [List.length_append, List.length_append, e1, f1], ?_, hx2, ?_⟩ hx2 (fun g cs t hb hne => ⟨hb.grown h2 (fun e => hne e.symm), fun e => ?_⟩)
    · unfold OwnLs
      rw [List.length_append, List.flatMap_append, f1, hm]
      exact h1
    · intro i a1 a2
      rw [List.length_append] at a1 a2
      by_cases hi1 : i < l1.length
      · rw [List.getElem_append_left hi1, List.getElem_append_left (by omega)]
        exact e4 i hi1 (by omega)
      · rw [List.getElem_append_right (by omega), List.getElem_append_right (by omega)]
        obtain ⟨g1, g2, g3⟩ := f2 (i - l1.length) (by omega) (by omega)
        simp only [e1]
        exact ⟨g1, g3⟩
    · rcases h5 with h5 | h5
      · exact hne (h5.symm.trans e)
      · rw [h5] at e
        have := Option.some.inj e
        have := hb.lt
        omega
end Go.Proofs.YtjabgpejmnpamaaGreatDoor
