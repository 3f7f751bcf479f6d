/-
  Chapter 30 (label): lists of sectors are decoded.
  Chapter 30 (label): Decode.
  Chapter 30 (label): the reference's Decode.
-/
import Derived.Test.YthjcdikpomlpmaaLcP
import Derived.Test.YthjcdikpomlpmaaLcR
namespace Go.Proofs.Ythjcdikpomlpmaa
open Go.ChangeShapes Go.WideShapes Go.ChangeAt Go.RowKit
set_option linter.unusedVariables false

/-! ### plain -/
theorem stC_le {m : Int} (h : 0 ≤ m) (s : Lb.St) : (Lb.stC m s).1 ≤ m := by
  unfold Lb.stC rdC
  cases h2 : rd s.1 s.2 with
  | none => exact h
  | some p =>
    obtain ⟨x, r⟩ := p
    simp only
    split <;> rename_i h3
    · split at h3
      · rename_i h4
        simp only [Option.some.injEq, Prod.mk.injEq] at h3
        simp only
        rw [← h3.1]; exact h4.2
      · cases h3
    · exact h
theorem rdB_len {s : Lb.St} {d r : List (BitVec 8)} (h : rdB s.1 s.2 = some (d, r)) : d.length ≤ s.2.length := by
  have := (stB_len s).2
  unfold Lb.stB at this
  rw [h] at this
  exact this
structure Parts (pt : List (BitVec 8) → Option (List (BitVec 8) × Int)) (most : Int) : Prop where
  len : ∀ b d n, pt b = some (d, n) → d.length ≤ b.length
  lo : ∀ b d n, pt b = some (d, n) → 1 ≤ n
  hi : ∀ b d n, pt b = some (d, n) → n ≤ most
theorem part_parts : Parts Lb.partT 6 := by
  have key : ∀ b d n, Lb.partT b = some (d, n) → d.length ≤ b.length ∧ 1 ≤ n ∧ n ≤ 6 := by
    intro b d n h
    unfold Lb.partT at h
    split at h
    · simp only at h
      split at h
      · rename_i h2
        simp only [Option.some.injEq, Prod.mk.injEq] at h
        obtain ⟨h3, h4⟩ := h
        refine ⟨?_, by rw [← h4]; exact h2.2, by rw [← h4]; exact stC_le (by decide) _⟩
        rw [← h3]
        refine Nat.le_trans (stB_len _).2 (Nat.le_trans (stC_len _ _) (Nat.le_trans (stU_len _) (Nat.le_trans (stU_len _) (Nat.le_trans (stU_len _) ?_))))
        simp only [List.length_drop, List.length_take]; omega
      · cases h
    · cases h
  exact ⟨fun b d n h => (key b d n h).1, fun b d n h => (key b d n h).2.1, fun b d n h => (key b d n h).2.2⟩
theorem chunk_parts : Parts Lb.chunkT 100 := by
  have key : ∀ b d n, Lb.chunkT b = some (d, n) → d.length ≤ b.length ∧ 1 ≤ n ∧ n ≤ 100 := by
    intro b d n h
    unfold Lb.chunkT at h
    split at h
    · simp only at h
      split at h
      · rename_i d2 r2 hr
        split at h
        · rename_i h2
          simp only [Option.some.injEq, Prod.mk.injEq] at h
          obtain ⟨h3, h4⟩ := h
          refine ⟨?_, by omega, by omega⟩
          rw [← h3]
          refine Nat.le_trans (rdB_len hr) (Nat.le_trans (stU_len _) (Nat.le_trans (stU_len _) (Nat.le_trans (stU_len _) (Nat.le_trans (stU_len _) ?_))))
          simp only [List.length_drop, List.length_take]; omega
        · cases h
      · cases h
    · cases h
  exact ⟨fun b d n h => (key b d n h).1, fun b d n h => (key b d n h).2.1, fun b d n h => (key b d n h).2.2⟩
section
variable {pt : List (BitVec 8) → Option (List (BitVec 8) × Int)} {ps : List (BitVec 8) → Lb.LX × Bool} {S : List (List (BitVec 8))}
theorem joinT_none {i : Nat} (h : (S[i]?).bind pt = none) : ∀ k, i < k → Lb.joinT pt S k = none
  | 0, h' => absurd h' (by omega)
  | k + 1, h' => by
    rw [Lb.joinT]
    by_cases e : i = k
    · subst e
      rw [h]
      cases Lb.joinT pt S i <;> rfl
    · rw [joinT_none h k (by omega)]
/-- how many parts are read, and what the first one says of it -/
def First (pt : List (BitVec 8) → Option (List (BitVec 8) × Int)) (S : List (List (BitVec 8))) (i : Nat) (pn : Int) : Prop := (i = 0 ∧ pn = 1) ∨ (0 < i ∧ ∃ d, (S[0]?).bind pt = some (d, pn))
theorem dec_stop {i : Nat} {pn : Int} (hf : First pt S i pn) (hi : (i : Int) < pn) (h : (S[i]?).bind pt = none) : Lb.decG pt ps S = none := by
  unfold Lb.decG
  rcases hf with ⟨rfl, _⟩ | ⟨h0, d, hd⟩
  · rw [h]
  · rw [hd]
    simp only
    rw [joinT_none h pn.toNat (by omega)]
theorem first_next {i : Nat} {pn n : Int} {d : List (BitVec 8)} (hf : First pt S i pn) (h : (S[i]?).bind pt = some (d, n)) : First pt S (i + 1) (if i = 0 then n else pn) := by
  rcases hf with ⟨rfl, _⟩ | ⟨h0, d', hd⟩
  · exact .inr ⟨by omega, d, by rw [if_pos rfl]; exact h⟩
  · exact .inr ⟨by omega, d', by rw [if_neg (by omega)]; exact hd⟩
theorem join_next {i : Nat} {n : Int} {d all : List (BitVec 8)} (hj : Lb.joinT pt S i = some all) (h : (S[i]?).bind pt = some (d, n)) : Lb.joinT pt S (i + 1) = some (all ++ d) := by
  rw [Lb.joinT, hj, h]
theorem dec_end {i : Nat} {pn : Int} {all : List (BitVec 8)} (hf : First pt S i pn) (h0 : 0 < i) (hi : (i : Int) = pn) (hj : Lb.joinT pt S i = some all) :
    Lb.decG pt ps S = if (ps all).2 = true ∧ Lb.encL (ps all).1.1 (ps all).1.2 = S.take i then some (ps all).1 else none := by
  unfold Lb.decG
  rcases hf with ⟨h1, _⟩ | ⟨_, d, hd⟩
  · omega
  · rw [hd]
    simp only
    rw [show pn.toNat = i by omega, hj]
end
theorem SliceAt.turnV {α : Type} {enc : α → Value} {w w' : World} {b : Nat} {v : Value} {l : List α} (h : SliceAt enc w v l) (hnb : ∀ j c, w.cell? ⟨b, j, none⟩ ≠ some (enc c)) (hg : w.grownBy w' (some b)) : SliceAt enc w' v l := by
  obtain ⟨ad, cap, hv, hca, h⟩ := h
  refine ⟨ad, cap, hv, hca, ?_⟩
  rcases h with h | ⟨g, off, ha, hb, hc⟩
  · exact .inl h
  · rcases Nat.eq_zero_or_pos l.length with h0 | h0
    · have hl := List.eq_nil_of_length_eq_zero h0
      exact .inl ⟨hl, fun h => by rw [ha] at h; cases h⟩
    · have hne : g ≠ b := fun e => by subst e; exact hnb _ _ (hc 0 h0)
      refine .inr ⟨g, off, ha, Nat.lt_of_lt_of_le hb hg.size, fun i hi => ?_⟩
      rw [World.cell?_of_block (w := w) (hg.block g hb (fun e => hne (Option.some.inj e)))]
      exact hc i hi
theorem lab_nbv {w : World} {g : Nat} {l : Lab} {a : Option Addr} {n c : Nat} {t : TypeId} (h : BoxAt w g (labA l (.slice a n c)) t) : ∀ j (u : Bool), w.cell? ⟨g, j, none⟩ ≠ some (.bool u) := by
  intro j u hc
  unfold World.cell? at hc
  simp only [show w.heap[g]? = _ from h, Option.isSome_none, Bool.false_eq_true, if_false] at hc
  have hm : Value.bool u ∈ (labA l (.slice a n c)) := by
    have : (labA l (.slice a n c))[j]? = some (Value.bool u) := by simpa using hc
    exact Array.mem_of_getElem? this
  simp only [List.mem_toArray, List.mem_cons, List.not_mem_nil, or_false] at hm
  rcases hm with h | h | h | h | h | h | h | h | h | h | h | h | h | h | h | h | h | h | h
  all_goals cases h
def lz : Lab := ⟨0#64, 0, 0#64, 0#64, Lb.cfgOf [], 0, 0#64, 0#64⟩
def labD (o : Option Lb.LX) : Lb.LX := o.getD (lz, [])
def errD (o : Option Lb.LX) : Nat := if o.isSome then 0 else 5
def DecEnd (w : World) (o : Option Lb.LX) (e : Ending) (w' : World) : Prop := ∃ dv, e = .returned (.tuple #[labV (labD o).1 dv, .int .i64 (errD o : Nat)]) ∧ SliceAt Value.bool w' dv (labD o).2 ∧ Ext w w'

/-! ### rows compared -/
def eqRR (x y : List (List (BitVec 8))) : Bool := decide (x = y)
theorem eqRR_len {x y : List (List (BitVec 8))} (h : x.length ≠ y.length) : eqRR x y = false := by unfold eqRR; rw [decide_eq_false_iff_not]; intro e; exact h (by rw [e])
theorem eqRR_at {x y : List (List (BitVec 8))} {i : Nat} (hx : i < x.length) (hy : i < y.length) (h : eqBB x[i] y[i] = false) : eqRR x y = false := by
  unfold eqRR; rw [decide_eq_false_iff_not]; intro e; subst e
  unfold eqBB at h
  simp at h
theorem eqRR_all {x y : List (List (BitVec 8))} (h : x.length = y.length) (ha : x.take x.length = y.take x.length) : eqRR x y = true := by
  unfold eqRR; rw [decide_eq_true_eq]
  rwa [List.take_length, h, List.take_length] at ha
theorem takeR_next {x y : List (List (BitVec 8))} {i : Nat} (hx : i < x.length) (hy : i < y.length) (h : x.take i = y.take i) (he : eqBB x[i] y[i] = true) : x.take (i + 1) = y.take (i + 1) := by
  rw [List.take_succ_eq_append_getElem hx, List.take_succ_eq_append_getElem hy, h, of_decide_eq_true he]
theorem RowsB.take {w : World} {ad : Option Addr} {n cap : Nat} {S : List (List (BitVec 8))} (h : RowsB w (.slice ad n cap) S) (k : Nat) (hk : k ≤ n) : RowsB w (.slice ad k cap) (S.take k) := by
  obtain ⟨vs, h1, h2, h3⟩ := h
  have hn : n = vs.length := by obtain ⟨a, c, e⟩ := h1.shape; injection e
  refine ⟨vs.take k, h1.take k hk, by rw [List.length_take, List.length_take, h2], fun i a b => ?_⟩
  rw [List.length_take] at a b
  rw [List.getElem_take, List.getElem_take]
  exact h3 i (by omega) (by omega)
set_option maxRecDepth 100000 in
set_option maxHeartbeats 1000000 in
theorem clo_any (v1 v2 : Value) (x y : List (BitVec 8)) (w : World) (hlx : x.length ≤ 100000) (hly : y.length ≤ 100000) (hx : SliceAt encB w v1 x) (hy : SliceAt encB w v2 y) :
    Calls Try.prog 43 #[v1, v2] w (BoolEnd w (eqBB x y)) := by
  have HX := Lib.hid hx
  have HY := Lib.hid hy
  clear hx hy
  go_enter Try.func43, Try.ntmps43
  go_wp2_with fail
  go_at_call 44
  refine (eqslB_any _ _ x y _ hlx hly HX.out HY.out).mono ?_
  rintro e w1 ⟨rfl, hx1⟩
  have HX1 := Lib.hid hx1
  clear hx1
  go_wp2_with fail
  go_ret
  exact ⟨rfl, HX1.out⟩
set_option maxRecDepth 100000 in
set_option maxHeartbeats 1000000 in
theorem eqfun_any (v1 v2 : Value) (x y : List (List (BitVec 8))) (w : World) (hlx : x.length ≤ 1000) (hly : y.length ≤ 1000) (hbx : ∀ l, l ∈ x → l.length ≤ 1000) (hby : ∀ l, l ∈ y → l.length ≤ 1000) (hx : RowsB w v1 x) (hy : RowsB w v2 y) :
    Calls Try.prog 42 #[v1, v2, .func (.func 43) #[] #[]] w (BoolEnd w (eqRR x y)) := by
  obtain ⟨ad1, cap1, rfl, _⟩ := hx.shape
  obtain ⟨ad2, cap2, rfl, _⟩ := hy.shape
  have HX := Lib.hid hx
  have HY := Lib.hid hy
  have HBX := Lib.hid hbx
  have HBY := Lib.hid hby
  obtain ⟨n, hn⟩ : ∃ n, x.length = n := ⟨_, rfl⟩
  obtain ⟨m, hm⟩ : ∃ m, y.length = m := ⟨_, rfl⟩
  have HN := Lib.hid hn
  have HM := Lib.hid hm
  rw [hn] at HX hlx ⊢
  rw [hm] at HY hly ⊢
  clear hx hy hn hm hbx hby
  by_cases hnm : n = m
  · subst hnm
    have hq1 : ((n : Int) == n) = true := by simp
    have hq2 : ((n : Int) != n) = false := by simp
    have HX0 : Hid (Ext w w) := Ext.refl _
    go_enter Try.func42, Try.ntmps42
    go_wp2_with fail
    go_loopw [17] (fun iv wr => ∃ i : Nat, i ≤ n ∧ iv = .int .i64 i ∧ Hid (x.take i = y.take i) ∧ Hid (Ext w wr)) (fun iv _ => n - (intOf iv).toNat)
    case atStart => exact ⟨0, Nat.zero_le _, rfl, by show _ = _; simp, HX0⟩
    case round =>
      obtain ⟨i, hi, rfl, HT, HXr⟩ := hrel
      by_cases hlt : i < n
      · have hin : (i : Int) < (n : Int) := by omega
        have hi0 : (0 : Int) ≤ (i : Int) := by omega
        have hix : i < x.length := by rw [HN.out]; exact hlt
        have hiy : i < y.length := by rw [HM.out]; exact hlt
        obtain ⟨b1, off1, rfl, hb1, a1, k1, hc1, hs1⟩ := (HX.out.ext HXr.out).get i hix
        obtain ⟨b2, off2, rfl, hb2, a2, k2, hc2, hs2⟩ := (HY.out.ext HXr.out).get i hiy
        have HNE : Hid (eqBB x[i] y[i] = false → eqRR x y = false) := fun h => eqRR_at hix hiy h
        have HEQ : Hid (eqBB x[i] y[i] = true → x.take (i + 1) = y.take (i + 1)) := fun h => takeR_next hix hiy HT.out h
        have hl1 := HBX.out _ (List.getElem_mem hix)
        have hl2 := HBY.out _ (List.getElem_mem hiy)
        have HS1 := Lib.hid hs1
        have HS2 := Lib.hid hs2
        generalize x[i] = p at *
        generalize y[i] = q at *
        clear hs1 hs2
        go_wp2_with fail
        go_at_call 43
        refine (clo_any _ _ p q _ (by omega) (by omega) HS1.out HS2.out).mono ?_
        rintro e w2 ⟨rfl, hx2⟩
        have HX2 : Hid (Ext w w2) := HXr.out.trans hx2
        clear hx2
        cases hpq : eqBB p q with
        | true =>
          have HE := Lib.hid (HEQ.out hpq)
          clear hpq
          go_wp2_with fail
          go_roundw
          case rel => exact ⟨i + 1, by omega, by go_num, HE, HX2⟩
          case measure => simp [intOf]; omega
        | false =>
          have HF := Lib.hid (HNE.out hpq)
          clear hpq
          go_wp2_with fail
          go_ret
          exact ⟨by rw [HF.out]; rfl, HX2.out⟩
      · have hin : i = n := by omega
        subst hin
        have hin2 : ¬ ((i : Int) < (i : Int)) := by omega
        go_wp2_with fail
        go_ret
        exact ⟨by rw [eqRR_all (HN.out.trans HM.out.symm) (by rw [HN.out]; exact HT.out)]; rfl, HXr.out⟩
  · have hb1 : ((n : Int) == m) = false := by rw [beq_eq_false_iff_ne]; omega
    have hb2 : ((n : Int) != m) = true := by rw [bne, hb1]; rfl
    rw [eqRR_len (by rw [HN.out, HM.out]; exact hnm)]
    go_enter Try.func42, Try.ntmps42
    go_wp2_with fail
    go_ret
    exact ⟨rfl, Ext.refl _⟩
end Go.Proofs.Ythjcdikpomlpmaa

namespace Go.Proofs.Ythjcdikpomlpmaa
open Go.ChangeShapes Go.WideShapes Go.ChangeAt Go.RowKit
set_option linter.unusedVariables false

set_option maxRecDepth 100000 in
set_option maxHeartbeats 4000000 in
theorem decode_any (v : Value) (S : List (List (BitVec 8))) (w : World) (hS : S.length ≤ 60) (hl : ∀ l, l ∈ S → l.length ≤ 200) (h : RowsB w v S) :
    Calls Try.prog 22 #[v] w (DecEnd w (Lb.decT S)) := by
  obtain ⟨i0, hI, hI0, hI1, hI2⟩ := info_parts infoB
  obtain ⟨ad, cap, rfl, hcap⟩ := h.shape
  have HS := Lib.hid h
  have HLL := Lib.hid hl
  have HPP := Lib.hid part_parts
  obtain ⟨n, hn⟩ : ∃ n, S.length = n := ⟨_, rfl⟩
  have HN := Lib.hid hn
  rw [hn] at HS hS hcap ⊢
  have hbr : BoxAt (w.alloc (.cells (labA ⟨0#64, 0, 0#64, 0#64, Lb.cfgOf [], 0, 0#64, 0#64⟩ (.slice none 0 0)) 29)) w.heap.size (labA ⟨0#64, 0, 0#64, 0#64, Lb.cfgOf [], 0, 0#64, 0#64⟩ (.slice none 0 0)) 29 := BoxAt.new _ _ _
  have hxW : Ext w (w.alloc (.cells (labA ⟨0#64, 0, 0#64, 0#64, Lb.cfgOf [], 0, 0#64, 0#64⟩ (.slice none 0 0)) 29)) := Ext.alloc _ _
  clear h hl hn
  go_enter Try.func22, Try.ntmps22
  go_upto_region 1 with fail
  have HBR := Lib.hid hbr
  have HXW := Lib.hid hxW
  clear hbr hxW
  go_wp2_with fail
  obtain ⟨W, hW⟩ : ∃ W, w.alloc (.cells (labA ⟨0#64, 0, 0#64, 0#64, Lb.cfgOf [], 0, 0#64, 0#64⟩ (.slice none 0 0)) 29) = W := ⟨_, rfl⟩
  rw [hW] at HBR HXW
  go_loopw [4, 5, 6] (fun vt pt it wr => ∃ (i : Nat) (all : List (BitVec 8)) (pn : Int), (i : Int) ≤ pn ∧ 1 ≤ pn ∧ pn ≤ 6 ∧ it = .int .i64 i ∧ pt = .int .i64 pn ∧ i ≤ n ∧ all.length ≤ 200 * i ∧ Hid (Lb.joinT Lb.partT S i = some all) ∧ Hid (First Lb.partT S i pn) ∧ Hid (OwnG encB 5 wr W.heap.size vt all) ∧ Hid (Ext W wr)) (fun _ _ it _ => 7 - (intOf it).toNat)
  case atStart => exact ⟨0, [], 1, by decide, by decide, by decide, rfl, rfl, Nat.zero_le _, Nat.zero_le _, Lib.hid rfl, Lib.hid (.inl ⟨rfl, rfl⟩), Lib.hid OwnG.nil, by rw [← hW]; exact Lib.hid (Ext.refl _)⟩
  case round =>
    obtain ⟨i, all, pn, hip, hp1, hp6, rfl, rfl, hin, hal, HJ, HF, HO, HX⟩ := hrel
    clear hW
    by_cases hlt : (i : Int) < pn
    · have d1 : decide ((i : Int) < pn) = true := by rw [decide_eq_true_iff]; exact hlt
      by_cases hni : i < n
      · have d2 : decide ((n : Int) ≤ (i : Int)) = false := by rw [decide_eq_false_iff_not]; omega
        have d3 : decide (n ≤ i) = false := by rw [decide_eq_false_iff_not]; omega
        have hi0 : (0 : Int) ≤ (i : Int) := by omega
        have hinI : (i : Int) < (n : Int) := by omega
        have hiS : i < S.length := by rw [HN.out]; exact hni
        obtain ⟨b1, o1, rfl, hb1, a1, k1, hc1, hs1⟩ := (HS.out.ext (HXW.out.trans HX.out)).get i hiS
        have hlS := HLL.out _ (List.getElem_mem hiS)
        have HG : Hid (S[i]? = some S[i]) := List.getElem?_eq_getElem hiS
        have HS1 := Lib.hid hs1
        generalize S[i] = q at *
        clear hs1
        go_wp2_with fail
        go_at_call 40
        refine (part_any _ q _ (by omega) HS1.out).mono ?_
        rintro e w2 ⟨v2, n2, ok, rfl, hok, hd2, hx2⟩
        have HX2 : Hid (Ext W w2) := HX.out.trans hx2
        have HO2 := Lib.hid (HO.out.ext hx2)
        cases hpt : Lb.partT q with
        | none =>
          rw [hpt] at hok
          have hok' : ok = false := hok
          subst hok'
          have HST : Hid (Lb.decT S = none) := dec_stop HF.out hlt (by rw [HG.out]; exact hpt)
          clear hpt hd2 hx2 hok
          go_wp2_with (refine wpList_store_lab3 (l := lz) (d := .slice none 0 0) _ _ rfl (by rfl) rfl rfl (HBR.out.ext HX2.out) rfl rfl ?_; intro wf hgf hbf)
          have HXF := (HXW.out.trans HX2.out).grown hgf (HXW.out.trans HX2.out).size (fun q hq => by cases hq; exact Nat.le_refl _)
          refine bodyPost_ret (results_cell_tmp1 rfl _ _ rfl (lab_result hbf)) rfl ⟨.slice none 0 0, ?_, ?_, HXF⟩
          · rw [HST.out]; rfl
          · rw [HST.out]; exact SliceAt.nil
        | some dn =>
          obtain ⟨d, n3⟩ := dn
          rw [hpt] at hok
          have hok' : ok = true := hok
          subst hok'
          obtain ⟨hn3, hd3⟩ := hd2 (d, n3) hpt
          simp only at hn3 hd3
          subst hn3
          have hbd : (S[i]?).bind Lb.partT = some (d, n2) := by rw [HG.out]; exact hpt
          have HF2 := Lib.hid (first_next HF.out hbd)
          have HJ2 := Lib.hid (join_next HJ.out hbd)
          have hdl := HPP.out.len _ _ _ hpt
          have hn1 := HPP.out.lo _ _ _ hpt
          have hn6 := HPP.out.hi _ _ _ hpt
          have HD3 := Lib.hid hd3
          clear hpt hd2 hx2 hok hd3 hbd
          obtain ⟨va, ca, rfl⟩ := HO2.out.shape
          by_cases hi00 : i = 0
          · subst hi00
            rw [if_pos rfl] at HF2
            have e1 : ((0 : Nat) : Int) = 0 := rfl
            go_wp2_with (at_builtin; refine Classical.byContradiction (fun hN => ?_))
            refine hN ?_
            clear hN
            refine wpList_append_slice (enc := encB) (fun _ => rfl) rfl _ _ 35 rfl W.heap.size 5 i0 (.int .u8 0) 1 Try.underlying35 hI hI0 hI1 hI2 rfl _ _ _ rfl HO2.out _ d rfl HD3.out (by unfold maxLen; omega) (by omega) HX2.out.size ?_
            intro v5 w5 ho5 hg5
            have HX5 : Hid (Ext W w5) := HX2.out.grown hg5 HX2.out.size (fun q hq => (HO2.out.lt q hq).1)
            have HO5 := Lib.hid (OwnG.app (enc := encB) ho5)
            clear ho5 hg5
            go_wp2_with fail
            go_roundw
            case rel => exact ⟨1, all ++ d, n2, by omega, hn1, hn6, by go_num, rfl, by omega, by rw [List.length_append]; omega, HJ2, HF2, HO5, HX5⟩
            case measure => first | (simp [intOf]; done) | (simp [intOf]; omega)
          · rw [if_neg hi00] at HF2
            have e1 : ((i : Int) == 0) = false := by rw [beq_eq_false_iff_ne]; omega
            go_wp2_with (at_builtin; refine Classical.byContradiction (fun hN => ?_))
            refine hN ?_
            clear hN
            refine wpList_append_slice (enc := encB) (fun _ => rfl) rfl _ _ 35 rfl W.heap.size 5 i0 (.int .u8 0) 1 Try.underlying35 hI hI0 hI1 hI2 rfl _ _ _ rfl HO2.out _ d rfl HD3.out (by unfold maxLen; omega) (by omega) HX2.out.size ?_
            intro v5 w5 ho5 hg5
            have HX5 : Hid (Ext W w5) := HX2.out.grown hg5 HX2.out.size (fun q hq => (HO2.out.lt q hq).1)
            have HO5 := Lib.hid (OwnG.app (enc := encB) ho5)
            clear ho5 hg5
            go_wp2_with fail
            go_roundw
            case rel => exact ⟨i + 1, all ++ d, pn, by omega, hp1, hp6, by go_num, rfl, by omega, by rw [List.length_append]; omega, HJ2, HF2, HO5, HX5⟩
            case measure => simp [intOf]; omega
      · have d2 : decide ((n : Int) ≤ (i : Int)) = true := by rw [decide_eq_true_iff]; omega
        have d3 : decide (n ≤ i) = true := by rw [decide_eq_true_iff]; omega
        have HST : Hid (Lb.decT S = none) := dec_stop HF.out hlt (by rw [List.getElem?_eq_none (by rw [HN.out]; omega)]; rfl)
        go_wp2_with (refine wpList_store_lab3 (l := lz) (d := .slice none 0 0) _ _ rfl (by rfl) rfl rfl (HBR.out.ext HX.out) rfl rfl ?_; intro wf hgf hbf)
        have HXF := (HXW.out.trans HX.out).grown hgf (HXW.out.trans HX.out).size (fun q hq => by cases hq; exact Nat.le_refl _)
        refine bodyPost_ret (results_cell_tmp1 rfl _ _ rfl (lab_result hbf)) rfl ⟨.slice none 0 0, ?_, ?_, HXF⟩
        · rw [HST.out]; rfl
        · rw [HST.out]; exact SliceAt.nil
    · have d1 : decide ((i : Int) < pn) = false := by rw [decide_eq_false_iff_not]; exact hlt
      have hie : pn = (i : Int) := by omega
      subst hie
      have hi0 : 0 < i := by omega
      have HE : Hid (Lb.decT S = if (Lb.parseT all).2 = true ∧ Lb.encL (Lb.parseT all).1.1 (Lb.parseT all).1.2 = S.take i then some (Lb.parseT all).1 else none) := dec_end HF.out hi0 rfl HJ.out
      have HPV := Lib.hid (fun h => Lb.parse_valid (b := all) h)
      obtain ⟨va, ca, rfl⟩ := HO.out.shape
      have HSL := Lib.hid HO.out.slice
      have hal2 : all.length ≤ 12000 := by omega
      clear HF HJ HO
      go_wp2_with fail
      go_at_call 41
      refine (parse_any _ all _ hal2 HSL.out).mono ?_
      rintro e w3 ⟨dv, rfl, hdv, hx3⟩
      generalize Lb.parseT all = R at *
      obtain ⟨⟨L, x⟩, ok⟩ := R
      simp only at hdv HE HPV ⊢
      have HX3 : Hid (Ext W w3) := HX.out.trans hx3
      obtain ⟨da, dc, rfl⟩ := hdv.shape
      have HDV := Lib.hid hdv
      clear hdv hx3 HSL
      go_upto_region 15 with (refine wpList_store_lab3 (l := L) (d := .slice da x.length dc) _ _ rfl (by rfl) rfl rfl (BoxAt.new _ _ _) rfl rfl ?_; intro w4 hg4 hb4)
      have hx4 : Ext w3 w4 := (Ext.alloc _ _).grown hg4 (Ext.alloc _ _).size (fun q hq => by cases hq; exact Nat.le_refl _)
      have HX4 : Hid (Ext W w4) := HX3.out.trans hx4
      have HB4 := Lib.hid hb4
      have HDV4 := Lib.hid (HDV.out.ext hx4)
      clear hg4 hb4 hx4 HDV
      generalize w3.heap.size = lb at *
      cases ok with
      | false =>
        have HST : Hid (Lb.decT S = none) := by show _ = _; rw [HE.out, if_neg (by simp)]
        go_wp2_with (refine wpList_store_lab3 (l := lz) (d := .slice none 0 0) _ _ rfl (by rfl) rfl rfl (HBR.out.ext HX4.out) rfl rfl ?_; intro wf hgf hbf)
        have HXF := (HXW.out.trans HX4.out).grown hgf (HXW.out.trans HX4.out).size (fun q hq => by cases hq; exact Nat.le_refl _)
        refine bodyPost_ret (results_cell_tmp1 rfl _ _ rfl (lab_result hbf)) rfl ⟨.slice none 0 0, ?_, ?_, HXF⟩
        · rw [HST.out]; rfl
        · rw [HST.out]; exact SliceAt.nil
      | true =>
        have hv := HPV.out rfl
        have hF := Lb.fine_of hv
        have hxl := hF.len
        have hel := Lb.enc_len hF
        have HER : Hid (encR L x = Lb.encL L x) := by show _ = _; unfold encR; rw [if_pos hv]
        have HEB : Hid (∀ l, l ∈ Lb.encL L x → l.length ≤ 1000) := fun l hl => by
          unfold Lb.encL Lb.cutL at hl
          obtain ⟨j, hj, rfl⟩ := List.mem_map.1 hl
          have := Lb.sector_len hF (List.mem_range.1 hj)
          omega
        clear hv hF HPV
        go_wp2_with (refine wpList_loadR 29 _ rfl (by rfl) rfl (LabAt.of_box HB4.out).load ?_)
        go_at_call 11
        refine (encode_any L (.slice da x.length dc) x _ (by omega) HDV4.out).mono ?_
        rintro e w5 ⟨ev, rfl, hev, hx5⟩
        rw [HER.out] at hev
        have HX5 : Hid (Ext W w5) := HX4.out.trans hx5
        have HB5 := Lib.hid (HB4.out.ext hx5)
        have HDV5 := Lib.hid (HDV4.out.ext hx5)
        have HEV := Lib.hid hev.rows
        obtain ⟨ea, ec, rfl⟩ := hev.shape
        have HTK := Lib.hid ((HS.out.ext (HXW.out.trans HX5.out)).take i hin)
        generalize Lb.encL L x = EL at *
        have hiI : (i : Int) ≤ (cap : Int) := by omega
        have hi00 : (0 : Int) ≤ (i : Int) := by omega
        clear hev hx5 HB4 HDV4
        go_wp2_with fail
        go_at_call 42
        refine (eqfun_any _ _ EL (S.take i) _ (by omega) (by rw [List.length_take, HN.out]; omega) HEB.out (fun l hl => Nat.le_trans (HLL.out l (List.mem_of_mem_take hl)) (by decide)) HEV.out HTK.out).mono ?_
        rintro e w6 ⟨rfl, hx6⟩
        have HX6 : Hid (Ext W w6) := HX5.out.trans hx6
        have HB6 := Lib.hid (HB5.out.ext hx6)
        have HDV6 := Lib.hid (HDV5.out.ext hx6)
        clear hx6 HB5 HDV5
        cases hq : eqRR EL (S.take i) with
        | false =>
          have HST : Hid (Lb.decT S = none) := by show _ = _; rw [HE.out, if_neg (fun h => by have := of_decide_eq_false hq; exact this h.2)]
          clear hq
          go_wp2_with (refine wpList_store_lab3 (l := lz) (d := .slice none 0 0) _ _ rfl (by rfl) rfl rfl (HBR.out.ext HX6.out) rfl rfl ?_; intro wf hgf hbf)
          have HXF := (HXW.out.trans HX6.out).grown hgf (HXW.out.trans HX6.out).size (fun q hq => by cases hq; exact Nat.le_refl _)
          refine bodyPost_ret (results_cell_tmp1 rfl _ _ rfl (lab_result hbf)) rfl ⟨.slice none 0 0, ?_, ?_, HXF⟩
          · rw [HST.out]; rfl
          · rw [HST.out]; exact SliceAt.nil
        | true =>
          have HST : Hid (Lb.decT S = some (L, x)) := by show _ = _; rw [HE.out, if_pos ⟨by trivial, of_decide_eq_true hq⟩]
          clear hq
          go_wp2_with (first | (refine wpList_loadR 29 _ rfl (by rfl) rfl (LabAt.of_box HB6.out).load ?_) | (refine wpList_store_lab3 (l := L) (d := .slice da x.length dc) _ _ rfl (by rfl) rfl rfl (HBR.out.ext HX6.out) rfl rfl ?_; intro wf hgf hbf))
          have HXF := (HXW.out.trans HX6.out).grown hgf (HXW.out.trans HX6.out).size (fun q hq => by cases hq; exact Nat.le_refl _)
          refine bodyPost_ret (results_cell_tmp1 rfl _ _ rfl (lab_result hbf)) rfl ⟨.slice da x.length dc, ?_, ?_, HXF⟩
          · rw [HST.out]; rfl
          · rw [HST.out]
            exact HDV6.out.turnV (lab_nbv (HBR.out.ext HX6.out)) hgf
end Go.Proofs.Ythjcdikpomlpmaa

namespace Go.Proofs.Ythjcdikpomlpmaa
open Go.ChangeShapes Go.WideShapes Go.ChangeAt Go.RowKit
set_option linter.unusedVariables false

set_option maxRecDepth 100000 in
set_option maxHeartbeats 4000000 in
theorem rdecode_any (v : Value) (S : List (List (BitVec 8))) (w : World) (hS : S.length ≤ 60) (hl : ∀ l, l ∈ S → l.length ≤ 200) (h : RowsB w v S) :
    Calls Try.prog 23 #[v] w (DecEnd w (Lb.rdecT S)) := by
  obtain ⟨i0, hI, hI0, hI1, hI2⟩ := info_parts infoB
  obtain ⟨ad, cap, rfl, hcap⟩ := h.shape
  have HS := Lib.hid h
  have HLL := Lib.hid hl
  have HPP := Lib.hid chunk_parts
  obtain ⟨n, hn⟩ : ∃ n, S.length = n := ⟨_, rfl⟩
  have HN := Lib.hid hn
  rw [hn] at HS hS hcap ⊢
  have hbr : BoxAt (w.alloc (.cells (labA ⟨0#64, 0, 0#64, 0#64, Lb.cfgOf [], 0, 0#64, 0#64⟩ (.slice none 0 0)) 29)) w.heap.size (labA ⟨0#64, 0, 0#64, 0#64, Lb.cfgOf [], 0, 0#64, 0#64⟩ (.slice none 0 0)) 29 := BoxAt.new _ _ _
  have hxW : Ext w (w.alloc (.cells (labA ⟨0#64, 0, 0#64, 0#64, Lb.cfgOf [], 0, 0#64, 0#64⟩ (.slice none 0 0)) 29)) := Ext.alloc _ _
  clear h hl hn
  go_enter Try.func23, Try.ntmps23
  go_upto_region 1 with fail
  have HBR := Lib.hid hbr
  have HXW := Lib.hid hxW
  clear hbr hxW
  go_wp2_with fail
  obtain ⟨W, hW⟩ : ∃ W, w.alloc (.cells (labA ⟨0#64, 0, 0#64, 0#64, Lb.cfgOf [], 0, 0#64, 0#64⟩ (.slice none 0 0)) 29) = W := ⟨_, rfl⟩
  rw [hW] at HBR HXW
  go_loopw [4, 5, 6] (fun vt pt it wr => ∃ (i : Nat) (all : List (BitVec 8)) (pn : Int), (i : Int) ≤ pn ∧ 1 ≤ pn ∧ pn ≤ 100 ∧ it = .int .i64 i ∧ pt = .int .i64 pn ∧ i ≤ n ∧ all.length ≤ 200 * i ∧ Hid (Lb.joinT Lb.chunkT S i = some all) ∧ Hid (First Lb.chunkT S i pn) ∧ Hid (OwnG encB 5 wr W.heap.size vt all) ∧ Hid (Ext W wr)) (fun _ _ it _ => 101 - (intOf it).toNat)
  case atStart => exact ⟨0, [], 1, by decide, by decide, by decide, rfl, rfl, Nat.zero_le _, Nat.zero_le _, Lib.hid rfl, Lib.hid (.inl ⟨rfl, rfl⟩), Lib.hid OwnG.nil, by rw [← hW]; exact Lib.hid (Ext.refl _)⟩
  case round =>
    obtain ⟨i, all, pn, hip, hp1, hp6, rfl, rfl, hin, hal, HJ, HF, HO, HX⟩ := hrel
    clear hW
    by_cases hlt : (i : Int) < pn
    · have d1 : decide ((i : Int) < pn) = true := by rw [decide_eq_true_iff]; exact hlt
      by_cases hni : i < n
      · have d2 : decide ((n : Int) ≤ (i : Int)) = false := by rw [decide_eq_false_iff_not]; omega
        have d3 : decide (n ≤ i) = false := by rw [decide_eq_false_iff_not]; omega
        have hi0 : (0 : Int) ≤ (i : Int) := by omega
        have hinI : (i : Int) < (n : Int) := by omega
        have hiS : i < S.length := by rw [HN.out]; exact hni
        obtain ⟨b1, o1, rfl, hb1, a1, k1, hc1, hs1⟩ := (HS.out.ext (HXW.out.trans HX.out)).get i hiS
        have hlS := HLL.out _ (List.getElem_mem hiS)
        have HG : Hid (S[i]? = some S[i]) := List.getElem?_eq_getElem hiS
        have HS1 := Lib.hid hs1
        generalize S[i] = q at *
        clear hs1
        go_wp2_with fail
        go_at_call 45
        refine (rchunk_any _ q _ (by omega) HS1.out).mono ?_
        rintro e w2 ⟨v2, n2, ok, rfl, hok, hd2, hx2⟩
        have HX2 : Hid (Ext W w2) := HX.out.trans hx2
        have HO2 := Lib.hid (HO.out.ext hx2)
        cases hpt : Lb.chunkT q with
        | none =>
          rw [hpt] at hok
          have hok' : ok = false := hok
          subst hok'
          have HST : Hid (Lb.rdecT S = none) := dec_stop HF.out hlt (by rw [HG.out]; exact hpt)
          clear hpt hd2 hx2 hok
          go_wp2_with (refine wpList_store_lab3 (l := lz) (d := .slice none 0 0) _ _ rfl (by rfl) rfl rfl (HBR.out.ext HX2.out) rfl rfl ?_; intro wf hgf hbf)
          have HXF := (HXW.out.trans HX2.out).grown hgf (HXW.out.trans HX2.out).size (fun q hq => by cases hq; exact Nat.le_refl _)
          refine bodyPost_ret (results_cell_tmp1 rfl _ _ rfl (lab_result hbf)) rfl ⟨.slice none 0 0, ?_, ?_, HXF⟩
          · rw [HST.out]; rfl
          · rw [HST.out]; exact SliceAt.nil
        | some dn =>
          obtain ⟨d, n3⟩ := dn
          rw [hpt] at hok
          have hok' : ok = true := hok
          subst hok'
          obtain ⟨hn3, hd3⟩ := hd2 (d, n3) hpt
          simp only at hn3 hd3
          subst hn3
          have hbd : (S[i]?).bind Lb.chunkT = some (d, n2) := by rw [HG.out]; exact hpt
          have HF2 := Lib.hid (first_next HF.out hbd)
          have HJ2 := Lib.hid (join_next HJ.out hbd)
          have hdl := HPP.out.len _ _ _ hpt
          have hn1 := HPP.out.lo _ _ _ hpt
          have hn6 := HPP.out.hi _ _ _ hpt
          have HD3 := Lib.hid hd3
          clear hpt hd2 hx2 hok hd3 hbd
          obtain ⟨va, ca, rfl⟩ := HO2.out.shape
          by_cases hi00 : i = 0
          · subst hi00
            rw [if_pos rfl] at HF2
            have e1 : ((0 : Nat) : Int) = 0 := rfl
            go_wp2_with (at_builtin; refine Classical.byContradiction (fun hN => ?_))
            refine hN ?_
            clear hN
            refine wpList_append_slice (enc := encB) (fun _ => rfl) rfl _ _ 35 rfl W.heap.size 5 i0 (.int .u8 0) 1 Try.underlying35 hI hI0 hI1 hI2 rfl _ _ _ rfl HO2.out _ d rfl HD3.out (by unfold maxLen; omega) (by omega) HX2.out.size ?_
            intro v5 w5 ho5 hg5
            have HX5 : Hid (Ext W w5) := HX2.out.grown hg5 HX2.out.size (fun q hq => (HO2.out.lt q hq).1)
            have HO5 := Lib.hid (OwnG.app (enc := encB) ho5)
            clear ho5 hg5
            go_wp2_with fail
            go_roundw
            case rel => exact ⟨1, all ++ d, n2, by omega, hn1, hn6, by go_num, rfl, by omega, by rw [List.length_append]; omega, HJ2, HF2, HO5, HX5⟩
            case measure => first | (simp [intOf]; done) | (simp [intOf]; omega)
          · rw [if_neg hi00] at HF2
            have e1 : ((i : Int) == 0) = false := by rw [beq_eq_false_iff_ne]; omega
            go_wp2_with (at_builtin; refine Classical.byContradiction (fun hN => ?_))
            refine hN ?_
            clear hN
            refine wpList_append_slice (enc := encB) (fun _ => rfl) rfl _ _ 35 rfl W.heap.size 5 i0 (.int .u8 0) 1 Try.underlying35 hI hI0 hI1 hI2 rfl _ _ _ rfl HO2.out _ d rfl HD3.out (by unfold maxLen; omega) (by omega) HX2.out.size ?_
            intro v5 w5 ho5 hg5
            have HX5 : Hid (Ext W w5) := HX2.out.grown hg5 HX2.out.size (fun q hq => (HO2.out.lt q hq).1)
            have HO5 := Lib.hid (OwnG.app (enc := encB) ho5)
            clear ho5 hg5
            go_wp2_with fail
            go_roundw
            case rel => exact ⟨i + 1, all ++ d, pn, by omega, hp1, hp6, by go_num, rfl, by omega, by rw [List.length_append]; omega, HJ2, HF2, HO5, HX5⟩
            case measure => simp [intOf]; omega
      · have d2 : decide ((n : Int) ≤ (i : Int)) = true := by rw [decide_eq_true_iff]; omega
        have d3 : decide (n ≤ i) = true := by rw [decide_eq_true_iff]; omega
        have HST : Hid (Lb.rdecT S = none) := dec_stop HF.out hlt (by rw [List.getElem?_eq_none (by rw [HN.out]; omega)]; rfl)
        go_wp2_with (refine wpList_store_lab3 (l := lz) (d := .slice none 0 0) _ _ rfl (by rfl) rfl rfl (HBR.out.ext HX.out) rfl rfl ?_; intro wf hgf hbf)
        have HXF := (HXW.out.trans HX.out).grown hgf (HXW.out.trans HX.out).size (fun q hq => by cases hq; exact Nat.le_refl _)
        refine bodyPost_ret (results_cell_tmp1 rfl _ _ rfl (lab_result hbf)) rfl ⟨.slice none 0 0, ?_, ?_, HXF⟩
        · rw [HST.out]; rfl
        · rw [HST.out]; exact SliceAt.nil
    · have d1 : decide ((i : Int) < pn) = false := by rw [decide_eq_false_iff_not]; exact hlt
      have hie : pn = (i : Int) := by omega
      subst hie
      have hi0 : 0 < i := by omega
      have HE : Hid (Lb.rdecT S = if (Lb.readT all).2 = true ∧ Lb.encL (Lb.readT all).1.1 (Lb.readT all).1.2 = S.take i then some (Lb.readT all).1 else none) := dec_end HF.out hi0 rfl HJ.out
      have HPV := Lib.hid (fun h => Lb.read_valid (b := all) h)
      obtain ⟨va, ca, rfl⟩ := HO.out.shape
      have HSL := Lib.hid HO.out.slice
      have hal2 : all.length ≤ 12000 := by omega
      clear HF HJ HO
      go_wp2_with fail
      go_at_call 46
      refine (rread_any _ all _ hal2 HSL.out).mono ?_
      rintro e w3 ⟨dv, rfl, hdv, hx3⟩
      generalize Lb.readT all = R at *
      obtain ⟨⟨L, x⟩, ok⟩ := R
      simp only at hdv HE HPV ⊢
      have HX3 : Hid (Ext W w3) := HX.out.trans hx3
      obtain ⟨da, dc, rfl⟩ := hdv.shape
      have HDV := Lib.hid hdv
      clear hdv hx3 HSL
      go_upto_region 15 with (refine wpList_store_lab3 (l := L) (d := .slice da x.length dc) _ _ rfl (by rfl) rfl rfl (BoxAt.new _ _ _) rfl rfl ?_; intro w4 hg4 hb4)
      have hx4 : Ext w3 w4 := (Ext.alloc _ _).grown hg4 (Ext.alloc _ _).size (fun q hq => by cases hq; exact Nat.le_refl _)
      have HX4 : Hid (Ext W w4) := HX3.out.trans hx4
      have HB4 := Lib.hid hb4
      have HDV4 := Lib.hid (HDV.out.ext hx4)
      clear hg4 hb4 hx4 HDV
      generalize w3.heap.size = lb at *
      cases ok with
      | false =>
        have HST : Hid (Lb.rdecT S = none) := by show _ = _; rw [HE.out, if_neg (by simp)]
        go_wp2_with (refine wpList_store_lab3 (l := lz) (d := .slice none 0 0) _ _ rfl (by rfl) rfl rfl (HBR.out.ext HX4.out) rfl rfl ?_; intro wf hgf hbf)
        have HXF := (HXW.out.trans HX4.out).grown hgf (HXW.out.trans HX4.out).size (fun q hq => by cases hq; exact Nat.le_refl _)
        refine bodyPost_ret (results_cell_tmp1 rfl _ _ rfl (lab_result hbf)) rfl ⟨.slice none 0 0, ?_, ?_, HXF⟩
        · rw [HST.out]; rfl
        · rw [HST.out]; exact SliceAt.nil
      | true =>
        have hv := HPV.out rfl
        have hF := Lb.fine_of hv
        have hxl := hF.len
        have hel := Lb.enc_len hF
        have HER : Hid (encR L x = Lb.encL L x) := by show _ = _; unfold encR; rw [if_pos hv]
        have HEB : Hid (∀ l, l ∈ Lb.encL L x → l.length ≤ 1000) := fun l hl => by
          unfold Lb.encL Lb.cutL at hl
          obtain ⟨j, hj, rfl⟩ := List.mem_map.1 hl
          have := Lb.sector_len hF (List.mem_range.1 hj)
          omega
        clear hv hF HPV
        go_wp2_with (refine wpList_loadR 29 _ rfl (by rfl) rfl (LabAt.of_box HB4.out).load ?_)
        go_at_call 12
        refine (rencode_any L (.slice da x.length dc) x _ (by omega) HDV4.out).mono ?_
        rintro e w5 ⟨ev, rfl, hev, hx5⟩
        rw [HER.out] at hev
        have HX5 : Hid (Ext W w5) := HX4.out.trans hx5
        have HB5 := Lib.hid (HB4.out.ext hx5)
        have HDV5 := Lib.hid (HDV4.out.ext hx5)
        have HEV := Lib.hid hev.rows
        obtain ⟨ea, ec, rfl⟩ := hev.shape
        generalize Lb.encL L x = EL at *
        obtain ⟨m, hm⟩ : ∃ m, EL.length = m := ⟨_, rfl⟩
        have HM := Lib.hid hm
        rw [hm] at hel HEV ⊢
        clear hev hx5 HB4 HDV4 hm
        have hLT : (S.take i).length = i := by rw [List.length_take, HN.out]; omega
        by_cases hmi : m = i
        · subst hmi
          have q1 : ((m : Int) == (m : Int)) = true := by simp
          have q2 : ((m : Int) != (m : Int)) = false := by simp
          have HLT := Lib.hid hLT
          clear hLT
          go_wp2_with fail
          clear q1 q2
          go_loopw [14] (fun it wr => ∃ j : Nat, j ≤ m ∧ it = .int .i64 j ∧ Hid (EL.take j = (S.take m).take j) ∧ Hid (Ext w5 wr)) (fun it _ => m - (intOf it).toNat)
          case atStart => exact ⟨0, Nat.zero_le _, rfl, by show _ = _; simp, Lib.hid (Ext.refl _)⟩
          case round =>
            obtain ⟨j, hj, rfl, HT, HXr⟩ := hrel
            by_cases hjm : j < m
            · have d1 : decide ((j : Int) < (m : Int)) = true := by rw [decide_eq_true_iff]; omega
              have d2 : decide (j < m) = true := by rw [decide_eq_true_iff]; omega
              have hj0 : (0 : Int) ≤ (j : Int) := by omega
              have hjI : (j : Int) < (m : Int) := by omega
              have hjn : (j : Int) < (n : Int) := by omega
              have hjE : j < EL.length := by rw [HM.out]; exact hjm
              have hjT : j < (S.take m).length := by rw [HLT.out]; exact hjm
              have hjS : j < S.length := by rw [HN.out]; omega
              obtain ⟨b6, o6, rfl, hb6, a6, k6, hc6, hs6⟩ := (HEV.out.ext HXr.out).get j hjE
              obtain ⟨b7, o7, rfl, hb7, a7, k7, hc7, hs7⟩ := ((HS.out.ext (HXW.out.trans HX5.out)).ext HXr.out).get j hjS
              have hTS : (S.take m)[j] = S[j] := List.getElem_take
              have HNE : Hid (eqBB EL[j] S[j] = false → eqRR EL (S.take m) = false) := fun h => eqRR_at hjE hjT (by rw [hTS]; exact h)
              have HEQ : Hid (eqBB EL[j] S[j] = true → EL.take (j + 1) = (S.take m).take (j + 1)) := fun h => takeR_next hjE hjT HT.out (by rw [hTS]; exact h)
              have HS6 := Lib.hid hs6
              have HS7 := Lib.hid hs7
              clear hTS
              generalize EL[j] = p at *
              generalize S[j] = q at *
              clear hs6 hs7
              have HSE := Lib.hid (eq_strB p q)
              have HSN := Lib.hid (ne_strB p q)
              cases hq : eqBB p q with
              | true =>
                have HE2 := Lib.hid (HEQ.out hq)
                have e1 : ((strB p).toList == (strB q).toList) = true := HSE.out.trans hq
                have e2 : ((strB p).toList != (strB q).toList) = false := by rw [HSN.out, hq]; rfl
                clear hq
                go_wp2_with fail
                refine wp_region_ext [(0, true), (1, true), (2, true), (3, true), (4, true), (5, true), (6, true), (7, true), (8, true), (9, true), (10, true)] (by kernel_rfl) (by kernel_rfl) ?_
                iterate 4 (first
                 | (refine ext_move rfl rfl (by rfl) (by rfl) ?_; simp only [Act.put, List.setIfInBounds_toArray, List.set_cons_zero, List.set_cons_succ])
                 | (refine ext_assign rfl rfl (by rfl) (by rfl) ?_; simp only [Act.put, List.setIfInBounds_toArray, List.set_cons_zero, List.set_cons_succ])
                 | (refine ext_pick_t rfl rfl (by rfl) (by rfl) (by rfl) ?_; simp only [Act.put, List.setIfInBounds_toArray, List.set_cons_zero, List.set_cons_succ])
                 | (refine ext_pick_f rfl rfl (by rfl) (by rfl) (by rfl) ?_; simp only [Act.put, List.setIfInBounds_toArray, List.set_cons_zero, List.set_cons_succ])
                 | (apply ext_take rfl (by rfl)
                    · intro w' hS
                      have hSc := hS.cells
                      (try simp only [World.size_drew, World.cell?_drew] at hSc)
                      go_simp
                      (try simp (disch := omega) only [i64_id, u64_id, ↓IntWalk.iteOmega, Int.tdiv_eq_ediv_of_nonneg, Int.tmod_eq_emod_of_nonneg])
                      try rfl
                    simp only [Act.put, List.setIfInBounds_toArray, List.set_cons_zero, List.set_cons_succ])
                 | (refine ext_pass rfl (by rfl) ?_; simp only [Act.put, List.setIfInBounds_toArray, List.set_cons_zero, List.set_cons_succ]))
                (apply ext_take rfl (by rfl)
                 · intro w' hS
                   have hcv := run_str (P := Try.prog) Try.underlying35 Try.underlying5 Try.underlying9 w' _ _ (SliceAt.ext HS6.out hS)
                   go_simp
                   try rfl
                 simp only [Act.put, List.setIfInBounds_toArray, List.set_cons_zero, List.set_cons_succ])
                iterate 4 (first
                 | (refine ext_move rfl rfl (by rfl) (by rfl) ?_; simp only [Act.put, List.setIfInBounds_toArray, List.set_cons_zero, List.set_cons_succ])
                 | (refine ext_assign rfl rfl (by rfl) (by rfl) ?_; simp only [Act.put, List.setIfInBounds_toArray, List.set_cons_zero, List.set_cons_succ])
                 | (refine ext_pick_t rfl rfl (by rfl) (by rfl) (by rfl) ?_; simp only [Act.put, List.setIfInBounds_toArray, List.set_cons_zero, List.set_cons_succ])
                 | (refine ext_pick_f rfl rfl (by rfl) (by rfl) (by rfl) ?_; simp only [Act.put, List.setIfInBounds_toArray, List.set_cons_zero, List.set_cons_succ])
                 | (apply ext_take rfl (by rfl)
                    · intro w' hS
                      have hSc := hS.cells
                      (try simp only [World.size_drew, World.cell?_drew] at hSc)
                      go_simp
                      (try simp (disch := omega) only [i64_id, u64_id, ↓IntWalk.iteOmega, Int.tdiv_eq_ediv_of_nonneg, Int.tmod_eq_emod_of_nonneg])
                      try rfl
                    simp only [Act.put, List.setIfInBounds_toArray, List.set_cons_zero, List.set_cons_succ])
                 | (refine ext_pass rfl (by rfl) ?_; simp only [Act.put, List.setIfInBounds_toArray, List.set_cons_zero, List.set_cons_succ]))
                (apply ext_take rfl (by rfl)
                 · intro w' hS
                   have hcv := run_str (P := Try.prog) Try.underlying35 Try.underlying5 Try.underlying9 w' _ _ (SliceAt.ext HS7.out hS)
                   go_simp
                   try rfl
                 simp only [Act.put, List.setIfInBounds_toArray, List.set_cons_zero, List.set_cons_succ])
                iterate 1 (first
                 | (refine ext_move rfl rfl (by rfl) (by rfl) ?_; simp only [Act.put, List.setIfInBounds_toArray, List.set_cons_zero, List.set_cons_succ])
                 | (refine ext_assign rfl rfl (by rfl) (by rfl) ?_; simp only [Act.put, List.setIfInBounds_toArray, List.set_cons_zero, List.set_cons_succ])
                 | (refine ext_pick_t rfl rfl (by rfl) (by rfl) (by rfl) ?_; simp only [Act.put, List.setIfInBounds_toArray, List.set_cons_zero, List.set_cons_succ])
                 | (refine ext_pick_f rfl rfl (by rfl) (by rfl) (by rfl) ?_; simp only [Act.put, List.setIfInBounds_toArray, List.set_cons_zero, List.set_cons_succ])
                 | (apply ext_take rfl (by rfl)
                    · intro w' hS
                      have hSc := hS.cells
                      (try simp only [World.size_drew, World.cell?_drew] at hSc)
                      go_simp
                      (try simp (disch := omega) only [i64_id, u64_id, ↓IntWalk.iteOmega, Int.tdiv_eq_ediv_of_nonneg, Int.tmod_eq_emod_of_nonneg])
                      try rfl
                    simp only [Act.put, List.setIfInBounds_toArray, List.set_cons_zero, List.set_cons_succ])
                 | (refine ext_pass rfl (by rfl) ?_; simp only [Act.put, List.setIfInBounds_toArray, List.set_cons_zero, List.set_cons_succ]))
                refine ext_nil ?_
                go_wp2_with fail
                go_roundw
                case rel => exact ⟨j + 1, by omega, by go_num, HE2, Lib.hid (HXr.out.trans (Ext.drew _))⟩
                case measure => simp [intOf]; omega
              | false =>
                have HF2 := HNE.out hq
                have HST : Hid (Lb.rdecT S = none) := by show _ = _; rw [HE.out, if_neg (fun h => by have := of_decide_eq_false HF2; exact this h.2)]
                have e1 : ((strB p).toList == (strB q).toList) = false := HSE.out.trans hq
                have e2 : ((strB p).toList != (strB q).toList) = true := by rw [HSN.out, hq]; rfl
                have HXD : Hid (Ext W wr.drew) := HX5.out.trans (HXr.out.trans (Ext.drew _))
                clear hq HF2
                go_wp2_with fail
                refine wp_region_ext [(0, true), (1, true), (2, true), (3, true), (4, true), (5, true), (6, true), (7, true), (8, true), (9, true), (10, true)] (by kernel_rfl) (by kernel_rfl) ?_
                iterate 4 (first
                 | (refine ext_move rfl rfl (by rfl) (by rfl) ?_; simp only [Act.put, List.setIfInBounds_toArray, List.set_cons_zero, List.set_cons_succ])
                 | (refine ext_assign rfl rfl (by rfl) (by rfl) ?_; simp only [Act.put, List.setIfInBounds_toArray, List.set_cons_zero, List.set_cons_succ])
                 | (refine ext_pick_t rfl rfl (by rfl) (by rfl) (by rfl) ?_; simp only [Act.put, List.setIfInBounds_toArray, List.set_cons_zero, List.set_cons_succ])
                 | (refine ext_pick_f rfl rfl (by rfl) (by rfl) (by rfl) ?_; simp only [Act.put, List.setIfInBounds_toArray, List.set_cons_zero, List.set_cons_succ])
                 | (apply ext_take rfl (by rfl)
                    · intro w' hS
                      have hSc := hS.cells
                      (try simp only [World.size_drew, World.cell?_drew] at hSc)
                      go_simp
                      (try simp (disch := omega) only [i64_id, u64_id, ↓IntWalk.iteOmega, Int.tdiv_eq_ediv_of_nonneg, Int.tmod_eq_emod_of_nonneg])
                      try rfl
                    simp only [Act.put, List.setIfInBounds_toArray, List.set_cons_zero, List.set_cons_succ])
                 | (refine ext_pass rfl (by rfl) ?_; simp only [Act.put, List.setIfInBounds_toArray, List.set_cons_zero, List.set_cons_succ]))
                (apply ext_take rfl (by rfl)
                 · intro w' hS
                   have hcv := run_str (P := Try.prog) Try.underlying35 Try.underlying5 Try.underlying9 w' _ _ (SliceAt.ext HS6.out hS)
                   go_simp
                   try rfl
                 simp only [Act.put, List.setIfInBounds_toArray, List.set_cons_zero, List.set_cons_succ])
                iterate 4 (first
                 | (refine ext_move rfl rfl (by rfl) (by rfl) ?_; simp only [Act.put, List.setIfInBounds_toArray, List.set_cons_zero, List.set_cons_succ])
                 | (refine ext_assign rfl rfl (by rfl) (by rfl) ?_; simp only [Act.put, List.setIfInBounds_toArray, List.set_cons_zero, List.set_cons_succ])
                 | (refine ext_pick_t rfl rfl (by rfl) (by rfl) (by rfl) ?_; simp only [Act.put, List.setIfInBounds_toArray, List.set_cons_zero, List.set_cons_succ])
                 | (refine ext_pick_f rfl rfl (by rfl) (by rfl) (by rfl) ?_; simp only [Act.put, List.setIfInBounds_toArray, List.set_cons_zero, List.set_cons_succ])
                 | (apply ext_take rfl (by rfl)
                    · intro w' hS
                      have hSc := hS.cells
                      (try simp only [World.size_drew, World.cell?_drew] at hSc)
                      go_simp
                      (try simp (disch := omega) only [i64_id, u64_id, ↓IntWalk.iteOmega, Int.tdiv_eq_ediv_of_nonneg, Int.tmod_eq_emod_of_nonneg])
                      try rfl
                    simp only [Act.put, List.setIfInBounds_toArray, List.set_cons_zero, List.set_cons_succ])
                 | (refine ext_pass rfl (by rfl) ?_; simp only [Act.put, List.setIfInBounds_toArray, List.set_cons_zero, List.set_cons_succ]))
                (apply ext_take rfl (by rfl)
                 · intro w' hS
                   have hcv := run_str (P := Try.prog) Try.underlying35 Try.underlying5 Try.underlying9 w' _ _ (SliceAt.ext HS7.out hS)
                   go_simp
                   try rfl
                 simp only [Act.put, List.setIfInBounds_toArray, List.set_cons_zero, List.set_cons_succ])
                iterate 1 (first
                 | (refine ext_move rfl rfl (by rfl) (by rfl) ?_; simp only [Act.put, List.setIfInBounds_toArray, List.set_cons_zero, List.set_cons_succ])
                 | (refine ext_assign rfl rfl (by rfl) (by rfl) ?_; simp only [Act.put, List.setIfInBounds_toArray, List.set_cons_zero, List.set_cons_succ])
                 | (refine ext_pick_t rfl rfl (by rfl) (by rfl) (by rfl) ?_; simp only [Act.put, List.setIfInBounds_toArray, List.set_cons_zero, List.set_cons_succ])
                 | (refine ext_pick_f rfl rfl (by rfl) (by rfl) (by rfl) ?_; simp only [Act.put, List.setIfInBounds_toArray, List.set_cons_zero, List.set_cons_succ])
                 | (apply ext_take rfl (by rfl)
                    · intro w' hS
                      have hSc := hS.cells
                      (try simp only [World.size_drew, World.cell?_drew] at hSc)
                      go_simp
                      (try simp (disch := omega) only [i64_id, u64_id, ↓IntWalk.iteOmega, Int.tdiv_eq_ediv_of_nonneg, Int.tmod_eq_emod_of_nonneg])
                      try rfl
                    simp only [Act.put, List.setIfInBounds_toArray, List.set_cons_zero, List.set_cons_succ])
                 | (refine ext_pass rfl (by rfl) ?_; simp only [Act.put, List.setIfInBounds_toArray, List.set_cons_zero, List.set_cons_succ]))
                refine ext_nil ?_
                go_wp2_with (refine wpList_store_lab3 (l := lz) (d := .slice none 0 0) _ _ rfl (by rfl) rfl rfl (HBR.out.ext HXD.out) rfl rfl ?_; intro wf hgf hbf)
                have HXF := (HXW.out.trans HXD.out).grown hgf (HXW.out.trans HXD.out).size (fun q hq => by cases hq; exact Nat.le_refl _)
                refine bodyPost_ret (results_cell_tmp1 rfl _ _ rfl (lab_result hbf)) rfl ⟨.slice none 0 0, ?_, ?_, HXF⟩
                · rw [HST.out]; rfl
                · rw [HST.out]; exact SliceAt.nil
            · have hje : m = j := by omega
              subst hje
              have d1 : decide ((m : Int) < (m : Int)) = false := by rw [decide_eq_false_iff_not]; omega
              have hq : EL = S.take m := by
                have h1 := HT.out
                rw [show EL.take m = EL by rw [← HM.out, List.take_length], List.take_of_length_le (by rw [HLT.out]; exact Nat.le_refl _)] at h1
                exact h1
              have HX6 : Hid (Ext W wr) := HX5.out.trans HXr.out
              have HB6 := Lib.hid (HB5.out.ext HXr.out)
              have HDV6 := Lib.hid (HDV5.out.ext HXr.out)
              have HST : Hid (Lb.rdecT S = some (L, x)) := by show _ = _; rw [HE.out, if_pos ⟨by trivial, hq⟩]
              clear hq HB5 HDV5
              go_wp2_with (first | (refine wpList_loadR 29 _ rfl (by rfl) rfl (LabAt.of_box HB6.out).load ?_) | (refine wpList_store_lab3 (l := L) (d := .slice da x.length dc) _ _ rfl (by rfl) rfl rfl (HBR.out.ext HX6.out) rfl rfl ?_; intro wf hgf hbf))
              have HXF := (HXW.out.trans HX6.out).grown hgf (HXW.out.trans HX6.out).size (fun q hq => by cases hq; exact Nat.le_refl _)
              refine bodyPost_ret (results_cell_tmp1 rfl _ _ rfl (lab_result hbf)) rfl ⟨.slice da x.length dc, ?_, ?_, HXF⟩
              · rw [HST.out]; rfl
              · rw [HST.out]
                exact HDV6.out.turnV (lab_nbv (HBR.out.ext HX6.out)) hgf
        · have q1 : ((m : Int) == (i : Int)) = false := by rw [beq_eq_false_iff_ne]; omega
          have q2 : ((m : Int) != (i : Int)) = true := by rw [bne, q1]; rfl
          have HST : Hid (Lb.rdecT S = none) := by show _ = _; rw [HE.out, if_neg (fun h => hmi (by rw [← HM.out, h.2, hLT]))]
          go_wp2_with (refine wpList_store_lab3 (l := lz) (d := .slice none 0 0) _ _ rfl (by rfl) rfl rfl (HBR.out.ext HX5.out) rfl rfl ?_; intro wf hgf hbf)
          have HXF := (HXW.out.trans HX5.out).grown hgf (HXW.out.trans HX5.out).size (fun q hq => by cases hq; exact Nat.le_refl _)
          refine bodyPost_ret (results_cell_tmp1 rfl _ _ rfl (lab_result hbf)) rfl ⟨.slice none 0 0, ?_, ?_, HXF⟩
          · rw [HST.out]; rfl
          · rw [HST.out]; exact SliceAt.nil
end Go.Proofs.Ythjcdikpomlpmaa
