/-
  Part 35 of the proof.
-/
import Derived.Test.YtjabgpejmnpamaaGreatDoorY33
set_option linter.unusedVariables false
namespace Go.Proofs.YtjabgpejmnpamaaGreatDoor
open Go.RowKit
abbrev recZ : Array Value := #[.int .u64 0, .int .u64 0, .slice none 0 0, .slice none 0 0, .slice none 0 0]
abbrev headZ : Array Value := #[.int .u64 0, .int .u64 0, .int .i64 0, .int .i64 0]
theorem RecOut.lower {B B' : Nat} {w : World} {wv mv nv : Value} {r : Lg.Rec} (h : RecOut B w wv mv nv r) (hb : B' ≤ B) : RecOut B' w wv mv nv r :=
  ⟨h.rin, fun q hq => ⟨Nat.le_trans hb (h.fw q hq).1, (h.fw q hq).2⟩, fun q hq => ⟨Nat.le_trans hb (h.fm q hq).1, (h.fm q hq).2⟩, fun q hq => ⟨Nat.le_trans hb (h.fn q hq).1, (h.fn q hq).2⟩⟩
def RdecEnd (w : World) (r : Lg.Rec) (ok : Bool) (e : Ending) (w' : World) : Prop :=
  if ok then ∃ wv mv nv, e = .returned (.tuple #[recV r wv mv nv, .int .i64 (Lb.partsN (Lg.payR r) : Nat), .int .i64 0]) ∧ RecOut w.heap.size w' wv mv nv r ∧ Ext w w'
  else e = .returned (.tuple #[.agg recZ, .int .i64 0, .int .i64 5]) ∧ Ext w w'
theorem flatP_next (p : List (BitVec 8)) (i : Nat) : (List.range (i + 1)).flatMap (Lb.partAt p) = (List.range i).flatMap (Lb.partAt p) ++ Lb.partAt p i := by
  rw [List.range_succ, List.flatMap_append]; simp
theorem flatP_len (p : List (BitVec 8)) (i : Nat) : ((List.range i).flatMap (Lb.partAt p)).length ≤ 28 * i := by
  have := Lg.flat_bound (Lb.partAt p) 28 (List.range i) (fun j hj => Lb.partAt_len p _)
  rw [List.length_range] at this; omega
theorem partAt_pos {p : List (BitVec 8)} {i : Nat} (h : i < Lb.partsN p) : 1 ≤ (Lb.partAt p i).length := by
  unfold Lb.partsN at h
  unfold Lb.partAt
  rw [List.length_take, List.length_drop]; omega
theorem info_head : (Tryz.prog.info? 183).map (·.size) = some 4 := by kernel_rfl
theorem head_load {w : World} {g : Nat} {a b c d : Nat} {t : TypeId} (h : BoxAt w g (headA a b c d) t) : (Instr.loadAt 183 (.pointer (some ⟨g, 0, none⟩))).run Tryz.prog w = .ok (headV a b c d) w :=
  run_loadAt_mid w g 0 _ (headA a b c d).toList _ (box_range h) Tryz.underlying183 rfl info_head
set_option maxRecDepth 100000 in
set_option maxHeartbeats 3000000 in
theorem recdecode_any (r : Lg.Rec) (v : Value) (S : List (List (BitVec 8))) (w : World) (hv : Lg.validR r = true) (B8 : Lg.Blk r) (hS : S.length ≤ 2000) (hl : ∀ l, l ∈ S → l.length ≤ 1000) (hget : ∀ i, i < Lb.partsN (Lg.payR r) → i < S.length → S[i]? = (Lg.secsR r)[i]?) (h : RowsB w v S) :
    Calls Tryz.prog 46 #[v] w (RdecEnd w r (decide (Lb.partsN (Lg.payR r) ≤ S.length))) := by
  obtain ⟨i0, hI, hI0, hI1, hI2⟩ := info_parts infoB
  obtain ⟨ad, cap, rfl, hcap⟩ := h.shape
  have HS := Lib.hid h
  have HLL := Lib.hid hl
  have F := Lg.fine_of hv
  have HF := Lib.hid F
  have HVA := Lib.hid hv
  have HBK := Lib.hid B8
  have hpn := Lg.parts_len F B8
  have hgen := r.gen.isLt
  have hseq := r.seq.isLt
  have hseq1 := F.seq
  have hpl := (Lg.pay_len F B8).2
  obtain ⟨n, hn⟩ : ∃ n, S.length = n := ⟨_, rfl⟩
  have HN := Lib.hid hn
  obtain ⟨p, hp⟩ : ∃ p, Lg.payR r = p := ⟨_, rfl⟩
  have HPY := Lib.hid hp
  obtain ⟨N, hNe⟩ : ∃ N, Lb.partsN p = N := ⟨_, rfl⟩
  have HPN := Lib.hid hNe
  have HGT : Hid (∀ i, i < N → i < n → S[i]? = some (Lg.sectorR r.gen.toNat r.seq.toNat i N (Lb.partAt p i))) := fun i h1 h2 => by
    rw [hget i (by rw [hp, hNe]; exact h1) (by rw [hn]; exact h2)]
    unfold Lg.secsR
    rw [hp, Lg.cutR_get (by rw [hNe]; exact h1), hNe]
  have HSC : Hid (Lg.secsR r = Lg.cutR r.gen.toNat r.seq.toNat p N) := by show _ = _; unfold Lg.secsR; rw [hp, hNe]
  have HPJ : Hid ((List.range N).flatMap (Lb.partAt p) = p) := by show _ = _; rw [← hNe]; exact Lb.parts_join p
  have hOK : RdecEnd w r (decide (Lb.partsN (Lg.payR r) ≤ n)) = RdecEnd w r (decide (N ≤ n)) := by rw [hp, hNe]
  rw [hn] at HS hS hcap ⊢
  rw [hp] at hpn hpl
  rw [hNe] at hpn
  obtain ⟨ok, hok⟩ : ∃ ok, decide (N ≤ n) = ok := ⟨_, rfl⟩
  rw [hOK, hok]
  have HOK := Lib.hid hok
  clear hOK hok
  have hBR : BoxAt (w.alloc (.cells recZ 52)) w.heap.size recZ 52 := BoxAt.new _ _ _
  have hXW : Ext w (w.alloc (.cells recZ 52)) := Ext.alloc _ _
  have HBR := Lib.hid hBR
  have HXW := Lib.hid hXW
  clear h hl hn hget hv B8 F hp hNe hBR hXW
  go_enter Tryz.func46, Tryz.ntmps46
  go_upto_region 1 with fail
  generalize w.alloc (.cells recZ 52) = W at *
  go_wp2_with fail
  have HHB : Hid (BoxAt (W.alloc (.cells headZ 183)) W.heap.size headZ 183) := BoxAt.new _ _ _
  have HX0 : Hid (Ext W (W.alloc (.cells headZ 183))) := Ext.alloc _ _
  generalize W.alloc (.cells headZ 183) = w1 at *
  obtain ⟨hb, hhb⟩ : ∃ hb, W.heap.size = hb := ⟨_, rfl⟩
  rw [hhb] at HHB ⊢
  have HHE := Lib.hid hhb
  go_loopw [5, 6, 8] (fun vt pt it wr => ∃ (i pn : Nat) (hd : Array Value), i ≤ N ∧ i ≤ n ∧ it = .int .i64 i ∧ pt = .int .i64 pn ∧ Hid ((i = 0 ∧ pn = 1 ∧ hd = headZ) ∨ (0 < i ∧ pn = N ∧ hd = headA r.gen.toNat r.seq.toNat 0 N)) ∧ Hid (OwnG encB 5 wr hb vt ((List.range i).flatMap (Lb.partAt p))) ∧ Hid (BoxAt wr hb hd 183) ∧ Hid (Ext W wr)) (fun _ _ it _ => N + 1 - (intOf it).toNat)
  case atStart => exact ⟨0, 1, headZ, Nat.zero_le _, Nat.zero_le _, rfl, rfl, Lib.hid (.inl ⟨rfl, rfl, rfl⟩), Lib.hid OwnG.nil, HHB, HX0⟩
  case round =>
    clear HHB HX0
    obtain ⟨i, pn, hd, hiN, hin, rfl, rfl, HC, HO, HB, HX⟩ := hrel
    rcases Nat.eq_zero_or_pos i with hi0 | hi0
    · subst hi0
      have hpd : pn = 1 ∧ hd = headZ := by rcases HC.out with ⟨_, h1, h2⟩ | ⟨h1, _⟩; exact ⟨h1, h2⟩; omega
      obtain ⟨rfl, rfl⟩ := hpd
      have hiN' : 0 < N := by omega
      have e1 : ((0 : Nat) : Int) = 0 := rfl
      have e2 : ((1 : Nat) : Int) = 1 := rfl
      by_cases hni : 0 < n
      · have d2 : decide ((n : Int) ≤ 0) = false := by rw [decide_eq_false_iff_not]; omega
        have hn0 : (0 : Int) < (n : Int) := by omega
        have hn1 : ¬ n = 0 := by omega
        clear HC
        have hiS : 0 < S.length := by rw [HN.out]; exact hni
        obtain ⟨b1, o1, rfl, hb1, a1, k1, hc1, hs1⟩ := (HS.out.ext (HXW.out.trans HX.out)).get 0 hiS
        have hsi : S[0] = Lg.sectorR r.gen.toNat r.seq.toNat 0 N (Lb.partAt p 0) := Option.some.inj ((List.getElem?_eq_getElem hiS).symm.trans (HGT.out 0 hiN' hni))
        rw [hsi] at hc1 hs1
        have HS1 := Lib.hid hs1
        have hcp := partAt_pos (p := p) (i := 0) (by rw [HPN.out]; exact hiN')
        have hcl := Lb.partAt_len p 0
        have HFN := Lib.hid (flatP_next p 0)
        have hfl := flatP_len p 0
        obtain ⟨sl, hsl⟩ : ∃ sl, (Lg.sectorR r.gen.toNat r.seq.toNat 0 N (Lb.partAt p 0)).length = sl := ⟨_, rfl⟩
        rw [hsl] at hc1 HS1
        (try simp only [Nat.add_zero] at hc1)
        generalize Lb.partAt p 0 = c at *
        clear hs1 hsi hsl
        have hEq := run_eq_head r.gen.toNat r.seq.toNat 0 N
        obtain ⟨va, ca, rfl⟩ := HO.out.shape
        generalize (List.range 0).flatMap (Lb.partAt p) = fl at *
        go_wp2_with fail
        go_at_call 89
        refine (inspect_any r.gen.toNat r.seq.toNat 0 N c _ _ hgen hseq1 hseq hiN' hpn.2 hcp hcl HS1.out).mono ?_
        rintro e w2 ⟨dv, rfl, hsd, hx2⟩
        have HX2 : Hid (Ext W w2) := HX.out.trans hx2
        have HO2 := Lib.hid (HO.out.ext hx2)
        have HB2 := Lib.hid (HB.out.ext hx2)
        have HSD := Lib.hid hsd
        obtain ⟨ad2, cd2, rfl⟩ := hsd.shape
        clear hx2 hsd hb1 hc1
        go_upto_region 13 with first | (refine wpList_store_box 183 _ _ rfl (by rfl) rfl rfl (BoxAt.new w2 headZ 183) rfl (by kernel_rfl) (by simp [Value.oneCell']) ?_; intro w3 hS; have HX3 := Lib.hid (HX2.out.trans (hS.fresh rfl)); have HB9 : Hid (BoxAt w3 w2.heap.size (headA r.gen.toNat r.seq.toNat 0 N) 183) := hS.box; have HO3 := Lib.hid (HO2.out.ext (hS.fresh rfl)); have HB3 := Lib.hid (HB2.out.ext (hS.fresh rfl)); have HSD3 := Lib.hid (HSD.out.ext (hS.fresh rfl)); clear hS)
        obtain ⟨g9, hg9⟩ : ∃ g9, w2.heap.size = g9 := ⟨_, rfl⟩
        rw [hg9] at HB9 ⊢
        have hne9 : g9 ≠ hb := by have := HB2.out.lt; omega
        have HLD9 : Hid (∀ w', w3.grownBy w' (some hb) → (Instr.loadAt 183 (.pointer (some ⟨g9, 0, none⟩))).run Tryz.prog w' = .ok (headV r.gen.toNat r.seq.toNat 0 N) w') := fun w' hS => head_load (HB9.out.grown hS (fun e => hne9 (Option.some.inj e)))
        have HLI9 : Hid (∀ w', w3.grownBy w' (some hb) → (Instr.loadAt 3 (.pointer (some ⟨g9, 3, none⟩))).run Tryz.prog w' = .ok (.int .i64 N) w') := fun w' hS => by
          have hc := (HB9.out.grown hS (fun e => hne9 (Option.some.inj e))).cell 3 (v := .int .i64 N) rfl
          go_simp
        have HHB3 : Hid (BoxAt w3 W.heap.size headZ 183) := by show BoxAt _ _ _ _; rw [HHE.out]; exact HB3.out
        refine wp_region_fix (fun w' => w3.grownBy w' (some hb)) [(0, true), (1, true), (2, true), (3, false), (4, true)] (by kernel_rfl) (by kernel_rfl) ?_ ?_
        · exact grown_drew (grown_refl _ _)
        refine fix_load 183 rfl (by rfl) rfl (by rfl) (fun w' hS => HLD9.out w' hS) ?_; simp only [Act.put, setZa, setZ0, setZ1]
        ((first
         | refine fix_move rfl rfl (by rfl) (by rfl) ?_
         | (apply fix_take rfl (by rfl)
            · intro w' hSc
              go_simp
              (try simp (disch := omega) only [i64_id, u64_id, ↓IntWalk.iteOmega, Int.tdiv_eq_ediv_of_nonneg, Int.tmod_eq_emod_of_nonneg])
              try rfl)
         | refine fix_pass rfl (by rfl) ?_); simp only [Act.put, setZa, setZ0, setZ1])
        refine fix_load 3 rfl (by rfl) rfl (by rfl) (fun w' hS => HLI9.out w' hS) ?_; simp only [Act.put, setZa, setZ0, setZ1]
        (refine fix_do rfl (by rfl) (fun K hK => ?_)
         refine wp_of_list rfl ?_
         refine wpList_store_box 183 _ _ rfl (by rfl) rfl rfl (HB3.out.ext (Ext.drew _)) rfl (by kernel_rfl) (by simp [Value.oneCell']) ?_
         intro w4 hS4
         have HB4 : Hid (BoxAt w4 hb (headA r.gen.toNat r.seq.toNat 0 N) 183) := hS4.box
         have HX4 : Hid (Ext W w4) := hS4.bel (HX3.out.trans (Ext.drew _)) (by have := HHE.out; omega)
         have HO4 := Lib.hid ((HO3.out.ext (Ext.drew _)).kept hS4.grown (.inl (HO3.out.not_box HB3.out (by decide))))
         have HSD4 := Lib.hid ((HSD3.out.ext (Ext.drew _)).turn (nb_box (HB3.out.ext (Ext.drew _)) (by simp [isB8])) hS4.grown)
         have HB94 := Lib.hid ((HB9.out.ext (Ext.drew _)).grown hS4.grown (fun e => hne9 (Option.some.inj e)))
         refine hK _ _ (grown_trans (grown_ext (Ext.drew _) _) hS4.grown) ?_
         clear hK K hS4
         (try simp only [Act.put]))
        ((first
         | refine fix_move rfl rfl (by rfl) (by rfl) ?_
         | (apply fix_take rfl (by rfl)
            · intro w' hSc
              go_simp
              (try simp (disch := omega) only [i64_id, u64_id, ↓IntWalk.iteOmega, Int.tdiv_eq_ediv_of_nonneg, Int.tmod_eq_emod_of_nonneg])
              try rfl)
         | refine fix_pass rfl (by rfl) ?_); simp only [Act.put, setZa, setZ0, setZ1])
        refine fix_nil ?_
        clear HLD9 HLI9 HHB3
        go_wp2_with first | (refine wpList_store_cell 3 _ _ rfl (by rfl) rfl rfl HB4.out (by simp) (by kernel_rfl) rfl ?_; intro w5 hS; have HB5 : Hid (BoxAt w5 hb (headA r.gen.toNat r.seq.toNat 0 N) 183) := hS.box; have HX5 : Hid (Ext W w5) := hS.bel HX4.out (by have := HHE.out; omega); have HO5 := Lib.hid (HO4.out.kept hS.grown (.inl (HO4.out.not_box HB4.out (by decide)))); have HSD5 := Lib.hid (HSD4.out.turn (nb_box HB4.out (by simp [isB8])) hS.grown); have HB95 := Lib.hid (HB94.out.grown hS.grown (fun e => hne9 (Option.some.inj e))); clear hS; have kk0 := HB5.out.cell 0 (v := .int .u64 r.gen.toNat) rfl; have kk1 := HB5.out.cell 1 (v := .int .u64 r.seq.toNat) rfl; have kk3 := HB5.out.cell 3 (v := .int .i64 N) rfl; have kkl := HB5.out.lt) | (refine wpList_loadR 183 _ rfl (by rfl) rfl (head_load HB95.out) ?_) | (at_builtin; refine Classical.byContradiction (fun hN => ?_))
        refine hN ?_
        clear hN
        refine wpList_append_slice (enc := encB) (fun _ => rfl) rfl _ _ 47 rfl hb 5 i0 (.int .u8 0) 1 Tryz.underlying47 hI hI0 hI1 hI2 rfl _ _ _ rfl HO5.out _ c rfl HSD5.out (by unfold maxLen; omega) (by omega) (Nat.le_of_lt HB5.out.lt) ?_
        intro v6 w6 ho6 hg6
        have HX6 : Hid (Ext W w6) := HX5.out.grown hg6 HX5.out.size (fun q hq => by have h1 := (HO5.out.lt q hq).1; have h2 := HHE.out; omega)
        have HB6 := Lib.hid (HB5.out.grown hg6 (fun e => HO5.out.not_box HB5.out (by decide) e.symm))
        have HO6 := Lib.hid (OwnG.app (enc := encB) ho6)
        rw [← HFN.out] at HO6
        clear ho6 hg6
        go_wp2_with fail
        go_roundw
        case rel => exact ⟨1, N, headA r.gen.toNat r.seq.toNat 0 N, by omega, by omega, by go_num, rfl, Lib.hid (.inr ⟨by omega, rfl, rfl⟩), HO6, HB6, HX6⟩
        case measure => first | (simp [intOf]; done) | (simp [intOf]; omega)
      · have d2 : decide ((n : Int) ≤ 0) = true := by rw [decide_eq_true_iff]; omega
        have hn0 : n = 0 := by omega
        go_wp2_with (refine wpList_store_box 52 _ _ rfl (by rfl) rfl rfl (HBR.out.ext HX.out) rfl (by kernel_rfl) (by simp [Value.oneCell']) ?_; intro wf hS; have HSf := Lib.hid hS; clear hS)
        have hxf := HSf.out.bel (HXW.out.trans HX.out) (Nat.le_refl _)
        refine bodyPost_ret (results_cell_tmpB rfl _ _ rfl (box_result HSf.out.box Tryz.underlying52 rfl (by kernel_rfl))) rfl ?_
        rw [← HOK.out, decide_eq_false (by omega)]
        exact ⟨rfl, hxf⟩
    · have hpd : pn = N ∧ hd = headA r.gen.toNat r.seq.toNat 0 N := by rcases HC.out with ⟨h1, _⟩ | ⟨_, h1, h2⟩; omega; exact ⟨h1, h2⟩
      obtain ⟨rfl, rfl⟩ := hpd
      by_cases hiN' : i < pn
      · have hiI : (i : Int) < (pn : Int) := by omega
        have e1 : ((i : Int) == 0) = false := by rw [beq_eq_false_iff_ne]; omega
        have hi00 : (0 : Int) ≤ (i : Int) := by omega
        by_cases hni : i < n
        · have d2 : decide ((n : Int) ≤ (i : Int)) = false := by rw [decide_eq_false_iff_not]; omega
          have d3 : decide (n ≤ i) = false := by rw [decide_eq_false_iff_not]; omega
          have hnI : (i : Int) < (n : Int) := by omega
          clear HC
          have hiS : i < S.length := by rw [HN.out]; exact hni
          obtain ⟨b1, o1, rfl, hb1, a1, k1, hc1, hs1⟩ := (HS.out.ext (HXW.out.trans HX.out)).get i hiS
          have hsi : S[i] = Lg.sectorR r.gen.toNat r.seq.toNat i pn (Lb.partAt p i) := Option.some.inj ((List.getElem?_eq_getElem hiS).symm.trans (HGT.out i hiN' hni))
          rw [hsi] at hc1 hs1
          have HS1 := Lib.hid hs1
          have hcp := partAt_pos (p := p) (i := i) (by rw [HPN.out]; exact hiN')
          have hcl := Lb.partAt_len p i
          have HFN := Lib.hid (flatP_next p i)
          have hfl := flatP_len p i
          obtain ⟨sl, hsl⟩ : ∃ sl, (Lg.sectorR r.gen.toNat r.seq.toNat i pn (Lb.partAt p i)).length = sl := ⟨_, rfl⟩
          rw [hsl] at hc1 HS1
          (try simp only [Nat.add_zero] at hc1)
          generalize Lb.partAt p i = c at *
          clear hs1 hsi hsl
          have hEq := run_eq_head r.gen.toNat r.seq.toNat i pn
          obtain ⟨va, ca, rfl⟩ := HO.out.shape
          generalize (List.range i).flatMap (Lb.partAt p) = fl at *
          go_wp2_with fail
          go_at_call 89
          refine (inspect_any r.gen.toNat r.seq.toNat i pn c _ _ hgen hseq1 hseq hiN' hpn.2 hcp hcl HS1.out).mono ?_
          rintro e w2 ⟨dv, rfl, hsd, hx2⟩
          have HX2 : Hid (Ext W w2) := HX.out.trans hx2
          have HO2 := Lib.hid (HO.out.ext hx2)
          have HB2 := Lib.hid (HB.out.ext hx2)
          have HSD := Lib.hid hsd
          obtain ⟨ad2, cd2, rfl⟩ := hsd.shape
          clear hx2 hsd hb1 hc1
          go_wp2_with first | (refine wpList_store_box 183 _ _ rfl (by rfl) rfl rfl (BoxAt.new w2 headZ 183) rfl (by kernel_rfl) (by simp [Value.oneCell']) ?_; intro w3 hS; have HX5 := Lib.hid (HX2.out.trans (hS.fresh rfl)); have HB9 : Hid (BoxAt w3 w2.heap.size (headA r.gen.toNat r.seq.toNat i pn) 183) := hS.box; have HO5 := Lib.hid (HO2.out.ext (hS.fresh rfl)); have HB5 := Lib.hid (HB2.out.ext (hS.fresh rfl)); have HSD5 := Lib.hid (HSD.out.ext (hS.fresh rfl)); clear hS; have kk0 := HB5.out.cell 0 (v := .int .u64 r.gen.toNat) rfl; have kk1 := HB5.out.cell 1 (v := .int .u64 r.seq.toNat) rfl; have kk3 := HB5.out.cell 3 (v := .int .i64 pn) rfl; have kkl := HB5.out.lt) | (refine wpList_loadR 183 _ rfl (by rfl) rfl (head_load HB9.out) ?_) | (at_builtin; refine Classical.byContradiction (fun hN => ?_))
          refine hN ?_
          clear hN
          refine wpList_append_slice (enc := encB) (fun _ => rfl) rfl _ _ 47 rfl hb 5 i0 (.int .u8 0) 1 Tryz.underlying47 hI hI0 hI1 hI2 rfl _ _ _ rfl HO5.out _ c rfl HSD5.out (by unfold maxLen; omega) (by omega) (Nat.le_of_lt HB5.out.lt) ?_
          intro v6 w6 ho6 hg6
          have HX6 : Hid (Ext W w6) := HX5.out.grown hg6 HX5.out.size (fun q hq => by have h1 := (HO5.out.lt q hq).1; have h2 := HHE.out; omega)
          have HB6 := Lib.hid (HB5.out.grown hg6 (fun e => HO5.out.not_box HB5.out (by decide) e.symm))
          have HO6 := Lib.hid (OwnG.app (enc := encB) ho6)
          rw [← HFN.out] at HO6
          clear ho6 hg6
          go_wp2_with fail
          go_roundw
          case rel => exact ⟨i + 1, pn, headA r.gen.toNat r.seq.toNat 0 pn, by omega, by omega, by go_num, rfl, Lib.hid (.inr ⟨by omega, rfl, rfl⟩), HO6, HB6, HX6⟩
          case measure => simp [intOf]; omega
        · have d2 : decide ((n : Int) ≤ (i : Int)) = true := by rw [decide_eq_true_iff]; omega
          have d3 : decide (n ≤ i) = true := by rw [decide_eq_true_iff]; omega
          go_wp2_with (refine wpList_store_box 52 _ _ rfl (by rfl) rfl rfl (HBR.out.ext HX.out) rfl (by kernel_rfl) (by simp [Value.oneCell']) ?_; intro wf hS; have HSf := Lib.hid hS; clear hS)
          have hxf := HSf.out.bel (HXW.out.trans HX.out) (Nat.le_refl _)
          refine bodyPost_ret (results_cell_tmpB rfl _ _ rfl (box_result HSf.out.box Tryz.underlying52 rfl (by kernel_rfl))) rfl ?_
          rw [← HOK.out, decide_eq_false (by omega)]
          exact ⟨rfl, hxf⟩
      · have hie : i = pn := by omega
        subst hie
        have d1 : decide ((i : Int) < (i : Int)) = false := by rw [decide_eq_false_iff_not]; omega
        have hOK : ok = true := by rw [← HOK.out, decide_eq_true_iff]; exact hin
        subst hOK
        rw [HPJ.out] at HO
        obtain ⟨va, ca, rfl⟩ := HO.out.shape
        have HSL : Hid (SliceAt encB wr (.slice va p.length ca) (Lg.payR r)) := by show SliceAt _ _ _ _; rw [HPY.out]; exact HO.out.slice
        clear HC HO HB
        go_wp2_with fail
        go_at_call 90
        refine (recparse_any r _ _ HVA.out HBK.out HSL.out).mono ?_
        rintro e w2 ⟨wv, mv, nv, rfl, hro, hx2⟩
        have HX2 : Hid (Ext W w2) := HX.out.trans hx2
        have HRO := Lib.hid hro
        obtain ⟨aw, cw, am, cm, an, cn, rfl, rfl, rfl⟩ := hro.rin.shape
        have hTE : S.take i = Lg.cutR r.gen.toNat r.seq.toNat p i := by
          refine List.ext_getElem? fun j => ?_
          by_cases hj : j < i
          · rw [List.getElem?_take_of_lt hj, HGT.out j hj (by omega), Lg.cutR_get hj, HPN.out]
          · rw [List.getElem?_eq_none (by rw [List.length_take]; omega), List.getElem?_eq_none (by rw [Lg.cutR_len]; omega)]
        have HTE := Lib.hid hTE
        have HER : Hid (recR r = Lg.cutR r.gen.toNat r.seq.toNat p i) := by show _ = _; unfold recR; rw [if_pos HVA.out, HSC.out]
        have HRN : Hid (recN r = 0) := by show _ = _; unfold recN; rw [if_pos HVA.out]
        have HEB : Hid (∀ l, l ∈ Lg.cutR r.gen.toNat r.seq.toNat p i → l.length ≤ 1000) := fun l hl => by
          rw [← HSC.out] at hl
          exact Nat.le_trans (Lg.secs_bound HF.out HBK.out l hl) (by decide)
        have hEL : (Lg.cutR r.gen.toNat r.seq.toNat p i).length = i := Lg.cutR_len _ _ _ _
        have HSI : Hid (S.take i = Lg.cutR r.gen.toNat r.seq.toNat p i → (S.take i).length ≤ 1000) := fun h => by rw [h, hEL]; omega
        have hWw : w.heap.size < W.heap.size := HBR.out.lt
        have hWr := HX.out.size
        clear hro hx2 hTE HSL
        go_wp2_with first | (refine wpList_store_box 52 _ _ rfl (by rfl) rfl rfl (BoxAt.new w2 recZ 52) rfl (by kernel_rfl) (by simp [Value.oneCell']) ?_; intro w3 hS; have HX3 := Lib.hid (HX2.out.trans (hS.fresh rfl)); have HB3 : Hid (BoxAt w3 w2.heap.size (recA r (.slice aw r.ws.length cw) (.slice am r.ms.length cm) (.slice an r.note.length cn)) 52) := hS.box; have HRO3 := Lib.hid (HRO.out.ext (hS.fresh rfl)); clear hS) | (refine wpList_loadR 52 _ rfl (by rfl) rfl (rec_load (r := r) (box_range HB3.out)) ?_)
        go_at_call 43
        refine (recencode_any r _ _ _ _ HRO3.out.rin).mono ?_
        rintro e w4 ⟨ev, rfl, hev, hx4⟩
        rw [HER.out] at hev
        rw [HRN.out]
        have HX4 : Hid (Ext W w4) := HX3.out.trans hx4
        have HB4 := Lib.hid (HB3.out.ext hx4)
        have HRO4 := Lib.hid (HRO3.out.ext hx4)
        have HEV := Lib.hid hev.rows
        obtain ⟨ea, ec, rfl⟩ := hev.shape
        have HTK := Lib.hid ((HS.out.ext (HXW.out.trans HX4.out)).take i hin)
        rw [HTE.out] at HTK
        rw [hEL] at HEV ⊢
        have HLE := Lib.hid hEL
        generalize Lg.cutR r.gen.toNat r.seq.toNat p i = EL at *
        clear hEL
        have hiI : (i : Int) ≤ (cap : Int) := by omega
        have hi00 : (0 : Int) ≤ (i : Int) := by omega
        have hE : eqRR EL EL = true := by unfold eqRR; simp
        clear hev hx4 HB3 HRO3
        go_wp2_with fail
        go_at_call 78
        refine (receqfun_any _ _ EL EL _ (by rw [HLE.out]; omega) (by rw [HLE.out]; omega) HEB.out HEB.out HEV.out HTK.out).mono ?_
        rintro e w6 ⟨rfl, hx6⟩
        rw [hE]
        have HX6 : Hid (Ext W w6) := HX4.out.trans hx6
        have HB6 := Lib.hid (HB4.out.ext hx6)
        have HRO6 := Lib.hid (HRO4.out.ext hx6)
        clear hx6 HB4 HRO4 hE
        go_wp2_with first | (refine wpList_loadR 52 _ rfl (by rfl) rfl (rec_load (r := r) (box_range HB6.out)) ?_) | (refine wpList_store_box 52 _ _ rfl (by rfl) rfl rfl (HBR.out.ext HX6.out) rfl (by kernel_rfl) (by simp [Value.oneCell']) ?_; intro wf hS; have HSf := Lib.hid hS; clear hS)
        refine bodyPost_ret (results_cell_tmpB rfl _ _ rfl (box_result HSf.out.box Tryz.underlying52 rfl (by kernel_rfl))) rfl ⟨_, _, _, ?_, (HRO6.out.grown HSf.out.grown (by omega)).lower (by omega), HSf.out.bel (HXW.out.trans HX6.out) (Nat.le_refl _)⟩
        rw [HPY.out, HPN.out]
        rfl
end Go.Proofs.YtjabgpejmnpamaaGreatDoor
