/-
  Part 41 of the proof.
-/
import Derived.Test.YtjabgpejmnpamaaGreatDoorY40
import Derived.Test.YtjabgpejmnpamaaGreatDoorY39
import Derived.Test.YtjabgpejmnpamaaGreatDoorY25
set_option linter.unusedVariables false
namespace Go.Proofs.YtjabgpejmnpamaaGreatDoor
open Go.RowKit
theorem LogOk.snoc {gen : BitVec 64} {L : List Lg.Rec} {x : Lg.Rec} (h : LogOk gen L) (hl : L.length < 6) (hv : Lg.validR x = true) (hg : x.gen = gen) (hq : x.seq.toNat = L.length + 1) : LogOk gen (L ++ [x]) := by
  refine ⟨by rw [List.length_append]; simp; omega, fun i hi => ?_⟩
  rw [List.length_append] at hi
  by_cases h1 : i < L.length
  · rw [List.getElem_append_left h1]; exact h.2 i h1
  · have h2 : i = L.length := by simp at hi; omega
    subst h2
    rw [List.getElem_append_right (Nat.le_refl _)]
    simp only [Nat.sub_self, List.getElem_singleton]
    exact ⟨hv, hg, hq⟩
theorem blk_snoc {L : List Lg.Rec} {x : Lg.Rec} (h : ∀ i (h : i < L.length), Lg.Blk L[i]) (hx : Lg.Blk x) : ∀ i (h : i < (L ++ [x]).length), Lg.Blk (L ++ [x])[i] := by
  intro i hi
  rw [List.length_append] at hi
  by_cases h1 : i < L.length
  · rw [List.getElem_append_left h1]; exact h i h1
  · have h2 : i = L.length := by simp at hi; omega
    subst h2
    rw [List.getElem_append_right (Nat.le_refl _)]
    simp only [Nat.sub_self, List.getElem_singleton]
    exact hx
def numR (r : Lg.Rec) (gen : BitVec 64) (m : Nat) : Lg.Rec := { r with gen := gen, seq := BitVec.ofNat 64 (m + 1) }
structure KeptL (w1 : World) (gen : BitVec 64) (i : Nat) (L : List Lg.Rec) : Prop where
  len : L.length ≤ i
  ok : LogOk gen L
  blk : ∀ i (h : i < L.length), Lg.Blk L[i]
theorem KeptL.snoc {w1 : World} {gen : BitVec 64} {i : Nat} {L : List Lg.Rec} {r : Lg.Rec} (h : KeptL w1 gen i L) (hi : i < 6) (hv : Lg.validR (numR r gen L.length) = true) (hb : Lg.Blk r) : KeptL w1 gen (i + 1) (L ++ [numR r gen L.length]) := by
  have := h.len
  refine ⟨by rw [List.length_append]; simp; omega, h.ok.snoc (by omega) hv rfl ?_, blk_snoc h.blk hb⟩
  show (BitVec.ofNat 64 (L.length + 1)).toNat = _
  rw [BitVec.toNat_ofNat]; omega
theorem KeptL.skip {w1 : World} {gen : BitVec 64} {i : Nat} {L : List Lg.Rec} (h : KeptL w1 gen i L) : KeptL w1 gen (i + 1) L := ⟨Nat.le_succ_of_le h.len, h.ok, h.blk⟩
structure WlR (W wr : World) (B gd : Nat) (L : List Lg.Rec) (gen : BitVec 64) (bl : List (BitVec 8)) (d : Nat) (lv cv : Value) (cs : List Nat) (Cs : List (List (List (BitVec 8)))) : Prop where
  logs : LogsG wr B lv cv L cs
  cops : CopsG W wr B cv Cs
  nl : cs.length = d
  nc : Cs.length = d
  le : ∀ i (h : i < cs.length), cs[i] ≤ L.length
  all : ∀ C ∈ Cs, C = chunksL gen bl ∨ ∃ j, C = (chunksL gen bl).set j []
  good : gd < d → (∃ h : gd < cs.length, cs[gd] = L.length) ∧ chunksL gen bl ∈ Cs
theorem WlR.nil {W wr : World} {B gd : Nat} {L : List Lg.Rec} {gen : BitVec 64} {bl : List (BitVec 8)} : WlR W wr B gd L gen bl 0 (.slice none 0 0) (.slice none 0 0) [] [] :=
  ⟨LogsG.nil, CopsG.nil, rfl, rfl, fun i h => absurd h (by simp), fun C h => absurd h (by simp), fun h => absurd h (by omega)⟩
theorem secsL_small {gen : BitVec 64} {L : List Lg.Rec} (hok : LogOk gen L) (hB : ∀ i (h : i < L.length), Lg.Blk L[i]) : (Lg.secsL L).length ≤ 1158 := by
  have h := secsL_len (l := L) (fun i hi => by rw [Lg.secs_len]; exact (Lg.parts_len (Lg.fine_of (hok.2 i hi).1) (hB i hi)).2) L.length (Nat.le_refl _)
  rw [List.take_length] at h
  have := hok.1
  omega
theorem WlR.next {W wr w9 : World} {B gd : Nat} {L : List Lg.Rec} {gen : BitVec 64} {bl : List (BitVec 8)} {d c : Nat} {lv cv lv' cv' : Value} {cs : List Nat} {Cs : List (List (List (BitVec 8)))} {C : List (List (BitVec 8))} (h : WlR W wr B gd L gen bl d lv cv cs Cs)
    (hlogs : LogsG w9 B lv' cv' L (cs ++ [c])) (hcops : CopsG W w9 B cv' (Cs ++ [C])) (hc : c ≤ L.length) (hC : C = chunksL gen bl ∨ ∃ j, C = (chunksL gen bl).set j []) (hg : d = gd → c = L.length ∧ C = chunksL gen bl) : WlR W w9 B gd L gen bl (d + 1) lv' cv' (cs ++ [c]) (Cs ++ [C]) := by
  refine ⟨hlogs, hcops, by rw [List.length_append, h.nl]; rfl, by rw [List.length_append, h.nc]; rfl, fun i hi => ?_, fun X hX => ?_, fun hgd => ?_⟩
  · rw [List.length_append] at hi
    by_cases h1 : i < cs.length
    · rw [List.getElem_append_left h1]; exact h.le i h1
    · rw [List.getElem_append_right (by omega)]
      simp only [List.getElem_singleton]
      exact hc
  · rcases List.mem_append.1 hX with h1 | h1
    · exact h.all X h1
    · rw [List.mem_singleton.1 h1]; exact hC
  · have hl : (cs ++ [c]).length = d + 1 := by rw [List.length_append, h.nl]; rfl
    by_cases h1 : gd < d
    · obtain ⟨⟨h2, h3⟩, h4⟩ := h.good h1
      exact ⟨⟨by omega, by rw [List.getElem_append_left h2]; exact h3⟩, List.mem_append.2 (.inl h4)⟩
    · have e : d = gd := by omega
      obtain ⟨h2, h3⟩ := hg e
      have hn := h.nl
      refine ⟨⟨by omega, ?_⟩, List.mem_append.2 (.inr (by rw [h3]; exact List.mem_singleton.2 rfl))⟩
      rw [List.getElem_append_right (by omega)]
      simp only [List.getElem_singleton]
      exact h2
theorem apart_lc {W w : World} {B : Nat} {lv cv : Value} {L : List Lg.Rec} {cs : List Nat} {Cs : List (List (List (BitVec 8)))} (h : LogsG w B lv cv L cs) (h' : CopsG W w B cv Cs) : lv.ownBlock ≠ cv.ownBlock ∨ lv.ownBlock = none := by
  obtain ⟨vs, h1, _⟩ := h
  obtain ⟨us, g1, _⟩ := h'
  cases hv : lv.ownBlock with
  | none => exact .inr rfl
  | some q => exact .inl fun e => rows_apart h1.toG g1.toG (by decide) q hv e.symm
theorem logs_lt {w : World} {B : Nat} {lv cv : Value} {L : List Lg.Rec} {cs : List Nat} (h : LogsG w B lv cv L cs) : ∀ q, lv.ownBlock = some q → B ≤ q ∧ q < w.heap.size := by
  obtain ⟨vs, h1, _⟩ := h
  exact h1.lt
theorem cops_lt {W w : World} {B : Nat} {cv : Value} {Cs : List (List (List (BitVec 8)))} (h : CopsG W w B cv Cs) : ∀ q, cv.ownBlock = some q → B ≤ q ∧ q < w.heap.size := by
  obtain ⟨us, h1, _⟩ := h
  exact h1.lt
theorem logs_shape {w : World} {B : Nat} {lv cv : Value} {L : List Lg.Rec} {cs : List Nat} (h : LogsG w B lv cv L cs) : ∃ a c, lv = .slice a cs.length c := by
  obtain ⟨vs, h1, h2, _⟩ := h
  obtain ⟨a, c, e, _⟩ := h1.shape
  exact ⟨a, c, by rw [e, h2]⟩
theorem cops_shape {W w : World} {B : Nat} {cv : Value} {Cs : List (List (List (BitVec 8)))} (h : CopsG W w B cv Cs) : ∃ a c, cv = .slice a Cs.length c := by
  obtain ⟨us, h1, h2, _⟩ := h
  obtain ⟨a, c, e, _⟩ := h1.shape
  exact ⟨a, c, by rw [e, h2]⟩
theorem CopyAt.cell {W w : World} {B q n c : Nat} {C : List (List (BitVec 8))} (h : CopyAt W w B (.slice (some ⟨q, 0, none⟩) n c) C) (hn : n = C.length) (k : Nat) (hk : k < n) : (∃ a m e, w.cell? ⟨q, k, none⟩ = some (.slice a m e)) ∧ w.frozen? ⟨q, k, none⟩ = false := by
  obtain ⟨xs, g1, g2, _⟩ := h
  exact ⟨⟨_, _, _, g1.toG.at (by omega) (by omega)⟩, g1.toG.frees (by omega) k⟩
theorem CopyAt.lower {W w : World} {B B' : Nat} {v : Value} {C : List (List (BitVec 8))} (h : CopyAt W w B v C) (hb : B' ≤ B) : CopyAt W w B' v C := by
  obtain ⟨xs, g1, g2, g3⟩ := h
  exact ⟨xs, g1.lower hb, g2, g3⟩
abbrev cutA (k : BitVec 8 × BitVec 8 × BitVec 8 × BitVec 8) : Array Value := #[encB k.1, encB k.2.1, encB k.2.2.1, encB k.2.2.2]
theorem cut_at (k : BitVec 8 × BitVec 8 × BitVec 8 × BitVec 8) (g d : Nat) (hd : d < 5) : ∃ j kv : Nat, j < 4 ∧ kv < 256 ∧ (d : Int).tmod 4 = (j : Int) ∧ ∀ wx, BoxAt wx g (cutA k) 48 → wx.cell? ⟨g, j, none⟩ = some (.int .u8 (kv : Int)) := by
  match d, hd with
  | 0, _ => exact ⟨0, k.1.toNat, by decide, k.1.isLt, rfl, fun wx h => h.cell 0 (v := encB k.1) rfl⟩
  | 1, _ => exact ⟨1, k.2.1.toNat, by decide, k.2.1.isLt, rfl, fun wx h => h.cell 1 (v := encB k.2.1) rfl⟩
  | 2, _ => exact ⟨2, k.2.2.1.toNat, by decide, k.2.2.1.isLt, rfl, fun wx h => h.cell 2 (v := encB k.2.2.1) rfl⟩
  | 3, _ => exact ⟨3, k.2.2.2.toNat, by decide, k.2.2.2.isLt, rfl, fun wx h => h.cell 3 (v := encB k.2.2.2) rfl⟩
  | 4, _ => exact ⟨0, k.1.toNat, by decide, k.1.isLt, rfl, fun wx h => h.cell 0 (v := encB k.1) rfl⟩
theorem tmod_nat (a b : Nat) : (a : Int).tmod (b : Int) = ((a % b : Nat) : Int) := by
  rw [Int.tmod_eq_emod_of_nonneg (Int.natCast_nonneg a)]
  exact (Int.natCast_emod a b).symm
theorem infoSy : (Tryz.prog.info? 47).map (fun i => (i.zero, i.size, i.bytes)) = some (some (.slice none 0 0), 1, 24) := by kernel_rfl
set_option maxRecDepth 100000 in
set_option maxHeartbeats 8000000 in
theorem wholeLog_walk (rv bv : Value) (rs : List Lg.Rec) (bl : List (BitVec 8)) (gen : BitVec 64) (k : BitVec 8 × BitVec 8 × BitVec 8 × BitVec 8) (good : BitVec 8) (w : World) (hs : Small w) (mr : rs.length ≤ maxLen) (hr : SliceR PatR w rv rs) (mb : bl.length ≤ maxLen) (hb : SliceAt encB w bv bl) :
    Calls Tryz.prog 4 #[rv, bv, encU gen, .agg (cutA k), .int .u8 (ub good)] w fun e w' => e = .returned (.bool true) ∧ Below w.heap.size w w' := by
  obtain ⟨ad, cap, rfl⟩ := hr.shape
  obtain ⟨bad, bcap, rfl⟩ := hb.shape
  unfold maxLen at mr mb
  obtain ⟨n, hn⟩ : ∃ n, rs.length = n := ⟨_, rfl⟩
  obtain ⟨bn, hbn⟩ : ∃ n, bl.length = n := ⟨_, rfl⟩
  have HN := Lib.hid hn
  have HBN := Lib.hid hbn
  have HRS := Lib.hid hr
  have HBS := Lib.hid hb
  have HSM := Lib.hid hs
  rw [hn] at HRS mr ⊢
  rw [hbn] at HBS mb ⊢
  clear hr hb hs hn hbn
  have HX0 := Lib.hid (Ext.alloc w (.cells (cutA k) 48))
  have HB0 := Lib.hid (BoxAt.new w (cutA k) 48)
  go_enter Tryz.func4, Tryz.ntmps4
  go_upto_region 3 with (go_at_call 5; go_loud (refine (awake31_any _ (HSM.out.ext HX0.out)).mono ?_); rintro e w1 ⟨rfl, hx1⟩; have HX1 := Lib.hid (HX0.out.trans hx1); have HB1 := Lib.hid (HB0.out.ext hx1); clear hx1)
  obtain ⟨g8, hg8⟩ : ∃ g, w.heap.size = g := ⟨_, rfl⟩
  rw [hg8] at HB1 HB0 ⊢
  have HG8 := Lib.hid hg8
  clear hg8 HB0 HX0 HSM
  by_cases h6 : 6 < n
  · have h6I : (6 : Int) < (n : Int) := by omega
    go_wp2_with fail
    go_ret
    exact ⟨rfl, HX1.out⟩
  · have h6I : ¬ ((6 : Int) < (n : Int)) := by omega
    by_cases h4 : 400 < bn
    · have h4I : (400 : Int) < (bn : Int) := by omega
      go_wp2_with fail
      go_ret
      exact ⟨rfl, HX1.out⟩
    · have h4I : ¬ ((400 : Int) < (bn : Int)) := by omega
      go_wp2_with fail
      have HRS1 := Lib.hid (HRS.out.ext HX1.out)
      have HB1' := HB1
      obtain ⟨B, hB⟩ : ∃ b, w1.heap.size = b := ⟨_, rfl⟩
      have HBB := Lib.hid hB
      clear hB
      have H6 := Lib.hid h6
      have H4 := Lib.hid h4
      clear h4 h4I h6I
      have hn6 : n ≤ 6 := by omega
      go_loopw [11, 40] (fun lv it wr => ∃ (i : Nat) (L : List Lg.Rec), i ≤ n ∧ it = .int .i64 i ∧ Hid (KeptL w1 gen i L) ∧ Hid (OutI w1 wr B lv L) ∧ Hid (Ext w1 wr)) (fun _ it _ => n - (intOf it).toNat)
      case atStart => exact ⟨0, [], Nat.zero_le _, rfl, Lib.hid ⟨Nat.le_refl _, ⟨Nat.zero_le _, fun i h => absurd h (by simp)⟩, fun i h => absurd h (by simp)⟩, Lib.hid OutI.nil, Lib.hid (Ext.refl _)⟩
      case round =>
        obtain ⟨i, L, hi, rfl, HK, HO, HX⟩ := hrel
        by_cases hlt : i < n
        · have hin : (i : Int) < (n : Int) := by omega
          have hil : i < rs.length := by rw [HN.out]; exact hlt
          obtain ⟨b, off, rfl, hb, wv, mv, nv, hr0, hri⟩ := HRS1.out.rec i hil
          have hr : wr.rangeAt b (off + i * 5) (recA rs[i] wv mv nv).toList := fun j u hj => (HX.out.cell _ _ hb).trans (hr0 j u hj)
          have hbk := blk_of hri.ws
          have hb2 := Nat.lt_of_lt_of_le hb HX.out.size
          generalize rs[i] = x at *
          obtain ⟨a1, c1, a2, c2, a3, c3, rfl, rfl, rfl⟩ := hri.shape
          have HRI := Lib.hid hri
          have HBK := Lib.hid hbk
          obtain ⟨ao, co, rfl⟩ := HO.out.shape
          have hm := HK.out.len
          obtain ⟨m, hme⟩ : ∃ m, L.length = m := ⟨_, rfl⟩
          rw [hme] at hm HO ⊢
          have HME := Lib.hid hme
          have hw1 : Go.RowKit.wrap64 ((m : Int) + 1) = (m : Int) + 1 := by unfold Go.RowKit.wrap64; omega
          have hw2 : IntKind.u64.wrap ((m : Int) + 1) = (m : Int) + 1 := u64_id _ ⟨by omega, by omega⟩
          have hsq : Value.int .u64 ((m : Int) + 1) = encU (BitVec.ofNat 64 (m + 1)) := by
            show _ = Value.int .u64 (((BitVec.ofNat 64 (m + 1)).toNat : Nat) : Int)
            rw [BitVec.toNat_ofNat]
            congr 1
            omega
          have HSQ := Lib.hid hsq
          clear hri hbk hme hr0 hsq
          go_upto_region 9 with first | (refine wpList_loadR 52 _ rfl (by rfl) rfl (rec_load (r := x) hr) ?_) | (refine wpList_store_box 52 _ _ rfl (by rfl) rfl rfl (BoxAt.new wr recZ0 52) rfl (by kernel_rfl) (by simp [Value.oneCell']) ?_; intro W2 hS; have HX2 := Lib.hid (hS.fresh rfl); have HB2 : Hid (BoxAt W2 wr.heap.size (recA x (.slice a1 x.ws.length c1) (.slice a2 x.ms.length c2) (.slice a3 x.note.length c3)) 52) := hS.box; clear hS)
          (try simp only [Act.put])
          generalize hg9 : wr.heap.size = g9 at *
          have hgB : B ≤ g9 := by rw [← hg9, ← HBB.out]; exact HX.out.size
          have HGB := Lib.hid hgB
          have HG9 := Lib.hid hg9
          clear hg9 hgB hr hb hb2
          go_upto_region 10 with first | (refine wpList_store_cell 22 _ _ rfl (by rfl) (i := 0) rfl rfl HB2.out (by simp) (by kernel_rfl) rfl ?_; intro w3 hS; have HS3 := Lib.hid hS; clear hS) | (refine wpList_store_cell 22 _ _ rfl (by rfl) (i := 1) rfl rfl HS3.out.box (by simp) (by kernel_rfl) rfl ?_; intro w4 hS; have HS4 := Lib.hid hS; clear hS)
          (try simp only [Act.put])
          have hb4 : BoxAt w4 g9 (recA (numR x gen m) (.slice a1 x.ws.length c1) (.slice a2 x.ms.length c2) (.slice a3 x.note.length c3)) 52 := by
            have h := HS4.out.box
            rw [HSQ.out] at h
            exact h
          have hx4 : Ext wr w4 := HS4.out.bel (HS3.out.bel HX2.out (Nat.le_of_eq HG9.out)) (Nat.le_of_eq HG9.out)
          have hx14 : Ext w1 w4 := HX.out.trans hx4
          have hri4 : RecIn w4 (.slice a1 x.ws.length c1) (.slice a2 x.ms.length c2) (.slice a3 x.note.length c3) (numR x gen m) := by
            have h := HRI.out.ext hx14
            exact ⟨h.ws, h.ms, h.note⟩
          have HB4 := Lib.hid hb4
          have HX4 := Lib.hid hx4
          have HX14 := Lib.hid hx14
          have HRI4 := Lib.hid hri4
          have HKS := Lib.hid (fun (hv : Lg.validR (numR x gen m) = true) => by have := HK.out.snoc (r := x) (by omega) (by rw [HME.out]; exact hv) HBK.out; rw [HME.out] at this; exact this)
          have HRI1 : Hid (RecIn w1 (.slice a1 x.ws.length c1) (.slice a2 x.ms.length c2) (.slice a3 x.note.length c3) (numR x gen m)) := Lib.hid ⟨HRI.out.ws, HRI.out.ms, HRI.out.note⟩
          have HO4 := Lib.hid (HO.out.ext hx4)
          have HLM : Hid (m ≤ 1000) := Lib.hid (by omega)
          clear hb4 hx4 hx14 hri4 HB2 HS3 HS4 HX2 hw1 hw2 HSQ HRI HO
          generalize hy : numR x gen m = y at *
          have hyw : y.ws.length = x.ws.length := by rw [← hy]; rfl
          have hym : y.ms.length = x.ms.length := by rw [← hy]; rfl
          have hyn : y.note.length = x.note.length := by rw [← hy]; rfl
          rw [← hyw, ← hym, ← hyn] at HB4 HRI4 HRI1
          clear hy hyw hym hyn HBK
          cases hsh : Lg.shortR y with
          | false =>
            have HSH := Lib.hid hsh
            clear hsh
            go_wp2_with first | (refine wpList_loadR 52 _ rfl (by rfl) rfl (rec_load (r := y) (box_range HB4.out)) ?_) | (go_at_call 12; go_loud (refine (short_any y _ _ _ _ HRI4.out).mono ?_); rintro e w5 ⟨rfl, hx5⟩; rw [HSH.out]; have HX5 := Lib.hid hx5; clear hx5)
            go_roundw
            case rel => exact ⟨i + 1, L, by omega, by go_num, Lib.hid HK.out.skip, Lib.hid (HO4.out.ext HX5.out), Lib.hid (HX14.out.trans HX5.out)⟩
            case measure => simp [intOf]; omega
          | true =>
            have hlen : y.ws.length ≤ 70 ∧ y.ms.length ≤ 70 ∧ y.note.length ≤ 300 := by unfold Lg.shortR at hsh; exact of_decide_eq_true hsh
            have HLEN := Lib.hid hlen
            have HSH := Lib.hid hsh
            clear hsh hlen
            cases hvl : Lg.validR y with
            | false =>
              have HVL := Lib.hid hvl
              clear hvl
              go_wp2_with first | (refine wpList_loadR 52 _ rfl (by rfl) rfl (rec_load (r := y) (box_range HB4.out)) ?_) | (go_at_call 12; go_loud (refine (short_any y _ _ _ _ HRI4.out).mono ?_); rintro e w5 ⟨rfl, hx5⟩; rw [HSH.out]; have HX5 := Lib.hid hx5; have HB5 := Lib.hid (HB4.out.ext hx5); clear hx5) | (refine wpList_loadR 52 _ rfl (by rfl) rfl (rec_load (r := y) (box_range HB5.out)) ?_) | (go_at_call 13; go_loud (refine (rrecvalid_any y _ _ _ _ HLEN.out (HRI4.out.ext HX5.out)).mono ?_); rintro e w6 ⟨rfl, hx6⟩; rw [HVL.out]; have HX6 := Lib.hid (HX5.out.trans hx6); clear hx6)
              go_roundw
              case rel => exact ⟨i + 1, L, by omega, by go_num, Lib.hid HK.out.skip, Lib.hid (HO4.out.ext HX6.out), Lib.hid (HX14.out.trans HX6.out)⟩
              case measure => simp [intOf]; omega
            | true =>
              have HVL := Lib.hid hvl
              clear hvl
              go_wp2_with first | (refine wpList_loadR 52 _ rfl (by rfl) rfl (rec_load (r := y) (box_range HB4.out)) ?_) | (go_at_call 12; go_loud (refine (short_any y _ _ _ _ HRI4.out).mono ?_); rintro e w5 ⟨rfl, hx5⟩; rw [HSH.out]; have HX5 := Lib.hid hx5; have HB5 := Lib.hid (HB4.out.ext hx5); clear hx5) | (refine wpList_loadR 52 _ rfl (by rfl) rfl (rec_load (r := y) (box_range HB5.out)) ?_) | (go_at_call 13; go_loud (refine (rrecvalid_any y _ _ _ _ HLEN.out (HRI4.out.ext HX5.out)).mono ?_); rintro e w6 ⟨rfl, hx6⟩; rw [HVL.out]; have HX6 := Lib.hid (HX5.out.trans hx6); have HB6 := Lib.hid (HB5.out.ext hx6); clear hx6) | (refine wpList_loadR 52 _ rfl (by rfl) rfl (rec_load (r := y) (box_range HB6.out)) ?_) | (at_builtin; refine Classical.byContradiction (fun hN => ?_))
              refine hN ?_
              clear hN
              have hX7 : Ext w4 (w6.alloc (.cells (recA y (.slice a1 y.ws.length c1) (.slice a2 y.ms.length c2) (.slice a3 y.note.length c3)) 52)) := HX6.out.trans (Ext.alloc _ _)
              have hO7 := HO4.out.ext hX7
              have hX17 := HX14.out.trans hX7
              rw [← HME.out] at hO7
              refine wpList_append_recI rfl _ _ rfl w1 B _ L (by rw [HME.out]; rfl) hO7 y (.slice a1 y.ws.length c1) (.slice a2 y.ms.length c2) (.slice a3 y.note.length c3) rfl rfl rfl HRI1.out rfl rfl rfl (by rw [HME.out]; exact HLM.out) (Nat.le_trans (Nat.le_of_eq HBB.out.symm) hX17.size) ?_
              intro v8 w8 ho8 hg8
              have HO8 := Lib.hid ho8
              have HX8 : Hid (Ext w1 w8) := by
                have h := Below.grown hX17 hg8 hX17.size (fun g hg => by have h := (hO7.lt g (by first | exact hg | (rw [HME.out]; exact hg) | (rw [HME.out] at hg; exact hg))).1; rw [HBB.out]; exact h)
                exact h
              have HKK := Lib.hid (HKS.out HVL.out)
              clear ho8 hg8 hX7 hO7 hX17
              go_wp2_with fail
              go_roundw
              case rel => exact ⟨i + 1, L ++ [y], by omega, by go_num, HKK, HO8, HX8⟩
              case measure => simp [intOf]; omega
        · have hin : ¬ ((i : Int) < (n : Int)) := by omega
          have HRD := Lib.hid (HO.out.read HX.out)
          obtain ⟨ao, co, rfl⟩ := HO.out.shape
          obtain ⟨m, hme⟩ : ∃ m, L.length = m := ⟨_, rfl⟩
          have HME := Lib.hid hme
          have hm6 : m ≤ 6 := by have := HK.out.ok.1; omega
          rw [hme] at HRD ⊢
          have HXw : Hid (Ext w wr) := Lib.hid (HX1.out.trans HX.out)
          have HBX := Lib.hid (HB1.out.ext HX.out)
          clear hme HO HX HRS1 HB1' HB1
          go_upto_region 14 with (go_at_call 14; go_loud (refine (sectors_any gen L _ _ HK.out.ok HRD.out).mono ?_); rintro e w2 ⟨sv, rfl, hso, hx2⟩; have HSO := Lib.hid hso; have HX2 := Lib.hid hx2; clear hso hx2)
          obtain ⟨sa, sc, rfl⟩ := HSO.out.shape
          have HSS : Hid (∀ s ∈ Lg.secsL L, True) := Lib.hid fun _ _ => trivial
          have hsl := secsL_small HK.out.ok HK.out.blk
          obtain ⟨sl, hsle⟩ : ∃ sl, (Lg.secsL L).length = sl := ⟨_, rfl⟩
          have HSL := Lib.hid hsle
          rw [hsle] at HSO hsl ⊢
          have HXw2 := Lib.hid (HXw.out.trans HX2.out)
          clear hsle HSS
          go_upto_region 15 with (go_at_call 15; go_loud (refine (chunks_any gen _ bl _ (by rw [HBN.out]; have := H4.out; omega) (HBS.out.ext HXw2.out)).mono ?_); rintro e w3 ⟨cv, rfl, hco, hx3⟩; have HCO := Lib.hid hco.toL; have HX3 := Lib.hid (show Ext w2 w3 from hx3); clear hco hx3)
          obtain ⟨ca, cc, rfl⟩ := HCO.out.shape
          have hcs := chunks_small (gen := gen) (l := bl) (by rw [HBN.out]; have := H4.out; omega)
          obtain ⟨cl, hcle⟩ : ∃ cl, (chunksL gen bl).length = cl := ⟨_, rfl⟩
          have HCL := Lib.hid hcle
          rw [hcle] at HCO hcs ⊢
          have hcl0 : ¬ ((cl : Int) = 0) := by omega
          have hcl1 : 1 ≤ cl := hcs.2.1
          have hcl13 : cl ≤ 13 := hcs.1
          have HCSM := Lib.hid hcs.2.2
          have HXw3 := Lib.hid (HXw2.out.trans HX3.out)
          have HB3 := Lib.hid (HBX.out.ext (HX2.out.trans HX3.out))
          have HSO3 := Lib.hid (HSO.out.rows.ext HX3.out)
          have HRD3 := Lib.hid (HRD.out.ext (HX2.out.trans HX3.out))
          clear hcle hcs HBX HXw2 HSO HRD
          go_wp2_with fail
          obtain ⟨gd, hgde⟩ : ∃ k, good.toNat % 5 = k := ⟨_, rfl⟩
          have hgd5 : gd < 5 := by omega
          have hub : ub good = (good.toNat : Int) := rfl
          have hgm1 : ub good % 5 = (gd : Int) := by rw [hub]; omega
          have hgm2 : (ub good).tmod 5 = (gd : Int) := (Int.tmod_eq_emod_of_nonneg (by rw [hub]; omega)).trans hgm1
          clear hgde hub hgm1
          obtain ⟨B3, hB3⟩ : ∃ b, w3.heap.size = b := ⟨_, rfl⟩
          have HBE := Lib.hid hB3
          have hclb : ((cl : Int) == 0) = false := beq_eq_false_iff_ne.2 hcl0
          simp only [hclb]
          clear hB3 hin hclb
          generalize wr = wo at *
          go_loopw [18, 19, 84] (fun lg cg it wr => ∃ (d : Nat) (cs : List Nat) (Cs : List (List (List (BitVec 8)))), d ≤ 5 ∧ it = .int .i64 d ∧ Hid (WlR w3 wr B3 gd L gen bl d lg cg cs Cs) ∧ Hid (Ext w3 wr)) (fun _ _ it _ => 5 - (intOf it).toNat)
          case atStart => exact ⟨0, [], [], Nat.zero_le _, rfl, Lib.hid WlR.nil, Lib.hid (Ext.refl _)⟩
          case round =>
            obtain ⟨d, cs, Cs, hd, rfl, HW, HX⟩ := hrel
            by_cases hlt : d < 5
            · have hdI : (d : Int) < 5 := by omega
              obtain ⟨vsS, hS1, hS2, hS3⟩ := HSO3.out
              obtain ⟨vsC, hC1, hC2, hC3⟩ := HCO.out
              obtain ⟨i0, hi, hi0, hi1, hi2⟩ := info_parts infoSy
              have hlS : vsS.length ≤ 1158 := by rw [hS2, HSL.out]; exact hsl
              have hlC : vsC.length ≤ 13 := by rw [hC2, HCL.out]; exact hcl13
              have hB3w : B3 ≤ wr.heap.size := by rw [← HBE.out]; exact HX.out.size
              have HS1 := Lib.hid hS1
              have HC1 := Lib.hid hC1
              clear hS1 hC1
              go_upto_region 22 with fail
              go_wp2_with (at_builtin; refine Classical.byContradiction (fun hN => ?_))
              refine hN ?_
              clear hN
              refine wpList_append_lit (enc := encS) (fun _ => rfl) rfl _ _ 33 rfl 47 i0 (.slice none 0 0) 24 Tryz.underlying33 hi hi0 hi1 hi2 rfl B3 _ rfl (World.ownsRow_lit _ #[] 0 hB3w (by decide) rfl) (Nat.le_trans hB3w (Ext.alloc _ _).size) _ vsS rfl (HS1.out.ext (HX.out.trans (Ext.alloc _ _))) (by unfold maxLen; omega) (by omega) ?_
              intro v4 w4 ho4 hx4 hf4
              have HX4 : Hid (Ext wr w4) := Lib.hid ((Ext.alloc _ _).trans hx4)
              have HR4 : Hid (RowsB w4 v4 (Lg.secsL L)) := Lib.hid ⟨vsS, ho4.slice, hS2, fun i a b => (hS3 i a b).ext (HX.out.trans HX4.out)⟩
              clear ho4 hx4 hf4 hS3 hS2 HS1
              go_wp2_with (at_builtin; refine Classical.byContradiction (fun hN => ?_))
              refine hN ?_
              clear hN
              refine wpList_append_lit (enc := encS) (fun _ => rfl) rfl _ _ 33 rfl 47 i0 (.slice none 0 0) 24 Tryz.underlying33 hi hi0 hi1 hi2 rfl w4.heap.size _ rfl (World.ownsRow_lit _ #[] 0 (Nat.le_refl _) (by decide) rfl) (Ext.alloc _ _).size _ vsC rfl (HC1.out.slice.ext (HX.out.trans (HX4.out.trans (Ext.alloc _ _)))) (by unfold maxLen; omega) (by omega) ?_
              intro v5 w5 ho5 hx5 hf5
              have HC5 : Hid (CopyAt w3 w5 w4.heap.size v5 (chunksL gen bl)) := Lib.hid ⟨vsC, ho5.toS, hC2, fun j a b => (hC3 j a b).slice⟩
              have HX45 : Hid (Ext w4 w5) := Lib.hid ((Ext.alloc _ _).trans hx5)
              clear ho5 hx5 hf5 hC3 hC2 HC1
              obtain ⟨a4, c4, rfl, hc4⟩ := HR4.out.shape
              obtain ⟨q5, c5, rfl, hq5, hl5⟩ := HC5.out.form (by rw [HCL.out]; exact hcl1)
              rw [HSL.out] at HR4 hc4 ⊢
              rw [HCL.out] at HC5 ⊢
              have HQ5 := Lib.hid hq5
              have HC4 := Lib.hid hc4
              clear hi hi0 hi1 hi2 i0 hlS hlC hB3w
              go_upto_if 97 with fail
              have hX35 : Ext w3 w5 := HX.out.trans (HX4.out.trans HX45.out)
              have HX35 := Lib.hid hX35
              have hB4 : B3 ≤ w4.heap.size := by rw [← HBE.out]; exact (HX.out.trans HX4.out).size
              have HB4 := Lib.hid hB4
              clear hX35 hB4
              go_cut [21, 22] (fun s21 s22 wx => ∃ (kk : Nat) (C : List (List (BitVec 8))), Hid (RowsB wx s21 ((Lg.secsL L).take kk)) ∧ Hid (CopyAt w3 wx B3 s22 C) ∧ Hid (C = chunksL gen bl ∨ ∃ j, C = (chunksL gen bl).set j []) ∧ Hid (d = gd → sl ≤ kk ∧ C = chunksL gen bl) ∧ Hid (Ext wr wx))
              case first =>
                by_cases hdg : d = gd
                · subst hdg
                  go_wp2_with fail
                  go_meet
                  exact ⟨sl, chunksL gen bl, Lib.hid (by rw [← HSL.out, List.take_length, HSL.out]; exact HR4.out.ext HX45.out), Lib.hid (HC5.out.lower HB4.out), Lib.hid (.inl rfl), Lib.hid fun _ => ⟨Nat.le_refl _, rfl⟩, Lib.hid (HX4.out.trans HX45.out)⟩
                · have hdgI : ¬ ((d : Int) = (gd : Int)) := by omega
                  obtain ⟨j, kv, hj4, hkv, hjm, hcell⟩ := cut_at k g8 d hlt
                  have hb5 := HB3.out.ext HX35.out
                  have c5 := hcell w5 hb5
                  have l5 := hb5.lt
                  obtain ⟨kk, hkk⟩ : ∃ kk, kv % (sl + 1) = kk := ⟨_, rfl⟩
                  obtain ⟨jj, hjj⟩ : ∃ jj, kv % cl = jj := ⟨_, rfl⟩
                  have hkm : (kv : Int).tmod ((sl : Int) + 1) = (kk : Int) := by
                    have h := tmod_nat kv (sl + 1)
                    rw [hkk] at h
                    exact h
                  have hjm2 : (kv : Int).tmod (cl : Int) = (jj : Int) := by rw [tmod_nat, hjj]
                  have hkl : kk ≤ sl := by rw [← hkk]; exact Nat.le_of_lt_succ (Nat.mod_lt _ (Nat.succ_pos _))
                  have hjl : jj < cl := by rw [← hjj]; exact Nat.mod_lt _ hcl1
                  have hjlI : (jj : Int) < (cl : Int) := by omega
                  have hkc : (kk : Int) ≤ (c4 : Int) := by have := HC4.out; omega
                  have hk0 : (0 : Int) ≤ (kk : Int) := by omega
                  have hsl0 : ¬ ((sl : Int) + 1 = 0) := by omega
                  obtain ⟨⟨ua, um, uc, hu⟩, hfz⟩ := HC5.out.cell HCL.out.symm jj hjl
                  have HPUT := Lib.hid (HC5.out.put HCL.out.symm jj)
                  have HBS5 := Lib.hid (bel_set (show Below w4.heap.size w4 w5 from HX45.out) HQ5.out jj (.slice none 0 0))
                  have HKL := Lib.hid hkl
                  have HDG := Lib.hid hdg
                  clear hkk hjj hcell hb5 hkl hdg
                  go_wp2_with fail
                  go_meet
                  exact ⟨kk, (chunksL gen bl).set jj [], Lib.hid ((HR4.out.ext (show Ext w4 _ from HBS5.out)).take kk HKL.out), Lib.hid (HPUT.out.lower HB4.out), Lib.hid (.inr ⟨jj, rfl⟩), Lib.hid fun e => absurd e HDG.out, Lib.hid (HX4.out.trans (show Ext w4 _ from HBS5.out))⟩
              case rest =>
                obtain ⟨kk, C, HR6, HC6, HCC, HGD, HX6⟩ := hcut
                generalize wc = w6 at *
                obtain ⟨a6, c6, rfl, _⟩ := HR6.out.shape
                obtain ⟨a7, c7, rfl, _⟩ := HC6.out.shape
                obtain ⟨n6, hn6e⟩ : ∃ n, ((Lg.secsL L).take kk).length = n := ⟨_, rfl⟩
                obtain ⟨n7, hn7e⟩ : ∃ n, C.length = n := ⟨_, rfl⟩
                rw [hn6e] at HR6 ⊢
                rw [hn7e] at HC6 ⊢
                clear HR4 HC5 HX4 HX45 HX35 HB4 HQ5 HC4 hn6e hc4
                have HN7 := Lib.hid hn7e
                clear hn7e
                go_upto_region 28 with (go_at_call 16; go_loud (refine (scan_any gen L kk _ _ HK.out.ok HK.out.blk HR6.out).mono ?_); rintro e w7 ⟨ov, c, nn, rfl, hcl_, hca_, hlg, hx7⟩; have HLG := Lib.hid hlg; have HX7 := Lib.hid hx7; have HCLE := Lib.hid hcl_; have HCAL := Lib.hid hca_; clear hcl_ hca_ hlg hx7)
                obtain ⟨oa, oc, rfl⟩ := HLG.out.row.shape
                obtain ⟨n8, hn8e⟩ : ∃ n, (L.take c).length = n := ⟨_, rfl⟩
                rw [hn8e] at HLG ⊢
                clear hn8e
                have hXr7 : Ext wr w7 := HX6.out.trans HX7.out
                have HXr7 := Lib.hid hXr7
                obtain ⟨la, lc, rfl⟩ := logs_shape HW.out.logs
                obtain ⟨ka, kc, rfl⟩ := cops_shape HW.out.cops
                have HNL := Lib.hid HW.out.nl
                have HNC := Lib.hid HW.out.nc
                rw [HNL.out, HNC.out] at HW ⊢
                clear hXr7
                go_wp2_with (at_builtin; refine Classical.byContradiction (fun hN => ?_))
                refine hN ?_
                clear hN
                obtain ⟨vs, hv1, hv2, hv3⟩ := HW.out.logs.ext (HXr7.out.trans (Ext.alloc w7 (.cells #[.slice oa n8 oc] 46)))
                have hB7 : B3 ≤ (w7.alloc (.cells #[.slice oa n8 oc] 46)).heap.size := by
                  rw [← HBE.out]; exact (HX.out.trans (HXr7.out.trans (Ext.alloc _ _))).size
                refine wpList_append_ownR infoRs rfl slC_len (by decide) Tryz.underlying56 rfl _ _ rfl B3 _ vs [((oa, n8, oc) : SV)] rfl hv1 rfl rfl (one_src rfl) (fun q hq u hu => ?_) (by rw [hv2, HNL.out]; omega) (by decide) hB7 ?_
                · rw [List.mem_singleton] at hq; subst hq
                  rw [show slC (oa, n8, oc) = [Value.slice oa n8 oc] from rfl, List.mem_singleton] at hu
                  subst hu; rfl
                intro v8 w8 ho8 hg8 hv8
                have hXa : Ext wr (w7.alloc (.cells #[.slice oa n8 oc] 46)) := HXr7.out.trans (Ext.alloc _ _)
                have hXa7 : Ext w7 (w7.alloc (.cells #[.slice oa n8 oc] 46)) := Ext.alloc _ _
                have hcw := HW.out.cops.ext hXa
                have hL8 : LogsG w8 B3 v8 (.slice ka d kc) L (cs ++ [c]) := logs_snoc (s := (oa, n8, oc)) hv2 hv3 (HLG.out.ext hXa7) hXa7.size (fun q hq => by
                  have h6 := HX6.out.size
                  rcases hq with hq | hq
                  · have := (logs_lt HW.out.logs q hq).2; omega
                  · have := (cops_lt HW.out.cops q hq).2; omega) ho8 hg8 hg8.size hv8
                have hC8 : CopsG w3 w8 B3 (.slice ka d kc) Cs := hcw.turn hv1.toG (by decide) (by decide) hg8
                have hK8 : CopyAt w3 w8 B3 (.slice a7 n7 c7) C := ((HC6.out.ext HX7.out).ext hXa7).turn hv1.toG (by decide) hg8
                have hX8 : Ext w3 w8 := Below.grown (HX.out.trans hXa) hg8 (HX.out.trans hXa).size (fun g hg => by have h := (hv1.lt g hg).1; rw [HBE.out]; exact h)
                have HL8 := Lib.hid hL8
                have HC8 := Lib.hid hC8
                have HK8 := Lib.hid hK8
                have HX8 := Lib.hid hX8
                obtain ⟨ba, bc, rfl⟩ := logs_shape hL8
                have hnl8 : (cs ++ [c]).length = d + 1 := by rw [List.length_append, HNL.out]; rfl
                rw [hnl8] at HL8 ⊢
                clear hL8 hC8 hK8 hX8 hXa hXa7 hcw hv1 hv2 hv3 ho8 hg8 hv8 hnl8 HLG HC6 HX7 HXr7 HX6 HR6
                go_wp2_with (at_builtin; refine Classical.byContradiction (fun hN => ?_))
                refine hN ?_
                clear hN
                obtain ⟨us, hu1, hu2, hu3⟩ := HC8.out.ext (Ext.alloc w8 (.cells #[.slice a7 n7 c7] 33))
                have hB8 : B3 ≤ (w8.alloc (.cells #[.slice a7 n7 c7] 33)).heap.size := by
                  rw [← HBE.out]; exact (HX8.out.trans (Ext.alloc _ _)).size
                refine wpList_append_ownR infoRr rfl slC_len (by decide) Tryz.underlying57 rfl _ _ rfl B3 _ us [((a7, n7, c7) : SV)] rfl hu1 rfl rfl (one_src rfl) (fun q hq u hu => ?_) (by rw [hu2, HNC.out]; omega) (by decide) hB8 ?_
                · rw [List.mem_singleton] at hq; subst hq
                  rw [show slC (a7, n7, c7) = [Value.slice a7 n7 c7] from rfl, List.mem_singleton] at hu
                  subst hu; rfl
                intro v9 w9 ho9 hg9 hv9
                have hXb : Ext w8 (w8.alloc (.cells #[.slice a7 n7 c7] 33)) := Ext.alloc _ _
                have hC9 : CopsG w3 w9 B3 v9 (Cs ++ [C]) := cops_snoc (u := (a7, n7, c7)) hu1 hu2 hu3 (HK8.out.ext hXb) ho9 hg9
                have hL9 : LogsG w9 B3 (.slice ba (d + 1) bc) v9 L (cs ++ [c]) := (HL8.out.ext hXb).turn hg9 hg9.size (apart_lc (HL8.out.ext hXb) (HC8.out.ext hXb)) hv9
                have hX9 : Ext w3 w9 := Below.grown (HX8.out.trans hXb) hg9 (HX8.out.trans hXb).size (fun g hg => by have h := (hu1.lt g hg).1; rw [HBE.out]; exact h)
                have HWN := Lib.hid (HW.out.next hL9 hC9 HCLE.out HCC.out (fun e => ⟨HCAL.out (by rw [HSL.out]; exact (HGD.out e).1), (HGD.out e).2⟩))
                have HX9 := Lib.hid hX9
                clear hXb hC9 hL9 hX9 hu1 hu2 hu3 ho9 hg9 hv9 hB7 hB8
                go_wp2_with fail
                go_roundw
                case rel => exact ⟨d + 1, cs ++ [c], Cs ++ [C], by omega, by go_num, HWN, HX9⟩
                case measure => simp [intOf]; omega
            · have hdI : ¬ ((d : Int) < 5) := by omega
              have hd5 : d = 5 := by omega
              subst hd5
              obtain ⟨la, lc, rfl⟩ := logs_shape HW.out.logs
              obtain ⟨ka, kc, rfl⟩ := cops_shape HW.out.cops
              have hgood := HW.out.good hgd5
              have HNL := Lib.hid HW.out.nl
              have HNC := Lib.hid HW.out.nc
              have hgl := cops_gat (Cs := Cs) (gen := gen) (l := bl) (by rw [HBN.out]; have := H4.out; omega) HW.out.all hgood.2
              have hall : ∀ C ∈ Cs, C.length ≤ 100000 ∧ ∀ s ∈ C, s.length ≤ 100000 := fun C hC => by
                rcases HW.out.all C hC with rfl | ⟨j, rfl⟩
                · exact ⟨by rw [HCL.out]; omega, fun s hs => Nat.le_trans (HCSM.out s hs) (by decide)⟩
                · refine ⟨by rw [List.length_set, HCL.out]; omega, fun s hs => ?_⟩
                  rcases List.mem_or_eq_of_mem_set hs with h | h
                  · exact Nat.le_trans (HCSM.out s h) (by decide)
                  · subst h; simp
              have HGA := Lib.hid (gather_any (.slice ka Cs.length kc) Cs gen wr (by rw [HNC.out]; decide) (fun C hC => (hall C hC).1) (fun C hC => (hall C hC).2) (HW.out.cops.read HX.out hall))
              rw [hgl, HNC.out] at HGA
              have HJ := Lib.hid (fun (w' : World) (e : Ext wr w') => join_any gen L cs _ w' HK.out.ok (by rw [HNL.out]; decide) HW.out.le ⟨gd, hgood.1⟩ (HW.out.logs.ext e).at)
              rw [HNL.out] at HJ
              rw [HNL.out, HNC.out]
              clear hall hgl hgood
              go_upto_region 31 with (go_at_call 17; go_loud (refine HGA.out.mono ?_); rintro e w5 ⟨bv, he5, hbo, hx5⟩; (have he5' : e = .returned (.tuple #[bv, .int .i64 0]) := he5); subst he5'; have HBO : Hid (OwnG encB 5 w5 wr.heap.size bv bl) := Lib.hid hbo; have HX5 := Lib.hid (show Ext wr w5 from hx5); clear hbo hx5 he5)
              obtain ⟨qa, qc, rfl⟩ := HBO.out.shape
              rw [HBN.out] at HBO ⊢
              have hcv1 := run_str (P := Tryz.prog) Tryz.underlying47 Tryz.underlying5 Tryz.underlying9 w5 _ _ HBO.out.slice
              have hcv2 := run_str (P := Tryz.prog) Tryz.underlying47 Tryz.underlying5 Tryz.underlying9 w5 _ _ (HBS.out.ext (HXw3.out.trans (HX.out.trans HX5.out)))
              have HJ5 := Lib.hid (HJ.out w5 HX5.out)
              have HR5 := Lib.hid (HRD3.out.ext (HX.out.trans HX5.out))
              clear HJ HGA HRD3 HCSM HCO HSO3
              go_wp2_with first | (go_at_call 19; go_loud (refine HJ5.out.mono ?_); rintro e w6 ⟨jv, rfl, hjv, hx6⟩; have HJV := Lib.hid hjv; have HX6 := Lib.hid hx6; clear hjv hx6) | (go_at_call 18; go_loud (refine (sameall_any gen L _ _ _ HK.out.ok HJV.out (HR5.out.ext HX6.out)).mono ?_); rintro e w7 ⟨rfl, hx7⟩; have HX7 := Lib.hid (HX6.out.trans hx7); clear hx7) | (go_at_call 20; go_loud (refine (next_any gen _ _ _ _ hm6).mono ?_); rintro e w8 ⟨rfl, rfl⟩) | (go_at_call 21; go_loud (refine (rnext_any gen _ _ _ _ hm6).mono ?_); rintro e w9 ⟨rfl, rfl⟩)
              go_ret
              exact ⟨by simp, HXw3.out.trans (HX.out.trans (HX5.out.trans HX7.out))⟩
end Go.Proofs.YtjabgpejmnpamaaGreatDoor
