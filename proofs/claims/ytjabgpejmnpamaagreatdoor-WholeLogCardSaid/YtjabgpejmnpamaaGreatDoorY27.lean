/-
  Part 27 of the proof.
-/
import Derived.Test.YtjabgpejmnpamaaGreatDoorY24
import Derived.Test.YtjabgpejmnpamaaGreatDoorY21
set_option linter.unusedVariables false
namespace Go.Proofs.YtjabgpejmnpamaaGreatDoor
open Go.RowKit
def recN (r : Lg.Rec) : Nat := if Lg.validR r then 0 else 1
def recR (r : Lg.Rec) : List (List (BitVec 8)) := if Lg.validR r then Lg.secsR r else []
def RecEnd (w : World) (r : Lg.Rec) (e : Ending) (w' : World) : Prop := ∃ v, e = .returned (.tuple #[v, .int .i64 (recN r : Nat)]) ∧ OwnL w' w.heap.size v (recR r) ∧ Ext w w'
set_option maxRecDepth 100000 in
set_option maxHeartbeats 4000000 in
theorem recencode_any (r : Lg.Rec) (wv mv nv : Value) (w : World) (h : RecIn w wv mv nv r) :
    Calls Tryz.prog 43 #[recV r wv mv nv] w (RecEnd w r) := by
  have HR := Lib.hid h
  obtain ⟨a1, c1, a2, c2, a3, c3, rfl, rfl, rfl⟩ := h.shape
  have hB := blk_of h.ws
  clear h
  obtain ⟨n1, h1⟩ : ∃ n, r.ws.length = n := ⟨_, rfl⟩
  obtain ⟨n2, h2⟩ : ∃ n, r.ms.length = n := ⟨_, rfl⟩
  obtain ⟨n3, h3⟩ : ∃ n, r.note.length = n := ⟨_, rfl⟩
  rw [h1, h2, h3] at HR ⊢
  clear h1 h2 h3
  have HB1 : Hid (BoxAt (w.alloc (.cells (recA r (.slice a1 n1 c1) (.slice a2 n2 c2) (.slice a3 n3 c3)) 52)) w.heap.size (recA r (.slice a1 n1 c1) (.slice a2 n2 c2) (.slice a3 n3 c3)) 52) := BoxAt.new _ _ _
  have HX1 : Hid (Ext w (w.alloc (.cells (recA r (.slice a1 n1 c1) (.slice a2 n2 c2) (.slice a3 n3 c3)) 52))) := Ext.alloc _ _
  go_enter Tryz.func43, Tryz.ntmps43
  go_upto_region 1 with fail
  generalize w.alloc (.cells (recA r (.slice a1 n1 c1) (.slice a2 n2 c2) (.slice a3 n3 c3)) 52) = w1 at *
  go_wp2_with (refine wpList_loadR 52 _ rfl (by rfl) rfl (rec_load (r := r) (box_range HB1.out)) ?_)
  go_at_call 84
  refine (recvalid_any r _ _ _ _ (HR.out.ext HX1.out)).mono ?_
  rintro e w2 ⟨rfl, hx2⟩
  have HX2 : Hid (Ext w w2) := HX1.out.trans hx2
  have HB2 := Lib.hid (HB1.out.ext hx2)
  clear hx2 HB1
  cases hv : Lg.validR r with
  | false =>
    have HN : Hid (recN r = 1) := by show _ = _; unfold recN; rw [hv]; rfl
    have HRR : Hid (recR r = []) := by show _ = _; unfold recR; rw [hv]; rfl
    go_wp2_with fail
    go_ret2
    exact ⟨_, by rw [HN.out]; rfl, by rw [HRR.out]; exact OwnL.nil, HX2.out⟩
  | true =>
    have HN : Hid (recN r = 0) := by show _ = _; unfold recN; rw [hv]; rfl
    have F := Lg.fine_of hv
    have HRR : Hid (recR r = Lg.cutR r.gen.toNat r.seq.toNat (Lg.payR r) (Lb.partsN (Lg.payR r))) := by show _ = _; unfold recR; rw [hv]; rfl
    have hpl := Lg.pay_len F hB
    have HF := Lib.hid F
    have hgen := r.gen.isLt
    have hseq := r.seq.isLt
    have HPAY := Lib.hid (fun (w' : World) (e : Ext w w') => recpayload_any r _ _ _ w' F (HR.out.ext e))
    generalize Lg.payR r = p at *
    obtain ⟨m, hm⟩ : ∃ m, p.length = m := ⟨_, rfl⟩
    have HM := Lib.hid hm
    rw [hm] at hpl
    have hN : Lb.partsN p = (m + 27) / 28 := by unfold Lb.partsN; rw [hm]
    obtain ⟨N, hNe⟩ : ∃ N, (m + 27) / 28 = N := ⟨_, rfl⟩
    have HNE := Lib.hid hNe
    rw [hNe] at hN
    have HPN := Lib.hid hN
    rw [hN] at HRR
    have hN4 : N ≤ 193 := by omega
    clear hv F hm hN hNe hB
    go_wp2_with (refine wpList_loadR 52 _ rfl (by rfl) rfl (rec_load (r := r) (box_range HB2.out)) ?_)
    go_at_call 85
    refine (HPAY.out _ HX2.out).mono ?_
    rintro e w3 ⟨v3, rfl, hs3, hx3⟩
    obtain ⟨a3', c3', rfl⟩ := hs3.shape
    obtain ⟨b, off, rfl, _, hcap⟩ := hs3.some_of' (by rw [HM.out]; omega)
    rw [HM.out] at hs3 hcap ⊢
    have HS3 := Lib.hid hs3
    have HB3 := Lib.hid (HB2.out.ext hx3)
    have HX3 : Hid (Ext w w3) := HX2.out.trans hx3
    clear hs3 hx3 HB2 HX2
    go_wp2_with fail
    go_at_call 32
    refine (chunk_any _ _ _ _).mono ?_
    rintro e w4' ⟨rfl, rfl⟩
    have HC := Lib.hid (collect_any w3.heap.size (w3.heap.size + 1) b off m c3' ((w3.alloc (.cells #[.slice (some ⟨b, off, none⟩) m c3'] 47)).alloc (.cells #[.int .i64 28] 3)) (by omega) hcap (by simp; omega) (by simp)
      (((BoxAt.new w3 #[.slice (some ⟨b, off, none⟩) m c3'] 47).ext (Ext.alloc _ _)).cell 0 rfl) ((box_new2 w3 _ #[.int .i64 28] 3).cell 0 rfl))
    have HX4 : Hid (Ext w3 ((w3.alloc (.cells #[.slice (some ⟨b, off, none⟩) m c3'] 47)).alloc (.cells #[.int .i64 28] 3))) := (Ext.alloc _ _).trans (Ext.alloc _ _)
    generalize (w3.alloc (.cells #[.slice (some ⟨b, off, none⟩) m c3'] 47)).alloc (.cells #[.int .i64 28] 3) = w4 at *
    go_wp2_with fail
    go_at_call 31
    refine HC.out.mono ?_
    rintro e w5 ⟨v5, rfl, ho5, hx5⟩
    rw [HNE.out] at ho5
    obtain ⟨a5, c5, rfl⟩ := ho5.shape
    rw [List.length_range] at ho5 ⊢
    have HS5 := Lib.hid ho5.slice
    have HX35 := Lib.hid (HX4.out.trans hx5)
    have HB5 := Lib.hid (HB3.out.ext HX35.out)
    have HSP := Lib.hid (HS3.out.ext HX35.out)
    have HX5 := Lib.hid (HX3.out.trans HX35.out)
    clear ho5 hx5 HC HX4 HB3 HX3 HX35 HS3 hcap
    go_wp2_with fail
    go_loopw [5, 18] (fun ov it wr => ∃ i : Nat, i ≤ N ∧ it = .int .i64 i ∧ Hid (OwnL wr w5.heap.size ov (Lg.cutR r.gen.toNat r.seq.toNat p i)) ∧ Hid (Ext w5 wr)) (fun _ it _ => N - (intOf it).toNat)
    case atStart => exact ⟨0, Nat.zero_le _, rfl, Lib.hid OwnL.nil, Lib.hid (Ext.refl _)⟩
    case round =>
      obtain ⟨i, hi, rfl, HO, HX⟩ := hrel
      by_cases hlt : i < N
      · have hin : (i : Int) < (N : Int) := by omega
        obtain ⟨b5, o5, rfl, hb5, hc5⟩ := (HS5.out.ext HX.out).get i (by rw [List.length_range]; exact hlt)
        rw [List.getElem_range] at hc5
        have HPA := Lib.hid ((part_at HSP.out i).ext HX.out)
        have hpal := Lb.partAt_len p i
        obtain ⟨o', ho'⟩ : ∃ o', off + 28 * i = o' := ⟨_, rfl⟩
        obtain ⟨c', hc'⟩ : ∃ c', min 28 (m - 28 * i) = c' := ⟨_, rfl⟩
        have HPV : Hid (partV b off m i = .slice (some ⟨b, o', none⟩) c' c') := by show _ = _; unfold partV; rw [ho', hc']
        rw [HPV.out] at hc5 HPA
        have HNX := Lib.hid (Lg.cutR_next r.gen.toNat r.seq.toNat p i)
        have hB := HB5.out.ext HX.out
        have k1 := hB.cell 0 (v := encU r.gen) rfl
        have k2 := hB.cell 1 (v := encU r.seq) rfl
        have hgl := hB.lt
        have HBODY : Hid (Lg.sectorR r.gen.toNat r.seq.toNat i (Lb.partsN p) (Lb.partAt p i) = Lb.sealL ([82#8] ++ Lb.numsL [r.gen.toNat, r.seq.toNat, i, N] ++ uv (Lb.partAt p i).length ++ Lb.partAt p i)) := by show _ = _; rw [HPN.out]; rfl
        rw [HBODY.out] at HNX
        generalize Lb.partAt p i = q at *
        clear ho' hc' hB
        go_wp2_with fail
        go_at_call 86
        have hnm : ∀ y, y ∈ [r.gen.toNat, r.seq.toNat, i, N] → y < 18446744073709551616 := by
          intro y hy
          simp only [List.mem_cons, List.not_mem_nil, or_false] at hy
          omega
        refine (rnumbers_any _ _ [82#8] [r.gen.toNat, r.seq.toNat, i, N] _ (by simp) (by simp) hnm ((SliceAt.lit (enc := encB) wr [82#8] _ (0, 0) _ rfl).ext (Ext.alloc _ _)) (slice_lit3 (enc := encM) (l := [r.gen.toNat, r.seq.toNat, i, N]) rfl)).mono ?_
        rintro e w6 ⟨v6, rfl, hs6, hx6⟩
        have hAl : ([82#8] ++ Lb.numsL [r.gen.toNat, r.seq.toNat, i, N]).length ≤ 41 := by
          have := numsL_len _ hnm
          simp only [List.length_append, List.length_cons, List.length_nil] at this ⊢
          omega
        generalize [82#8] ++ Lb.numsL [r.gen.toNat, r.seq.toNat, i, N] = A at *
        have HS6 := Lib.hid hs6
        have HX6 : Hid (Ext wr w6) := ((Ext.alloc _ _).trans (Ext.alloc _ _)).trans hx6
        have HPA6 := Lib.hid (HPA.out.ext HX6.out)
        have hul := (uv_len q.length (by omega)).2
        obtain ⟨body, hbody⟩ : ∃ body, A ++ uv q.length ++ q = body := ⟨_, rfl⟩
        have hbl : body.length ≤ 100 := by rw [← hbody, List.length_append, List.length_append]; omega
        have HBD := Lib.hid hbody
        rw [hbody] at HNX
        clear hs6 hx6 hnm k1 k2 hgl hbody hc5 hb5
        go_wp2_with fail
        go_at_call 36
        refine (appendBytes_any _ _ A q _ (by omega) (by omega) HS6.out HPA6.out).mono ?_
        rintro e w7 ⟨v7, rfl, ho7, hx7⟩
        rw [HBD.out] at ho7
        have HO7 := Lib.hid ho7
        have HX7 : Hid (Ext w6 w7) := hx7
        clear ho7 hx7
        go_wp2_with fail
        go_at_call 87
        refine (recsealed_any _ body w6.heap.size _ (by omega) HX7.out.size HO7.out).mono ?_
        rintro e w8 ⟨v8, rfl, ho8, hx8⟩
        have hsl8 : (Lb.sealL body).length ≤ 108 := by rw [Lb.sealL_len]; omega
        generalize Lb.sealL body = sec at *
        obtain ⟨a8, c8, rfl⟩ := OwnG.shape (enc := encB) ho8
        have HX8 : Hid (Ext w5 w8) := HX.out.trans (HX6.out.trans (show Ext w6 w8 from Below.trans HX7.out hx8))
        have HO8 : Hid (OwnG encB 5 w8 w5.heap.size (.slice a8 sec.length c8) sec) := OwnG.lower (enc := encB) ho8 (HX.out.trans HX6.out).size
        have HOL8 := Lib.hid (HO.out.ext (HX6.out.trans (show Ext w6 w8 from Below.trans HX7.out hx8)))
        obtain ⟨sl, hsl⟩ : ∃ sl, sec.length = sl := ⟨_, rfl⟩
        rw [hsl] at HO8 ⊢
        clear ho8 hx8 hsl HO7 HX7 HS6 HPA6 HX6
        go_wp2_with (at_builtin; refine Classical.byContradiction (fun hN => ?_))
        refine hN ?_
        clear hN
        have e1 : Ext w8 (w8.alloc (.cells #[.slice a8 sl c8] 47)) := Ext.alloc _ _
        have hx1 := Ext.trans HX8.out e1
        have hown := HOL8.out.ext e1
        refine wpList_append_row rfl _ _ rfl w5.heap.size _ _ rfl hown (ad := a8) (n := sl) (c := c8) (l := sec) rfl (cell_new1 _ _ _) (HO8.out.ext e1) (by rw [Lg.cutR_len]; omega) hx1.size ?_
        intro v9 w9 ho9 hg9
        rw [← HNX.out] at ho9
        have HO9 := Lib.hid ho9
        have HX9 : Hid (Ext w5 w9) := Below.grown hx1 hg9 hx1.size (fun g hg => (hown.lt g hg).1)
        clear ho9 hg9 hown hx1 e1 HOL8 HO8 HX8
        go_wp2
        go_roundw
        case rel => exact ⟨i + 1, by omega, by go_num, HO9, HX9⟩
        case measure => simp [intOf]; omega
      · have hin : N = i := by omega
        subst hin
        have hin2 : ¬ ((N : Int) < (N : Int)) := by omega
        obtain ⟨ao, co, rfl⟩ := HO.out.shape
        go_wp2_with fail
        go_ret2
        exact ⟨_, by rw [HN.out]; rfl, by rw [HRR.out]; exact HO.out.lower HX5.out.size, HX5.out.trans HX.out⟩
end Go.Proofs.YtjabgpejmnpamaaGreatDoor

namespace Go.Proofs.YtjabgpejmnpamaaGreatDoor
open Go.RowKit
theorem Lg.body_right (g s i n : Nat) (c : List (BitVec 8)) : Lg.bodyR g s i n c = 82#8 :: (uv g ++ (uv s ++ (uv i ++ (uv n ++ (uv c.length ++ (c ++ [])))))) := by
  unfold Lg.bodyR
  rw [Lb.numsL_4]
  simp
def arr4 (a b c d : Nat) : Nat → Array Value
  | 0 => #[.int .u64 0, .int .u64 0, .int .u64 0, .int .u64 0]
  | 1 => #[.int .u64 a, .int .u64 0, .int .u64 0, .int .u64 0]
  | 2 => #[.int .u64 a, .int .u64 b, .int .u64 0, .int .u64 0]
  | 3 => #[.int .u64 a, .int .u64 b, .int .u64 c, .int .u64 0]
  | _ => #[.int .u64 a, .int .u64 b, .int .u64 c, .int .u64 d]
def nth4 (a b c d : Nat) : Nat → Nat
  | 0 => a
  | 1 => b
  | 2 => c
  | _ => d
def rst4 (a b c d : Nat) (t : List (BitVec 8)) : Nat → List (BitVec 8)
  | 0 => uv a ++ (uv b ++ (uv c ++ (uv d ++ t)))
  | 1 => uv b ++ (uv c ++ (uv d ++ t))
  | 2 => uv c ++ (uv d ++ t)
  | 3 => uv d ++ t
  | _ => t
theorem arr4_get (a b c d : Nat) {k : Nat} (h : k < 4) : (arr4 a b c d k)[k]? = some (.int .u64 0) := by
  match k, h with
  | 0, _ => rfl
  | 1, _ => rfl
  | 2, _ => rfl
  | 3, _ => rfl
theorem arr4_set (a b c d : Nat) {k : Nat} (h : k < 4) : (arr4 a b c d k).setIfInBounds k (.int .u64 (nth4 a b c d k)) = arr4 a b c d (k + 1) := by
  match k, h with
  | 0, _ => rfl
  | 1, _ => rfl
  | 2, _ => rfl
  | 3, _ => rfl
theorem rst4_next (a b c d : Nat) (t : List (BitVec 8)) {k : Nat} (h : k < 4) : rst4 a b c d t k = uv (nth4 a b c d k) ++ rst4 a b c d t (k + 1) := by
  match k, h with
  | 0, _ => rfl
  | 1, _ => rfl
  | 2, _ => rfl
  | 3, _ => rfl
theorem rst4_len (a b c d : Nat) (t : List (BitVec 8)) (k : Nat) : (rst4 a b c d t k).length ≤ (rst4 a b c d t 0).length := by
  match k with
  | 0 => exact Nat.le_refl _
  | 1 => simp only [rst4, List.length_append]; omega
  | 2 => simp only [rst4, List.length_append]; omega
  | 3 => simp only [rst4, List.length_append]; omega
  | k + 4 => simp only [rst4, List.length_append]; omega
theorem nth4_lt {a b c d m : Nat} (ha : a < m) (hb : b < m) (hc : c < m) (hd : d < m) (k : Nat) : nth4 a b c d k < m := by
  unfold nth4; split <;> assumption
abbrev headA (g s i n : Nat) : Array Value := #[.int .u64 g, .int .u64 s, .int .i64 i, .int .i64 n]
abbrev headV (g s i n : Nat) : Value := .agg (headA g s i n)
theorem results_cell_tmpB {P : Program} {fn : Func} {p a b : Tmp} {ty : TypeId} (h : fn.results = #[.cell p ty, .tmp a, .tmp b]) (tmps : Array Value) (w : World) {g : Nat} {v : Value}
    (hp : tmps.getD p undef = .pointer (some ⟨g, 0, none⟩)) (hl : (loadVar ty ⟨g, 0, none⟩).run P w = .ok v w) :
    (results fn tmps).run P w = .ok (.tuple #[v, tmps.getD a undef, tmps.getD b undef]) w := by
  have hp' : tmps[p]?.getD undef = .pointer (some ⟨g, 0, none⟩) := by simpa using hp
  simp [results, h, hp', asAddr, hl]
def isB8 : Value → Bool
  | .int .u8 _ => true
  | _ => false
theorem nb_box {w : World} {g : Nat} {cs : Array Value} {t : TypeId} (h : BoxAt w g cs t) (hn : (cs.all fun v => !isB8 v) = true) : ∀ j (c : BitVec 8), w.cell? ⟨g, j, none⟩ ≠ some (encB c) := by
  intro j c hc
  unfold World.cell? at hc
  simp only [show w.heap[g]? = _ from h, Option.isSome_none, Bool.false_eq_true, if_false] at hc
  have hj : cs[j]? = some (encB c) := by simpa using hc
  rw [Array.all_eq_true_iff_forall_mem] at hn
  have := hn _ (Array.mem_of_getElem? hj)
  simp [isB8] at this
def InsEnd (w : World) (g s i n : Nat) (c : List (BitVec 8)) (e : Ending) (w' : World) : Prop := ∃ dv, e = .returned (.tuple #[headV g s i n, dv, .int .i64 0]) ∧ SliceAt encB w' dv c ∧ Ext w w'
set_option maxRecDepth 100000 in
set_option maxHeartbeats 2000000 in
theorem inspect_any (g s i n : Nat) (c : List (BitVec 8)) (v : Value) (w : World) (hg : g < 18446744073709551616) (hs0 : 1 ≤ s) (hs : s < 18446744073709551616) (hi : i < n) (hn : n ≤ 193) (hc1 : 1 ≤ c.length) (hc : c.length ≤ 28) (h : SliceAt encB w v (Lg.sectorR g s i n c)) :
    Calls Tryz.prog 89 #[v] w (InsEnd w g s i n c) := by
  obtain ⟨B, hB⟩ : ∃ B, Lg.bodyR g s i n c = B := ⟨_, rfl⟩
  have hBl : B.length ≤ 80 := by
    have := (Lg.sector_bound (g := g) (s := s) (i := i) (n := n) hg hs (by omega) (by omega) hc).1
    unfold Lg.sectorR at this
    rw [Lb.sealL_len, hB] at this
    omega
  have HBD : Hid (B = 82#8 :: rst4 g s i n (uv c.length ++ (c ++ [])) 0) := by show _ = _; rw [← hB]; exact Lg.body_right g s i n c
  unfold Lg.sectorR at h
  rw [hB] at h
  have h0 : 0 < B.length := by rw [HBD.out]; simp
  obtain ⟨m, hm⟩ : ∃ m, B.length = m := ⟨_, rfl⟩
  have HM := Lib.hid hm
  have hsl : (Lb.sealL B).length = m + 8 := by rw [Lb.sealL_len, hm]
  obtain ⟨ad, cap, rfl⟩ := h.shape
  have h00 : 0 < (Lb.sealL B).length := by omega
  obtain ⟨gb, off, rfl, hgb, hcb⟩ := h.get 0 h00
  obtain ⟨hcap, _⟩ := h.inn h00
  rw [hsl] at h hcap ⊢
  have hx0 : (Lb.sealL B)[0] = 82#8 := by
    have : (Lb.sealL B)[0]? = some 82#8 := by
      unfold Lb.sealL
      rw [List.getElem?_append_left h0, HBD.out]; rfl
    rw [List.getElem?_eq_getElem h00] at this
    exact Option.some.inj this
  rw [hx0, Nat.add_zero] at hcb
  have hcb2 : w.cell? ⟨gb, off, none⟩ = some (.int .u8 82) := hcb
  have htk : (Lb.sealL B).take m = B := by unfold Lb.sealL; rw [List.take_left' hm]
  have HS8 := Lib.hid (h.takeS (lo := m) (by omega) (by omega))
  rw [htk] at HS8
  have HD8 := Lib.hid (HS8.out.dropS (lo := 1) (by omega) (by omega))
  have hdr : B.drop 1 = rst4 g s i n (uv c.length ++ (c ++ [])) 0 := by rw [HBD.out]; rfl
  rw [hdr] at HD8
  have hrl : (rst4 g s i n (uv c.length ++ (c ++ [])) 0).length ≤ 80 := by
    rw [← hdr, List.length_drop]; omega
  have hr0 : 0 < (rst4 g s i n (uv c.length ++ (c ++ [])) 0).length := by
    have := (uv_len g hg).1
    simp only [rst4, List.length_append]; omega
  have HA := Lib.hid h
  have d3 : decide ((m : Int) + 8 < 8) = false := by rw [decide_eq_false_iff_not]; omega
  have hsub : ((m + 8 : Nat) : Int) - 8 = (m : Int) := by omega
  have hsub2 : (m : Int) + 8 - 8 = (m : Int) := by omega
  have hwr : IntKind.i64.wrap (m : Int) = (m : Int) := i64_id _ ⟨by omega, by omega⟩
  have hm80 : m ≤ 80 := by omega
  have hm1 : 1 ≤ m := by omega
  have hm0 : ((m : Int) == 0) = false := by rw [beq_eq_false_iff_ne]; omega
  have HSE : Hid (eqBB (Lb.sealL B) (Lb.sealL B) = true) := by show _ = _; unfold eqBB; simp
  have HX0 : Hid (Ext w (w.alloc (.cells #[.int .u64 0, .int .u64 0, .int .i64 0, .int .i64 0] 183))) := Ext.alloc _ _
  have HB0 : Hid (BoxAt (w.alloc (.cells #[.int .u64 0, .int .u64 0, .int .i64 0, .int .i64 0] 183)) w.heap.size #[.int .u64 0, .int .u64 0, .int .i64 0, .int .i64 0] 183) := BoxAt.new _ _ _
  clear h hcb hx0 htk hdr h00 hm hB
  go_enter Tryz.func89, Tryz.ntmps89
  go_upto_region 1 with fail
  have hcb1 := (HX0.out.cell _ _ hgb).trans hcb2
  have hgb1 := Nat.lt_of_lt_of_le hgb HX0.out.size
  generalize w.alloc (.cells #[.int .u64 0, .int .u64 0, .int .i64 0, .int .i64 0] 183) = w0 at *
  go_wp2_with fail
  go_at_call 122
  refine (clone_any _ B _ (by omega) (HS8.out.ext HX0.out)).mono ?_
  rintro e w1 ⟨v1, rfl, ho1, hx1⟩
  have HO1 := Lib.hid ho1
  have HX1 : Hid (Ext w0 w1) := hx1
  clear ho1 hx1
  go_wp2_with fail
  go_at_call 87
  refine (recsealed_any _ B w0.heap.size _ (by omega) HX1.out.size HO1.out).mono ?_
  rintro e w2 ⟨v2, rfl, ho2, hb2⟩
  have HX2 : Hid (Ext w0 w2) := Below.trans HX1.out hb2
  have HS2 := Lib.hid (OwnB.slice ho2)
  clear ho2 hb2
  go_wp2_with fail
  go_at_call 80
  refine (eqslB_any _ _ (Lb.sealL B) (Lb.sealL B) _ (by omega) (by omega) HS2.out (HA.out.ext (HX0.out.trans HX2.out))).mono ?_
  rintro e w3 ⟨rfl, hx3⟩
  rw [HSE.out]
  have HX3 : Hid (Ext w0 w3) := HX2.out.trans hx3
  clear hx3 HS2 HO1
  go_wp2_with fail
  go_at_call 123
  refine (newK_any _ _ _ (by omega) (HD8.out.ext (HX0.out.trans HX3.out))).mono ?_
  rintro e w4 ⟨rb, rfl, hge, hlt4, hr4, hx4⟩
  have HGE : Hid (w0.heap.size ≤ rb) := Nat.le_trans HX3.out.size hge
  have HBA : Hid (BoxAt (w4.alloc (.cells #[.int .u64 0, .int .u64 0, .int .u64 0, .int .u64 0] 237)) w4.heap.size (arr4 g s i n 0) 237) := BoxAt.new _ _ _
  obtain ⟨D, hD⟩ : ∃ D : Nat → Prop, (fun q => w3.heap.size ≤ q ∧ q < w4.heap.size) = D := ⟨_, rfl⟩
  have hDn : ¬ D w4.heap.size := by rw [← hD]; intro h; omega
  rw [hD] at hr4
  clear hD
  have HDN := Lib.hid hDn
  clear hDn
  have HRK : Hid (RdK D (w4.alloc (.cells #[.int .u64 0, .int .u64 0, .int .u64 0, .int .u64 0] 237)) rb (rst4 g s i n (uv c.length ++ (c ++ [])) 0) false) := hr4.ext (Ext.alloc _ _)
  have HX5 : Hid (Ext w0 (w4.alloc (.cells #[.int .u64 0, .int .u64 0, .int .u64 0, .int .u64 0] 237))) := (HX3.out.trans hx4).trans (Ext.alloc _ _)
  clear hge hr4 hx4 HX3 HX2 HX1
  go_wp2_with fail
  generalize w4.alloc (.cells #[.int .u64 0, .int .u64 0, .int .u64 0, .int .u64 0] 237) = w5 at *
  generalize w4.heap.size = K at *
  go_loopw [40] (fun it wr => ∃ k : Nat, k ≤ 4 ∧ it = .int .i64 k ∧ Hid (RdK D wr rb (rst4 g s i n (uv c.length ++ (c ++ [])) k) false) ∧ Hid (BoxAt wr K (arr4 g s i n k) 237) ∧ Hid (Ext w0 wr)) (fun it _ => 4 - (intOf it).toNat)
  case atStart => exact ⟨0, Nat.zero_le _, rfl, HRK, HBA, HX5⟩
  case round =>
    clear HRK HBA HX5
    obtain ⟨k, hk, rfl, HR, HB, HX⟩ := hrel
    by_cases hlt : k < 4
    · have hin : (k : Int) < 4 := by omega
      have hrk := rst4_len g s i n (uv c.length ++ (c ++ [])) k
      have HNX := Lib.hid (rst4_next g s i n (uv c.length ++ (c ++ [])) hlt)
      have HAS := Lib.hid (arr4_set g s i n hlt)
      have HAG := Lib.hid (arr4_get g s i n hlt)
      have hnl := nth4_lt (a := g) (b := s) (c := i) (d := n) (m := 18446744073709551616) hg hs (by omega) (by omega) k
      rw [HNX.out] at HR hrk
      generalize nth4 g s i n k = x at *
      obtain ⟨rest, hre⟩ : ∃ rest, rst4 g s i n (uv c.length ++ (c ++ [])) (k + 1) = rest := ⟨_, rfl⟩
      have HRE := Lib.hid hre
      rw [hre] at HR hrk
      clear hre
      go_wp2_with fail
      go_at_call 124
      refine (uintK_at wr rb x rest hnl (by omega) HR.out).mono ?_
      rintro e w6 ⟨rfl, hr6, hg6⟩
      have hb6 := HB.out.grown hg6 (fun e => by have := Option.some.inj e; omega)
      have HR6 := Lib.hid hr6
      have HB6 := Lib.hid hb6
      have HX6 : Hid (Ext w0 w6) := HX.out.grown hg6 HX.out.size (fun q hq => by cases hq; exact HGE.out)
      have kc := hb6.cell k HAG.out
      have kf := hb6.free k
      have kl := hb6.lt
      clear hr6 hg6 hb6
      go_wp2_with fail
      go_roundw
      case rel => exact ⟨k + 1, by omega, by go_num, Lib.hid (by rw [HRE.out]; exact HR6.out.turn (grown_set _ _ _ _) (by omega) HDN.out), Lib.hid (by rw [← HAS.out]; exact HB6.out.set k _), Lib.hid (HX6.out.setOwn (by have := HGE.out; omega))⟩
      case measure => simp [intOf]; omega
    · have hk4 : k = 4 := by omega
      subst hk4
      have HRB : Hid (RdK D wr rb (uv c.length ++ (c ++ [])) false) := HR.out
      have htl : (uv c.length ++ (c ++ [])).length ≤ 80 := Nat.le_trans (rst4_len g s i n (uv c.length ++ (c ++ [])) 4) hrl
      go_wp2_with fail
      go_at_call 126
      refine (bytesK_at wr rb c [] (by omega) (by omega) HRB.out).mono ?_
      rintro e w7 ⟨v7, hs7, _, rfl, hr7, hg7⟩
      have HB7 := Lib.hid (HB.out.grown hg7 (fun e => by have := Option.some.inj e; omega))
      have HX7 : Hid (Ext w0 w7) := HX.out.grown hg7 HX.out.size (fun q hq => by cases hq; exact HGE.out)
      have HS7 := Lib.hid hs7
      have HR7 := Lib.hid hr7
      obtain ⟨a7, c7, rfl⟩ := hs7.shape
      obtain ⟨cl, hcl⟩ : ∃ cl, c.length = cl := ⟨_, rfl⟩
      have HCL := Lib.hid hcl
      rw [hcl] at HS7 hc1 hc ⊢
      have k0 := HB7.out.cell 0 (v := .int .u64 g) rfl
      have k1 := HB7.out.cell 1 (v := .int .u64 s) rfl
      have k2 := HB7.out.cell 2 (v := .int .u64 i) rfl
      have k3 := HB7.out.cell 3 (v := .int .u64 n) rfl
      have kl := HB7.out.lt
      have d4 : decide ((s : Int) < 1) = false := by rw [decide_eq_false_iff_not]; omega
      have d5 : decide ((4096 : Int) < n) = false := by rw [decide_eq_false_iff_not]; omega
      have d6 : decide ((n : Int) ≤ i) = false := by rw [decide_eq_false_iff_not]; omega
      have d7 : decide ((cl : Int) < 1) = false := by rw [decide_eq_false_iff_not]; omega
      have d8 : decide ((28 : Int) < cl) = false := by rw [decide_eq_false_iff_not]; omega
      have hwi : IntKind.i64.wrap (i : Int) = (i : Int) := i64_id _ ⟨by omega, by omega⟩
      have hwn : IntKind.i64.wrap (n : Int) = (n : Int) := i64_id _ ⟨by omega, by omega⟩
      have hi193 : i < 193 := by omega
      clear hs7 hr7 hg7 hcl htl hk hlt
      go_wp2_with fail
      go_at_call 127
      refine (doneK_at _ _ HR7.out).mono ?_
      rintro e w8 ⟨rfl, rfl⟩
      go_wp2_with first | (refine wpList_store_box 183 _ _ rfl (by rfl) rfl rfl (HB0.out.ext HX7.out) rfl (by kernel_rfl) (by simp [Value.oneCell']) ?_; intro W9 hS; have HX9 := Lib.hid (hS.bel (HX0.out.trans HX7.out) (Nat.le_refl _)); have HS9 := Lib.hid hS)
      refine bodyPost_ret (results_cell_tmpB rfl _ _ rfl (box_result HS9.out.box Tryz.underlying183 rfl (by kernel_rfl))) rfl ⟨_, rfl, ?_, HX9.out⟩
      exact HS7.out.turn (nb_box (HB0.out.ext HX7.out) (by simp [isB8])) HS9.out.grown
end Go.Proofs.YtjabgpejmnpamaaGreatDoor

namespace Go.Proofs.YtjabgpejmnpamaaGreatDoor
open Go.RowKit
theorem infoPw : (Tryz.prog.info? 94).map (fun i => (i.zero, i.size, i.bytes)) = some (some (.agg pwZ), 11, 32) := by kernel_rfl
theorem infoMv : (Tryz.prog.info? 98).map (fun i => (i.zero, i.size, i.bytes)) = some (some (.agg mvZ), 4, 32) := by kernel_rfl
def FreshV (B E : Nat) (v : Value) : Prop := ∀ q, v.ownBlock = some q → B ≤ q ∧ q < E
structure RecOut (B : Nat) (w : World) (wv mv nv : Value) (r : Lg.Rec) : Prop where
  rin : RecIn w wv mv nv r
  fw : FreshV B w.heap.size wv
  fm : FreshV B w.heap.size mv
  fn : FreshV B w.heap.size nv
theorem RecOut.ext {B : Nat} {w w' : World} {wv mv nv : Value} {r : Lg.Rec} (h : RecOut B w wv mv nv r) (e : Ext w w') : RecOut B w' wv mv nv r :=
  ⟨h.rin.ext e, fun q hq => ⟨(h.fw q hq).1, Nat.lt_of_lt_of_le (h.fw q hq).2 e.size⟩, fun q hq => ⟨(h.fm q hq).1, Nat.lt_of_lt_of_le (h.fm q hq).2 e.size⟩, fun q hq => ⟨(h.fn q hq).1, Nat.lt_of_lt_of_le (h.fn q hq).2 e.size⟩⟩
theorem SliceR.grown {α : Type} {p : Pat α} {w w' : World} {v : Value} {l : List α} {row : Option Nat} (h : SliceR p w v l) (hg : w.grownBy w' row) (hne : ∀ q, v.ownBlock = some q → row ≠ some q) (hp : ∀ cs x, p.holds w cs x → p.holds w' cs x) : SliceR p w' v l := by
  obtain ⟨ad, cap, rfl, hca, h⟩ := h
  refine ⟨ad, cap, rfl, hca, h.imp id ?_⟩
  rintro ⟨b, off, rfl, hb, hc⟩
  refine ⟨b, off, rfl, Nat.lt_of_lt_of_le hb hg.size, fun i hi => ?_⟩
  obtain ⟨cs, h1, h2⟩ := hc i hi
  refine ⟨cs, hp _ _ h1, fun j hj => ?_⟩
  rw [World.cell?_of_block (w := w) (hg.block b hb (fun e => hne b rfl e.symm))]
  exact h2 j hj
theorem SliceAt.grown {α : Type} {enc : α → Value} {w w' : World} {v : Value} {l : List α} {row : Option Nat} (h : SliceAt enc w v l) (hg : w.grownBy w' row) (hne : ∀ q, v.ownBlock = some q → row ≠ some q) : SliceAt enc w' v l := by
  obtain ⟨ad, cap, rfl, hca, h⟩ := h
  refine ⟨ad, cap, rfl, hca, h.imp id ?_⟩
  rintro ⟨b, off, rfl, hb, hc⟩
  refine ⟨b, off, rfl, Nat.lt_of_lt_of_le hb hg.size, fun i hi => ?_⟩
  rw [World.cell?_of_block (w := w) (hg.block b hb (fun e => hne b rfl e.symm))]
  exact hc i hi
theorem RecIn.grown {w w' : World} {wv mv nv : Value} {r : Lg.Rec} {row : Option Nat} (h : RecIn w wv mv nv r) (hg : w.grownBy w' row) (h1 : ∀ q, wv.ownBlock = some q → row ≠ some q) (h2 : ∀ q, mv.ownBlock = some q → row ≠ some q) (h3 : ∀ q, nv.ownBlock = some q → row ≠ some q) : RecIn w' wv mv nv r :=
  ⟨h.ws.grown hg h1 (fun _ _ h => h), h.ms.grown hg h2 (fun _ _ h => h), h.note.grown hg h3⟩
theorem RecOut.grown {B : Nat} {w w' : World} {wv mv nv : Value} {r : Lg.Rec} {g : Nat} (h : RecOut B w wv mv nv r) (hg : w.grownBy w' (some g)) (hn : g < B) : RecOut B w' wv mv nv r := by
  have key : ∀ {v : Value}, FreshV B w.heap.size v → ∀ q, v.ownBlock = some q → some g ≠ some q := fun hf q hq e => by
    have := (hf q hq).1
    have := Option.some.inj e
    omega
  exact ⟨h.rin.grown hg (key h.fw) (key h.fm) (key h.fn), fun q hq => ⟨(h.fw q hq).1, Nat.lt_of_lt_of_le (h.fw q hq).2 hg.size⟩, fun q hq => ⟨(h.fm q hq).1, Nat.lt_of_lt_of_le (h.fm q hq).2 hg.size⟩, fun q hq => ⟨(h.fn q hq).1, Nat.lt_of_lt_of_le (h.fn q hq).2 hg.size⟩⟩
theorem ownR_apart {α β : Type} {f : α → List Value} {f' : β → List Value} {k k' : Nat} {e e' : TypeId} {w : World} {B B' : Nat} {v v' : Value} {l : List α} {l' : List β} (h : OwnR f k e w B v l) (h' : OwnR f' k' e' w B' v' l') (hne : e ≠ e') : ∀ q, v.ownBlock = some q → v'.ownBlock ≠ some q := by
  intro q hq
  rcases h.2 with ⟨h1, _⟩ | ⟨g, cap, cur, h1, _, h3, _⟩
  · rw [h1] at hq; cases hq
  · rw [h1] at hq
    injection hq with hq
    subst hq
    exact h'.not_box (show BoxAt w _ cur e from h3) hne
structure PrS (W : World) (D : Nat → Prop) (rb G B : Nat) (w : World) (rest : List (BitVec 8)) (r : Lg.Rec) (wv mv nv : Value) : Prop where
  rd : RdK D w rb rest false
  box : BoxAt w G (recA r wv mv nv) 52
  ext : Ext W w
  ows : OwnR pwrC 11 94 w B wv r.ws
  oms : OwnR mvrC 4 98 w B mv r.ms
structure PrP (W : World) (D : Nat → Prop) (rb G B : Nat) : Prop where
  r0 : W.heap.size ≤ rb
  rB : rb < B
  BG : B ≤ G
  dB : ∀ q, D q → q < B
section
variable {W : World} {D : Nat → Prop} {rb G B : Nat} {w w' : World} {rest rest' : List (BitVec 8)} {r r' : Lg.Rec} {wv mv nv wv' mv' nv' : Value}
theorem PrS.after (h : PrS W D rb G B w rest r wv mv nv) (P : PrP W D rb G B) (hr : RdK D w' rb rest' false) (hg : w.grownBy w' (some rb)) : PrS W D rb G B w' rest' r wv mv nv := by
  have hB : B ≤ w.heap.size := Nat.le_trans P.BG (Nat.le_of_lt h.box.lt)
  have ne : ∀ {v : Value}, (∀ g, v.ownBlock = some g → B ≤ g ∧ g < w.heap.size) → v.ownBlock ≠ some rb := fun hl e => by
    have := (hl rb e).1
    have := P.rB
    omega
  exact ⟨hr, h.box.grown hg (fun e => by have := Option.some.inj e; have := P.rB; have := P.BG; omega), h.ext.grown hg h.ext.size (fun q hq => by cases hq; exact P.r0), h.ows.kept hg (.inl (ne h.ows.lt)), h.oms.kept hg (.inl (ne h.oms.lt))⟩
theorem PrS.off {g : Nat} (h : PrS W D rb G B w rest r wv mv nv) (P : PrP W D rb G B) (hg : w.grownBy w' (some g)) (hB : B ≤ g) (hG : G ≠ g) (h1 : wv.ownBlock ≠ some g) (h2 : mv.ownBlock ≠ some g) : PrS W D rb G B w' rest r wv mv nv :=
  ⟨h.rd.turn hg (by have := P.rB; omega) (fun hd => by have := P.dB g hd; omega), h.box.grown hg (fun e => hG (Option.some.inj e)), h.ext.grown hg h.ext.size (fun q hq => by cases hq; have := P.r0; have := P.rB; omega), h.ows.kept hg (.inl h1), h.oms.kept hg (.inl h2)⟩
theorem PrS.more (h : PrS W D rb G B w rest r wv mv nv) (e : Ext w w') : PrS W D rb G B w' rest r wv mv nv := ⟨h.rd.ext e, h.box.ext e, h.ext.trans e, h.ows.ext e, h.oms.ext e⟩
theorem PrS.put (h : PrS W D rb G B w rest r wv mv nv) (P : PrP W D rb G B) {i : Nat} {x : Value} (hS : Stored w w' G ((recA r wv mv nv).setIfInBounds i x) 52) (hx : (recA r wv mv nv).setIfInBounds i x = recA r' wv' mv' nv')
    (h1 : OwnR pwrC 11 94 w B wv' r'.ws) (h2 : OwnR mvrC 4 98 w B mv' r'.ms) : PrS W D rb G B w' rest r' wv' mv' nv' :=
  ⟨h.rd.turn hS.grown (by have := P.rB; have := P.BG; omega) (fun hd => by have := P.dB _ hd; have := P.BG; omega), hx ▸ hS.box, h.ext.grown hS.grown h.ext.size (fun q hq => by cases hq; have := P.r0; have := P.rB; have := P.BG; omega),
   h1.kept hS.grown (.inl (h1.not_box h.box (by decide))), h2.kept hS.grown (.inl (h2.not_box h.box (by decide)))⟩
theorem PrS.make (P : PrP W D rb G B) (hr : RdK D w rb rest false) (hb : BoxAt w G (recA r wv mv nv) 52) (he : Ext W w) {i : Nat} {x : Value} (hS : Stored w w' G ((recA r wv mv nv).setIfInBounds i x) 52) (hx : (recA r wv mv nv).setIfInBounds i x = recA r' wv' mv' nv')
    (h1 : OwnR pwrC 11 94 w B wv' r'.ws) (h2 : OwnR mvrC 4 98 w B mv' r'.ms) : PrS W D rb G B w' rest r' wv' mv' nv' :=
  ⟨hr.turn hS.grown (by have := P.rB; have := P.BG; omega) (fun hd => by have := P.dB _ hd; have := P.BG; omega), hx ▸ hS.box, he.grown hS.grown he.size (fun q hq => by cases hq; have := P.r0; have := P.rB; have := P.BG; omega),
   h1.kept hS.grown (.inl (h1.not_box hb (by decide))), h2.kept hS.grown (.inl (h2.not_box hb (by decide)))⟩
theorem PrS.appW {ps : List Lg.PW} (h : PrS W D rb G B w rest r wv mv nv) (P : PrP W D rb G B) (ho : OwnR pwrC 11 94 w' B wv' ps) (hg : w.grownBy w' wv.ownBlock) :
    RdK D w' rb rest false ∧ BoxAt w' G (recA r wv mv nv) 52 ∧ Ext W w' ∧ OwnR mvrC 4 98 w' B mv r.ms := by
  have hB : B ≤ w.heap.size := Nat.le_trans P.BG (Nat.le_of_lt h.box.lt)
  have hx : Below B w w' := Below.grown (Below.refl _ _) hg hB (fun q hq => (h.ows.lt q hq).1)
  have hW : W.heap.size ≤ B := by have := P.r0; have := P.rB; omega
  exact ⟨h.rd.more hx P.rB P.dB, h.box.grown hg (fun e => h.ows.not_box h.box (by decide) e.symm), h.ext.grown hg h.ext.size (fun q hq => Nat.le_trans hW (h.ows.lt q hq).1),
    h.oms.kept hg (by
      cases hq : mv.ownBlock with
      | none => exact .inr rfl
      | some q => exact .inl fun e => ownR_apart h.oms h.ows (by decide) q hq e.symm)⟩
theorem PrS.appM {ps : List Lg.Mv} (h : PrS W D rb G B w rest r wv mv nv) (P : PrP W D rb G B) (ho : OwnR mvrC 4 98 w' B mv' ps) (hg : w.grownBy w' mv.ownBlock) :
    RdK D w' rb rest false ∧ BoxAt w' G (recA r wv mv nv) 52 ∧ Ext W w' ∧ OwnR pwrC 11 94 w' B wv r.ws := by
  have hB : B ≤ w.heap.size := Nat.le_trans P.BG (Nat.le_of_lt h.box.lt)
  have hx : Below B w w' := Below.grown (Below.refl _ _) hg hB (fun q hq => (h.oms.lt q hq).1)
  have hW : W.heap.size ≤ B := by have := P.r0; have := P.rB; omega
  exact ⟨h.rd.more hx P.rB P.dB, h.box.grown hg (fun e => h.oms.not_box h.box (by decide) e.symm), h.ext.grown hg h.ext.size (fun q hq => Nat.le_trans hW (h.oms.lt q hq).1),
    h.ows.kept hg (by
      cases hq : wv.ownBlock with
      | none => exact .inr rfl
      | some q => exact .inl fun e => ownR_apart h.ows h.oms (by decide) q hq e.symm)⟩
end
theorem one_src {α : Type} {cells : α → List Value} {k : Nat} {w : World} {x : α} {t : TypeId} {cs : Array Value} (h : cs.toList = cells x) : ∀ i (hi : i < [x].length), (w.alloc (.cells cs t)).rangeAt w.heap.size (0 + i * k) (cells [x][i]) := by
  intro i hi
  match i, hi with
  | 0, _ =>
    rw [Nat.zero_mul]
    have := box_range (BoxAt.new w cs t)
    rw [h] at this
    exact this
end Go.Proofs.YtjabgpejmnpamaaGreatDoor
