/-
  Chapter 30 (label): Encode.
-/
import Derived.Test.YthjcdikpomlpmaaLbR
import Derived.Test.YthjcdikpomlpmaaOwL
namespace Go.Proofs.Ythjcdikpomlpmaa
open Go.RowKit
set_option linter.unusedVariables false

theorem slice_lit3 {α : Type} {enc : α → Value} {w : World} {o : Obj} {l : List α} {cs : Array Value} {t : TypeId} (h : cs = (l.map enc).toArray) : SliceAt enc ((w.alloc o).alloc (.cells cs t)) (.slice (some ⟨w.heap.size + 1, 0, none⟩) l.length l.length) l := by
  have := SliceAt.lit (w.alloc o) l t (0, 0) cs h
  rwa [World.size_alloc] at this
theorem SliceAt.some_of' {α : Type} {enc : α → Value} {w : World} {ad : Option Addr} {n c : Nat} {l : List α} (h : SliceAt enc w (.slice ad n c) l) (hl : 0 < l.length) : ∃ b off, ad = some ⟨b, off, none⟩ ∧ n = l.length ∧ n ≤ c := by
  obtain ⟨ad', cap', hv, hc, h⟩ := h
  injection hv with h1 h2 h3
  subst h2 h3
  rcases h with ⟨h0, _⟩ | ⟨b, off, h4, _⟩
  · subst h0; simp at hl
  · exact ⟨b, off, h1.trans h4, rfl, hc⟩
theorem part_at {w : World} {b off m cap : Nat} {p : List (BitVec 8)} (h : SliceAt encB w (.slice (some ⟨b, off, none⟩) m cap) p) (i : Nat) : SliceAt encB w (partV b off m i) (Lb.partAt p i) := by
  obtain ⟨ad', cap', hv, hc, h⟩ := h
  injection hv with h1 h2 h3
  subst h2
  have hl : (Lb.partAt p i).length = min 28 (p.length - 28 * i) := by unfold Lb.partAt; rw [List.length_take, List.length_drop]
  refine ⟨some ⟨b, off + 28 * i, none⟩, min 28 (p.length - 28 * i), by rw [hl], by rw [hl]; exact Nat.le_refl _, ?_⟩
  rcases h with ⟨h0, _⟩ | ⟨b', off', h4, hlt, hcell⟩
  · subst h0
    exact .inl ⟨by unfold Lb.partAt; simp, fun e => by cases e⟩
  · rw [← h1] at h4
    injection h4 with h4
    injection h4 with h5 h6 _
    subst h5 h6
    refine .inr ⟨b, off + 28 * i, rfl, hlt, fun j hj => ?_⟩
    rw [hl] at hj
    have hj2 : j < (Lb.partAt p i).length := by rw [hl]; exact hj
    have e : (Lb.partAt p i)[j] = p[28 * i + j] := by simp only [Lb.partAt, List.getElem_take, List.getElem_drop]
    rw [show off + 28 * i + j = off + (28 * i + j) by omega, hcell (28 * i + j) (by omega), e]
theorem chunk_any (ad : Option Addr) (m c : Nat) (w : World) :
    Calls Try.prog 30 #[.slice ad m c, .int .i64 28] w fun e w' => e = .returned (.func (.func 51) #[] #[.pointer (some ⟨w.heap.size, 0, none⟩), .pointer (some ⟨w.heap.size + 1, 0, none⟩)]) ∧ w' = (w.alloc (.cells #[.slice ad m c] 35)).alloc (.cells #[.int .i64 28] 3) := by
  go_enter Try.func30, Try.ntmps30
  go_wp2_with fail
  go_ret
  exact ⟨rfl, rfl⟩
theorem collect_any (g1 g2 b off m cap : Nat) (w : World) (hm : m ≤ 20000) (hcap : m ≤ cap) (hg1 : g1 < w.heap.size) (hg2 : g2 < w.heap.size)
    (hc1 : w.cell? ⟨g1, 0, none⟩ = some (.slice (some ⟨b, off, none⟩) m cap)) (hc2 : w.cell? ⟨g2, 0, none⟩ = some (.int .i64 28)) :
    Calls Try.prog 29 #[.func (.func 51) #[] #[.pointer (some ⟨g1, 0, none⟩), .pointer (some ⟨g2, 0, none⟩)]] w fun e W' => ∃ v, e = .returned v ∧ OwnG (partV b off m) 35 W' w.heap.size v (List.range ((m + 27) / 28)) ∧ Ext w W' := by
  go_enter Try.func29, Try.ntmps29
  go_wp2_with fail
  go_at_call 50
  refine (callsIn_wide.1 (appendSeq_in g1 g2 b off m cap w hm hcap hg1 hg2 hc1 hc2)).mono ?_
  rintro e w2 ⟨v2, rfl, ho2, hx2⟩
  have HO := Lib.hid ho2
  have HX := Lib.hid hx2
  clear ho2 hx2
  go_wp2_with fail
  go_ret
  exact ⟨_, rfl, HO.out, HX.out⟩
def cutK (g d : Nat) (p : List (BitVec 8)) (k : Nat) : List (List (BitVec 8)) := (List.range k).map fun i => Lb.sectorL g d i (Lb.partsN p) (Lb.partAt p i)
theorem cutK_next (g d : Nat) (p : List (BitVec 8)) (k : Nat) : cutK g d p (k + 1) = cutK g d p k ++ [Lb.sectorL g d k (Lb.partsN p) (Lb.partAt p k)] := by unfold cutK; rw [List.range_succ, List.map_append]; rfl
theorem cutK_len (g d : Nat) (p : List (BitVec 8)) (k : Nat) : (cutK g d p k).length = k := by unfold cutK; simp
def encN' (l : Lab) (x : List Bool) : Nat := if validL l x then 0 else 1
def encR (l : Lab) (x : List Bool) : List (List (BitVec 8)) := if validL l x then Lb.encL l x else []
def EncEnd (w : World) (l : Lab) (x : List Bool) (e : Ending) (w' : World) : Prop := ∃ v, e = .returned (.tuple #[v, .int .i64 (encN' l x : Nat)]) ∧ OwnL w' w.heap.size v (encR l x) ∧ Ext w w'
set_option maxRecDepth 100000 in
set_option maxHeartbeats 4000000 in
theorem encode_any (l : Lab) (dv : Value) (x : List Bool) (w : World) (hl : x.length ≤ 100000) (h : SliceAt Value.bool w dv x) :
    Calls Try.prog 11 #[labV l dv] w (EncEnd w l x) := by
  have HV := Lib.hid (fun (w' : World) (e : Ext w w') => valid_any l dv x w' hl (h.ext e))
  have HP := Lib.hid (fun (w' : World) (e : Ext w w') (F : Lb.Fine l x) => payload_any l dv x w' F (h.ext e))
  obtain ⟨ad, cd, rfl⟩ := h.shape
  obtain ⟨n, hn⟩ : ∃ n, x.length = n := ⟨_, rfl⟩
  rw [hn] at HV HP ⊢
  have HB1 : Hid (BoxAt (w.alloc (.cells (labA l (.slice ad n cd)) 29)) w.heap.size (labA l (.slice ad n cd)) 29) := BoxAt.new _ _ _
  have HX1 : Hid (Ext w (w.alloc (.cells (labA l (.slice ad n cd)) 29))) := Ext.alloc _ _
  clear h hl hn
  go_enter Try.func11, Try.ntmps11
  go_upto_region 1 with fail
  generalize w.alloc (.cells (labA l (.slice ad n cd)) 29) = w1 at *
  go_wp2_with (refine wpList_loadR 29 _ rfl (by rfl) rfl (LabAt.of_box HB1.out).load ?_)
  go_at_call 17
  refine (HV.out _ HX1.out).mono ?_
  rintro e w2 ⟨rfl, hx2⟩
  have HX2 : Hid (Ext w w2) := HX1.out.trans hx2
  have HB2 := Lib.hid (HB1.out.ext hx2)
  clear hx2 HB1
  cases hv : validL l x with
  | false =>
    have HN : Hid (encN' l x = 1) := by show _ = _; unfold encN'; rw [hv]; rfl
    have HR : Hid (encR l x = []) := by show _ = _; unfold encR; rw [hv]; rfl
    go_wp2_with fail
    go_ret2
    exact ⟨_, by rw [HN.out]; rfl, by rw [HR.out]; exact OwnL.nil, HX2.out⟩
  | true =>
    have HN : Hid (encN' l x = 0) := by show _ = _; unfold encN'; rw [hv]; rfl
    have F := Lb.fine_of hv
    have HR : Hid (encR l x = cutK l.gen.toNat l.disk.toNat (Lb.payL l x) (Lb.partsN (Lb.payL l x))) := by show _ = _; unfold encR; rw [hv]; rfl
    have hpl := Lb.pay_len F
    have HF := Lib.hid F
    obtain ⟨dk, hdk⟩ := Int.eq_ofNat_of_zero_le F.disk.1
    have hdk60 : dk < 60 := by have := F.disk.2; omega
    have HDK : Hid ((dk : Int) = l.disk) := hdk.symm
    rw [hdk, Int.toNat_natCast] at HR
    have hgen := l.gen.isLt
    generalize Lb.payL l x = p at *
    obtain ⟨m, hm⟩ : ∃ m, p.length = m := ⟨_, rfl⟩
    have HM := Lib.hid hm
    rw [hm] at hpl
    have hN : Lb.partsN p = (m + 27) / 28 := by unfold Lb.partsN; rw [hm]
    obtain ⟨N, hNe⟩ : ∃ N, (m + 27) / 28 = N := ⟨_, rfl⟩
    have HNE := Lib.hid hNe
    rw [hNe] at hN
    have HPN := Lib.hid hN
    rw [hN] at HR
    have hN4 : N ≤ 4 := by omega
    clear hv F hdk hm hN hNe
    go_wp2_with (refine wpList_loadR 29 _ rfl (by rfl) rfl (LabAt.of_box HB2.out).load ?_)
    go_at_call 31
    refine (HP.out _ HX2.out HF.out).mono ?_
    rintro e w3 ⟨v3, rfl, hs3, hx3⟩
    obtain ⟨a3, c3, rfl⟩ := hs3.shape
    obtain ⟨b, off, rfl, _, hcap⟩ := hs3.some_of' (by rw [HM.out]; omega)
    rw [HM.out] at hs3 hcap ⊢
    have HS3 := Lib.hid hs3
    have HB3 := Lib.hid (HB2.out.ext hx3)
    have HX3 : Hid (Ext w w3) := HX2.out.trans hx3
    clear hs3 hx3 HB2 HX2
    go_wp2_with fail
    go_at_call 30
    refine (chunk_any _ _ _ _).mono ?_
    rintro e w4' ⟨rfl, rfl⟩
    have HC := Lib.hid (collect_any w3.heap.size (w3.heap.size + 1) b off m c3 ((w3.alloc (.cells #[.slice (some ⟨b, off, none⟩) m c3] 35)).alloc (.cells #[.int .i64 28] 3)) (by omega) hcap (by simp; omega) (by simp)
      (((BoxAt.new w3 #[.slice (some ⟨b, off, none⟩) m c3] 35).ext (Ext.alloc _ _)).cell 0 rfl) ((box_new2 w3 _ #[.int .i64 28] 3).cell 0 rfl))
    have HX4 : Hid (Ext w3 ((w3.alloc (.cells #[.slice (some ⟨b, off, none⟩) m c3] 35)).alloc (.cells #[.int .i64 28] 3))) := (Ext.alloc _ _).trans (Ext.alloc _ _)
    generalize (w3.alloc (.cells #[.slice (some ⟨b, off, none⟩) m c3] 35)).alloc (.cells #[.int .i64 28] 3) = w4 at *
    go_wp2_with fail
    go_at_call 29
    refine HC.out.mono ?_
    rintro e w5 ⟨v5, rfl, ho5, hx5⟩
    rw [HNE.out] at ho5
    obtain ⟨a5, c5, rfl⟩ := ho5.shape
    rw [List.length_range] at ho5 ⊢
    have HS5 := Lib.hid ho5.slice
    have HX35 := Lib.hid (HX4.out.trans hx5)
    have HB5 := Lib.hid (HB3.out.ext HX35.out)
    have HSP := Lib.hid (HS3.out.ext HX35.out)
    have HX5 := Lib.hid (HX3.out.trans HX35.out)
    clear ho5 hx5 HC HX4 HB3 HX3 HX35 HS3 hcap
    go_wp2_with fail
    go_loopw [5, 18] (fun ov it wr => ∃ i : Nat, i ≤ N ∧ it = .int .i64 i ∧ Hid (OwnL wr w5.heap.size ov (cutK l.gen.toNat dk p i)) ∧ Hid (Ext w5 wr)) (fun _ it _ => N - (intOf it).toNat)
    case atStart => exact ⟨0, Nat.zero_le _, rfl, Lib.hid OwnL.nil, Lib.hid (Ext.refl _)⟩
    case round =>
      obtain ⟨i, hi, rfl, HO, HX⟩ := hrel
      by_cases hlt : i < N
      · have hin : (i : Int) < (N : Int) := by omega
        obtain ⟨b5, o5, rfl, hb5, hc5⟩ := (HS5.out.ext HX.out).get i (by rw [List.length_range]; exact hlt)
        rw [List.getElem_range] at hc5
        have HPA := Lib.hid ((part_at HSP.out i).ext HX.out)
        have hpal := Lb.partAt_len p i
        obtain ⟨o', ho'⟩ : ∃ o', off + 28 * i = o' := ⟨_, rfl⟩
        obtain ⟨c', hc'⟩ : ∃ c', min 28 (m - 28 * i) = c' := ⟨_, rfl⟩
        have HPV : Hid (partV b off m i = .slice (some ⟨b, o', none⟩) c' c') := by show _ = _; unfold partV; rw [ho', hc']
        rw [HPV.out] at hc5 HPA
        have HNX := Lib.hid (cutK_next l.gen.toNat dk p i)
        have hB := HB5.out.ext HX.out
        have k1 := hB.cell 1 (v := .int .i64 dk) (by rw [HDK.out]; rfl)
        have k2 := hB.cell 2 (v := encU l.gen) rfl
        have hgl := hB.lt
        have HBODY : Hid (Lb.sectorL l.gen.toNat dk i (Lb.partsN p) (Lb.partAt p i) = Lb.sealL ([76#8] ++ Lb.numsL [l.gen.toNat, dk, i, N] ++ uv (Lb.partAt p i).length ++ Lb.partAt p i)) := by show _ = _; rw [HPN.out]; rfl
        rw [HBODY.out] at HNX
        generalize Lb.partAt p i = q at *
        clear ho' hc' hB
        go_wp2_with fail
        go_at_call 32
        have hnm : ∀ y, y ∈ [l.gen.toNat, dk, i, N] → y < 18446744073709551616 := by
          intro y hy
          simp only [List.mem_cons, List.not_mem_nil, or_false] at hy
          omega
        refine (numbers_any _ _ [76#8] [l.gen.toNat, dk, i, N] _ (by simp) (by simp) hnm ((SliceAt.lit (enc := encB) wr [76#8] _ (0, 0) _ rfl).ext (Ext.alloc _ _)) (slice_lit3 (enc := encM) (l := [l.gen.toNat, dk, i, N]) rfl)).mono ?_
        rintro e w6 ⟨v6, rfl, hs6, hx6⟩
        have hAl : ([76#8] ++ Lb.numsL [l.gen.toNat, dk, i, N]).length ≤ 41 := by
          have := numsL_len _ hnm
          simp only [List.length_append, List.length_cons, List.length_nil] at this ⊢
          omega
        generalize [76#8] ++ Lb.numsL [l.gen.toNat, dk, i, N] = A at *
        have HS6 := Lib.hid hs6
        have HX6 : Hid (Ext wr w6) := ((Ext.alloc _ _).trans (Ext.alloc _ _)).trans hx6
        have HPA6 := Lib.hid (HPA.out.ext HX6.out)
        have hul := (uv_len q.length (by omega)).2
        obtain ⟨body, hbody⟩ : ∃ body, A ++ uv q.length ++ q = body := ⟨_, rfl⟩
        have hbl : body.length ≤ 100 := by rw [← hbody, List.length_append, List.length_append]; omega
        have HBD := Lib.hid hbody
        rw [hbody] at HNX
        clear hs6 hx6 hnm k1 k2 hgl hbody hc5 hb5
        go_wp2_with fail
        go_at_call 34
        refine (appendBytes_any _ _ A q _ (by omega) (by omega) HS6.out HPA6.out).mono ?_
        rintro e w7 ⟨v7, rfl, ho7, hx7⟩
        rw [HBD.out] at ho7
        have HO7 := Lib.hid ho7
        have HX7 : Hid (Ext w6 w7) := hx7
        clear ho7 hx7
        go_wp2_with fail
        go_at_call 33
        refine (sealed_any _ body w6.heap.size _ (by omega) HX7.out.size HO7.out).mono ?_
        rintro e w8 ⟨v8, rfl, ho8, hx8⟩
        have hsl8 : (Lb.sealL body).length ≤ 108 := by rw [Lb.sealL_len]; omega
        generalize Lb.sealL body = sec at *
        obtain ⟨a8, c8, rfl⟩ := OwnG.shape (enc := encB) ho8
        have HX8 : Hid (Ext w5 w8) := HX.out.trans (HX6.out.trans (show Ext w6 w8 from Below.trans HX7.out hx8))
        have HO8 : Hid (OwnG encB 5 w8 w5.heap.size (.slice a8 sec.length c8) sec) := OwnG.lower (enc := encB) ho8 (HX.out.trans HX6.out).size
        have HOL8 := Lib.hid (HO.out.ext (HX6.out.trans (show Ext w6 w8 from Below.trans HX7.out hx8)))
        obtain ⟨sl, hsl⟩ : ∃ sl, sec.length = sl := ⟨_, rfl⟩
        rw [hsl] at HO8 ⊢
        clear ho8 hx8 hsl HO7 HX7 HS6 HPA6 HX6
        go_wp2_with (at_builtin; refine Classical.byContradiction (fun hN => ?_))
        refine hN ?_
        clear hN
        have e1 : Ext w8 (w8.alloc (.cells #[.slice a8 sl c8] 35)) := Ext.alloc _ _
        have hx1 := Ext.trans HX8.out e1
        have hown := HOL8.out.ext e1
        refine wpList_append_row rfl _ _ rfl w5.heap.size _ _ rfl hown (ad := a8) (n := sl) (c := c8) (l := sec) rfl (cell_new1 _ _ _) (HO8.out.ext e1) (by rw [cutK_len]; omega) hx1.size ?_
        intro v9 w9 ho9 hg9
        rw [← HNX.out] at ho9
        have HO9 := Lib.hid ho9
        have HX9 : Hid (Ext w5 w9) := Below.grown hx1 hg9 hx1.size (fun g hg => (hown.lt g hg).1)
        clear ho9 hg9 hown hx1 e1 HOL8 HO8 HX8
        go_wp2
        go_roundw
        case rel => exact ⟨i + 1, by omega, by go_num, HO9, HX9⟩
        case measure => simp [intOf]; omega
      · have hin : N = i := by omega
        subst hin
        have hin2 : ¬ ((N : Int) < (N : Int)) := by omega
        obtain ⟨ao, co, rfl⟩ := HO.out.shape
        go_wp2_with fail
        go_ret2
        exact ⟨_, by rw [HN.out]; rfl, by rw [HR.out]; exact HO.out.lower HX5.out.size, HX5.out.trans HX.out⟩
end Go.Proofs.Ythjcdikpomlpmaa
