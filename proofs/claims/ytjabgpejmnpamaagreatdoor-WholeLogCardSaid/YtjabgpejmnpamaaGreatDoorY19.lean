/-
  Part 19 of the proof.
-/
import Derived.Test.YtjabgpejmnpamaaGreatDoorY18
set_option linter.unusedVariables false
namespace Go.Proofs.YtjabgpejmnpamaaGreatDoor
open Go.RowKit
theorem slice_lit3 {α : Type} {enc : α → Value} {w : World} {o : Obj} {l : List α} {cs : Array Value} {t : TypeId} (h : cs = (l.map enc).toArray) : SliceAt enc ((w.alloc o).alloc (.cells cs t)) (.slice (some ⟨w.heap.size + 1, 0, none⟩) l.length l.length) l := by
  have := SliceAt.lit (w.alloc o) l t (0, 0) cs h
  rwa [World.size_alloc] at this
theorem SliceAt.some_of' {α : Type} {enc : α → Value} {w : World} {ad : Option Addr} {n c : Nat} {l : List α} (h : SliceAt enc w (.slice ad n c) l) (hl : 0 < l.length) : ∃ b off, ad = some ⟨b, off, none⟩ ∧ n = l.length ∧ n ≤ c := by
  obtain ⟨ad', cap', hv, hc, h⟩ := h
  injection hv with h1 h2 h3
  subst h2 h3
  rcases h with ⟨h0, _⟩ | ⟨b, off, h4, _⟩
  · subst h0; simp at hl
  · exact ⟨b, off, h1.trans h4, rfl, hc⟩
theorem part_at {w : World} {b off m cap : Nat} {p : List (BitVec 8)} (h : SliceAt encB w (.slice (some ⟨b, off, none⟩) m cap) p) (i : Nat) : SliceAt encB w (partV b off m i) (Lb.partAt p i) := by
  obtain ⟨ad', cap', hv, hc, h⟩ := h
  injection hv with h1 h2 h3
  subst h2
  have hl : (Lb.partAt p i).length = min 28 (p.length - 28 * i) := by unfold Lb.partAt; rw [List.length_take, List.length_drop]
  refine ⟨some ⟨b, off + 28 * i, none⟩, min 28 (p.length - 28 * i), by rw [hl], by rw [hl]; exact Nat.le_refl _, ?_⟩
  rcases h with ⟨h0, _⟩ | ⟨b', off', h4, hlt, hcell⟩
  · subst h0
    exact .inl ⟨by unfold Lb.partAt; simp, fun e => by cases e⟩
  · rw [← h1] at h4
    injection h4 with h4
    injection h4 with h5 h6 _
    subst h5 h6
    refine .inr ⟨b, off + 28 * i, rfl, hlt, fun j hj => ?_⟩
    rw [hl] at hj
    have hj2 : j < (Lb.partAt p i).length := by rw [hl]; exact hj
    have e : (Lb.partAt p i)[j] = p[28 * i + j] := by simp only [Lb.partAt, List.getElem_take, List.getElem_drop]
    rw [show off + 28 * i + j = off + (28 * i + j) by omega, hcell (28 * i + j) (by omega), e]
theorem chunk_any (ad : Option Addr) (m c : Nat) (w : World) :
    Calls Tryz.prog 32 #[.slice ad m c, .int .i64 28] w fun e w' => e = .returned (.func (.func 72) #[] #[.pointer (some ⟨w.heap.size, 0, none⟩), .pointer (some ⟨w.heap.size + 1, 0, none⟩)]) ∧ w' = (w.alloc (.cells #[.slice ad m c] 47)).alloc (.cells #[.int .i64 28] 3) := by
  go_enter Tryz.func32, Tryz.ntmps32
  go_wp2_with fail
  go_ret
  exact ⟨rfl, rfl⟩
theorem collect_any (g1 g2 b off m cap : Nat) (w : World) (hm : m ≤ 20000) (hcap : m ≤ cap) (hg1 : g1 < w.heap.size) (hg2 : g2 < w.heap.size)
    (hc1 : w.cell? ⟨g1, 0, none⟩ = some (.slice (some ⟨b, off, none⟩) m cap)) (hc2 : w.cell? ⟨g2, 0, none⟩ = some (.int .i64 28)) :
    Calls Tryz.prog 31 #[.func (.func 72) #[] #[.pointer (some ⟨g1, 0, none⟩), .pointer (some ⟨g2, 0, none⟩)]] w fun e W' => ∃ v, e = .returned v ∧ OwnG (partV b off m) 47 W' w.heap.size v (List.range ((m + 27) / 28)) ∧ Ext w W' := by
  go_enter Tryz.func31, Tryz.ntmps31
  go_wp2_with fail
  go_at_call 71
  refine (callsIn_wide.1 (appendSeq_in g1 g2 b off m cap w hm hcap hg1 hg2 hc1 hc2)).mono ?_
  rintro e w2 ⟨v2, rfl, ho2, hx2⟩
  have HO := Lib.hid ho2
  have HX := Lib.hid hx2
  clear ho2 hx2
  go_wp2_with fail
  go_ret
  exact ⟨_, rfl, HO.out, HX.out⟩
def cutK (g d : Nat) (p : List (BitVec 8)) (k : Nat) : List (List (BitVec 8)) := (List.range k).map fun i => Lb.sectorL g d i (Lb.partsN p) (Lb.partAt p i)
theorem cutK_next (g d : Nat) (p : List (BitVec 8)) (k : Nat) : cutK g d p (k + 1) = cutK g d p k ++ [Lb.sectorL g d k (Lb.partsN p) (Lb.partAt p k)] := by unfold cutK; rw [List.range_succ, List.map_append]; rfl
theorem cutK_len (g d : Nat) (p : List (BitVec 8)) (k : Nat) : (cutK g d p k).length = k := by unfold cutK; simp
def encN' (l : Lab) (x : List Bool) : Nat := if validL l x then 0 else 1
def encR (l : Lab) (x : List Bool) : List (List (BitVec 8)) := if validL l x then Lb.encL l x else []
def EncEnd (w : World) (l : Lab) (x : List Bool) (e : Ending) (w' : World) : Prop := ∃ v, e = .returned (.tuple #[v, .int .i64 (encN' l x : Nat)]) ∧ OwnL w' w.heap.size v (encR l x) ∧ Ext w w'
set_option maxRecDepth 100000 in
set_option maxHeartbeats 4000000 in
theorem encode_any (l : Lab) (dv : Value) (x : List Bool) (w : World) (hl : x.length ≤ 100000) (h : SliceAt Value.bool w dv x) :
    Calls Tryz.prog 7 #[labV l dv] w (EncEnd w l x) := by
  have HV := Lib.hid (fun (w' : World) (e : Ext w w') => valid_any l dv x w' hl (h.ext e))
  have HP := Lib.hid (fun (w' : World) (e : Ext w w') (F : Lb.Fine l x) => payload_any l dv x w' F (h.ext e))
  obtain ⟨ad, cd, rfl⟩ := h.shape
  obtain ⟨n, hn⟩ : ∃ n, x.length = n := ⟨_, rfl⟩
  rw [hn] at HV HP ⊢
  have HB1 : Hid (BoxAt (w.alloc (.cells (labA l (.slice ad n cd)) 29)) w.heap.size (labA l (.slice ad n cd)) 29) := BoxAt.new _ _ _
  have HX1 : Hid (Ext w (w.alloc (.cells (labA l (.slice ad n cd)) 29))) := Ext.alloc _ _
  clear h hl hn
  go_enter Tryz.func7, Tryz.ntmps7
  go_upto_region 1 with fail
  generalize w.alloc (.cells (labA l (.slice ad n cd)) 29) = w1 at *
  go_wp2_with (refine wpList_loadR 29 _ rfl (by rfl) rfl (LabAt.of_box HB1.out).load ?_)
  go_at_call 30
  refine (HV.out _ HX1.out).mono ?_
  rintro e w2 ⟨rfl, hx2⟩
  have HX2 : Hid (Ext w w2) := HX1.out.trans hx2
  have HB2 := Lib.hid (HB1.out.ext hx2)
  clear hx2 HB1
  cases hv : validL l x with
  | false =>
    have HN : Hid (encN' l x = 1) := by show _ = _; unfold encN'; rw [hv]; rfl
    have HR : Hid (encR l x = []) := by show _ = _; unfold encR; rw [hv]; rfl
    go_wp2_with fail
    go_ret2
    exact ⟨_, by rw [HN.out]; rfl, by rw [HR.out]; exact OwnL.nil, HX2.out⟩
  | true =>
    have HN : Hid (encN' l x = 0) := by show _ = _; unfold encN'; rw [hv]; rfl
    have F := Lb.fine_of hv
    have HR : Hid (encR l x = cutK l.gen.toNat l.disk.toNat (Lb.payL l x) (Lb.partsN (Lb.payL l x))) := by show _ = _; unfold encR; rw [hv]; rfl
    have hpl := Lb.pay_len F
    have HF := Lib.hid F
    obtain ⟨dk, hdk⟩ := Int.eq_ofNat_of_zero_le F.disk.1
    have hdk60 : dk < 60 := by have := F.disk.2; omega
    have HDK : Hid ((dk : Int) = l.disk) := hdk.symm
    rw [hdk, Int.toNat_natCast] at HR
    have hgen := l.gen.isLt
    generalize Lb.payL l x = p at *
    obtain ⟨m, hm⟩ : ∃ m, p.length = m := ⟨_, rfl⟩
    have HM := Lib.hid hm
    rw [hm] at hpl
    have hN : Lb.partsN p = (m + 27) / 28 := by unfold Lb.partsN; rw [hm]
    obtain ⟨N, hNe⟩ : ∃ N, (m + 27) / 28 = N := ⟨_, rfl⟩
    have HNE := Lib.hid hNe
    rw [hNe] at hN
    have HPN := Lib.hid hN
    rw [hN] at HR
    have hN4 : N ≤ 4 := by omega
    clear hv F hdk hm hN hNe
    go_wp2_with (refine wpList_loadR 29 _ rfl (by rfl) rfl (LabAt.of_box HB2.out).load ?_)
    go_at_call 33
    refine (HP.out _ HX2.out HF.out).mono ?_
    rintro e w3 ⟨v3, rfl, hs3, hx3⟩
    obtain ⟨a3, c3, rfl⟩ := hs3.shape
    obtain ⟨b, off, rfl, _, hcap⟩ := hs3.some_of' (by rw [HM.out]; omega)
    rw [HM.out] at hs3 hcap ⊢
    have HS3 := Lib.hid hs3
    have HB3 := Lib.hid (HB2.out.ext hx3)
    have HX3 : Hid (Ext w w3) := HX2.out.trans hx3
    clear hs3 hx3 HB2 HX2
    go_wp2_with fail
    go_at_call 32
    refine (chunk_any _ _ _ _).mono ?_
    rintro e w4' ⟨rfl, rfl⟩
    have HC := Lib.hid (collect_any w3.heap.size (w3.heap.size + 1) b off m c3 ((w3.alloc (.cells #[.slice (some ⟨b, off, none⟩) m c3] 47)).alloc (.cells #[.int .i64 28] 3)) (by omega) hcap (by simp; omega) (by simp)
      (((BoxAt.new w3 #[.slice (some ⟨b, off, none⟩) m c3] 47).ext (Ext.alloc _ _)).cell 0 rfl) ((box_new2 w3 _ #[.int .i64 28] 3).cell 0 rfl))
    have HX4 : Hid (Ext w3 ((w3.alloc (.cells #[.slice (some ⟨b, off, none⟩) m c3] 47)).alloc (.cells #[.int .i64 28] 3))) := (Ext.alloc _ _).trans (Ext.alloc _ _)
    generalize (w3.alloc (.cells #[.slice (some ⟨b, off, none⟩) m c3] 47)).alloc (.cells #[.int .i64 28] 3) = w4 at *
    go_wp2_with fail
    go_at_call 31
    refine HC.out.mono ?_
    rintro e w5 ⟨v5, rfl, ho5, hx5⟩
    rw [HNE.out] at ho5
    obtain ⟨a5, c5, rfl⟩ := ho5.shape
    rw [List.length_range] at ho5 ⊢
    have HS5 := Lib.hid ho5.slice
    have HX35 := Lib.hid (HX4.out.trans hx5)
    have HB5 := Lib.hid (HB3.out.ext HX35.out)
    have HSP := Lib.hid (HS3.out.ext HX35.out)
    have HX5 := Lib.hid (HX3.out.trans HX35.out)
    clear ho5 hx5 HC HX4 HB3 HX3 HX35 HS3 hcap
    go_wp2_with fail
    go_loopw [5, 18] (fun ov it wr => ∃ i : Nat, i ≤ N ∧ it = .int .i64 i ∧ Hid (OwnL wr w5.heap.size ov (cutK l.gen.toNat dk p i)) ∧ Hid (Ext w5 wr)) (fun _ it _ => N - (intOf it).toNat)
    case atStart => exact ⟨0, Nat.zero_le _, rfl, Lib.hid OwnL.nil, Lib.hid (Ext.refl _)⟩
    case round =>
      obtain ⟨i, hi, rfl, HO, HX⟩ := hrel
      by_cases hlt : i < N
      · have hin : (i : Int) < (N : Int) := by omega
        obtain ⟨b5, o5, rfl, hb5, hc5⟩ := (HS5.out.ext HX.out).get i (by rw [List.length_range]; exact hlt)
        rw [List.getElem_range] at hc5
        have HPA := Lib.hid ((part_at HSP.out i).ext HX.out)
        have hpal := Lb.partAt_len p i
        obtain ⟨o', ho'⟩ : ∃ o', off + 28 * i = o' := ⟨_, rfl⟩
        obtain ⟨c', hc'⟩ : ∃ c', min 28 (m - 28 * i) = c' := ⟨_, rfl⟩
        have HPV : Hid (partV b off m i = .slice (some ⟨b, o', none⟩) c' c') := by show _ = _; unfold partV; rw [ho', hc']
        rw [HPV.out] at hc5 HPA
        have HNX := Lib.hid (cutK_next l.gen.toNat dk p i)
        have hB := HB5.out.ext HX.out
        have k1 := hB.cell 1 (v := .int .i64 dk) (by rw [HDK.out]; rfl)
        have k2 := hB.cell 2 (v := encU l.gen) rfl
        have hgl := hB.lt
        have HBODY : Hid (Lb.sectorL l.gen.toNat dk i (Lb.partsN p) (Lb.partAt p i) = Lb.sealL ([76#8] ++ Lb.numsL [l.gen.toNat, dk, i, N] ++ uv (Lb.partAt p i).length ++ Lb.partAt p i)) := by show _ = _; rw [HPN.out]; rfl
        rw [HBODY.out] at HNX
        generalize Lb.partAt p i = q at *
        clear ho' hc' hB
        go_wp2_with fail
        go_at_call 34
        have hnm : ∀ y, y ∈ [l.gen.toNat, dk, i, N] → y < 18446744073709551616 := by
          intro y hy
          simp only [List.mem_cons, List.not_mem_nil, or_false] at hy
          omega
        refine (numbers_any _ _ [76#8] [l.gen.toNat, dk, i, N] _ (by simp) (by simp) hnm ((SliceAt.lit (enc := encB) wr [76#8] _ (0, 0) _ rfl).ext (Ext.alloc _ _)) (slice_lit3 (enc := encM) (l := [l.gen.toNat, dk, i, N]) rfl)).mono ?_
        rintro e w6 ⟨v6, rfl, hs6, hx6⟩
        have hAl : ([76#8] ++ Lb.numsL [l.gen.toNat, dk, i, N]).length ≤ 41 := by
          have := numsL_len _ hnm
          simp only [List.length_append, List.length_cons, List.length_nil] at this ⊢
          omega
        generalize [76#8] ++ Lb.numsL [l.gen.toNat, dk, i, N] = A at *
        have HS6 := Lib.hid hs6
        have HX6 : Hid (Ext wr w6) := ((Ext.alloc _ _).trans (Ext.alloc _ _)).trans hx6
        have HPA6 := Lib.hid (HPA.out.ext HX6.out)
        have hul := (uv_len q.length (by omega)).2
        obtain ⟨body, hbody⟩ : ∃ body, A ++ uv q.length ++ q = body := ⟨_, rfl⟩
        have hbl : body.length ≤ 100 := by rw [← hbody, List.length_append, List.length_append]; omega
        have HBD := Lib.hid hbody
        rw [hbody] at HNX
        clear hs6 hx6 hnm k1 k2 hgl hbody hc5 hb5
        go_wp2_with fail
        go_at_call 36
        refine (appendBytes_any _ _ A q _ (by omega) (by omega) HS6.out HPA6.out).mono ?_
        rintro e w7 ⟨v7, rfl, ho7, hx7⟩
        rw [HBD.out] at ho7
        have HO7 := Lib.hid ho7
        have HX7 : Hid (Ext w6 w7) := hx7
        clear ho7 hx7
        go_wp2_with fail
        go_at_call 35
        refine (sealed_any _ body w6.heap.size _ (by omega) HX7.out.size HO7.out).mono ?_
        rintro e w8 ⟨v8, rfl, ho8, hx8⟩
        have hsl8 : (Lb.sealL body).length ≤ 108 := by rw [Lb.sealL_len]; omega
        generalize Lb.sealL body = sec at *
        obtain ⟨a8, c8, rfl⟩ := OwnG.shape (enc := encB) ho8
        have HX8 : Hid (Ext w5 w8) := HX.out.trans (HX6.out.trans (show Ext w6 w8 from Below.trans HX7.out hx8))
        have HO8 : Hid (OwnG encB 5 w8 w5.heap.size (.slice a8 sec.length c8) sec) := OwnG.lower (enc := encB) ho8 (HX.out.trans HX6.out).size
        have HOL8 := Lib.hid (HO.out.ext (HX6.out.trans (show Ext w6 w8 from Below.trans HX7.out hx8)))
        obtain ⟨sl, hsl⟩ : ∃ sl, sec.length = sl := ⟨_, rfl⟩
        rw [hsl] at HO8 ⊢
        clear ho8 hx8 hsl HO7 HX7 HS6 HPA6 HX6
        go_wp2_with (at_builtin; refine Classical.byContradiction (fun hN => ?_))
        refine hN ?_
        clear hN
        have e1 : Ext w8 (w8.alloc (.cells #[.slice a8 sl c8] 47)) := Ext.alloc _ _
        have hx1 := Ext.trans HX8.out e1
        have hown := HOL8.out.ext e1
        refine wpList_append_row rfl _ _ rfl w5.heap.size _ _ rfl hown (ad := a8) (n := sl) (c := c8) (l := sec) rfl (cell_new1 _ _ _) (HO8.out.ext e1) (by rw [cutK_len]; omega) hx1.size ?_
        intro v9 w9 ho9 hg9
        rw [← HNX.out] at ho9
        have HO9 := Lib.hid ho9
        have HX9 : Hid (Ext w5 w9) := Below.grown hx1 hg9 hx1.size (fun g hg => (hown.lt g hg).1)
        clear ho9 hg9 hown hx1 e1 HOL8 HO8 HX8
        go_wp2
        go_roundw
        case rel => exact ⟨i + 1, by omega, by go_num, HO9, HX9⟩
        case measure => simp [intOf]; omega
      · have hin : N = i := by omega
        subst hin
        have hin2 : ¬ ((N : Int) < (N : Int)) := by omega
        obtain ⟨ao, co, rfl⟩ := HO.out.shape
        go_wp2_with fail
        go_ret2
        exact ⟨_, by rw [HN.out]; rfl, by rw [HR.out]; exact HO.out.lower HX5.out.size, HX5.out.trans HX.out⟩
end Go.Proofs.YtjabgpejmnpamaaGreatDoor

namespace Go.Proofs.YtjabgpejmnpamaaGreatDoor
open Go.RowKit
theorem ext_load {P : Program} {l : List Oper} {Q : Exit → Act → World → Prop} {i : Nat} {o : Oper} {r : List (Nat × Bool)} {a : Act} {b w : World} {p v : Value} (ty : TypeId) {x : Operand}
    (ho : nth l i = some o) (hw : Region.wanted o (yielded l.toArray a.tmps) = true) (hop : o.op = .load ty x) (hx : evalL a x = some p) (h : ∀ w', Ext b w' → (Instr.loadAt ty p).run P w' = .ok v w')
    (k : wpExt P l Q r b (a.put o.dst v) w) : wpExt P l Q ((i, true) :: r) b a w :=
  ext_take ho hw (fun w' hS => by
    unfold execOp
    simp only [hop, evalL_eq hx, Sem.run_bind, Sem.run_pure, Result.andThen_ok, h w' hS]) k
end Go.Proofs.YtjabgpejmnpamaaGreatDoor

namespace Go.Proofs.YtjabgpejmnpamaaGreatDoor
open Go.ChangeShapes Go.WideShapes Go.ChangeAt Go.RowKit
theorem own : ownKnob Tryz.prog.godebug = none := by kernel_rfl
theorem laid : laidOutB Tryz.prog = true := by kernel_rfl
theorem opU64 : Opens Tryz.prog 22 Pat.u64 := Opens.u64 Tryz.underlying22 (by kernel_rfl)
theorem opU8 : Opens Tryz.prog 5 Pat.u8 := Opens.u8 Tryz.underlying5 (by kernel_rfl)
theorem opI64 : Opens Tryz.prog 3 Pat.i64 := Opens.i64 Tryz.underlying3 (by kernel_rfl)
abbrev LD := Lab × List Bool
section
variable {H : Type} {enc : TypeId × Value → H} {w : World} {r : Reach} {b0 : Nat} {v : Value} {d : DataW H} {ps : List MemPlace}
set_option maxRecDepth 100000 in
theorem open_u64 (hval : Value.okWide Tryz.prog w r b0 22 v) (h : DataW.Trod enc Tryz.prog w 0 (fun _ => true) true 22 v d ps) : ∃ x, v = encU x := by
  obtain ⟨x, hx⟩ := opU64.cell (by kernel_rfl) hval h
  exact ⟨x, holds_u64 hx⟩
set_option maxRecDepth 100000 in
theorem open_u8 (hval : Value.okWide Tryz.prog w r b0 5 v) (h : DataW.Trod enc Tryz.prog w 0 (fun _ => true) true 5 v d ps) : ∃ x, v = encB x := by
  obtain ⟨x, hx⟩ := opU8.cell (by kernel_rfl) hval h
  exact ⟨x, holds_u8 hx⟩
end
end Go.Proofs.YtjabgpejmnpamaaGreatDoor

namespace Go.Proofs.YtjabgpejmnpamaaGreatDoor
open Go.ChangeShapes Go.WideShapes Go.ChangeAt Go.RowKit
def eqBB (x y : List (BitVec 8)) : Bool := decide (x = y)
theorem eqBB_len {x y : List (BitVec 8)} (h : x.length ≠ y.length) : eqBB x y = false := by unfold eqBB; rw [decide_eq_false_iff_not]; intro e; exact h (by rw [e])
theorem eqBB_at {x y : List (BitVec 8)} {i : Nat} (hx : i < x.length) (hy : i < y.length) (h : x[i] ≠ y[i]) : eqBB x y = false := by unfold eqBB; rw [decide_eq_false_iff_not]; intro e; subst e; exact h rfl
theorem eqBB_all {x y : List (BitVec 8)} (h : x.length = y.length) (ha : x.take x.length = y.take x.length) : eqBB x y = true := by
  unfold eqBB; rw [decide_eq_true_eq]
  rwa [List.take_length, h, List.take_length] at ha
theorem takeB_next {x y : List (BitVec 8)} {i : Nat} (hx : i < x.length) (hy : i < y.length) (h : x.take i = y.take i) (he : x[i] = y[i]) : x.take (i + 1) = y.take (i + 1) := by
  rw [List.take_succ_eq_append_getElem hx, List.take_succ_eq_append_getElem hy, h, he]
set_option maxRecDepth 100000 in
set_option maxHeartbeats 1000000 in
theorem eqslB_any (v1 v2 : Value) (x y : List (BitVec 8)) (w : World) (hlx : x.length ≤ 100000) (hly : y.length ≤ 100000) (hx : SliceAt encB w v1 x) (hy : SliceAt encB w v2 y) :
    Calls Tryz.prog 80 #[v1, v2] w (BoolEnd w (eqBB x y)) := by
  obtain ⟨ad1, cap1, rfl⟩ := hx.shape
  obtain ⟨ad2, cap2, rfl⟩ := hy.shape
  have HX := Lib.hid hx
  have HY := Lib.hid hy
  obtain ⟨n, hn⟩ : ∃ n, x.length = n := ⟨_, rfl⟩
  obtain ⟨m, hm⟩ : ∃ m, y.length = m := ⟨_, rfl⟩
  have HN := Lib.hid hn
  have HM := Lib.hid hm
  rw [hn] at HX hlx ⊢
  rw [hm] at HY hly ⊢
  clear hx hy hn hm
  by_cases hnm : n = m
  · subst hnm
    have hq1 : ((n : Int) == n) = true := by simp
    have hq2 : ((n : Int) != n) = false := by simp
    have HX0 : Hid (Ext w w) := Ext.refl _
    go_enter Tryz.func80, Tryz.ntmps80
    go_wp2_with fail
    go_loopw [13] (fun iv wr => ∃ i : Nat, i ≤ n ∧ iv = .int .i64 i ∧ Hid (x.take i = y.take i) ∧ Hid (Ext w wr)) (fun iv _ => n - (intOf iv).toNat)
    case atStart => exact ⟨0, Nat.zero_le _, rfl, by show _ = _; simp, HX0⟩
    case round =>
      obtain ⟨i, hi, rfl, HT, HXr⟩ := hrel
      by_cases hlt : i < n
      · have hin : (i : Int) < (n : Int) := by omega
        have hi0 : (0 : Int) ≤ (i : Int) := by omega
        obtain ⟨b1, off1, rfl, hb1, hc1⟩ := (HX.out.ext HXr.out).get i (by rw [HN.out]; exact hlt)
        obtain ⟨b2, off2, rfl, hb2, hc2⟩ := (HY.out.ext HXr.out).get i (by rw [HM.out]; exact hlt)
        have HNE : Hid (x[i]'(by rw [HN.out]; exact hlt) ≠ y[i]'(by rw [HM.out]; exact hlt) → eqBB x y = false) := fun h => eqBB_at _ _ h
        have HEQ : Hid (x[i]'(by rw [HN.out]; exact hlt) = y[i]'(by rw [HM.out]; exact hlt) → x.take (i + 1) = y.take (i + 1)) := fun h => takeB_next _ _ HT.out h
        generalize x[i]'(by rw [HN.out]; exact hlt) = p at *
        generalize y[i]'(by rw [HM.out]; exact hlt) = q at *
        by_cases hpq : p = q
        · subst hpq
          have q1 : (ub p == ub p) = true := by simp
          have q2 : (ub p != ub p) = false := by simp
          go_wp2_with fail
          refine wp_region_ext [(0, true), (1, true), (2, true), (3, true), (4, true), (5, true), (6, true), (7, true), (8, true)] (by kernel_rfl) (by kernel_rfl) ?_
          iterate 9 ((first
           | refine ext_move rfl rfl (by rfl) (by rfl) ?_
           | refine ext_assign rfl rfl (by rfl) (by rfl) ?_
           | refine ext_pick_t rfl rfl (by rfl) (by rfl) (by rfl) ?_
           | refine ext_pick_f rfl rfl (by rfl) (by rfl) (by rfl) ?_
           | (apply ext_take rfl (by rfl)
              · intro w' hS
                have hSc := hS.cells
                (try simp only [World.size_drew, World.cell?_drew] at hSc)
                go_simp
                (try simp (disch := omega) only [i64_id, u64_id, ↓IntWalk.iteOmega, Int.tdiv_eq_ediv_of_nonneg, Int.tmod_eq_emod_of_nonneg])
                try rfl)
           | refine ext_pass rfl (by rfl) ?_); simp only [Act.put, setZa, setZ0, setZ1])
          refine ext_nil ?_
          go_wp2_with fail
          go_roundw
          case rel => exact ⟨i + 1, by omega, by go_num, HEQ.out (by simp), HXr.out.trans (Ext.drew _)⟩
          case measure => simp [intOf]; omega
        · have q1 : (ub p == ub q) = false := by rw [beq_eq_false_iff_ne]; exact fun h => hpq (ub_inj h)
          have q2 : (ub p != ub q) = true := by rw [bne, q1]; rfl
          rw [HNE.out hpq]
          clear hpq
          go_wp2_with fail
          refine wp_region_ext [(0, true), (1, true), (2, true), (3, true), (4, true), (5, true), (6, true), (7, true), (8, true)] (by kernel_rfl) (by kernel_rfl) ?_
          iterate 9 ((first
           | refine ext_move rfl rfl (by rfl) (by rfl) ?_
           | refine ext_assign rfl rfl (by rfl) (by rfl) ?_
           | refine ext_pick_t rfl rfl (by rfl) (by rfl) (by rfl) ?_
           | refine ext_pick_f rfl rfl (by rfl) (by rfl) (by rfl) ?_
           | (apply ext_take rfl (by rfl)
              · intro w' hS
                have hSc := hS.cells
                (try simp only [World.size_drew, World.cell?_drew] at hSc)
                go_simp
                (try simp (disch := omega) only [i64_id, u64_id, ↓IntWalk.iteOmega, Int.tdiv_eq_ediv_of_nonneg, Int.tmod_eq_emod_of_nonneg])
                try rfl)
           | refine ext_pass rfl (by rfl) ?_); simp only [Act.put, setZa, setZ0, setZ1])
          refine ext_nil ?_
          go_wp2_with fail
          go_ret
          exact ⟨rfl, HXr.out.trans (Ext.drew _)⟩
      · have hin : i = n := by omega
        subst hin
        have hin2 : ¬ ((i : Int) < (i : Int)) := by omega
        go_wp2_with fail
        go_ret
        exact ⟨by rw [eqBB_all (HN.out.trans HM.out.symm) (by rw [HN.out]; exact HT.out)]; rfl, HXr.out⟩
  · have hb1 : ((n : Int) == m) = false := by rw [beq_eq_false_iff_ne]; omega
    have hb2 : ((n : Int) != m) = true := by rw [bne, hb1]; rfl
    rw [eqBB_len (by rw [HN.out, HM.out]; exact hnm)]
    go_enter Tryz.func80, Tryz.ntmps80
    go_wp2_with fail
    go_ret
    exact ⟨rfl, Ext.refl _⟩
theorem SliceAt.dropS {α : Type} {enc : α → Value} {w : World} {b off n cap lo : Nat} {l : List α} (h : SliceAt enc w (.slice (some ⟨b, off, none⟩) n cap) l) (h1 : lo ≤ l.length) (h2 : lo < cap) : SliceAt enc w (.slice (some ⟨b, off + lo, none⟩) (n - lo) (cap - lo)) (l.drop lo) := by
  obtain ⟨ad, c, hsh⟩ := h.shape
  have hn : n = l.length := by injection hsh
  have := h.cut lo l.length h1 (Nat.le_refl _)
  rw [subA, if_neg (by omega), Option.map_some, add_plain, List.take_of_length_le (by rw [List.length_drop]; omega)] at this
  rw [hn]; exact this
theorem SliceAt.takeS {α : Type} {enc : α → Value} {w : World} {b off n cap lo : Nat} {l : List α} (h : SliceAt enc w (.slice (some ⟨b, off, none⟩) n cap) l) (h1 : lo ≤ l.length) (h2 : 0 < cap) : SliceAt enc w (.slice (some ⟨b, off, none⟩) lo cap) (l.take lo) := by
  have := h.cut 0 lo (Nat.zero_le _) h1
  rw [subA, if_neg (by omega), Option.map_some, add_plain, List.drop_zero, Nat.sub_zero, Nat.sub_zero, Nat.add_zero] at this
  exact this
theorem SliceAt.inn {α : Type} {enc : α → Value} {w : World} {ad : Option Addr} {n cap : Nat} {l : List α} (h : SliceAt enc w (.slice ad n cap) l) (h0 : 0 < l.length) : n ≤ cap ∧ ∃ b off, ad = some ⟨b, off, none⟩ := by
  obtain ⟨ad', cap', hv, hc, h⟩ := h
  injection hv with e1 e2 e3
  subst e1 e2 e3
  refine ⟨hc, ?_⟩
  rcases h with ⟨rfl, _⟩ | ⟨b, off, ha, _⟩
  · simp at h0
  · exact ⟨b, off, ha⟩
end Go.Proofs.YtjabgpejmnpamaaGreatDoor
namespace Go.Proofs.YtjabgpejmnpamaaGreatDoor
open Go.ChangeShapes Go.WideShapes Go.ChangeAt Go.RowKit
end Go.Proofs.YtjabgpejmnpamaaGreatDoor
namespace Go.Proofs.YtjabgpejmnpamaaGreatDoor
open Go.ChangeShapes Go.WideShapes Go.ChangeAt Go.RowKit
end Go.Proofs.YtjabgpejmnpamaaGreatDoor
namespace Go.Proofs.YtjabgpejmnpamaaGreatDoor
open Go.ChangeShapes Go.WideShapes Go.ChangeAt Go.RowKit
theorem results_cell_tmp1 {P : Program} {fn : Func} {p a : Tmp} {ty : TypeId} (h : fn.results = #[.cell p ty, .tmp a]) (tmps : Array Value) (w : World) {g : Nat} {v : Value}
    (hp : tmps.getD p undef = .pointer (some ⟨g, 0, none⟩)) (hl : (loadVar ty ⟨g, 0, none⟩).run P w = .ok v w) :
    (results fn tmps).run P w = .ok (.tuple #[v, tmps.getD a undef]) w := by
  have hp' : tmps[p]?.getD undef = .pointer (some ⟨g, 0, none⟩) := by simpa using hp
  simp [results, h, hp', asAddr, hl]
section
variable {P : Program} {l : List Oper} {Q : Exit → Act → World → Prop} {i : Nat} {o : Oper} {r : List (Nat × Bool)} {a : Act} {b w : World} {B : Nat} {S : World → Prop}
theorem fix_load {p v : Value} (ty : TypeId) {x : Operand}
    (ho : nth l i = some o) (hw : Region.wanted o (yielded l.toArray a.tmps) = true) (hop : o.op = .load ty x) (hx : evalL a x = some p) (h : ∀ w', S w' → (Instr.loadAt ty p).run P w' = .ok v w')
    (k : wpFix P l Q r S (a.put o.dst v) w) : wpFix P l Q ((i, true) :: r) S a w :=
  fix_take ho hw (fun w' hS => by
    unfold execOp
    simp only [hop, evalL_eq hx, Sem.run_bind, Sem.run_pure, Result.andThen_ok, h w' hS]) k
end
end Go.Proofs.YtjabgpejmnpamaaGreatDoor

namespace Go.Proofs.YtjabgpejmnpamaaGreatDoor
open Go.ChangeShapes Go.WideShapes Go.ChangeAt Go.RowKit
def lz : Lab := ⟨0#64, 0, 0#64, 0#64, Lb.cfgOf [], 0, 0#64, 0#64⟩
def eqRR (x y : List (List (BitVec 8))) : Bool := decide (x = y)
theorem eqRR_len {x y : List (List (BitVec 8))} (h : x.length ≠ y.length) : eqRR x y = false := by unfold eqRR; rw [decide_eq_false_iff_not]; intro e; exact h (by rw [e])
theorem eqRR_at {x y : List (List (BitVec 8))} {i : Nat} (hx : i < x.length) (hy : i < y.length) (h : eqBB x[i] y[i] = false) : eqRR x y = false := by
  unfold eqRR; rw [decide_eq_false_iff_not]; intro e; subst e
  unfold eqBB at h
  simp at h
theorem eqRR_all {x y : List (List (BitVec 8))} (h : x.length = y.length) (ha : x.take x.length = y.take x.length) : eqRR x y = true := by
  unfold eqRR; rw [decide_eq_true_eq]
  rwa [List.take_length, h, List.take_length] at ha
theorem takeR_next {x y : List (List (BitVec 8))} {i : Nat} (hx : i < x.length) (hy : i < y.length) (h : x.take i = y.take i) (he : eqBB x[i] y[i] = true) : x.take (i + 1) = y.take (i + 1) := by
  rw [List.take_succ_eq_append_getElem hx, List.take_succ_eq_append_getElem hy, h, of_decide_eq_true he]
theorem RowsB.take {w : World} {ad : Option Addr} {n cap : Nat} {S : List (List (BitVec 8))} (h : RowsB w (.slice ad n cap) S) (k : Nat) (hk : k ≤ n) : RowsB w (.slice ad k cap) (S.take k) := by
  obtain ⟨vs, h1, h2, h3⟩ := h
  have hn : n = vs.length := by obtain ⟨a, c, e⟩ := h1.shape; injection e
  refine ⟨vs.take k, h1.take k hk, by rw [List.length_take, List.length_take, h2], fun i a b => ?_⟩
  rw [List.length_take] at a b
  rw [List.getElem_take, List.getElem_take]
  exact h3 i (by omega) (by omega)
end Go.Proofs.YtjabgpejmnpamaaGreatDoor
namespace Go.Proofs.YtjabgpejmnpamaaGreatDoor
open Go.ChangeShapes Go.WideShapes Go.ChangeAt Go.RowKit
end Go.Proofs.YtjabgpejmnpamaaGreatDoor
namespace Go.Proofs.YtjabgpejmnpamaaGreatDoor
open Go.ChangeShapes Go.WideShapes Go.ChangeAt Go.RowKit
end Go.Proofs.YtjabgpejmnpamaaGreatDoor

namespace Go.Proofs.YtjabgpejmnpamaaGreatDoor
open Go.RowKit
def ld0 : LD := (⟨0#64, 0, 0#64, 0#64, ⟨0, 0, 0, 0, 0, 0, 0, 0, 0, 0, 0⟩, 0, 0#64, 0#64⟩, [])
end Go.Proofs.YtjabgpejmnpamaaGreatDoor
