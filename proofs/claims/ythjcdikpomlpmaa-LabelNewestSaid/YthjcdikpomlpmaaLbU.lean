/-
  Chapter 30 (label): Cut and Encode of the reference.
-/
import Derived.Test.YthjcdikpomlpmaaLbT
namespace Go.Proofs.Ythjcdikpomlpmaa
open Go.RowKit
set_option linter.unusedVariables false

/-- a load whose run is known wherever all that was there is there still, in a region that draws its order -/
theorem ext_load {P : Program} {l : List Oper} {Q : Exit → Act → World → Prop} {i : Nat} {o : Oper} {r : List (Nat × Bool)} {a : Act} {b w : World} {p v : Value} (ty : TypeId) {x : Operand}
    (ho : nth l i = some o) (hw : Region.wanted o (yielded l.toArray a.tmps) = true) (hop : o.op = .load ty x) (hx : evalL a x = some p) (h : ∀ w', Ext b w' → (Instr.loadAt ty p).run P w' = .ok v w')
    (k : wpExt P l Q r b (a.put o.dst v) w) : wpExt P l Q ((i, true) :: r) b a w :=
  ext_take ho hw (fun w' hS => by
    unfold execOp
    simp only [hop, evalL_eq hx, Sem.run_bind, Sem.run_pure, Result.andThen_ok, h w' hS]) k
theorem part_at2 {w : World} {b off m cap c2 : Nat} {p : List (BitVec 8)} (h : SliceAt encB w (.slice (some ⟨b, off, none⟩) m cap) p) (i : Nat) (hc : min 28 (m - 28 * i) ≤ c2) : SliceAt encB w (.slice (some ⟨b, off + 28 * i, none⟩) (min 28 (m - 28 * i)) c2) (Lb.partAt p i) := by
  obtain ⟨a, c, hv, hcc, h⟩ := part_at h i
  injection hv with h1 h2 h3
  subst h1
  exact ⟨_, c2, by rw [← h2], by rw [← h2]; exact hc, h.imp (fun ⟨a, b⟩ => ⟨a, fun e => by cases e⟩) id⟩
theorem cutK_full (g d : Nat) (p : List (BitVec 8)) : cutK g d p (Lb.partsN p) = Lb.cutL g d p := rfl
def CutEnd (w : World) (S : List (List (BitVec 8))) (e : Ending) (w' : World) : Prop := ∃ v', e = .returned v' ∧ OwnL w' w.heap.size v' S ∧ Ext w w'
set_option maxRecDepth 100000 in
set_option maxHeartbeats 4000000 in
theorem rcut_any (g : BitVec 64) (d : Nat) (v : Value) (p : List (BitVec 8)) (w : World) (hd : d ≤ 1000) (hp : p.length ≤ 1000) (h : SliceAt encB w v p) :
    Calls Try.prog 25 #[encU g, .int .i64 d, v] w (CutEnd w (Lb.cutL g.toNat d p)) := by
  obtain ⟨ad, cap, rfl⟩ := h.shape
  obtain ⟨m, hm⟩ : ∃ m, p.length = m := ⟨_, rfl⟩
  have HM := Lib.hid hm
  have HS := Lib.hid h
  rw [hm] at HS hp ⊢
  have hN : Lb.partsN p = (m + 27) / 28 := by unfold Lb.partsN; rw [hm]
  rw [← cutK_full, hN]
  have HPN := Lib.hid hN
  obtain ⟨N, hNe⟩ : ∃ N, (m + 27) / 28 = N := ⟨_, rfl⟩
  have HNE := Lib.hid hNe
  have hNI : ((m : Int) + 27) / 28 = (N : Int) := by omega
  rw [hNe] at HPN ⊢
  have hgen := g.isLt
  obtain ⟨gn, hgn⟩ : ∃ gn, g.toNat = gn := ⟨_, rfl⟩
  have hun : un g = (gn : Int) := by rw [← hgn]; rfl
  rw [hgn] at hgen ⊢
  have hN36 : N ≤ 36 := by omega
  clear h hm hN hNe hgn
  rw [show encU g = .int .u64 gn from congrArg (Value.int IntKind.u64) hun]
  clear hun
  go_enter Try.func25, Try.ntmps25
  go_wp2_with fail
  simp only [hNI]
  clear hNI
  go_loopw [8, 9] (fun ov it wr => ∃ i : Nat, i ≤ N ∧ it = .int .i64 i ∧ Hid (OwnL wr w.heap.size ov (cutK gn d p i)) ∧ Hid (Ext w wr)) (fun _ it _ => N - (intOf it).toNat)
  case atStart => exact ⟨0, Nat.zero_le _, rfl, Lib.hid OwnL.nil, Lib.hid (Ext.refl _)⟩
  case round =>
    obtain ⟨i, hi, rfl, HO, HX⟩ := hrel
    by_cases hlt : i < N
    · have hin : (i : Int) < (N : Int) := by omega
      have hmq : 28 * i < m := by have := HNE.out; omega
      obtain ⟨b, off, rfl, -, hcap⟩ := HS.out.some_of' (by rw [HM.out]; omega)
      have HPA := Lib.hid ((part_at2 (c2 := cap - 28 * i) HS.out i (by omega)).ext HX.out)
      have hpal := Lb.partAt_len p i
      obtain ⟨q, hq⟩ : ∃ q, 28 * i = q := ⟨_, rfl⟩
      obtain ⟨z, hz⟩ : ∃ z, min (28 * (i + 1)) m = z := ⟨_, rfl⟩
      have hzq : min 28 (m - q) = z - q := by omega
      have HQ := Lib.hid hq
      have HZ := Lib.hid hz
      have hzm : z ≤ m := by omega
      have hqz : q < z := by omega
      rw [hq] at HPA hmq
      rw [hzq] at HPA
      have HNX := Lib.hid (cutK_next gn d p i)
      have HBODY : Hid (Lb.sectorL gn d i (Lb.partsN p) (Lb.partAt p i) = Lb.sealL (((((([76#8] ++ uv gn) ++ uv d) ++ uv i) ++ uv N) ++ uv (Lb.partAt p i).length) ++ Lb.partAt p i)) := by
        show _ = _
        rw [HPN.out]
        unfold Lb.sectorL Lb.bodyL
        rw [Lb.numsL_4]
        simp
      rw [HBODY.out] at HNX
      generalize Lb.partAt p i = pt at *
      have hq28 : (28 : Int) * (i : Int) = (q : Int) := by omega
      have hq28b : (28 : Int) * ((i : Int) + 1) = ((q + 28 : Nat) : Int) := by omega
      clear hzq hq hz
      go_upto_region 7 with fail
      clear hq28b
      have HMQ : Hid ((m < q + 28 → z = m) ∧ (¬ m < q + 28 → z = q + 28)) := by have h1 := HQ.out; have h2 := HZ.out; exact ⟨fun h => by omega, fun h => by omega⟩
      go_upto_if 27 with fail
      go_cut [10] (fun s wx => s = .int .i64 (z : Nat) ∧ wx = wr)
      case first =>
        by_cases hmz : m < q + 28
        · have h1 : (m : Int) < (q : Int) + 28 := by omega
          have hz := HMQ.out.1 hmz
          go_wp2_with fail
          go_meet
          exact ⟨by rw [hz], rfl⟩
        · have h1 : ¬ ((m : Int) < (q : Int) + 28) := by omega
          have hz := HMQ.out.2 hmz
          go_wp2_with fail
          go_meet
          exact ⟨by rw [hz]; simp, rfl⟩
      case rest =>
        obtain ⟨rfl, rfl⟩ := hcut
        have hqzI : (q : Int) ≤ (z : Int) := by omega
        have hqz2 : q ≤ z := by omega
        have hzcI : (z : Int) ≤ (cap : Int) := by omega
        have hzc2 : z ≤ cap := by omega
        have hq0 : (0 : Int) ≤ (q : Int) := by omega
        have hqne : ¬ (cap = q) := by omega
        have hqneI : ¬ ((cap : Int) = (q : Int)) := by omega
        have U0 := (uv_len gn hgen).2
        have U1 := (uv_len d (by omega)).2
        have U2 := (uv_len i (by omega)).2
        have U3 := (uv_len N (by omega)).2
        have U4 := (uv_len pt.length (by omega)).2
        go_wp2_with fail
        go_at_call 47
        refine (rappendUint_any _ [76#8] gn _ (by simp) hgen (SliceAt.lit (enc := encB) wc [76#8] _ (0, 0) _ rfl)).mono ?_
        rintro e w1 ⟨v1, rfl, ho1, hx1⟩
        have HX1 : Hid (Ext wc w1) := (Ext.alloc _ _).trans hx1
        have HO1 := Lib.hid (OwnB.slice ho1)
        obtain ⟨y1, hy1⟩ : ∃ y1, [76#8] ++ uv gn = y1 := ⟨_, rfl⟩
        have hl1 : y1.length ≤ 11 := by rw [← hy1, List.length_append]; simp; omega
        rw [hy1] at HO1 HNX
        clear ho1 hx1 hy1
        go_wp2_with fail
        go_at_call 47
        refine (rappendUint_any _ y1 d _ (by omega) (by omega) HO1.out).mono ?_
        rintro e w2 ⟨v2, rfl, ho2, hx2⟩
        have HX2 : Hid (Ext wc w2) := Ext.trans HX1.out hx2
        have HO2 := Lib.hid (OwnB.slice ho2)
        obtain ⟨y2, hy2⟩ : ∃ y2, y1 ++ uv d = y2 := ⟨_, rfl⟩
        have hl2 : y2.length ≤ 21 := by rw [← hy2, List.length_append]; omega
        rw [hy2] at HO2 HNX
        clear ho2 hx2 hy2 HO1 HX1
        go_wp2_with fail
        go_at_call 47
        refine (rappendUint_any _ y2 i _ (by omega) (by omega) HO2.out).mono ?_
        rintro e w3 ⟨v3, rfl, ho3, hx3⟩
        have HX3 : Hid (Ext wc w3) := Ext.trans HX2.out hx3
        have HO3 := Lib.hid (OwnB.slice ho3)
        obtain ⟨y3, hy3⟩ : ∃ y3, y2 ++ uv i = y3 := ⟨_, rfl⟩
        have hl3 : y3.length ≤ 31 := by rw [← hy3, List.length_append]; omega
        rw [hy3] at HO3 HNX
        clear ho3 hx3 hy3 HO2 HX2
        go_wp2_with fail
        go_at_call 47
        refine (rappendUint_any _ y3 N _ (by omega) (by omega) HO3.out).mono ?_
        rintro e w4 ⟨v4, rfl, ho4, hx4⟩
        have HX4 : Hid (Ext wc w4) := Ext.trans HX3.out hx4
        have HO4 := Lib.hid (OwnB.slice ho4)
        obtain ⟨y4, hy4⟩ : ∃ y4, y3 ++ uv N = y4 := ⟨_, rfl⟩
        have hl4 : y4.length ≤ 41 := by rw [← hy4, List.length_append]; omega
        rw [hy4] at HO4 HNX
        clear ho4 hx4 hy4 HO3 HX3
        have HPA4 := Lib.hid (HPA.out.ext HX4.out)
        obtain ⟨body, hbody⟩ : ∃ body, y4 ++ uv pt.length ++ pt = body := ⟨_, rfl⟩
        have hbl : body.length ≤ 100 := by rw [← hbody, List.length_append, List.length_append]; omega
        have HBD := Lib.hid hbody
        rw [hbody] at HNX
        clear hbody
        go_wp2_with fail
        go_at_call 49
        refine (rappendBytes_any _ _ y4 pt _ (by omega) (by omega) HO4.out HPA4.out).mono ?_
        rintro e w7 ⟨v7, rfl, ho7, hx7⟩
        rw [HBD.out] at ho7
        have HO7 := Lib.hid (OwnB.slice ho7)
        have HX7 : Hid (Ext wc w7) := Ext.trans HX4.out hx7
        clear ho7 hx7
        go_wp2_with fail
        go_at_call 48
        refine (rsealed_any _ body _ (by omega) HO7.out).mono ?_
        rintro e w8 ⟨v8, rfl, ho8, hx8⟩
        have hsl8 : (Lb.sealL body).length ≤ 108 := by rw [Lb.sealL_len]; omega
        generalize Lb.sealL body = sec at *
        obtain ⟨a8, c8, rfl⟩ := OwnG.shape (enc := encB) ho8
        have HX8 : Hid (Ext w w8) := HX.out.trans (Ext.trans HX7.out hx8)
        have HO8 : Hid (OwnG encB 5 w8 w.heap.size (.slice a8 sec.length c8) sec) := OwnG.lower (enc := encB) ho8 (HX.out.trans HX7.out).size
        have HOL8 := Lib.hid (HO.out.ext (Ext.trans HX7.out hx8))
        obtain ⟨sl, hsl⟩ : ∃ sl, sec.length = sl := ⟨_, rfl⟩
        rw [hsl] at HO8 ⊢
        clear ho8 hx8 hsl HO7 HX7 HO4 HX4 HPA4
        go_wp2_with (at_builtin; refine Classical.byContradiction (fun hN => ?_))
        refine hN ?_
        clear hN
        have e1 : Ext w8 (w8.alloc (.cells #[.slice a8 sl c8] 35)) := Ext.alloc _ _
        have hx1 := Ext.trans HX8.out e1
        have hown := HOL8.out.ext e1
        refine wpList_append_row rfl _ _ rfl w.heap.size _ _ rfl hown (ad := a8) (n := sl) (c := c8) (l := sec) rfl (cell_new1 _ _ _) (HO8.out.ext e1) (by rw [cutK_len]; omega) hx1.size ?_
        intro v9 w9 ho9 hg9
        rw [← HNX.out] at ho9
        have HO9 := Lib.hid ho9
        have HX9 : Hid (Ext w w9) := Below.grown hx1 hg9 hx1.size (fun g hg => (hown.lt g hg).1)
        clear ho9 hg9 hown hx1 e1 HOL8 HO8 HX8
        go_wp2
        go_roundw
        case rel => exact ⟨i + 1, by omega, by go_num, HO9, HX9⟩
        case measure => simp [intOf]; omega
    · have hin : N = i := by omega
      subst hin
      have hin2 : ¬ ((N : Int) < (N : Int)) := by omega
      go_wp2_with fail
      go_ret
      exact ⟨_, rfl, HO.out, HX.out⟩
set_option maxRecDepth 100000 in
set_option maxHeartbeats 4000000 in
theorem rencode_any (l : Lab) (dv : Value) (x : List Bool) (w : World) (hl : x.length ≤ 100000) (h : SliceAt Value.bool w dv x) :
    Calls Try.prog 12 #[labV l dv] w (EncEnd w l x) := by
  have HV := Lib.hid (fun (w' : World) (e : Ext w w') => rvalid_any l dv x w' hl (h.ext e))
  have HP := Lib.hid (fun (w' : World) (e : Ext w w') (F : Lb.Fine l x) => rpayload_any l dv x w' F (h.ext e))
  obtain ⟨ad, cd, rfl⟩ := h.shape
  obtain ⟨n, hn⟩ : ∃ n, x.length = n := ⟨_, rfl⟩
  rw [hn] at HV HP ⊢
  have HB1 : Hid (BoxAt (w.alloc (.cells (labA l (.slice ad n cd)) 29)) w.heap.size (labA l (.slice ad n cd)) 29) := BoxAt.new _ _ _
  have HX1 : Hid (Ext w (w.alloc (.cells (labA l (.slice ad n cd)) 29))) := Ext.alloc _ _
  clear h hl hn
  go_enter Try.func12, Try.ntmps12
  go_upto_region 1 with fail
  generalize w.alloc (.cells (labA l (.slice ad n cd)) 29) = w1 at *
  go_wp2_with (refine wpList_loadR 29 _ rfl (by rfl) rfl (LabAt.of_box HB1.out).load ?_)
  go_at_call 18
  refine (HV.out _ HX1.out).mono ?_
  rintro e w2 ⟨rfl, hx2⟩
  have HX2 : Hid (Ext w w2) := HX1.out.trans hx2
  have HB2 := Lib.hid (HB1.out.ext hx2)
  clear hx2 HB1
  cases hv : validL l x with
  | false =>
    have HN : Hid (encN' l x = 1) := by show _ = _; unfold encN'; rw [hv]; rfl
    have HR : Hid (encR l x = []) := by show _ = _; unfold encR; rw [hv]; rfl
    go_wp2_with fail
    go_ret2
    exact ⟨_, by rw [HN.out]; rfl, by rw [HR.out]; exact OwnL.nil, HX2.out⟩
  | true =>
    have HN : Hid (encN' l x = 0) := by show _ = _; unfold encN'; rw [hv]; rfl
    have F := Lb.fine_of hv
    have HR : Hid (encR l x = Lb.cutL l.gen.toNat l.disk.toNat (Lb.payL l x)) := by show _ = _; unfold encR; rw [hv]; rfl
    have hpl := Lb.pay_len F
    have HF := Lib.hid F
    obtain ⟨dk, hdk⟩ := Int.eq_ofNat_of_zero_le F.disk.1
    have hdk60 : dk < 60 := by have := F.disk.2; omega
    have HDK : Hid ((dk : Int) = l.disk) := hdk.symm
    rw [hdk, Int.toNat_natCast] at HR
    generalize Lb.payL l x = p at *
    have k1 := HB2.out.cell 1 (v := .int .i64 dk) (by rw [HDK.out]; rfl)
    have k2 := HB2.out.cell 2 (v := encU l.gen) rfl
    have hgl := HB2.out.lt
    clear hv F hdk
    go_wp2_with fail
    refine wp_region_ext [(0, true), (1, true), (2, true), (3, true), (4, true), (5, false), (6, false), (7, true), (8, true)] (by kernel_rfl) (by kernel_rfl) ?_
    iterate 4 (first
     | (refine ext_move rfl rfl (by rfl) (by rfl) ?_; simp only [Act.put, List.setIfInBounds_toArray, List.set_cons_zero, List.set_cons_succ])
     | (refine ext_assign rfl rfl (by rfl) (by rfl) ?_; simp only [Act.put, List.setIfInBounds_toArray, List.set_cons_zero, List.set_cons_succ])
     | (refine ext_pick_t rfl rfl (by rfl) (by rfl) (by rfl) ?_; simp only [Act.put, List.setIfInBounds_toArray, List.set_cons_zero, List.set_cons_succ])
     | (refine ext_pick_f rfl rfl (by rfl) (by rfl) (by rfl) ?_; simp only [Act.put, List.setIfInBounds_toArray, List.set_cons_zero, List.set_cons_succ])
     | (apply ext_take rfl (by rfl)
        · intro w' hS
          have hSc := hS.cells
          (try simp only [World.size_drew, World.cell?_drew] at hSc)
          go_simp
          (try simp (disch := omega) only [i64_id, u64_id, ↓IntWalk.iteOmega, Int.tdiv_eq_ediv_of_nonneg, Int.tmod_eq_emod_of_nonneg])
          try rfl
        simp only [Act.put, List.setIfInBounds_toArray, List.set_cons_zero, List.set_cons_succ])
     | (refine ext_pass rfl (by rfl) ?_; simp only [Act.put, List.setIfInBounds_toArray, List.set_cons_zero, List.set_cons_succ]))
    (refine ext_load 29 rfl (by rfl) rfl (by rfl) (fun w' hS => (LabAt.of_box (HB2.out.ext hS)).load) ?_; simp only [Act.put, List.setIfInBounds_toArray, List.set_cons_zero, List.set_cons_succ])
    refine ext_do rfl (by rfl) (fun K hK => ?_)
    go_simp
    go_at_call 26
    refine (HP.out _ (HX2.out.trans (Ext.drew _)) HF.out).mono ?_
    rintro e w3 ⟨v3, rfl, hs3, hx3⟩
    have HS3 := Lib.hid hs3
    have HX3 : Hid (Ext w2 w3) := (Ext.drew _).trans hx3
    refine hK _ _ HX3.out ?_
    clear hK K hs3 hx3
    (try simp only [Act.put, List.setIfInBounds_toArray, List.set_cons_zero, List.set_cons_succ])
    refine ext_do rfl (by rfl) (fun K hK => ?_)
    go_simp
    go_at_call 25
    refine (rcut_any l.gen dk _ p _ (by omega) (by omega) HS3.out).mono ?_
    rintro e w4 ⟨v4, rfl, ho4, hx4⟩
    have HO4 := Lib.hid ho4
    have HX4 : Hid (Ext w2 w4) := Ext.trans HX3.out hx4
    refine hK _ _ hx4 ?_
    clear hK K ho4 hx4
    (try simp only [Act.put, List.setIfInBounds_toArray, List.set_cons_zero, List.set_cons_succ])
    iterate 2 (first
     | (refine ext_move rfl rfl (by rfl) (by rfl) ?_; simp only [Act.put, List.setIfInBounds_toArray, List.set_cons_zero, List.set_cons_succ])
     | (refine ext_assign rfl rfl (by rfl) (by rfl) ?_; simp only [Act.put, List.setIfInBounds_toArray, List.set_cons_zero, List.set_cons_succ])
     | (refine ext_pick_t rfl rfl (by rfl) (by rfl) (by rfl) ?_; simp only [Act.put, List.setIfInBounds_toArray, List.set_cons_zero, List.set_cons_succ])
     | (refine ext_pick_f rfl rfl (by rfl) (by rfl) (by rfl) ?_; simp only [Act.put, List.setIfInBounds_toArray, List.set_cons_zero, List.set_cons_succ])
     | (apply ext_take rfl (by rfl)
        · intro w' hS
          have hSc := hS.cells
          (try simp only [World.size_drew, World.cell?_drew] at hSc)
          go_simp
          (try simp (disch := omega) only [i64_id, u64_id, ↓IntWalk.iteOmega, Int.tdiv_eq_ediv_of_nonneg, Int.tmod_eq_emod_of_nonneg])
          try rfl
        simp only [Act.put, List.setIfInBounds_toArray, List.set_cons_zero, List.set_cons_succ])
     | (refine ext_pass rfl (by rfl) ?_; simp only [Act.put, List.setIfInBounds_toArray, List.set_cons_zero, List.set_cons_succ]))
    refine ext_nil ?_
    go_wp2_with fail
    go_ret2
    exact ⟨_, by rw [HN.out]; rfl, by rw [HR.out]; exact HO4.out.lower (HX2.out.trans HX3.out).size, HX2.out.trans HX4.out⟩
end Go.Proofs.Ythjcdikpomlpmaa
