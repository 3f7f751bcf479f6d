/-
  Part 24 of the proof.
-/
import Derived.Test.YtjabgpejmnpamaaGreatDoorY20
import Derived.Test.YtjabgpejmnpamaaGreatDoorY19
import Derived.Test.YtjabgpejmnpamaaGreatDoorY08
set_option linter.unusedVariables false
namespace Go.Proofs.YtjabgpejmnpamaaGreatDoor
open Go.RowKit
theorem blk_load {w : World} {g : Nat} {x : Lg.PW} {t : TypeId} (h : BoxAt w g (pwA x) t) : (Instr.loadAt 76 (.pointer (some ⟨g, 3, none⟩))).run Tryz.prog w = .ok (.agg (blkA x.d)) w :=
  run_loadAt_mid w g 3 _ (blkA x.d).toList _ (fun j v hj => by
    refine h.cell (3 + j) ?_
    obtain ⟨hj2, rfl⟩ := List.getElem?_eq_some_iff.1 hj
    have hj2 : j < 8 := hj2
    clear hj
    match j, hj2 with
    | 0, _ => rfl
    | 1, _ => rfl
    | 2, _ => rfl
    | 3, _ => rfl
    | 4, _ => rfl
    | 5, _ => rfl
    | 6, _ => rfl
    | 7, _ => rfl) Tryz.underlying76 rfl info_blk
theorem appendBlk_any (v : Value) (l d : List (BitVec 8)) (w : World) (hl : l.length ≤ 50000) (hd : d.length = 8) (h : SliceAt encB w v l) :
    Calls Tryz.prog 135 #[v, .agg (blkA d)] w fun e w' => ∃ v', e = .returned v' ∧ SliceAt encB w' v' (l ++ d) ∧ Ext w w' := by
  rw [← blkA_of hd]
  refine (appendBlock_any v l d w hl hd h).mono ?_
  rintro e w' ⟨v', rfl, ho, hx⟩
  exact ⟨v', rfl, OwnB.slice ho, hx⟩
theorem flat_next {α β : Type} (f : α → List β) {l : List α} {i : Nat} (h : i < l.length) : (l.take (i + 1)).flatMap f = (l.take i).flatMap f ++ f l[i] := by
  rw [List.take_succ_eq_append_getElem h, List.flatMap_append]; simp
theorem nums_one (n : Nat) : Lb.numsL [n] = uv n := by simp [Lb.numsL]
theorem take_bound {α : Type} (f : α → List (BitVec 8)) (k : Nat) (l : List α) (i : Nat) (h : ∀ i (h : i < l.length), (f l[i]).length ≤ k) : ((l.take i).flatMap f).length ≤ l.length * k := by
  have h2 := Lg.flat_bound f k (l.take i) (fun j hj => by
    rw [List.getElem_take]
    exact h j _)
  refine Nat.le_trans h2 (Nat.mul_le_mul_right k ?_)
  rw [List.length_take]; omega
set_option maxRecDepth 100000 in
set_option maxHeartbeats 4000000 in
theorem recpayload_any (r : Lg.Rec) (wv mv nv : Value) (w : World) (F : Lg.Fine r) (h : RecIn w wv mv nv r) :
    Calls Tryz.prog 85 #[recV r wv mv nv] w fun e w' => ∃ v', e = .returned v' ∧ SliceAt encB w' v' (Lg.payR r) ∧ Ext w w' := by
  have HR := Lib.hid h
  obtain ⟨a1, c1, a2, c2, a3, c3, rfl, rfl, rfl⟩ := h.shape
  have hB := blk_of h.ws
  clear h
  obtain ⟨n1, h1⟩ : ∃ n, r.ws.length = n := ⟨_, rfl⟩
  obtain ⟨n2, h2⟩ : ∃ n, r.ms.length = n := ⟨_, rfl⟩
  obtain ⟨n3, h3⟩ : ∃ n, r.note.length = n := ⟨_, rfl⟩
  have H1 := Lib.hid h1
  have H2 := Lib.hid h2
  have H3 := Lib.hid h3
  have hn1 : n1 ≤ 64 := by rw [← h1]; exact F.nws
  have hn2 : n2 ≤ 64 := by rw [← h2]; exact F.nms
  have hn3 : n3 ≤ 256 := by rw [← h3]; exact F.nnote
  have HP : Hid (Lg.payR r = Lb.numsL [r.gen.toNat, r.seq.toNat, n1] ++ r.ws.flatMap Lg.pwL ++ Lb.numsL [n2] ++ r.ms.flatMap Lg.mvL ++ uv n3 ++ r.note) := by show _ = _; unfold Lg.payR; rw [h1, h2, h3, nums_one]
  have HL1 := Lib.hid (fun i => take_bound Lg.pwL 38 r.ws i fun i hi => Lg.pw_len (F.ws i hi) (hB i hi))
  have HL2 := Lib.hid (fun i => take_bound Lg.mvL 40 r.ms i fun i hi => Lg.mv_len (F.ms i hi))
  rw [h1] at HL1
  rw [h2] at HL2
  have HBK := Lib.hid hB
  have HF := Lib.hid F
  have hgen := r.gen.isLt
  have hseq := r.seq.isLt
  rw [h1, h2, h3] at HR ⊢
  rw [HP.out]
  clear h1 h2 h3 hB F
  have HX1 : Hid (Ext w (w.alloc (.cells (recA r (.slice a1 n1 c1) (.slice a2 n2 c2) (.slice a3 n3 c3)) 52))) := Ext.alloc _ _
  have HB1 : Hid (BoxAt (w.alloc (.cells (recA r (.slice a1 n1 c1) (.slice a2 n2 c2) (.slice a3 n3 c3)) 52)) w.heap.size (recA r (.slice a1 n1 c1) (.slice a2 n2 c2) (.slice a3 n3 c3)) 52) := BoxAt.new _ _ _
  have hnm : ∀ y, y ∈ [r.gen.toNat, r.seq.toNat, n1] → y < 18446744073709551616 := by
    intro y hy
    simp only [List.mem_cons, List.not_mem_nil, or_false] at hy
    omega
  have hAl := Lg.nums_bound _ hnm
  simp only [List.length_cons, List.length_nil] at hAl
  obtain ⟨A, hA⟩ : ∃ A, Lb.numsL [r.gen.toNat, r.seq.toNat, n1] = A := ⟨_, rfl⟩
  have HA := Lib.hid hA
  rw [hA] at hAl ⊢
  obtain ⟨V, hV⟩ : ∃ V, A ++ r.ws.flatMap Lg.pwL ++ Lb.numsL [n2] ++ r.ms.flatMap Lg.mvL ++ uv n3 ++ r.note = V := ⟨_, rfl⟩
  rw [hV]
  have HV := Lib.hid hV
  clear hV hA
  go_enter Tryz.func85, Tryz.ntmps85
  go_wp2_with fail
  go_at_call 86
  refine (rnumbers_any _ _ [] [r.gen.toNat, r.seq.toNat, n1] _ (by simp) (by simp) hnm SliceAt.nil (slice_lit3 (enc := encM) (l := [r.gen.toNat, r.seq.toNat, n1]) rfl)).mono ?_
  rintro e w2 ⟨v2, rfl, hs2, hx2⟩
  rw [HA.out, List.nil_append] at hs2
  have HS2 := Lib.hid hs2
  have HXa : Hid (Ext (w.alloc (.cells (recA r (.slice a1 n1 c1) (.slice a2 n2 c2) (.slice a3 n3 c3)) 52)) w2) := (Ext.alloc _ _).trans hx2
  have HX2 : Hid (Ext w w2) := HX1.out.trans HXa.out
  have HBX := Lib.hid (HB1.out.ext HXa.out)
  clear hs2 hx2 hnm HX1 HB1 HXa
  have kk := HBX.out.cell 2 (v := .slice a1 n1 c1) rfl
  have kl := HBX.out.lt
  go_wp2_with fail
  clear kk kl
  go_loopw [3, 21] (fun bo it wr => ∃ i : Nat, i ≤ n1 ∧ it = .int .i64 i ∧ Hid (SliceAt encB wr bo (A ++ (r.ws.take i).flatMap Lg.pwL)) ∧ Hid (Ext w2 wr)) (fun _ it _ => n1 - (intOf it).toNat)
  case atStart => exact ⟨0, Nat.zero_le _, rfl, by show SliceAt _ _ _ _; simpa using HS2.out, Lib.hid (Ext.refl _)⟩
  case round =>
    obtain ⟨i, hi, rfl, HS, HX⟩ := hrel
    by_cases hlt : i < n1
    · have hin : (i : Int) < (n1 : Int) := by omega
      have hil : i < r.ws.length := by rw [H1.out]; exact hlt
      obtain ⟨b, off, rfl, hb, hr, h8⟩ := (HR.out.ws.ext (HX2.out.trans HX.out)).pw i hil
      have hfi := HF.out.ws i hil
      have hli : (A ++ (r.ws.take i).flatMap Lg.pwL).length ≤ 10000 := by rw [List.length_append]; have := HL1.out i; omega
      have HNX : Hid (A ++ (r.ws.take (i + 1)).flatMap Lg.pwL = A ++ (r.ws.take i).flatMap Lg.pwL ++ Lb.numsL [r.ws[i].g.toNat, r.ws[i].p.toNat, r.ws[i].v.toNat] ++ r.ws[i].d) := by
        show _ = _
        rw [flat_next _ hil, Lg.pwL]; simp only [List.append_assoc]
      generalize A ++ (r.ws.take i).flatMap Lg.pwL = y at *
      generalize r.ws[i] = x at *
      obtain ⟨g, p, v, d⟩ := x
      simp only at hr h8 hfi HNX
      obtain ⟨hg1, hg2, hp1, hp2⟩ := hfi
      obtain ⟨gn, rfl⟩ := Int.eq_ofNat_of_zero_le hg1
      obtain ⟨pn, rfl⟩ := Int.eq_ofNat_of_zero_le hp1
      simp only [Int.toNat_natCast] at HNX
      have hvl := v.isLt
      have hnm : ∀ y, y ∈ [gn, pn, v.toNat] → y < 18446744073709551616 := by
        intro y hy
        simp only [List.mem_cons, List.not_mem_nil, or_false] at hy
        omega
      have hnl := Lg.nums_bound _ hnm
      simp only [List.length_cons, List.length_nil] at hnl
      clear hg1 hp1
      go_wp2_with first | (refine wpList_loadR 94 _ rfl (by rfl) rfl (pw_load (x := ⟨gn, pn, v, d⟩) hr) ?_) | (refine wpList_store_box 94 _ _ rfl (by rfl) rfl rfl (BoxAt.new wr pwZ 94) rfl (by kernel_rfl) (by simp [Value.oneCell']) ?_; intro Ws hS; have HXs := Lib.hid (hS.fresh rfl); have HBs := Lib.hid hS.box; clear hS)
      have HSB := Lib.hid (HS.out.ext HXs.out)
      have k0 := HBs.out.cell 0 (v := .int .i64 gn) rfl
      have k1 := HBs.out.cell 1 (v := .int .i64 pn) rfl
      have k2 := HBs.out.cell 2 (v := encU v) rfl
      have kl := HBs.out.lt
      refine wp_region_ext [(0, true), (1, true), (2, true), (3, true), (4, true), (5, true), (6, true), (7, true), (8, true), (11, true), (12, true), (9, false), (10, false), (13, false), (14, true)] (by kernel_rfl) (by kernel_rfl) ?_
      iterate 10 ((first
       | refine ext_move rfl rfl (by rfl) (by rfl) ?_
       | refine ext_assign rfl rfl (by rfl) (by rfl) ?_
       | refine ext_pick_t rfl rfl (by rfl) (by rfl) (by rfl) ?_
       | refine ext_pick_f rfl rfl (by rfl) (by rfl) (by rfl) ?_
       | (apply ext_take rfl (by rfl)
          · intro w' hS
            have hSc := hS.cells
            (try simp only [World.size_drew, World.cell?_drew] at hSc)
            go_simp
            (try simp (disch := omega) only [u64_id])
            try rfl)
       | refine ext_pass rfl (by rfl) ?_); simp only [Act.put, setZa, setZ0, setZ1])
      (refine ext_load 76 rfl (by rfl) rfl (by rfl) (fun w' hS => blk_load (x := ⟨gn, pn, v, d⟩) (HBs.out.ext hS)) ?_; simp only [Act.put, setZa, setZ0, setZ1])
      (refine ext_do rfl (by rfl) (fun K hK => ?_)
       go_simp
       refine hK _ _ (by first | exact Ext.alloc _ _ | exact (Ext.drew _).trans (Ext.alloc _ _)) ?_
       clear hK K
       (try simp only [Act.put, setZa, setZ0, setZ1]))
      (refine ext_do rfl (by rfl) (fun K hK => ?_)
       go_simp
       go_at_call 86
       refine (rnumbers_any _ _ y [gn, pn, v.toNat] _ hli (by simp) hnm (HSB.out.ext (by (repeat (first | (with_reducible exact Ext.alloc _ _) | (with_reducible exact Ext.refl _) | (with_reducible refine Ext.trans ?_ (Ext.drew _)) | (with_reducible refine Ext.trans ?_ (Ext.alloc _ _)))))) ((SliceAt.lit (enc := encM) Ws [gn, pn, v.toNat] _ (0, 0) _ rfl).ext (Ext.drew _))).mono ?_
       rintro e w5 ⟨v5, rfl, hs5, hx5⟩
       have HS5 := Lib.hid hs5
       have HX5 : Hid (Ext Ws w5) := Ext.trans (by (repeat (first | (with_reducible exact Ext.alloc _ _) | (with_reducible exact Ext.refl _) | (with_reducible refine Ext.trans ?_ (Ext.drew _)) | (with_reducible refine Ext.trans ?_ (Ext.alloc _ _))))) hx5
       refine hK _ _ (by first | exact hx5 | exact (Ext.drew _).trans hx5) ?_
       clear hK K hs5 hx5
       (try simp only [Act.put, setZa, setZ0, setZ1]))
      (refine ext_do rfl (by rfl) (fun K hK => ?_)
       go_simp
       go_at_call 135
       refine (appendBlk_any _ _ d _ (by rw [List.length_append]; omega) h8 HS5.out).mono ?_
       rintro e w6 ⟨v6, rfl, hs6, hx6⟩
       have HS6 := Lib.hid hs6
       have HX6 : Hid (Ext Ws w6) := HX5.out.trans hx6
       refine hK _ _ (by first | exact hx6 | exact (Ext.drew _).trans hx6) ?_
       clear hK K hs6 hx6
       (try simp only [Act.put, setZa, setZ0, setZ1]))
      iterate 1 ((first
       | refine ext_move rfl rfl (by rfl) (by rfl) ?_
       | refine ext_assign rfl rfl (by rfl) (by rfl) ?_
       | refine ext_pick_t rfl rfl (by rfl) (by rfl) (by rfl) ?_
       | refine ext_pick_f rfl rfl (by rfl) (by rfl) (by rfl) ?_
       | (apply ext_take rfl (by rfl)
          · intro w' hS
            have hSc := hS.cells
            (try simp only [World.size_drew, World.cell?_drew] at hSc)
            go_simp
            (try simp (disch := omega) only [i64_id, u64_id, ↓IntWalk.iteOmega, Int.tdiv_eq_ediv_of_nonneg, Int.tmod_eq_emod_of_nonneg])
            try rfl)
       | refine ext_pass rfl (by rfl) ?_); simp only [Act.put, setZa, setZ0, setZ1])
      refine ext_nil ?_
      rw [← HNX.out] at HS6
      go_wp2_with fail
      go_roundw
      case rel => exact ⟨i + 1, by omega, by go_num, HS6, HX.out.trans (HXs.out.trans HX6.out)⟩
      case measure => simp [intOf]; omega
    · have hin : i = n1 := by omega
      subst hin
      have hin2 : ¬ ((i : Int) < (i : Int)) := by omega
      rw [show r.ws.take i = r.ws by rw [← H1.out, List.take_length]] at HS
      have hll : (A ++ r.ws.flatMap Lg.pwL).length ≤ 4000 := by
        have := HL1.out i
        rw [← H1.out, List.take_length] at this
        rw [List.length_append]; have := H1.out; omega
      obtain ⟨y, hy⟩ : ∃ y, A ++ r.ws.flatMap Lg.pwL = y := ⟨_, rfl⟩
      rw [hy] at HS hll HV
      have hb := HBX.out.ext HX.out
      have k3 := hb.cell 3 (v := .slice a2 n2 c2) rfl
      have kl := hb.lt
      have hnm : ∀ y, y ∈ [n2] → y < 18446744073709551616 := by
        intro y hy
        simp only [List.mem_cons, List.not_mem_nil, or_false] at hy
        omega
      have hnl := Lg.nums_bound _ hnm
      simp only [List.length_cons, List.length_nil] at hnl
      clear hy hb
      go_wp2_with fail
      go_at_call 86
      refine (rnumbers_any _ _ y [n2] _ (by omega) (by simp) hnm (HS.out.ext (Ext.alloc _ _)) (SliceAt.lit (enc := encM) wr [n2] _ (0, 0) _ rfl)).mono ?_
      rintro e w4 ⟨v4, rfl, hs4, hx4⟩
      have hbl : (y ++ Lb.numsL [n2]).length ≤ 5000 := by rw [List.length_append]; omega
      obtain ⟨z, hz⟩ : ∃ z, y ++ Lb.numsL [n2] = z := ⟨_, rfl⟩
      rw [hz] at hs4 hbl HV
      have HS4 := Lib.hid hs4
      have HX4 : Hid (Ext w w4) := HX2.out.trans (HX.out.trans ((Ext.alloc _ _).trans hx4))
      have HB4 := Lib.hid (HBX.out.ext (HX.out.trans ((Ext.alloc _ _).trans hx4)))
      clear hs4 hx4 hz hnm HBX k3 kl
      have kk := HB4.out.cell 3 (v := .slice a2 n2 c2) rfl
      have kl := HB4.out.lt
      go_wp2_with fail
      clear kk kl HS HX
      generalize wr = wo at *
      go_loopw [3, 50] (fun bo it wr => ∃ i : Nat, i ≤ n2 ∧ it = .int .i64 i ∧ Hid (SliceAt encB wr bo (z ++ (r.ms.take i).flatMap Lg.mvL)) ∧ Hid (Ext w4 wr)) (fun _ it _ => n2 - (intOf it).toNat)
      case atStart => exact ⟨0, Nat.zero_le _, rfl, by show SliceAt _ _ _ _; simpa using HS4.out, Lib.hid (Ext.refl _)⟩
      case round =>
        obtain ⟨k, hi, rfl, HS, HX⟩ := hrel
        by_cases hlt : k < n2
        · have hin : (k : Int) < (n2 : Int) := by omega
          have hil : k < r.ms.length := by rw [H2.out]; exact hlt
          obtain ⟨b, off, rfl, hb, hr⟩ := (HR.out.ms.ext (HX4.out.trans HX.out)).mv k hil
          have hfi := HF.out.ms k hil
          have hli : (z ++ (r.ms.take k).flatMap Lg.mvL).length ≤ 9000 := by rw [List.length_append]; have := HL2.out k; omega
          have HNX : Hid (z ++ (r.ms.take (k + 1)).flatMap Lg.mvL = z ++ (r.ms.take k).flatMap Lg.mvL ++ Lb.numsL [r.ms[k].g.toNat, r.ms[k].p.toNat] ++ uv (zz r.ms[k].k) ++ Lb.numsL [r.ms[k].b.toNat]) := by
            show _ = _
            rw [flat_next _ hil, Lg.mvL, nums_one]; simp only [List.append_assoc]
          generalize z ++ (r.ms.take k).flatMap Lg.mvL = y at *
          generalize r.ms[k] = x at *
          obtain ⟨g, p, q, t⟩ := x
          simp only at hr hfi HNX
          obtain ⟨hg1, hg2, hp1, hp2, hq1, hq2, ht1, ht2⟩ := hfi
          obtain ⟨gn, rfl⟩ := Int.eq_ofNat_of_zero_le hg1
          obtain ⟨pn, rfl⟩ := Int.eq_ofNat_of_zero_le hp1
          obtain ⟨tn, rfl⟩ := Int.eq_ofNat_of_zero_le ht1
          simp only [Int.toNat_natCast] at HNX
          have hnm : ∀ y, y ∈ [gn, pn] → y < 18446744073709551616 := by
            intro y hy
            simp only [List.mem_cons, List.not_mem_nil, or_false] at hy
            omega
          have hnl := Lg.nums_bound _ hnm
          simp only [List.length_cons, List.length_nil] at hnl
          have hqz := (uv_len (zz q) (zz_lt (by omega) (by omega))).2
          clear hg1 hp1 ht1
          go_wp2_with first | (refine wpList_loadR 98 _ rfl (by rfl) rfl (mv_load (x := ⟨gn, pn, q, tn⟩) hr) ?_) | (refine wpList_store_box 98 _ _ rfl (by rfl) rfl rfl (BoxAt.new wr mvZ 98) rfl (by kernel_rfl) (by simp [Value.oneCell']) ?_; intro Ws hS; have HXs := Lib.hid (hS.fresh rfl); have HBs := Lib.hid hS.box; clear hS)
          have HSB := Lib.hid (HS.out.ext HXs.out)
          have k0 := HBs.out.cell 0 (v := .int .i64 gn) rfl
          have k1 := HBs.out.cell 1 (v := .int .i64 pn) rfl
          have k2 := HBs.out.cell 2 (v := .int .i64 q) rfl
          have kl := HBs.out.lt
          refine wp_region_ext [(0, true), (1, true), (2, true), (3, true), (4, true), (5, true), (6, true), (9, true), (10, true), (11, true), (7, false), (8, false), (12, false), (13, true)] (by kernel_rfl) (by kernel_rfl) ?_
          iterate 10 ((first
           | refine ext_move rfl rfl (by rfl) (by rfl) ?_
           | refine ext_assign rfl rfl (by rfl) (by rfl) ?_
           | refine ext_pick_t rfl rfl (by rfl) (by rfl) (by rfl) ?_
           | refine ext_pick_f rfl rfl (by rfl) (by rfl) (by rfl) ?_
           | (apply ext_take rfl (by rfl)
              · intro w' hS
                have hSc := hS.cells
                (try simp only [World.size_drew, World.cell?_drew] at hSc)
                go_simp
                (try simp (disch := omega) only [u64_id])
                try rfl)
           | refine ext_pass rfl (by rfl) ?_); simp only [Act.put, setZa, setZ0, setZ1])
          (refine ext_do rfl (by rfl) (fun K hK => ?_)
           go_simp
           refine hK _ _ (by first | exact Ext.alloc _ _ | exact (Ext.drew _).trans (Ext.alloc _ _)) ?_
           clear hK K
           (try simp only [Act.put, setZa, setZ0, setZ1]))
          (refine ext_do rfl (by rfl) (fun K hK => ?_)
           go_simp
           go_at_call 86
           refine (rnumbers_any _ _ y [gn, pn] _ (by omega) (by simp) hnm (HSB.out.ext (by (repeat (first | (with_reducible exact Ext.alloc _ _) | (with_reducible exact Ext.refl _) | (with_reducible refine Ext.trans ?_ (Ext.drew _)) | (with_reducible refine Ext.trans ?_ (Ext.alloc _ _)))))) ((SliceAt.lit (enc := encM) Ws [gn, pn] _ (0, 0) _ rfl).ext (Ext.drew _))).mono ?_
           rintro e w5 ⟨v5, rfl, hs5, hx5⟩
           have HS5 := Lib.hid hs5
           have HX5 : Hid (Ext Ws w5) := Ext.trans (by (repeat (first | (with_reducible exact Ext.alloc _ _) | (with_reducible exact Ext.refl _) | (with_reducible refine Ext.trans ?_ (Ext.drew _)) | (with_reducible refine Ext.trans ?_ (Ext.alloc _ _))))) hx5
           refine hK _ _ (by first | exact hx5 | exact (Ext.drew _).trans hx5) ?_
           clear hK K hs5 hx5
           (try simp only [Act.put, setZa, setZ0, setZ1]))
          (refine ext_do rfl (by rfl) (fun K hK => ?_)
           go_simp
           go_at_call 136
           refine (appendInt_any _ _ q _ (by rw [List.length_append]; omega) (by omega) (by omega) HS5.out).mono ?_
           rintro e w6 ⟨v6, rfl, hs6, hx6⟩
           have HS6 := Lib.hid (OwnB.slice hs6)
           have HX6 : Hid (Ext Ws w6) := HX5.out.trans hx6
           refine hK _ _ (by first | exact hx6 | exact (Ext.drew _).trans hx6) ?_
           clear hK K hs6 hx6
           (try simp only [Act.put, setZa, setZ0, setZ1]))
          iterate 1 ((first
           | refine ext_move rfl rfl (by rfl) (by rfl) ?_
           | refine ext_assign rfl rfl (by rfl) (by rfl) ?_
           | refine ext_pick_t rfl rfl (by rfl) (by rfl) (by rfl) ?_
           | refine ext_pick_f rfl rfl (by rfl) (by rfl) (by rfl) ?_
           | (apply ext_take rfl (by rfl)
              · intro w' hS
                have hSc := hS.cells
                (try simp only [World.size_drew, World.cell?_drew] at hSc)
                go_simp
                (try simp (disch := omega) only [i64_id, u64_id, ↓IntWalk.iteOmega, Int.tdiv_eq_ediv_of_nonneg, Int.tmod_eq_emod_of_nonneg])
                try rfl)
           | refine ext_pass rfl (by rfl) ?_); simp only [Act.put, setZa, setZ0, setZ1])
          refine ext_nil ?_
          have k3 := (HBs.out.ext HX6.out).cell 3 (v := .int .i64 tn) rfl
          have kl6 := (HBs.out.ext HX6.out).lt
          have hnm2 : ∀ y, y ∈ [tn] → y < 18446744073709551616 := by
            intro y hy
            simp only [List.mem_cons, List.not_mem_nil, or_false] at hy
            omega
          have hyl : (y ++ Lb.numsL [gn, pn] ++ uv (zz q)).length ≤ 9100 := by rw [List.length_append, List.length_append]; omega
          generalize y ++ Lb.numsL [gn, pn] ++ uv (zz q) = y2 at *
          go_wp2_with fail
          go_at_call 86
          refine (rnumbers_any _ _ y2 [tn] _ (by omega) (by simp) hnm2 (HS6.out.ext (Ext.alloc _ _)) (SliceAt.lit (enc := encM) w6 [tn] _ (0, 0) _ rfl)).mono ?_
          rintro e w7 ⟨v7, rfl, hs7, hx7⟩
          rw [← HNX.out] at hs7
          have HS7 := Lib.hid hs7
          have HX7 : Hid (Ext Ws w7) := HX6.out.trans ((Ext.alloc _ _).trans hx7)
          clear hs7 hx7
          go_wp2_with fail
          go_roundw
          case rel => exact ⟨k + 1, by omega, by go_num, HS7, HX.out.trans (HXs.out.trans HX7.out)⟩
          case measure => simp [intOf]; omega
        · have hin : k = n2 := by omega
          subst hin
          have hin2 : ¬ ((k : Int) < (k : Int)) := by omega
          rw [show r.ms.take k = r.ms by rw [← H2.out, List.take_length]] at HS
          have hlm : (z ++ r.ms.flatMap Lg.mvL).length ≤ 9000 := by
            have := HL2.out k
            rw [← H2.out, List.take_length] at this
            rw [List.length_append]; have := H2.out; omega
          obtain ⟨u, hu⟩ : ∃ u, z ++ r.ms.flatMap Lg.mvL = u := ⟨_, rfl⟩
          rw [hu] at HS hlm HV
          have hb := HB4.out.ext HX.out
          have k4 := hb.cell 4 (v := .slice a3 n3 c3) rfl
          have kl := hb.lt
          have HNT := Lib.hid (HR.out.note.ext (HX4.out.trans HX.out))
          have HXX : Hid (Ext w wr) := HX4.out.trans HX.out
          clear hu hb
          go_wp2_with fail
          go_at_call 36
          refine (appendBytes_any _ _ u r.note _ (by omega) (by rw [H3.out]; omega) HS.out HNT.out).mono ?_
          rintro e w8 ⟨v8, rfl, ho8, hx8⟩
          rw [H3.out, HV.out] at ho8
          have HO8 := Lib.hid (OwnB.slice ho8)
          have HX8 : Hid (Ext w w8) := HXX.out.trans hx8
          clear ho8 hx8
          go_wp2_with fail
          go_ret
          exact ⟨_, rfl, HO8.out, HX8.out⟩
end Go.Proofs.YtjabgpejmnpamaaGreatDoor

namespace Go.Proofs.YtjabgpejmnpamaaGreatDoor
open Go.RowKit
section
variable {K : Nat → Prop}
def GotK (K : Nat → Prop) (w : World) (b : Nat) (v : Value) (r : List (BitVec 8)) (e : Ending) (w' : World) : Prop := e = .returned (.tuple #[v, .int .i64 0]) ∧ RdK K w' b r false ∧ w.grownBy w' (some b)
theorem un_ofNat {n : Nat} (h : n < 18446744073709551616) : un (BitVec.ofNat 64 n) = (n : Int) := by
  unfold un; rw [BitVec.toNat_ofNat, Nat.mod_eq_of_lt (by omega)]
theorem uintK_at (w : World) (b n : Nat) (r : List (BitVec 8)) (hn : n < 18446744073709551616) (hl : (uv n ++ r).length ≤ 100000) (h : RdK K w b (uv n ++ r) false) :
    Calls Tryz.prog 124 #[.pointer (some ⟨b, 0, none⟩)] w (GotK K w b (.int .u64 n) r) := by
  refine (uintK_any w b _ false hl h).mono fun e w' hp => ?_
  unfold UintPostK at hp
  rw [rd_uv n r hn] at hp
  obtain ⟨rfl, h1, h2⟩ := hp
  refine ⟨?_, h1, h2⟩
  rw [show encU (BitVec.ofNat 64 n) = .int .u64 n by show Value.int .u64 (un _) = _; rw [un_ofNat hn]]
theorem countK_at (w : World) (b n : Nat) (most : Int) (r : List (BitVec 8)) (hm : -9223372036854775808 ≤ most ∧ most ≤ 9223372036854775807) (hn : (n : Int) ≤ most) (hl : (uv n ++ r).length ≤ 100000) (h : RdK K w b (uv n ++ r) false) :
    Calls Tryz.prog 125 #[.pointer (some ⟨b, 0, none⟩), .int .i64 most] w (GotK K w b (.int .i64 n) r) := by
  have hn64 : n < 18446744073709551616 := by omega
  refine (countK_any w b _ false most hm hl h).mono fun e w' hp => ?_
  unfold ReadPostK rdC at hp
  rw [rd_uv n r hn64] at hp
  simp only [un_ofNat hn64] at hp
  rw [if_pos ⟨by omega, hn⟩] at hp
  obtain ⟨v, rfl, h0, h1, h2⟩ := hp
  have h0 : v = .int .i64 n := h0
  subst h0
  exact ⟨rfl, h1, h2⟩
theorem intK_at (w : World) (b : Nat) (k : Int) (r : List (BitVec 8)) (h1 : -9223372036854775808 ≤ k) (h2 : k ≤ 9223372036854775807) (hl : (uv (zz k) ++ r).length ≤ 100000) (h : RdK K w b (uv (zz k) ++ r) false) :
    Calls Tryz.prog 139 #[.pointer (some ⟨b, 0, none⟩)] w (GotK K w b (.int .i64 k) r) := by
  refine (intK_any w b _ false hl h).mono fun e w' hp => ?_
  unfold ReadPostK at hp
  rw [rdI_zz k r h1 h2] at hp
  obtain ⟨v, rfl, h0, h3, h4⟩ := hp
  have h0 : v = .int .i64 k := h0
  subst h0
  exact ⟨rfl, h3, h4⟩
theorem bytesK_at (w : World) (b : Nat) (x r : List (BitVec 8)) (hx : x.length < 18446744073709551616) (hl : (uv x.length ++ (x ++ r)).length ≤ 100000) (h : RdK K w b (uv x.length ++ (x ++ r)) false) :
    Calls Tryz.prog 126 #[.pointer (some ⟨b, 0, none⟩)] w fun e w' => ∃ v, SliceAt encB w' v x ∧ (∀ q, v.ownBlock = some q → K q) ∧ GotK K w b v r e w' := by
  refine (bytesK_any w b _ false hl h).mono fun e w' hp => ?_
  unfold ReadPostK at hp
  rw [rdB_uv x r hx] at hp
  obtain ⟨v, rfl, h0, h3, h4⟩ := hp
  exact ⟨v, h0.1, h0.2, rfl, h3, h4⟩
theorem blockK_at (w : World) (b : Nat) (d r : List (BitVec 8)) (hd : d.length = 8) (hl : (d ++ r).length ≤ 100000) (h : RdK K w b (d ++ r) false) :
    Calls Tryz.prog 138 #[.pointer (some ⟨b, 0, none⟩)] w (GotK K w b (.agg (blkA d)) r) := by
  refine (blockK_any w b _ false hl h).mono fun e w' hp => ?_
  unfold ReadPostK at hp
  rw [rdX_eq d r hd] at hp
  obtain ⟨v, rfl, h0, h3, h4⟩ := hp
  obtain ⟨h0, _⟩ : v = .agg (d.map encB).toArray ∧ d.length = 8 := h0
  subst h0
  rw [blkA_of hd]
  exact ⟨rfl, h3, h4⟩
theorem doneK_at (w : World) (b : Nat) (h : RdK K w b [] false) :
    Calls Tryz.prog 127 #[.pointer (some ⟨b, 0, none⟩)] w fun e w' => e = .returned (.int .i64 0) ∧ w = w' := by
  refine (done_any w b [] false (by simp) h.toRdAt).mono fun e w' hp => ?_
  exact hp
theorem newK_any (v : Value) (l : List (BitVec 8)) (w : World) (hl : l.length ≤ 100000) (h : SliceAt encB w v l) :
    Calls Tryz.prog 123 #[v] w fun e w' => ∃ b, e = .returned (.pointer (some ⟨b, 0, none⟩)) ∧ w.heap.size ≤ b ∧ b < w'.heap.size ∧ RdK (fun q => w.heap.size ≤ q ∧ q < w'.heap.size) w' b l false ∧ Ext w w' := by
  have HA := Lib.hid h
  clear h
  go_enter Tryz.func123, Tryz.ntmps123
  go_wp2_with (go_at_call 122; refine (clone_any _ l _ hl HA.out).mono ?_; rintro e w1 ⟨v1, rfl, hown1, hb1⟩; have HS1 := Lib.hid (OwnB.slice hown1); have HLT := Lib.hid (World.ownsRow.lt hown1); obtain ⟨ad1, cap1, rfl, _, _⟩ := OwnB.slice hown1; clear hown1)
  go_ret
  have hs1 := HS1.out.ext (Ext.alloc w1 (.cells #[.slice ad1 l.length cap1, .bool false] 288))
  have hc0 : (w1.alloc (.cells #[.slice ad1 l.length cap1, .bool false] 288)).cell? ⟨w1.heap.size, 0, none⟩ = some (.slice ad1 l.length cap1) := by simp
  refine ⟨_, rfl, hb1.size, by simp, ⟨⟨by simp, ⟨_, hc0, hs1⟩, ?_, fun j => by simp, fun j c => ?_⟩, fun u hu q hq => ?_⟩, hb1.alloc hb1.size _⟩
  · simp
  · rw [cell_alloc_any]
    match j with
    | 0 => intro h; cases h
    | 1 => intro h; cases h
    | n + 2 => intro h; simp at h
  · rw [hc0] at hu
    obtain rfl := Option.some.inj hu
    obtain ⟨h1, h2⟩ := HLT.out q hq
    exact ⟨h1, by rw [World.size_alloc]; omega⟩
end
end Go.Proofs.YtjabgpejmnpamaaGreatDoor
